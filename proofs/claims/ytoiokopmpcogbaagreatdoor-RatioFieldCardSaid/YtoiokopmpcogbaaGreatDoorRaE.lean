/-
  CONTRACTS of Of, of both texts.
  Conditions: those that each theorem names.
-/
import Derived.Test.YtoiokopmpcogbaaGreatDoorRaD
namespace Go.Proofs.YtoiokopmpcogbaaGreatDoor
open Go.RowKit Go.Sv
set_option maxHeartbeats 2000000 in
set_option maxRecDepth 100000 in
theorem xof_any (a b : Int) (w : World) (a0 : 0 ≤ a) (a1 : a < 18446744073709551616) (b0 : 0 ≤ b) (b1 : b < 18446744073709551616) :
    Calls Tryz.prog 19 #[.int .u64 a, .int .u64 b] w (Ret (RRes2 w (makN (lim a.toNat) (lim b.toNat)) (makD (lim a.toNat) (lim b.toNat)) (makE (lim a.toNat) (lim b.toNat)))) := by
  have S := Lib.hid (Fm.init w)
  have HA := Lib.hid (fun w' => of_any a w' a0 a1)
  have HB := Lib.hid (fun w' => of_any b w' b0 b1)
  obtain ⟨X, hX⟩ : ∃ V, lim a.toNat = V := ⟨_, rfl⟩
  obtain ⟨Y, hY⟩ : ∃ V, lim b.toNat = V := ⟨_, rfl⟩
  have lX : Lim X := hX ▸ lim_lim _
  have lY : Lim Y := hY ▸ lim_lim _
  rw [hX] at HA
  rw [hY] at HB
  rw [hX, hY]
  clear hX hY a0 a1 b0 b1
  have HM := Lib.hid (fun q r w' (h1 : RLm w' w'.heap.size X q) (h2 : RLm w' w'.heap.size Y r) => make_any w' X q h1 lX Y r h2 lY)
  obtain ⟨N, hN⟩ : ∃ V, makN X Y = V := ⟨_, rfl⟩
  obtain ⟨D, hD⟩ : ∃ V, makD X Y = V := ⟨_, rfl⟩
  obtain ⟨E, hE⟩ : ∃ V, makE X Y = V := ⟨_, rfl⟩
  rw [hN, hD, hE] at HM
  rw [hN, hD, hE]
  clear hN hD hE lX lY
  replace S := Lib.hid (S.out.box 28 [.slice none 0 0, .slice none 0 0])
  go_enter Tryz.func19, Tryz.ntmps19
  go_wp2_with fail
  refine (HA.out _).mono ?_
  rintro e w1 ⟨_, rfl, q1, rfl, hr, hf, hb⟩
  replace S := Lib.hid (natRes S.out hr hf hb)
  clear hr hf hb
  obtain ⟨⟨z0, f0, y0, y0a, -⟩, -⟩ := S.out.facts
  go_wp2_with fail
  refine (HB.out _).mono ?_
  rintro e w2 ⟨_, rfl, q2, rfl, hr, hf, hb⟩
  replace S := Lib.hid (natRes S.out hr hf hb)
  clear hr hf hb z0 f0 y0 y0a
  obtain ⟨⟨z0, f0, y0, y0a, -⟩, -⟩ := S.out.facts
  go_wp2_with fail
  refine (HM.out _ _ _ S.out.r1 S.out.r0).mono ?_
  rintro e w3 ⟨_, rfl, q3, q4, rfl, hr, hr2, hf, hf2, hb⟩
  have fr3 := Lib.hid (hf.le S.out.size)
  have fr4 := Lib.hid (hf2.le S.out.size)
  replace S := Lib.hid (natRes2 S.out hr hr2 hf hf2 hb)
  clear hr hr2 hf hf2 hb z0 f0 y0 y0a
  obtain ⟨⟨z0, f0, y0, y0a, -⟩, -⟩ := S.out.facts
  replace S := Lib.hid (S.out.set 0 rfl 0 (.slice q3.a N.length q3.c))
  replace S := Lib.hid (S.out.set 0 rfl 1 (.slice q4.a D.length q4.c))
  go_wp2
  refine bodyPost_ret (v := .tuple #[ratV N q3 D q4, .int .i64 E]) (by simp [results, Tryz.results19, go_sem, y0, y0a]) rfl ?_
  exact Ret.mk (fm_rres2 S.out (by simp) (by simp) fr3.out fr4.out)
set_option maxHeartbeats 2000000 in
set_option maxRecDepth 100000 in
theorem xrof_any (a b : Int) (w : World) (a0 : 0 ≤ a) (a1 : a < 18446744073709551616) (b0 : 0 ≤ b) (b1 : b < 18446744073709551616) :
    Calls Tryz.prog 20 #[.int .u64 a, .int .u64 b] w (Ret (RRes2 w (makN (lim a.toNat) (lim b.toNat)) (makD (lim a.toNat) (lim b.toNat)) (makE (lim a.toNat) (lim b.toNat)))) := by
  have S := Lib.hid (Fm.init w)
  have HA := Lib.hid (fun w' => rof_any a w' a0 a1)
  have HB := Lib.hid (fun w' => rof_any b w' b0 b1)
  obtain ⟨X, hX⟩ : ∃ V, lim a.toNat = V := ⟨_, rfl⟩
  obtain ⟨Y, hY⟩ : ∃ V, lim b.toNat = V := ⟨_, rfl⟩
  have lX : Lim X := hX ▸ lim_lim _
  have lY : Lim Y := hY ▸ lim_lim _
  rw [hX] at HA
  rw [hY] at HB
  rw [hX, hY]
  clear hX hY a0 a1 b0 b1
  have HM := Lib.hid (fun q r w' (h1 : RLm w' w'.heap.size X q) (h2 : RLm w' w'.heap.size Y r) => rmake_any w' X q h1 lX Y r h2 lY)
  obtain ⟨N, hN⟩ : ∃ V, makN X Y = V := ⟨_, rfl⟩
  obtain ⟨D, hD⟩ : ∃ V, makD X Y = V := ⟨_, rfl⟩
  obtain ⟨E, hE⟩ : ∃ V, makE X Y = V := ⟨_, rfl⟩
  rw [hN, hD, hE] at HM
  rw [hN, hD, hE]
  clear hN hD hE lX lY
  replace S := Lib.hid (S.out.box 28 [.slice none 0 0, .slice none 0 0])
  go_enter Tryz.func20, Tryz.ntmps20
  go_wp2_with fail
  refine (HA.out _).mono ?_
  rintro e w1 ⟨_, rfl, q1, rfl, hr, hf, hb⟩
  replace S := Lib.hid (natRes S.out hr hf hb)
  clear hr hf hb
  obtain ⟨⟨z0, f0, y0, y0a, -⟩, -⟩ := S.out.facts
  go_wp2_with fail
  refine (HB.out _).mono ?_
  rintro e w2 ⟨_, rfl, q2, rfl, hr, hf, hb⟩
  replace S := Lib.hid (natRes S.out hr hf hb)
  clear hr hf hb z0 f0 y0 y0a
  obtain ⟨⟨z0, f0, y0, y0a, -⟩, -⟩ := S.out.facts
  go_wp2_with fail
  refine (HM.out _ _ _ S.out.r1 S.out.r0).mono ?_
  rintro e w3 ⟨_, rfl, q3, q4, rfl, hr, hr2, hf, hf2, hb⟩
  have fr3 := Lib.hid (hf.le S.out.size)
  have fr4 := Lib.hid (hf2.le S.out.size)
  replace S := Lib.hid (natRes2 S.out hr hr2 hf hf2 hb)
  clear hr hr2 hf hf2 hb z0 f0 y0 y0a
  obtain ⟨⟨z0, f0, y0, y0a, -⟩, -⟩ := S.out.facts
  replace S := Lib.hid (S.out.set 0 rfl 0 (.slice q3.a N.length q3.c))
  replace S := Lib.hid (S.out.set 0 rfl 1 (.slice q4.a D.length q4.c))
  go_wp2
  refine bodyPost_ret (v := .tuple #[ratV N q3 D q4, .int .i64 E]) (by simp [results, Tryz.results20, go_sem, y0, y0a]) rfl ?_
  exact Ret.mk (fm_rres2 S.out (by simp) (by simp) fr3.out fr4.out)
end Go.Proofs.YtoiokopmpcogbaaGreatDoor
