/-
  CONTRACT of the reference: Sub.
  Conditions: those that each theorem names.
-/
import Derived.Test.YtoiokopmpcogbaaGreatDoorRaI
namespace Go.Proofs.YtoiokopmpcogbaaGreatDoor
open Go.RowKit Go.Sv
theorem difV_lim (a b : List Int) : Lim (difV a b) := by
  unfold difV
  split
  · exact lim_lim _
  · exact Lim.nil
set_option maxHeartbeats 2000000 in
set_option maxRecDepth 100000 in
theorem xrsub_any (w : World) (an : List Int) (qan : LmP) (han : RLm w w.heap.size an qan) (lan : Lim an) (ad : List Int) (qad : LmP) (had : RLm w w.heap.size ad qad) (lad : Lim ad) (bn : List Int) (qbn : LmP) (hbn : RLm w w.heap.size bn qbn) (lbn : Lim bn) (bd : List Int) (qbd : LmP) (hbd : RLm w w.heap.size bd qbd) (lbd : Lim bd) :
    Calls Tryz.prog 25 #[ratV an qan ad qad, ratV bn qbn bd qbd] w (Ret (RRes2 w (qN (rcE an ad bn bd true) (difE (pX (rcE an ad bn bd true) (mulV an bd)) (pX (rcE an ad bn bd true) (mulV bn ad))) (makN (difV (pX (rcE an ad bn bd true) (mulV an bd)) (pX (rcE an ad bn bd true) (mulV bn ad))) (pX (rcE an ad bn bd true) (thZ true ad bd)))) (qN (rcE an ad bn bd true) (difE (pX (rcE an ad bn bd true) (mulV an bd)) (pX (rcE an ad bn bd true) (mulV bn ad))) (makD (difV (pX (rcE an ad bn bd true) (mulV an bd)) (pX (rcE an ad bn bd true) (mulV bn ad))) (pX (rcE an ad bn bd true) (thZ true ad bd)))) (e3 (rcE an ad bn bd true) (difE (pX (rcE an ad bn bd true) (mulV an bd)) (pX (rcE an ad bn bd true) (mulV bn ad))) (makE (difV (pX (rcE an ad bn bd true) (mulV an bd)) (pX (rcE an ad bn bd true) (mulV bn ad))) (pX (rcE an ad bn bd true) (thZ true ad bd)))))) := by
  have S := Lib.hid (natArg (natArg (natArg (natArg (Fm.init w) hbd) hbn) had) han)
  have HX := Lib.hid (fun q0 q1 q2 q3 w' (h0 : RLm w' w'.heap.size an q0) (h1 : RLm w' w'.heap.size ad q1) (h2 : RLm w' w'.heap.size bn q2) (h3 : RLm w' w'.heap.size bd q3) => rcross_true w' an q0 h0 lan ad q1 h1 lad bn q2 h2 lbn bd q3 h3 lbd)
  have lX := pX_lim (E := rcE an ad bn bd true) (mulV_lim an bd).1
  have lY := pX_lim (E := rcE an ad bn bd true) (mulV_lim bn ad).1
  have lZ := pX_lim (E := rcE an ad bn bd true) (thZ_lim true ad bd)
  have lS := difV_lim (pX (rcE an ad bn bd true) (mulV an bd)) (pX (rcE an ad bn bd true) (mulV bn ad))
  have HS := Lib.hid (fun q r w' (h1 : RLm w' w'.heap.size (pX (rcE an ad bn bd true) (mulV an bd)) q) (h2 : RLm w' w'.heap.size (pX (rcE an ad bn bd true) (mulV bn ad)) r) => rsub_any _ _ q r w' h1 h2 lX lY)
  have HM := Lib.hid (fun q r w' (h1 : RLm w' w'.heap.size (difV (pX (rcE an ad bn bd true) (mulV an bd)) (pX (rcE an ad bn bd true) (mulV bn ad))) q) (h2 : RLm w' w'.heap.size (pX (rcE an ad bn bd true) (thZ true ad bd)) r) => rmake_any w' _ q h1 lS _ r h2 lZ)
  obtain ⟨MN, hMN⟩ : ∃ V, makN (difV (pX (rcE an ad bn bd true) (mulV an bd)) (pX (rcE an ad bn bd true) (mulV bn ad))) (pX (rcE an ad bn bd true) (thZ true ad bd)) = V := ⟨_, rfl⟩
  obtain ⟨MD, hMD⟩ : ∃ V, makD (difV (pX (rcE an ad bn bd true) (mulV an bd)) (pX (rcE an ad bn bd true) (mulV bn ad))) (pX (rcE an ad bn bd true) (thZ true ad bd)) = V := ⟨_, rfl⟩
  obtain ⟨ME, hME⟩ : ∃ V, makE (difV (pX (rcE an ad bn bd true) (mulV an bd)) (pX (rcE an ad bn bd true) (mulV bn ad))) (pX (rcE an ad bn bd true) (thZ true ad bd)) = V := ⟨_, rfl⟩
  obtain ⟨S1, hS1⟩ : ∃ V, (difV (pX (rcE an ad bn bd true) (mulV an bd)) (pX (rcE an ad bn bd true) (mulV bn ad))) = V := ⟨_, rfl⟩
  obtain ⟨E2, hE2⟩ : ∃ V, (difE (pX (rcE an ad bn bd true) (mulV an bd)) (pX (rcE an ad bn bd true) (mulV bn ad))) = V := ⟨_, rfl⟩
  obtain ⟨X, hX⟩ : ∃ V, (pX (rcE an ad bn bd true) (mulV an bd)) = V := ⟨_, rfl⟩
  obtain ⟨Y, hY⟩ : ∃ V, (pX (rcE an ad bn bd true) (mulV bn ad)) = V := ⟨_, rfl⟩
  obtain ⟨Z, hZ⟩ : ∃ V, (pX (rcE an ad bn bd true) (thZ true ad bd)) = V := ⟨_, rfl⟩
  obtain ⟨E1, hE1⟩ : ∃ V, (rcE an ad bn bd true) = V := ⟨_, rfl⟩
  rw [hMN, hMD, hME] at HM
  rw [hS1, hZ] at HM
  rw [hS1, hE2, hX, hY] at HS
  rw [hX, hY, hZ, hE1] at HX
  rw [hMN, hMD, hME, hE2, hE1]
  clear hMN hMD hME hS1 hE2 hX hY hZ hE1 lX lY lZ lS
  obtain ⟨qana, qanc⟩ := qan
  obtain ⟨qada, qadc⟩ := qad
  obtain ⟨qbna, qbnc⟩ := qbn
  obtain ⟨qbda, qbdc⟩ := qbd
  replace S := Lib.hid (S.out.box 28 [.slice qana an.length qanc, .slice qada ad.length qadc])
  replace S := Lib.hid (S.out.box' 28 [.slice qbna bn.length qbnc, .slice qbda bd.length qbdc] (K := w.heap.size + 1) (by simp))
  replace S := Lib.hid (S.out.box' 28 [.slice none 0 0, .slice none 0 0] (K := w.heap.size + 1 + 1) (by simp))
  clear han had hbn hbd
  go_enter Tryz.func25, Tryz.ntmps25
  go_wp2_with fail
  refine (HX.out _ _ _ _ _ S.out.r0 S.out.r1 S.out.r2 S.out.r3).mono ?_
  rintro e w1 ⟨_, rfl, q1, q2, q3, rfl, hr, hr2, hr3, hf, hf2, hf3, hb⟩
  replace S := Lib.hid (natRes3 S.out hr hr2 hr3 hf hf2 hf3 hb)
  clear hr hr2 hr3 hf hf2 hf3 hb
  obtain ⟨⟨z2, f2, y2, y2a, -⟩, ⟨z1, f1, y1, y1a, -⟩, ⟨z0, f0, y0, y0a, -⟩, -⟩ := S.out.facts
  by_cases c : E1 = 0
  · subst c
    replace S := Lib.hid (S.out.box 63 [.slice q1.a X.length q1.c, .slice q2.a Y.length q2.c, .slice q3.a Z.length q3.c])
    go_wp2_with fail
    refine (HS.out _ _ _ S.out.r2 S.out.r1).mono ?_
    rintro e w2 ⟨_, rfl, q5, rfl, hr, hf, hb⟩
    replace S := Lib.hid (natRes S.out hr hf hb)
    clear hr hf hb z0 f0 y0 y0a z1 f1 y1 y1a z2 f2 y2 y2a
    obtain ⟨⟨z3, f3, y3, y3a, y3b, -⟩, ⟨z2, f2, y2, y2a, -⟩, ⟨z1, f1, y1, y1a, -⟩, ⟨z0, f0, y0, y0a, -⟩, -⟩ := S.out.facts
    by_cases c : E2 = 0
    · subst c
      replace S := Lib.hid (S.out.box 24 [.slice q5.a (S1).length q5.c])
      go_wp2_with fail
      refine (HM.out _ _ _ S.out.r0 S.out.r1).mono ?_
      rintro e w3 ⟨_, rfl, q7, q8, rfl, hr, hr2, hf, hf2, hb⟩
      have fr7 := Lib.hid (hf.le S.out.size)
      have fr8 := Lib.hid (hf2.le S.out.size)
      replace S := Lib.hid (natRes2 S.out hr hr2 hf hf2 hb)
      clear hr hr2 hf hf2 hb z0 f0 y0 y0a z1 f1 y1 y1a z2 f2 y2 y2a z3 f3 y3 y3a y3b
      obtain ⟨⟨z4, f4, y4, -⟩, ⟨z3, f3, y3, y3a, y3b, -⟩, ⟨z2, f2, y2, y2a, -⟩, ⟨z1, f1, y1, y1a, -⟩, ⟨z0, f0, y0, y0a, -⟩, -⟩ := S.out.facts
      replace S := Lib.hid (S.out.set 2 rfl 0 (.slice q7.a MN.length q7.c))
      replace S := Lib.hid (S.out.set 2 rfl 1 (.slice q8.a MD.length q8.c))
      go_wp2
      refine bodyPost_ret (v := .tuple #[ratV MN q7 MD q8, .int .i64 ME]) (by simp [results, Tryz.results25, go_sem, y2, y2a]) rfl ?_
      exact (show Ret (RRes2 w MN MD ME) _ _ from Ret.mk (fm_rres2 S.out (by simp) (by simp) fr7.out fr8.out))
    · have dE : (E2 != 0) = true := bne_iff_ne.2 c
      replace S := Lib.hid (S.out.set 1 rfl 0 (.slice none 0 0))
      replace S := Lib.hid (S.out.set 1 rfl 1 (.slice none 0 0))
      replace S := Lib.hid (S.out.box' 24 [.slice q5.a S1.length q5.c] (K := w2.heap.size) (by simp))
      have u := Lib.hid (q_b E2 ME MN MD c)
      go_wp2
      refine bodyPost_ret (v := .tuple #[.agg #[.slice none 0 0, .slice none 0 0], .int .i64 E2]) (by simp [results, Tryz.results25, go_sem, y2, y2a, z2]) rfl ?_
      rw [u.out.1, u.out.2.1, u.out.2.2]
      exact (show Ret (RRes2 w [] [] E2) _ _ from Ret.mk (fm_rres0 S.out))
  · have dE : (E1 != 0) = true := bne_iff_ne.2 c
    replace S := Lib.hid (S.out.set 0 rfl 0 (.slice none 0 0))
    replace S := Lib.hid (S.out.set 0 rfl 1 (.slice none 0 0))
    replace S := Lib.hid (S.out.box' 63 [.slice q1.a X.length q1.c, .slice q2.a Y.length q2.c, .slice q3.a Z.length q3.c] (K := w1.heap.size) (by simp))
    have u := Lib.hid (q_a E1 E2 ME MN MD c)
    go_wp2
    refine bodyPost_ret (v := .tuple #[.agg #[.slice none 0 0, .slice none 0 0], .int .i64 E1]) (by simp [results, Tryz.results25, go_sem, y2, y2a, z2]) rfl ?_
    rw [u.out.1, u.out.2.1, u.out.2.2]
    exact (show Ret (RRes2 w [] [] E1) _ _ from Ret.mk (fm_rres0 S.out))
end Go.Proofs.YtoiokopmpcogbaaGreatDoor
