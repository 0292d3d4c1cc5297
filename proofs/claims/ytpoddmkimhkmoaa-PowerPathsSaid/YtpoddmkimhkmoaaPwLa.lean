/-
  LAW PowerPaths.
  Conditions: the arguments are as they come in.
-/
import Derived.Test.YtpoddmkimhkmoaaPwY
import Derived.Test.YtpoddmkimhkmoaaPwU
import Derived.Test.YtpoddmkimhkmoaaPwT
import Derived.Test.YtpoddmkimhkmoaaPh3
import Derived.Test.YtpoddmkimhkmoaaPwLp
namespace Go.Proofs.Ytpoddmkimhkmoaa
open Go.RowKit Go.Sv Go.Pw
theorem ofT_bd8 {l : List Int} (h : l.length ≤ 8) : TBd (ofT l) := by
  obtain ⟨L1, L2⟩ := ofT_len l
  exact ⟨by rw [L1]; omega, by rw [L2]; omega⟩
set_option maxHeartbeats 8000000 in
set_option maxRecDepth 100000 in
theorem law_paths (l : List Int) (A : Option Addr) (c : Nat) (w : World) (hn : l.length ≤ 9223372036854775807) (hb : ∀ i, i < l.length → 0 ≤ gi l i ∧ gi l i < 256) (ha : Arr w w.heap.size A l.length (u8v l)) :
    Calls Try.prog 3 #[.slice A l.length c] w (fun e w' => e = .returned (.bool true) ∧ Below w.heap.size w w') := by
  by_cases g : 0 < l.length ∧ l.length ≤ 8
  case neg =>
    have H1 := Lib.hid (rof_no l A c w (by omega) hn)
    have HA := Lib.hid (fun w' => awake_any w')
    have S := Lib.hid (Fm.init w)
    clear g hb ha
    go_enter Try.func3, Try.ntmps3
    go_wp2_with fail
    refine (H1.out).mono ?_
    rintro e w1 ⟨_, rfl, q1, rfl, hr, hb⟩
    replace S := Lib.hid (fm_tst S.out hb hr (by simp [NoInt]))
    clear hr hb
    replace S := Lib.hid (S.out.box 25 [.slice q1.a0 tst0.acc.length q1.c0, .slice q1.a1 tst0.rej.length q1.c1])
    obtain ⟨⟨z0, f0, y0, y0a, -⟩, -⟩ := S.out.facts
    go_wp2_with fail
    refine (HA.out _).mono ?_
    rintro e w2 ⟨rfl, hb⟩
    replace S := Lib.hid (S.out.call hb)
    clear hb
    clear z0 f0 y0 y0a
    obtain ⟨⟨z0, f0, y0, y0a, -⟩, -⟩ := S.out.facts
    go_wp2_with fail
    refine (HA.out _).mono ?_
    rintro e w3 ⟨rfl, hb⟩
    replace S := Lib.hid (S.out.call hb)
    clear hb
    clear z0 f0 y0 y0a
    obtain ⟨⟨z0, f0, y0, y0a, -⟩, -⟩ := S.out.facts
    go_wp2
    go_ret
    exact ⟨rfl, S.out.bel⟩
  case pos =>
    obtain ⟨L1, L2⟩ := ofT_len l
    have hv := vld_validE (ofT_vld g.1 g.2 (fun i hi => (hb i hi).1))
    have hbd := ofT_bd8 g.2
    have h8 : (ofT l).acc.length ≤ 8 := by rw [L1]; exact g.2
    have hT0 : (ofT l).acc.length = l.length := L1
    have hR0 : (ofT l).rej.length = l.length := L2
    have hOf := rof_ok l A c w g.1 g.2 hb ha
    have HA := Lib.hid (fun w' => awake_any w')
    have HP := Lib.hid (fun q w' h => paths_any (ofT l) q w' h hbd hv)
    have HR := Lib.hid (fun q w' h => rpaths_any (ofT l) q w' h hbd hv h8)
    obtain ⟨t, ht⟩ : ∃ t, ofT l = t := ⟨_, rfl⟩
    rw [ht] at hOf HP HR h8
    replace hOf := Lib.hid hOf
    clear hv hbd hT0 hR0 L1 L2 ht g hb ha
    have S := Lib.hid (Fm.init w)
    go_enter Try.func3, Try.ntmps3
    go_wp2_with fail
    refine (hOf.out).mono ?_
    rintro e w1 ⟨_, rfl, q1, rfl, hr, hb⟩
    replace S := Lib.hid (fm_tst S.out hb hr (by simp [NoInt]))
    clear hr hb
    replace S := Lib.hid (S.out.box 25 [.slice q1.a0 t.acc.length q1.c0, .slice q1.a1 t.rej.length q1.c1])
    obtain ⟨⟨z0, f0, y0, y0a, -⟩, -⟩ := S.out.facts
    go_wp2_with fail
    refine (HA.out _).mono ?_
    rintro e w2 ⟨rfl, hb⟩
    replace S := Lib.hid (S.out.call hb)
    clear hb
    clear z0 f0 y0 y0a
    obtain ⟨⟨z0, f0, y0, y0a, -⟩, -⟩ := S.out.facts
    go_wp2_with fail
    refine (HP.out q1 _ (tstOld S.out (by simp))).mono ?_
    rintro e w3 ⟨_, rfl, A3, c3, R3, K3, Q3, rfl, hT, hb⟩
    obtain ⟨g3, o3, rfl, -, -, -⟩ := hT.arr (by omega)
    have hi3 : Hid (w3.heap.size ≤ w3.heap.size) := Lib.hid (Nat.le_refl _)
    replace S := Lib.hid (S.out.res (tabRd _ _ (some ⟨g3, o3, none⟩) _ _ R3 K3 Q3) hb hT (fun g hg => hg))
    clear hT hb
    clear z0 f0 y0 y0a
    obtain ⟨⟨z0, f0, y0, y0a, -⟩, -⟩ := S.out.facts
    go_wp2_with fail
    refine (HR.out q1 _ (tstOld S.out (by simp))).mono ?_
    rintro e w4 ⟨_, rfl, A4, c4, R4, K4, Q4, rfl, hT, hb⟩
    obtain ⟨g4, o4, rfl, -, -, -⟩ := hT.arr (by omega)
    have hs := Lib.hid hb.size
    have hi4 : Hid (w4.heap.size ≤ w4.heap.size) := Lib.hid (Nat.le_refl _)
    replace S := Lib.hid (S.out.res (tabRd _ _ (some ⟨g4, o4, none⟩) _ _ R4 K4 Q4) hb hT (fun g hg => hg))
    clear hT hb
    clear z0 f0 y0 y0a
    obtain ⟨⟨z0, f0, y0, y0a, -⟩, -⟩ := S.out.facts
    go_wp2_with fail
    refine (sameT_any _ _ _ _ _ _ _ _ _ _ _ _ _ _ _ (NTab.wide S.out.r1 (Nat.zero_le _) hs.out) (NTab.wide S.out.r0 (Nat.zero_le _) (Nat.le_refl _)) (by omega)).mono ?_
    rintro e w5 ⟨rfl, hb⟩
    replace S := Lib.hid (S.out.call hb)
    clear hb
    clear z0 f0 y0 y0a
    obtain ⟨⟨z0, f0, y0, y0a, -⟩, -⟩ := S.out.facts
    go_wp2
    go_ret
    exact ⟨rfl, S.out.bel⟩
end Go.Proofs.Ytpoddmkimhkmoaa
