/-
  CONTRACT of sheavetop.awake46.
  Conditions: none but the world's form.
-/
import Derived.Test.YtickckehhfdoeaaTopN
namespace Go.Sv
open Go.RowKit
theorem p46_e : probE p46 = 0 := by
  have hv : p46.vs = [2, 2] := rfl
  have ht : tabE p46.vs (tab p46.tabs 0) = 0 := by
    refine tabE_0 (by decide) (by decide) (by decide) (by decide) (fun i hi => ?_)
    exact absurd hi (Nat.not_lt_zero i)
  rw [probE_t (by decide) (by decide) (fun i hi => by
    have : i < 2 := hi
    rcases i with _ | _ | i
    · unfold svcBad; decide
    · unfold svcBad; decide
    · omega)]
  have h1 : tabsE p46 0 p46.tabs.length = tabsE p46 1 (p46.tabs.length - 1) := tabsE_next (k := 0) (by decide) ht
  rw [h1]
  rfl
end Go.Sv
namespace Go.Proofs.Ytickckehhfdoeaa
open Go.RowKit Go.Sv
set_option maxHeartbeats 2000000 in
set_option maxRecDepth 100000 in
theorem awake_any (w : World) : Calls Try.prog 6 #[] w (fun e w' => e = .returned (.bool true) ∧ Below w.heap.size w w') := by
  have H := Lib.hid (p46_any w)
  go_enter Try.func6, Try.ntmps6
  go_wp2_with fail
  with_reducible refine H.out.mono ?_
  rintro e w1 ⟨_, rfl, hb1, q, hq1, rfl, hR⟩
  have HF := find_any p46 q w1 hR p46_bd p46_e (fun h => absurd h hq1)
  rw [fr46 p46_e] at HF
  replace HF := Lib.hid HF
  replace hR := Lib.hid hR
  obtain ⟨qa0, qc0, qa1, qc1, qa2, qc2, qa3, qc3⟩ := q
  dsimp only at HF
  go_wp2_with fail
  with_reducible refine HF.out.mono ?_
  rintro e w2 ⟨_, rfl, hb2, A, c, rfl, hown⟩
  replace hown := Lib.hid hown
  have hb := Lib.hid (hb1.trans (hb2.mono hb1.size))
  clear HF H hR hb1 hb2
  obtain ⟨A', c', hv, -, -, harr⟩ := own_arrN hown.out (fun k hk i hi => spRow_get hk hi)
  cases hv
  have S := (Fm.init w2).box 63 [.int .i64 1, .int .i64 1, .int .i64 1, .int .i64 2, .int .i64 1, .int .i64 0, .int .i64 1, .int .i64 0, .int .i64 1, .int .i64 2, .int .i64 0, .int .i64 0]
  obtain ⟨W, hW, S⟩ : ∃ W, w2.alloc (.cells #[.int .i64 1, .int .i64 1, .int .i64 1, .int .i64 2, .int .i64 1, .int .i64 0, .int .i64 1, .int .i64 0, .int .i64 1, .int .i64 2, .int .i64 0, .int .i64 0] 63) = W ∧ Fm w2 W _ _ := ⟨_, rfl, S⟩
  have hz : w2.heap.size ≤ W.heap.size := S.size
  have hL : ArrN W W.heap.size 3 A 4 (spF [⟨1, 1, 1⟩, ⟨2, 1, 0⟩, ⟨1, 0, 1⟩, ⟨2, 0, 0⟩]) := (ArrN.below harr S.bel).more hz
  have hM : ArrN W W.heap.size 3 (some ⟨w2.heap.size, 0, none⟩) 4 (spF [⟨1, 1, 1⟩, ⟨2, 1, 0⟩, ⟨1, 0, 1⟩, ⟨2, 0, 0⟩]) := fun _ => by
    have h := S.bx.1
    refine ⟨_, 0, rfl, h.lt, fun k hk i hi => ?_⟩
    rcases k with _ | _ | _ | _ | k
    · rcases i with _ | _ | _ | i
      · exact h.cell 0
      · exact h.cell 1
      · exact h.cell 2
      · omega
    · rcases i with _ | _ | _ | i
      · exact h.cell 3
      · exact h.cell 4
      · exact h.cell 5
      · omega
    · rcases i with _ | _ | _ | i
      · exact h.cell 6
      · exact h.cell 7
      · exact h.cell 8
      · omega
    · rcases i with _ | _ | _ | i
      · exact h.cell 9
      · exact h.cell 10
      · exact h.cell 11
      · omega
    · omega
  have HE : Hid (Calls Try.prog 22 #[.slice A 4 c, .slice (some ⟨w2.heap.size, 0, none⟩) 4 4] W fun e w' => e = .returned (.bool true) ∧ Drawn W w') := Lib.hid (eqS_any A (some ⟨w2.heap.size, 0, none⟩) c 4 [⟨1, 1, 1⟩, ⟨2, 1, 0⟩, ⟨1, 0, 1⟩, ⟨2, 0, 0⟩] W W.heap.size hL hM (by decide))
  have HC := Lib.hid (scnt_ok 2 5 5 W (by unfold okSp; omega) (by omega) (by omega))
  have hbW : Hid (Below w.heap.size w W) := Lib.hid (hb.out.trans (S.bel.mono hb.out.size))
  clear hL hM S harr hown hb hz
  go_wp2_with fail
  clear hW
  with_reducible refine HC.out.mono ?_
  rintro e w3 ⟨rfl, rfl⟩
  clear HC
  have e2 : (5 * 2 / 5 : Int) = 2 := by decide
  rw [e2]
  go_wp2_with fail
  with_reducible refine HE.out.mono ?_
  rintro e w4 ⟨rfl, hd⟩
  clear HE
  go_wp2
  go_ret
  exact ⟨rfl, hbW.out.trans (hd.below.mono hbW.out.size)⟩
end Go.Proofs.Ytickckehhfdoeaa
