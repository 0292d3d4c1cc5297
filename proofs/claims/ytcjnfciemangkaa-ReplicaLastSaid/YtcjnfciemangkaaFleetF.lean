/-
  CONTRACT of the reference's Few: it answers, whatever the problem.
  Conditions: those that each theorem names.
-/
import Derived.Test.YtcjnfciemangkaaFleetE
namespace Go.Proofs.Ytcjnfciemangkaa
open Go.RowKit Go.Sv

def BoolR (w : World) (v : Value) (w' : World) : Prop := ∃ b : Bool, v = .bool b ∧ Below w.heap.size w w'
theorem BoolR.mk {w w' : World} {b : Bool} (h : Below w.heap.size w w') : BoolR w (.bool b) w' := ⟨b, rfl, h⟩

set_option maxHeartbeats 4000000 in
set_option maxRecDepth 100000 in
theorem few35_any (p : Prob) (q : ProbP) (w : World) (hp : RProb w w.heap.size p q) (hbd : PBd p) :
    Calls Try.prog 11 #[probV p q] w (Ret (BoolR w)) := by
  obtain ⟨qa0, qc0, qa1, qc1, qa2, qc2, qa3, qc3⟩ := q
  have hbx : Hid (∀ o : Obj, Below w.heap.size w (w.alloc o)) := Lib.hid fun o => (Below.refl _ _).alloc (Nat.le_refl _) o
  have hb3 := hbd.b3
  by_cases g1 : 8 < p.vs.length
  · replace hp := Lib.hid hp
    go_enter Try.func11, Try.ntmps11
    go_wp2
    go_ret
    exact Ret.mk (BoolR.mk (hbx.out _))
  by_cases g2 : 8 < p.now.length
  · replace hp := Lib.hid hp
    go_enter Try.func11, Try.ntmps11
    go_wp2
    go_ret
    exact Ret.mk (BoolR.mk (hbx.out _))
  by_cases g3 : 8 < p.tgt.length
  · replace hp := Lib.hid hp
    go_enter Try.func11, Try.ntmps11
    go_wp2
    go_ret
    exact Ret.mk (BoolR.mk (hbx.out _))
  by_cases g4 : 14 < p.tabs.length
  · replace hp := Lib.hid hp
    go_enter Try.func11, Try.ntmps11
    go_wp2
    go_ret
    exact Ret.mk (BoolR.mk (hbx.out _))
  have y1 : decide ((8 : Int) < (p.vs.length : Int)) = false := by rw [decide_eq_false_iff_not]; omega
  have y2 : decide ((8 : Int) < (p.now.length : Int)) = false := by rw [decide_eq_false_iff_not]; omega
  have y3 : decide ((8 : Int) < (p.tgt.length : Int)) = false := by rw [decide_eq_false_iff_not]; omega
  have y4 : decide ((14 : Int) < (p.tabs.length : Int)) = false := by rw [decide_eq_false_iff_not]; omega
  obtain ⟨qt, hq1, hq2⟩ := hp.r3
  replace hp := Lib.hid hp
  dsimp only at hq1
  replace hq2 := Lib.hid hq2
  replace hq1 := Lib.hid hq1
  go_enter Try.func11, Try.ntmps11
  go_wp2
  go_loop [3, 4, 5] (fun i _ _ => ∃ k : Nat, k ≤ p.tabs.length ∧ i = .int .i64 k) (fun i _ _ => p.tabs.length - (intOf i).toNat)
  case atStart => exact ⟨0, Nat.zero_le _, rfl⟩
  case round =>
    obtain ⟨k, hk, rfl⟩ := hrel
    by_cases hlt : k < p.tabs.length
    · obtain ⟨b3, o3, e3, hb3', hc3⟩ := hq1.out (by omega)
      subst e3
      obtain ⟨t0, t1, t2, t3, t4, t5⟩ := tab_cells (hc3 k hlt)
      obtain ⟨r1, r2⟩ := hq2.out k hlt
      obtain ⟨m1, m2⟩ := hbd.bt k hlt
      have jb : b3 < w.heap.size + 1 := by omega
      clear hc3
      replace r1 := Lib.hid r1
      replace r2 := Lib.hid r2
      by_cases g5 : 8 < (tab p.tabs k).ok.length
      · go_wp2
        go_ret
        exact Ret.mk (BoolR.mk (hbx.out _))
      by_cases g6 : 8 < (tab p.tabs k).rw.length
      · go_wp2
        go_ret
        exact Ret.mk (BoolR.mk (hbx.out _))
      have y5 : decide ((8 : Int) < ((tab p.tabs k).ok.length : Int)) = false := by rw [decide_eq_false_iff_not]; omega
      have y6 : decide ((8 : Int) < ((tab p.tabs k).rw.length : Int)) = false := by rw [decide_eq_false_iff_not]; omega
      go_wp2
      go_loop [4] (fun i => ∃ j : Nat, j ≤ (tab p.tabs k).ok.length ∧ i = .int .i64 j) (fun i => (tab p.tabs k).ok.length - (intOf i).toNat)
      case atStart => exact ⟨0, Nat.zero_le _, rfl⟩
      case round =>
        obtain ⟨j, hj, rfl⟩ := hrel
        by_cases hlt2 : j < (tab p.tabs k).ok.length
        · obtain ⟨r, h1, _⟩ := r1.out
          obtain ⟨b1, o1, e1, jb1, hc1⟩ := h1 (by omega)
          have d1 := hc1 j hlt2
          have jb1' : b1 < w.heap.size + 1 := by omega
          dsimp only at d1
          rw [e1] at t4
          clear h1 hc1
          by_cases g7 : 8 < mlen (tab p.tabs k).ok j
          · go_wp2
            go_ret
            exact Ret.mk (BoolR.mk (hbx.out _))
          · go_wp2
            go_round
            case rel => exact ⟨j + 1, by omega, by go_num⟩
            case measure => simp [intOf]; omega
        · obtain rfl : j = (tab p.tabs k).ok.length := by omega
          go_wp2
          go_loop [5] (fun i => ∃ j : Nat, j ≤ (tab p.tabs k).rw.length ∧ i = .int .i64 j) (fun i => (tab p.tabs k).rw.length - (intOf i).toNat)
          case atStart => exact ⟨0, Nat.zero_le _, rfl⟩
          case round =>
            obtain ⟨j, hj, rfl⟩ := hrel
            by_cases hlt2 : j < (tab p.tabs k).rw.length
            · obtain ⟨r, h1, _⟩ := r2.out
              obtain ⟨b1, o1, e1, jb1, hc1⟩ := h1 (by omega)
              have d1 := hc1 j hlt2
              have jb1' : b1 < w.heap.size + 1 := by omega
              dsimp only at d1
              rw [e1] at t5
              clear h1 hc1
              by_cases g7 : 8 < mlen (tab p.tabs k).rw j
              · go_wp2
                go_ret
                exact Ret.mk (BoolR.mk (hbx.out _))
              · go_wp2
                go_round
                case rel => exact ⟨j + 1, by omega, by go_num⟩
                case measure => simp [intOf]; omega
            · obtain rfl : j = (tab p.tabs k).rw.length := by omega
              go_wp2
              go_round
              case rel => exact ⟨k + 1, by omega, by go_num⟩
              case measure => simp [intOf]; omega
    · obtain rfl : k = p.tabs.length := by omega
      go_wp2
      go_ret
      exact Ret.mk (BoolR.mk (hbx.out _))
end Go.Proofs.Ytcjnfciemangkaa
