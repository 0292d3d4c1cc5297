/-
  CONTRACT of the reference's ValidProblem: the error of a problem.
  Conditions: those that each theorem names.
-/
import Derived.Test.YtickckehhfdoeaaFleetD
namespace Go.Proofs.Ytickckehhfdoeaa
open Go.RowKit Go.Sv

set_option maxHeartbeats 2000000 in
theorem rtable_any (p : Prob) (q : ProbP) (t : Tab) (qt : TabP) (w : World) (hp : RProb w w.heap.size p q) (ht : RTab w w.heap.size t qt)
    (m1 : p.vs.length ≤ 9223372036854775807) (m2 : t.ok.length ≤ 9223372036854775807) (m3 : t.rw.length ≤ 9223372036854775807) :
    Calls Try.prog 53 #[probV p q, tabV t qt] w fun e w' => e = .returned (.int .i64 (tabE p.vs t)) ∧ Below w.heap.size w w' := by
  obtain ⟨qa0, qc0, qa1, qc1, qa2, qc2, qa3, qc3⟩ := q
  obtain ⟨kd, sr, ds, aw, okm, rwm⟩ := t
  obtain ⟨oA, oC, rA, rC⟩ := qt
  by_cases g1 : kindB kd aw = true
  · cases aw
    · exact rtable_false p qa0 qc0 qa1 qc1 qa2 qc2 qa3 qc3 kd sr ds okm rwm oA oC rA rC w hp.r0 ht.1 ht.2 m1 m2 m3 g1
    · exact rtable_true p qa0 qc0 qa1 qc1 qa2 qc2 qa3 qc3 kd sr ds okm rwm oA oC rA rC w hp.r0 ht.1 ht.2 m1 m2 m3 g1
  · have g1' : kindB kd aw = false := by simpa using g1
    have E := Lib.hid (tabE_1 (vs := p.vs) (t := ⟨kd, sr, ds, aw, okm, rwm⟩) g1')
    have hcs := kindB_no g1'
    have hbx : ∀ o o' : Obj, Below w.heap.size w ((w.alloc o).alloc o') := fun o o' => ((Below.refl _ _).alloc (Nat.le_refl _) o).alloc (by simp) o'
    clear g1 g1'
    replace hp := Lib.hid hp
    replace ht := Lib.hid ht
    by_cases k1 : kd < 1
    · clear hcs
      go_enter Try.func53, Try.ntmps53
      go_wp2
      go_ret
      exact ⟨ret_i E.out.symm, hbx _ _⟩
    by_cases k2 : 4 < kd
    · clear hcs
      go_enter Try.func53, Try.ntmps53
      go_wp2
      go_ret
      exact ⟨ret_i E.out.symm, hbx _ _⟩
    obtain ⟨rfl, hk⟩ : aw = true ∧ (kd = 3 ∨ kd = 4) := by
      rcases hcs with h | h | h
      · exact (k1 h).elim
      · exact (k2 h).elim
      · exact h
    clear hcs
    have hst : Hid (∀ X : World, Calls Try.prog 30 #[.agg #[.int .i64 kd, .int .i64 sr, .int .i64 ds, .bool true, .slice oA okm.length oC, .slice rA rwm.length rC]] X fun e w' => e = .returned (.bool true) ∧ Below X.heap.size X w') := Lib.hid (fun X =>
      (stored_any ⟨kd, sr, ds, true, okm, rwm⟩ ⟨oA, oC, rA, rC⟩ X).mono fun e w' ⟨he, hb⟩ => ⟨by rw [he, decide_eq_true hk], hb⟩)
    clear hk
    go_enter Try.func53, Try.ntmps53
    go_wp2_with (go_at_call 30; refine (hst.out _).mono ?_; rintro e w1 ⟨rfl, hb1⟩; have hb2 := Lib.hid (below_of (hbx _ _) (hbx _ _).size hb1); clear hb1)
    go_ret
    exact ⟨ret_i E.out.symm, hb2.out⟩

set_option maxHeartbeats 4000000 in
theorem rvalidProblem_any (p : Prob) (q : ProbP) (w : World) (hp : RProb w w.heap.size p q) (hbd : PBd p) :
    Calls Try.prog 25 #[probV p q] w fun e w' => e = .returned (.int .i64 (probE p)) ∧ Below w.heap.size w w' := by
  obtain ⟨qa0, qc0, qa1, qc1, qa2, qc2, qa3, qc3⟩ := q
  have hbx : ∀ o : Obj, Below w.heap.size w (w.alloc o) := fun o => (Below.refl _ _).alloc (Nat.le_refl _) o
  by_cases g1 : 6 < p.vs.length
  · have E := Lib.hid (probE_3 (Or.inl g1))
    replace hp := Lib.hid hp
    replace hbx := Lib.hid hbx
    go_enter Try.func25, Try.ntmps25
    go_wp2
    go_ret
    exact ⟨ret_i E.out.symm, hbx.out _⟩
  by_cases g2 : 12 < p.tabs.length
  · have E := Lib.hid (probE_3 (Or.inr g2))
    replace hp := Lib.hid hp
    replace hbx := Lib.hid hbx
    go_enter Try.func25, Try.ntmps25
    go_wp2
    go_ret
    exact ⟨ret_i E.out.symm, hbx.out _⟩
  have G : Hid (¬ (6 < p.vs.length ∨ 12 < p.tabs.length)) := Lib.hid (by omega)
  by_cases g3 : p.now.length = p.vs.length
  case neg =>
    have E := Lib.hid (probE_6 G.out (Or.inl g3))
    have x1 : ((p.now.length : Int) != (p.vs.length : Int)) = true := by rw [bne_iff_ne]; omega
    clear g3
    replace hp := Lib.hid hp
    replace hbx := Lib.hid hbx
    go_enter Try.func25, Try.ntmps25
    go_wp2
    go_ret
    exact ⟨ret_i E.out.symm, hbx.out _⟩
  by_cases g4 : p.tgt.length = p.vs.length
  case neg =>
    have E := Lib.hid (probE_6 G.out (Or.inr g4))
    have x1 : ((p.now.length : Int) != (p.vs.length : Int)) = false := by rw [bne_eq_false_iff_eq]; omega
    have x2 : ((p.tgt.length : Int) != (p.vs.length : Int)) = true := by rw [bne_iff_ne]; omega
    clear g3 g4
    replace hp := Lib.hid hp
    replace hbx := Lib.hid hbx
    go_enter Try.func25, Try.ntmps25
    go_wp2
    go_ret
    exact ⟨ret_i E.out.symm, hbx.out _⟩
  have x1 : ((p.now.length : Int) != (p.vs.length : Int)) = false := by rw [bne_eq_false_iff_eq]; omega
  have x2 : ((p.tgt.length : Int) != (p.vs.length : Int)) = false := by rw [bne_eq_false_iff_eq]; omega
  have y1 : decide ((6 : Int) < (p.vs.length : Int)) = false := by rw [decide_eq_false_iff_not]; omega
  have y2 : decide ((12 : Int) < (p.tabs.length : Int)) = false := by rw [decide_eq_false_iff_not]; omega
  have G2 : Hid (¬ (p.now.length ≠ p.vs.length ∨ p.tgt.length ≠ p.vs.length)) := Lib.hid (by omega)
  have l1 : p.vs.length ≤ p.now.length := by omega
  have l2 : p.vs.length ≤ p.tgt.length := by omega
  clear g3 g4
  replace hp := Lib.hid hp
  replace hbx := Lib.hid hbx
  go_enter Try.func25, Try.ntmps25
  go_wp2
  go_loop [3, 4] (fun i _ => ∃ k : Nat, k ≤ p.vs.length ∧ i = .int .i64 k ∧ ∀ j, j < k → ¬ svcBad p j) (fun i _ => p.vs.length - (intOf i).toNat)
  case atStart => exact ⟨0, Nat.zero_le _, rfl, fun j hj => by omega⟩
  case round =>
    obtain ⟨k, hk, rfl, hall⟩ := hrel
    replace hall := Lib.hid hall
    by_cases hlt : k < p.vs.length
    · obtain ⟨b0, o0, e0, hb0, hc0⟩ := hp.out.r0 (by omega)
      obtain ⟨b1, o1, e1, hb1, hc1⟩ := hp.out.r1 (by omega)
      obtain ⟨b2, o2, e2, hb2, hc2⟩ := hp.out.r2 (by omega)
      dsimp only at e0 e1 e2
      subst e0 e1 e2
      have d0 := hc0 k hlt
      have d1 := hc1 k (by omega)
      have d2 := hc2 k (by omega)
      unfold iv at d0 d1 d2
      clear hc0 hc1 hc2
      have j1 : (k : Int) < (p.now.length : Int) := by omega
      have j2 : (k : Int) < (p.tgt.length : Int) := by omega
      by_cases c1 : gi p.vs k < 1
      · have E := Lib.hid (probE_7 G.out G2.out hlt (Or.inl c1))
        go_wp2
        go_ret
        exact ⟨ret_i E.out.symm, hbx.out _⟩
      by_cases c2 : 6 < gi p.vs k
      · have E := Lib.hid (probE_7 G.out G2.out hlt (Or.inr (Or.inl c2)))
        go_wp2
        go_ret
        exact ⟨ret_i E.out.symm, hbx.out _⟩
      by_cases c3 : gi p.now k < 0
      · have E := Lib.hid (probE_7 G.out G2.out hlt (Or.inr (Or.inr (Or.inl (win_no.2 (by omega))))))
        go_wp2
        go_ret
        exact ⟨ret_i E.out.symm, hbx.out _⟩
      by_cases c4 : gi p.vs k ≤ gi p.now k
      · have E := Lib.hid (probE_7 G.out G2.out hlt (Or.inr (Or.inr (Or.inl (win_no.2 (by omega))))))
        go_wp2
        go_ret
        exact ⟨ret_i E.out.symm, hbx.out _⟩
      by_cases c5 : gi p.tgt k < 0
      · have E := Lib.hid (probE_7 G.out G2.out hlt (Or.inr (Or.inr (Or.inr (win_no.2 (by omega))))))
        go_wp2
        go_ret
        exact ⟨ret_i E.out.symm, hbx.out _⟩
      by_cases c6 : gi p.vs k ≤ gi p.tgt k
      · have E := Lib.hid (probE_7 G.out G2.out hlt (Or.inr (Or.inr (Or.inr (win_no.2 (by omega))))))
        go_wp2
        go_ret
        exact ⟨ret_i E.out.symm, hbx.out _⟩
      have E : Hid (¬ svcBad p k) := Lib.hid (by
        rintro (h | h | h | h)
        · exact c1 h
        · exact c2 h
        · have := win_no.1 h; omega
        · have := win_no.1 h; omega)
      go_wp2
      go_round
      case rel => exact ⟨k + 1, by omega, by go_num, fun j hj => by (rcases Nat.lt_succ_iff_lt_or_eq.1 hj with h | h; exact hall.out j h; rw [h]; exact E.out)⟩
      case measure => simp [intOf]; omega
    · obtain rfl : k = p.vs.length := by omega
      have ET := Lib.hid (probE_t G.out G2.out (fun i hi => hall.out i hi))
      clear hall x1 x2
      go_wp2
      go_loopw [5, 6] (fun i _ wr => ∃ k : Nat, k ≤ p.tabs.length ∧ i = .int .i64 k ∧ tabsE p 0 p.tabs.length = tabsE p k (p.tabs.length - k) ∧
          Below (w.heap.size + 1) (w.alloc (.cells #[.slice qa0 p.vs.length qc0, .slice qa1 p.now.length qc1, .slice qa2 p.tgt.length qc2, .slice qa3 p.tabs.length qc3] 39)) wr) (fun i _ _ => p.tabs.length - (intOf i).toNat)
      case atStart => exact ⟨0, Nat.zero_le _, rfl, rfl, Below.refl _ _⟩
      case round =>
        obtain ⟨k, hk, rfl, hts, hbel⟩ := hrel
        replace hts := Lib.hid hts
        have hbw : Below w.heap.size w wr := (hbx.out _).trans (hbel.mono (by omega))
        have hsz : w.heap.size + 1 ≤ wr.heap.size := by have := hbel.size; simpa using this
        obtain ⟨z0, z1, z2, z3⟩ := box4 hbel
        by_cases hlt : k < p.tabs.length
        · have hpr := hp.out.below hbw
          obtain ⟨qt, hq1, hq2⟩ := hpr.r3
          obtain ⟨b3, o3, e3, hb3, hc3⟩ := hq1 (by omega)
          dsimp only at e3
          subst e3
          obtain ⟨t0, t1, t2, t3, t4, t5⟩ := tab_cells (hc3 k hlt)
          have hwb : w.heap.size < wr.heap.size := by omega
          have hb3' : b3 < wr.heap.size := by omega
          have jk : (k : Int) < (p.tabs.length : Int) := by omega
          have hqk : Hid (RTab wr wr.heap.size (tab p.tabs k) (qt k)) := Lib.hid ((hq2 k hlt).more (by omega))
          have hpk : Hid (RProb wr wr.heap.size p ⟨qa0, qc0, qa1, qc1, qa2, qc2, some ⟨b3, o3, none⟩, qc3⟩) := Lib.hid (hpr.more (by omega))
          have hbk := hbd.bt k hlt
          have hcall : Hid (∀ x : GrowX wr, Calls Try.prog 53 #[probV p ⟨qa0, qc0, qa1, qc1, qa2, qc2, some ⟨b3, o3, none⟩, qc3⟩, tabV (tab p.tabs k) (qt k)] (grow wr x) fun e w'' => e = .returned (.int .i64 (tabE p.vs (tab p.tabs k))) ∧ ∃ y : GrowX wr, w'' = grow wr y) :=
            Lib.hid fun x => calm_b (rtable_any p ⟨qa0, qc0, qa1, qc1, qa2, qc2, some ⟨b3, o3, none⟩, qc3⟩ (tab p.tabs k) (qt k) _ (hpk.out.to (grow_is _ _)) (hqk.out.to (grow_is _ _)) hbd.b0 hbk.1 hbk.2)
          clear hc3 hq1 hq2 hpr
          replace hbel := Lib.hid hbel
          go_wp2_with fail
          refine wp_region_calm (by kernel_rfl) (by kernel_rfl) ?_
          repeat (go_big_quiet_step (((go_at_call 53; exact hcall.out _))))
          refine wpQuiet_nil ?_
          intro w2 hw2
          have hb12 := Lib.hid (grow_below hw2)
          clear hw2
          by_cases ht : tabE p.vs (tab p.tabs k) = 0
          · have E := Lib.hid (hts.out.trans (tabsE_next hlt ht))
            have hx : (tabE p.vs (tab p.tabs k) != 0) = false := by rw [bne_eq_false_iff_eq]; exact ht
            replace ht := Lib.hid ht
            go_wp2
            go_roundw
            case rel => exact ⟨k + 1, by omega, by go_num, E.out, hbel.out.trans (hb12.out.mono (by omega))⟩
            case measure => simp [intOf]; omega
          · have E := Lib.hid (ET.out.trans (hts.out.trans (tabsE_bad hlt ht)))
            have hx : (tabE p.vs (tab p.tabs k) != 0) = true := by rw [bne_iff_ne]; exact ht
            clear ht
            go_wp2
            go_ret
            exact ⟨ret_i E.out.symm, below_of hbw (by omega) hb12.out⟩
        · obtain rfl : k = p.tabs.length := by omega
          have E : Hid (probE p = 0) := Lib.hid (ET.out.trans (hts.out.trans (by rw [Nat.sub_self]; rfl)))
          replace hbel := Lib.hid hbel
          go_wp2
          go_ret
          exact ⟨ret_i E.out.symm, hbw⟩
end Go.Proofs.Ytickckehhfdoeaa
