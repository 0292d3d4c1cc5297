/-
  CONTRACT of fleet.table: the error of a table.
  Conditions: those that each theorem names.
-/
import Derived.Test.YtickckehhfdoeaaFleetA
namespace Go.Proofs.Ytickckehhfdoeaa
open Go.RowKit Go.Sv

theorem matrix_eq (A : Option Addr) (c : Nat) (m : List (List Bool)) (n k : Int) (w : World) (B : Nat) (b : Bool) (hB : B ≤ w.heap.size) (ha : RMat w B A m) (hm : m.length ≤ 9223372036854775807) (hs : sq m n k = b) :
    Calls Try.prog 86 #[.slice A m.length c, .int .i64 n, .int .i64 k] w fun e w' => e = .returned (.bool b) ∧ Below w.heap.size w w' := by
  subst hs
  exact matrix_any A c m n k w B hB ha hm
theorem sq_len {m : List (List Bool)} {n k : Int} (h : sq m n k = true) : (m.length : Int) = n ∧ ∀ i, i < m.length → (mlen m i : Int) = k := by unfold sq at h; simpa using h

set_option maxHeartbeats 4000000 in
theorem table_any (p : Prob) (q : ProbP) (t : Tab) (qt : TabP) (w : World) (hp : RProb w w.heap.size p q) (ht : RTab w w.heap.size t qt)
    (m1 : p.vs.length ≤ 9223372036854775807) (m2 : t.ok.length ≤ 9223372036854775807) (m3 : t.rw.length ≤ 9223372036854775807) :
    Calls Try.prog 66 #[probV p q, tabV t qt] w fun e w' => e = .returned (.int .i64 (tabE p.vs t)) ∧ Below w.heap.size w w' := by
  have hbx : ∀ o o' : Obj, Below w.heap.size w ((w.alloc o).alloc o') := fun o o' => ((Below.refl _ _).alloc (Nat.le_refl _) o).alloc (by simp) o'
  by_cases g1 : kindB t.kind t.aware = true
  case neg =>
    have g1' : kindB t.kind t.aware = false := by simpa using g1
    have E := Lib.hid (tabE_1 (vs := p.vs) g1')
    clear g1
    replace hp := Lib.hid hp
    replace ht := Lib.hid ht
    go_enter Try.func66, Try.ntmps66
    go_wp2_with (go_at_call 85; refine (kind_any _ _ _).mono ?_; rintro e w' ⟨rfl, rfl⟩)
    go_ret
    exact ⟨ret_i E.out.symm, hbx _ _⟩
  by_cases g2 : win t.src p.vs.length = true
  case neg =>
    have g2' : win t.src p.vs.length = false := by simpa using g2
    have E := Lib.hid (tabE_4 g1 (Or.inl g2'))
    clear g2
    replace hp := Lib.hid hp
    replace ht := Lib.hid ht
    go_enter Try.func66, Try.ntmps66
    go_wp2_with (first
      | (go_at_call 85; refine (kind_any _ _ _).mono ?_; rintro e w' ⟨rfl, rfl⟩)
      | (go_at_call 65; refine (within_any _ _ _).mono ?_; rintro e w' ⟨rfl, rfl⟩))
    go_ret
    exact ⟨ret_i E.out.symm, hbx _ _⟩
  by_cases g3 : win t.dst p.vs.length = true
  case neg =>
    have g3' : win t.dst p.vs.length = false := by simpa using g3
    have E := Lib.hid (tabE_4 g1 (Or.inr g3'))
    clear g3
    replace hp := Lib.hid hp
    replace ht := Lib.hid ht
    go_enter Try.func66, Try.ntmps66
    go_wp2_with (first
      | (go_at_call 85; refine (kind_any _ _ _).mono ?_; rintro e w' ⟨rfl, rfl⟩)
      | (go_at_call 65; refine (within_any _ _ _).mono ?_; rintro e w' ⟨rfl, rfl⟩))
    go_ret
    exact ⟨ret_i E.out.symm, hbx _ _⟩
  obtain ⟨qa0, qc0, qa1, qc1, qa2, qc2, qa3, qc3⟩ := q
  obtain ⟨s1, s2⟩ := win_iff.1 g2
  obtain ⟨d1, d2⟩ := win_iff.1 g3
  obtain ⟨b, off, hA, hb, hc⟩ := hp.r0 (by omega)
  dsimp only at hA
  subst hA
  have cs := hc t.src.toNat (by omega)
  have cd := hc t.dst.toNat (by omega)
  unfold iv at cs cd
  have hb1 : b < w.heap.size + 1 + 1 := by omega
  have hb2 : b < w.heap.size + 1 := by omega
  replace hc := Lib.hid hc
  replace hp := Lib.hid hp
  have hti := Lib.hid ht.1
  have htr := Lib.hid ht.2
  have i1 : (0 : Int) ≤ t.dst := d1
  have hTo : ∀ (o o' : Obj) (x : GrowX ((w.alloc o).alloc o')) (A : Option Addr) (m : List (List Bool)), RMat w w.heap.size A m → RMat (grow ((w.alloc o).alloc o') x) w.heap.size A m := fun o o' x A m h => h.below (below_of (hbx o o') (hbx o o').size (grow_is _ x))
  have hSz : ∀ (o o' : Obj) (x : GrowX ((w.alloc o).alloc o')), w.heap.size ≤ (grow ((w.alloc o).alloc o') x).heap.size := fun o o' x => Nat.le_trans (hbx o o').size (grow_is _ x).size
  replace hTo := Lib.hid hTo
  replace hSz := Lib.hid hSz
  have hfin : ∀ (o o' : Obj) (w2 : World), Below ((w.alloc o).alloc o').heap.size ((w.alloc o).alloc o') w2 → Below w.heap.size w w2 := fun o o' w2 h => below_of (hbx o o') (hbx o o').size h
  replace hfin := Lib.hid hfin
  replace hbx := Lib.hid hbx
  by_cases g4 : sq t.ok (gi p.vs t.src.toNat) (gi p.vs t.dst.toNat) = true
  case neg =>
    have g4' : sq t.ok (gi p.vs t.src.toNat) (gi p.vs t.dst.toNat) = false := by simpa using g4
    have E := Lib.hid (tabE_6 g1 g2 g3 (Or.inl g4'))
    replace g4' := Lib.hid g4'
    replace g1 := Lib.hid g1
    clear g4
    go_enter Try.func66, Try.ntmps66
    go_wp2_with (first
      | (go_at_call 85; refine (kind_any _ _ _).mono ?_; rintro e w' ⟨rfl, rfl⟩; rw [g1.out])
      | (go_at_call 65; refine (within_any _ _ _).mono ?_; rintro e w' ⟨rfl, rfl⟩))
    refine wp_region_calm (by kernel_rfl) (by kernel_rfl) ?_
    repeat (go_big_quiet_step (((go_at_call 86; exact calm_b (matrix_eq _ _ _ _ _ _ w.heap.size false (hSz.out _ _ _) (hTo.out _ _ _ _ _ hti.out) m2 g4'.out)))))
    refine wpQuiet_nil ?_
    intro w2 hw2
    have hb2 := Lib.hid (hfin.out _ _ _ (grow_below hw2))
    clear hw2
    go_wp2
    go_ret
    exact ⟨ret_i E.out.symm, hb2.out⟩
  replace g4 := Lib.hid g4
  replace g1 := Lib.hid g1
  by_cases g5 : t.kind = 4
  · have k4 : (t.kind == 4) = true := by rw [beq_iff_eq]; exact g5
    have G5 := Lib.hid g5
    by_cases g6 : sq t.rw (gi p.vs t.src.toNat) (gi p.vs t.src.toNat) = true
    case neg =>
      have g6' : sq t.rw (gi p.vs t.src.toNat) (gi p.vs t.src.toNat) = false := by simpa using g6
      have E := Lib.hid (tabE_6 g1.out g2 g3 (Or.inr (Or.inl ⟨g5, g6'⟩)))
      clear g6 g5
      have g6 := Lib.hid g6'
      clear g6'
      go_enter Try.func66, Try.ntmps66
      go_wp2_with (first
        | (go_at_call 85; refine (kind_any _ _ _).mono ?_; rintro e w' ⟨rfl, rfl⟩; rw [g1.out])
        | (go_at_call 65; refine (within_any _ _ _).mono ?_; rintro e w' ⟨rfl, rfl⟩))
      refine wp_region_calm (by kernel_rfl) (by kernel_rfl) ?_
      repeat (go_big_quiet_step (((go_at_call 86; exact calm_b (matrix_eq _ _ _ _ _ _ w.heap.size _ (hSz.out _ _ _) (by first | (with_reducible exact hTo.out _ _ _ _ _ hti.out) | (with_reducible exact hTo.out _ _ _ _ _ htr.out)) (by first | (with_reducible exact m2) | (with_reducible exact m3)) (by first | (with_reducible exact g4.out) | (with_reducible exact g6.out)))))))
      refine wpQuiet_nil ?_
      intro w2 hw2
      have hgb := grow_below hw2
      have hb2 := Lib.hid (hfin.out _ _ _ hgb)
      clear hw2
      clear hgb
      go_wp2
      go_ret
      exact ⟨ret_i E.out.symm, hb2.out⟩

    have NB : Hid (¬ (sq t.ok (gi p.vs t.src.toNat) (gi p.vs t.dst.toNat) = false ∨ (t.kind = 4 ∧ sq t.rw (gi p.vs t.src.toNat) (gi p.vs t.src.toNat) = false) ∨ (t.kind ≠ 4 ∧ 0 < t.rw.length))) :=
      Lib.hid (by simp [g4.out, g6, g5])
    replace g6 := Lib.hid g6
    clear g5
    go_enter Try.func66, Try.ntmps66
    go_wp2_with (first
      | (go_at_call 85; refine (kind_any _ _ _).mono ?_; rintro e w' ⟨rfl, rfl⟩; rw [g1.out])
      | (go_at_call 65; refine (within_any _ _ _).mono ?_; rintro e w' ⟨rfl, rfl⟩))
    refine wp_region_calm (by kernel_rfl) (by kernel_rfl) ?_
    repeat (go_big_quiet_step (((go_at_call 86; exact calm_b (matrix_eq _ _ _ _ _ _ w.heap.size _ (hSz.out _ _ _) (by first | (with_reducible exact hTo.out _ _ _ _ _ hti.out) | (with_reducible exact hTo.out _ _ _ _ _ htr.out)) (by first | (with_reducible exact m2) | (with_reducible exact m3)) (by first | (with_reducible exact g4.out) | (with_reducible exact g6.out)))))))
    refine wpQuiet_nil ?_
    intro w2 hw2
    have hgb := grow_below hw2
    have hb2 := Lib.hid (hfin.out _ _ _ hgb)
    clear hw2
    have c5 := (hgb.cell (p := ⟨w.heap.size + 1, 5, none⟩) (by simp)).trans (cell_second w _ _ _ 5)
    have hrm := htr.out.below hb2.out
    clear hgb
    simp only [List.getElem?_toArray, List.getElem?_cons_succ, List.getElem?_cons_zero] at c5
    go_wp2
    go_loop [7, 74] (fun _ i => ∃ j : Nat, j ≤ t.rw.length ∧ i = .int .i64 j ∧ ∀ k, k < j → mat t.rw k k = true) (fun _ i => t.rw.length - (intOf i).toNat)
    case atStart => exact ⟨0, Nat.zero_le _, rfl, fun k hk => by omega⟩
    case round =>
      obtain ⟨j, hj, rfl, hall⟩ := hrel
      replace hall := Lib.hid hall
      by_cases hlt : j < t.rw.length
      · obtain ⟨r, h1, h2⟩ := hrm
        obtain ⟨b1, o1, e1, _, hc1⟩ := h1 (by omega)
        have d1 := hc1 j hlt
        have hml : j < mlen t.rw j := by have := (sq_len g6.out).2 j hlt; have := (sq_len g6.out).1; omega
        obtain ⟨b2, o2, e2, _, hc2⟩ := h2 j hlt (by omega)
        have d2 := hc2 j hml
        dsimp only at d1 d2
        rw [e2] at d1
        rw [e1] at c5
        clear h1 h2 hc1 hc2 e1 e2
        by_cases hm : mat t.rw j j = true
        · replace hm := Lib.hid hm
          rw [hm.out] at d2
          go_wp2
          go_round
          case rel => exact ⟨j + 1, by omega, by go_num, fun k hk => by (rcases Nat.lt_succ_iff_lt_or_eq.1 hk with h | h; exact hall.out k h; rw [h]; exact hm.out)⟩
          case measure => simp [intOf]; omega
        · have hm' : mat t.rw j j = false := by simpa using hm
          have E := Lib.hid (tabE_d g1.out g2 g3 NB.out hlt hm')
          rw [hm'] at d2
          clear hm hm'
          go_wp2
          go_ret
          exact ⟨ret_i E.out.symm, hb2.out⟩
      · obtain rfl : j = t.rw.length := by omega
        have E := Lib.hid (tabE_0 g1.out g2 g3 NB.out hall.out)
        go_wp2
        go_ret
        exact ⟨ret_i E.out.symm, hb2.out⟩

  · have k4 : (t.kind == 4) = false := by rw [beq_eq_false_iff_ne]; exact g5
    have g6 : Hid (sq t.rw 0 0 = sq t.rw 0 0) := Lib.hid rfl
    by_cases g7 : 0 < t.rw.length
    · have E := Lib.hid (tabE_6 g1.out g2 g3 (Or.inr (Or.inr ⟨g5, g7⟩)))
      have g8 : decide ((0 : Int) < (t.rw.length : Int)) = true := by rw [decide_eq_true_eq]; omega
      clear g5
      go_enter Try.func66, Try.ntmps66
      go_wp2_with (first
        | (go_at_call 85; refine (kind_any _ _ _).mono ?_; rintro e w' ⟨rfl, rfl⟩; rw [g1.out])
        | (go_at_call 65; refine (within_any _ _ _).mono ?_; rintro e w' ⟨rfl, rfl⟩))
      refine wp_region_calm (by kernel_rfl) (by kernel_rfl) ?_
      repeat (go_big_quiet_step (((go_at_call 86; exact calm_b (matrix_eq qt.okA _ t.ok _ _ _ w.heap.size true (hSz.out _ _ _) (hTo.out _ _ _ _ _ hti.out) m2 g4.out)))))
      refine wpQuiet_nil ?_
      intro w2 hw2
      have hgb := grow_below hw2
      have hb2 := Lib.hid (hfin.out _ _ _ hgb)
      clear hw2
      clear hgb
      go_wp2
      go_ret
      exact ⟨ret_i E.out.symm, hb2.out⟩

    have NB : Hid (¬ (sq t.ok (gi p.vs t.src.toNat) (gi p.vs t.dst.toNat) = false ∨ (t.kind = 4 ∧ sq t.rw (gi p.vs t.src.toNat) (gi p.vs t.src.toNat) = false) ∨ (t.kind ≠ 4 ∧ 0 < t.rw.length))) :=
      Lib.hid (by
        rintro (h | ⟨h, _⟩ | ⟨_, h⟩)
        · rw [g4.out] at h; cases h
        · exact g5 h
        · exact g7 h)
    have g8 : decide ((0 : Int) < (t.rw.length : Int)) = false := by rw [decide_eq_false_iff_not]; omega
    clear g5
    go_enter Try.func66, Try.ntmps66
    go_wp2_with (first
      | (go_at_call 85; refine (kind_any _ _ _).mono ?_; rintro e w' ⟨rfl, rfl⟩; rw [g1.out])
      | (go_at_call 65; refine (within_any _ _ _).mono ?_; rintro e w' ⟨rfl, rfl⟩))
    refine wp_region_calm (by kernel_rfl) (by kernel_rfl) ?_
    repeat (go_big_quiet_step (((go_at_call 86; exact calm_b (matrix_eq qt.okA _ t.ok _ _ _ w.heap.size true (hSz.out _ _ _) (hTo.out _ _ _ _ _ hti.out) m2 g4.out)))))
    refine wpQuiet_nil ?_
    intro w2 hw2
    have hgb := grow_below hw2
    have hb2 := Lib.hid (hfin.out _ _ _ hgb)
    clear hw2
    have c5 := (hgb.cell (p := ⟨w.heap.size + 1, 5, none⟩) (by simp)).trans (cell_second w _ _ _ 5)
    clear hgb
    simp only [List.getElem?_toArray, List.getElem?_cons_succ, List.getElem?_cons_zero] at c5
    go_wp2
    go_loop [7, 74] (fun _ i => i = .int .i64 0) (fun _ _ => 0)
    case atStart => rfl
    case round =>
      obtain rfl := hrel
      have E := Lib.hid (tabE_0 g1.out g2 g3 NB.out (fun i hi => by omega))
      have hz : ¬ (0 : Int) < (t.rw.length : Int) := by omega
      go_wp2
      go_ret
      exact ⟨ret_i E.out.symm, hb2.out⟩
end Go.Proofs.Ytickckehhfdoeaa
