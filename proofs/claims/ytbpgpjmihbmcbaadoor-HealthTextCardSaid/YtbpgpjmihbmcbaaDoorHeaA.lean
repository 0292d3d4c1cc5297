/-
  CONTRACTS of Valid, at, Verdict, few, of both texts.
  Conditions: those that each theorem names.
-/
import Derived.Test.YtbpgpjmihbmcbaaDoorHeaP
import Derived.Test.YtbpgpjmihbmcbaaDoorChecked
import Derived.IntWalk
namespace Go.Proofs.YtbpgpjmihbmcbaaDoor
open Go.RowKit Go.Sv

theorem valid_any (t : Tst) (q : TstP) (w : World) (h : RTst w w.heap.size t q) (hbd : TBd t) :
    Calls Tryd.prog 19 #[tstV t q] w fun e w' => e = .returned (.int .i64 (validE t)) ∧ Below w.heap.size w w' := by
  obtain ⟨qa, qc, qb, qd⟩ := q
  have hbx : Hid (∀ o : Obj, Below w.heap.size w (w.alloc o)) := Lib.hid fun o => (Below.refl _ _).alloc (Nat.le_refl _) o
  have b0 := hbd.b0
  have b1 := hbd.b1
  by_cases g0 : t.acc.length = 0
  · rw [validE_10 g0]
    have z : ((t.acc.length : Int) == 0) = true := by rw [beq_iff_eq]; omega
    clear g0
    replace h := Lib.hid h
    go_enter Tryd.func19, Tryd.ntmps19
    go_wp2
    go_ret
    exact ⟨rfl, hbx.out _⟩
  have z0 : ((t.acc.length : Int) == 0) = false := by rw [beq_eq_false_iff_ne]; omega
  by_cases g1 : 64 < t.acc.length
  · rw [validE_3 g1]
    clear g0
    replace h := Lib.hid h
    go_enter Tryd.func19, Tryd.ntmps19
    go_wp2
    go_ret
    exact ⟨rfl, hbx.out _⟩
  have z1 : decide ((64 : Int) < (t.acc.length : Int)) = false := by rw [decide_eq_false_iff_not]; omega
  by_cases g2 : t.rej.length = t.acc.length
  case neg =>
    rw [validE_6 ⟨by omega, by omega⟩ g2]
    have z2 : ((t.rej.length : Int) != (t.acc.length : Int)) = true := by rw [bne_iff_ne]; omega
    clear g0 g1 g2
    replace h := Lib.hid h
    go_enter Tryd.func19, Tryd.ntmps19
    go_wp2
    go_ret
    exact ⟨rfl, hbx.out _⟩
  have z2 : ((t.rej.length : Int) != (t.acc.length : Int)) = false := by rw [bne_eq_false_iff_eq]; omega
  have G0 := Lib.hid (show 0 < t.acc.length ∧ t.acc.length ≤ 64 from ⟨by omega, by omega⟩)
  have G2 := Lib.hid g2
  obtain ⟨ba, oa, ea, hba, hca⟩ := h.r0 (by omega)
  obtain ⟨bb, ob, eb, hbb, hcb⟩ := h.r1 (by omega)
  dsimp only at ea eb
  subst ea eb
  replace hca := Lib.hid hca
  replace hcb := Lib.hid hcb
  clear h g1 g2 g0
  go_enter Tryd.func19, Tryd.ntmps19
  go_wp2
  go_loop [25] (fun i => ∃ k : Nat, k ≤ t.acc.length ∧ i = .int .i64 k ∧ ∀ j, j < k → ¬ vBad t j) (fun i => t.acc.length - (intOf i).toNat)
  case atStart => exact ⟨0, Nat.zero_le _, rfl, fun j hj => by omega⟩
  case round =>
    obtain ⟨k, hk, rfl, hall⟩ := hrel
    replace hall := Lib.hid hall
    have nn := G0.out
    by_cases hlt : k < t.acc.length
    · have da := hca.out k hlt
      have hlt2 : k < t.rej.length := by have := G2.out; omega
      have db := hcb.out k hlt2
      unfold iv at da db
      have wr : IntKind.i64.wrap ((k : Int) + 2) = (k : Int) + 2 := IntWalk.i64_in _ (by omega)
      by_cases c1 : gi t.acc k < -1
      · have E := Lib.hid (validE_b G0.out G2.out hlt (Or.inl c1))
        have d : decide (gi t.acc k < -1) = true := decide_eq_true c1
        clear c1
        go_wp2
        go_ret
        exact ⟨ret_i E.out.symm, hbx.out _⟩
      have d1 : decide (gi t.acc k < -1) = false := by rw [decide_eq_false_iff_not]; omega
      by_cases c2 : gi t.rej k ≤ gi t.acc k
      · have E := Lib.hid (validE_b G0.out G2.out hlt (Or.inr (Or.inl c2)))
        have d : decide (gi t.rej k ≤ gi t.acc k) = true := decide_eq_true c2
        clear c2
        go_wp2
        go_ret
        exact ⟨ret_i E.out.symm, hbx.out _⟩
      have d2 : decide (gi t.rej k ≤ gi t.acc k) = false := by rw [decide_eq_false_iff_not]; omega
      by_cases c3 : (k : Int) + 2 < gi t.rej k
      · have E := Lib.hid (validE_b G0.out G2.out hlt (Or.inr (Or.inr c3)))
        have d : decide ((k : Int) + 2 < gi t.rej k) = true := decide_eq_true c3
        clear c3
        go_wp2
        go_ret
        exact ⟨ret_i E.out.symm, hbx.out _⟩
      have d3 : decide ((k : Int) + 2 < gi t.rej k) = false := by rw [decide_eq_false_iff_not]; omega
      have hk1 : Hid (¬ vBad t k) := Lib.hid (by unfold vBad; omega)
      clear c1 c2 c3
      go_wp2
      go_round
      case rel => exact ⟨k + 1, by omega, by go_num, fun j hj => by (rcases Nat.lt_succ_iff_lt_or_eq.1 hj with h | h; exact hall.out j h; rw [h]; exact hk1.out)⟩
      case measure => simp [intOf]; omega
    · obtain rfl : k = t.acc.length := by omega
      have da := hca.out (t.acc.length - 1) (by omega)
      have db := hcb.out (t.acc.length - 1) (by have := G2.out; omega)
      unfold iv at da db
      have e1 : ((t.acc.length : Int) - 1).toNat = t.acc.length - 1 := by omega
      have i0 : (0 : Int) ≤ (t.acc.length : Int) - 1 := by omega
      have i1 : (t.acc.length : Int) - 1 < (t.acc.length : Int) := by omega
      have i2 : (t.acc.length : Int) - 1 < (t.rej.length : Int) := by have := G2.out; omega
      have nb := hall.out (t.acc.length - 1) (by omega)
      unfold vBad at nb
      have wr : IntKind.i64.wrap (gi t.acc (t.acc.length - 1) + 1) = gi t.acc (t.acc.length - 1) + 1 := IntWalk.i64_in _ (by omega)
      clear nb
      by_cases c : gi t.acc (t.acc.length - 1) + 1 = gi t.rej (t.acc.length - 1)
      · have E := Lib.hid (validE_0 G0.out G2.out hall.out c)
        have c' : (gi t.acc (t.acc.length - 1) + 1 != gi t.rej (t.acc.length - 1)) = false := by rw [bne_eq_false_iff_eq]; exact c
        clear c nn
        go_wp2
        go_big_quiet (fail)
        go_wp2
        go_ret
        exact ⟨ret_i E.out.symm, Below.drawn (hbx.out _) (Drawn.of _)⟩
      · have E := Lib.hid (validE_l G0.out G2.out hall.out c)
        have c' : (gi t.acc (t.acc.length - 1) + 1 != gi t.rej (t.acc.length - 1)) = true := by rw [bne_iff_ne]; exact c
        clear c nn
        go_wp2
        go_big_quiet (fail)
        go_wp2
        go_ret
        exact ⟨ret_i E.out.symm, Below.drawn (hbx.out _) (Drawn.of _)⟩

theorem rvalid_any (t : Tst) (q : TstP) (w : World) (h : RTst w w.heap.size t q) (hbd : TBd t) :
    Calls Tryd.prog 21 #[tstV t q] w fun e w' => e = .returned (.int .i64 (validE t)) ∧ Below w.heap.size w w' := by
  obtain ⟨qa, qc, qb, qd⟩ := q
  have hbx : Hid (∀ o : Obj, Below w.heap.size w (w.alloc o)) := Lib.hid fun o => (Below.refl _ _).alloc (Nat.le_refl _) o
  have b0 := hbd.b0
  have b1 := hbd.b1
  by_cases g0 : t.acc.length = 0
  · rw [validE_10 g0]
    have z : ((t.acc.length : Int) == 0) = true := by rw [beq_iff_eq]; omega
    clear g0
    replace h := Lib.hid h
    go_enter Tryd.func21, Tryd.ntmps21
    go_wp2
    go_ret
    exact ⟨rfl, hbx.out _⟩
  have z0 : ((t.acc.length : Int) == 0) = false := by rw [beq_eq_false_iff_ne]; omega
  by_cases g1 : 64 < t.acc.length
  · rw [validE_3 g1]
    clear g0
    replace h := Lib.hid h
    go_enter Tryd.func21, Tryd.ntmps21
    go_wp2
    go_ret
    exact ⟨rfl, hbx.out _⟩
  have z1 : decide ((64 : Int) < (t.acc.length : Int)) = false := by rw [decide_eq_false_iff_not]; omega
  by_cases g2 : t.rej.length = t.acc.length
  case neg =>
    rw [validE_6 ⟨by omega, by omega⟩ g2]
    have z2 : ((t.rej.length : Int) != (t.acc.length : Int)) = true := by rw [bne_iff_ne]; omega
    clear g0 g1 g2
    replace h := Lib.hid h
    go_enter Tryd.func21, Tryd.ntmps21
    go_wp2
    go_ret
    exact ⟨rfl, hbx.out _⟩
  have z2 : ((t.rej.length : Int) != (t.acc.length : Int)) = false := by rw [bne_eq_false_iff_eq]; omega
  have G0 := Lib.hid (show 0 < t.acc.length ∧ t.acc.length ≤ 64 from ⟨by omega, by omega⟩)
  have G2 := Lib.hid g2
  obtain ⟨ba, oa, ea, hba, hca⟩ := h.r0 (by omega)
  obtain ⟨bb, ob, eb, hbb, hcb⟩ := h.r1 (by omega)
  dsimp only at ea eb
  subst ea eb
  replace hca := Lib.hid hca
  replace hcb := Lib.hid hcb
  clear h g1 g2 g0
  go_enter Tryd.func21, Tryd.ntmps21
  go_wp2
  go_loopw [4] (fun i wr => ∃ k : Nat, k ≤ t.acc.length ∧ i = .int .i64 k ∧ (∀ j, j < k → ¬ vBad t j) ∧ Drawn (w.alloc (.cells #[.slice (some ⟨ba, oa, none⟩) t.acc.length qc, .slice (some ⟨bb, ob, none⟩) t.rej.length qd] 26)) wr) (fun i _ => t.acc.length - (intOf i).toNat)
  case atStart => exact ⟨0, Nat.zero_le _, rfl, fun j hj => by omega, Drawn.refl _⟩
  case round =>
    obtain ⟨k, hk, rfl, hall, m, rfl⟩ := hrel
    replace hall := Lib.hid hall
    have nn := G0.out
    by_cases hlt : k < t.acc.length
    · have da := hca.out k hlt
      have hlt2 : k < t.rej.length := by have := G2.out; omega
      have db := hcb.out k hlt2
      unfold iv at da db
      have wr : IntKind.i64.wrap ((k : Int) + 2) = (k : Int) + 2 := IntWalk.i64_in _ (by omega)
      by_cases c1 : gi t.acc k < -1
      · have E := Lib.hid (validE_b G0.out G2.out hlt (Or.inl c1))
        have d : decide (gi t.acc k < -1) = true := decide_eq_true c1
        clear c1
        go_wp2
        go_big_quiet (fail)
        go_wp2
        go_ret
        exact ⟨ret_i E.out.symm, Below.drawn (hbx.out _) ((Drawn.of _).drewN _)⟩
      have d1 : decide (gi t.acc k < -1) = false := by rw [decide_eq_false_iff_not]; omega
      by_cases c2 : gi t.rej k ≤ gi t.acc k
      · have E := Lib.hid (validE_b G0.out G2.out hlt (Or.inr (Or.inl c2)))
        have d : decide (gi t.rej k ≤ gi t.acc k) = true := decide_eq_true c2
        clear c2
        go_wp2
        go_big_quiet (fail)
        go_wp2
        go_ret
        exact ⟨ret_i E.out.symm, Below.drawn (hbx.out _) ((Drawn.of _).drewN _)⟩
      have d2 : decide (gi t.rej k ≤ gi t.acc k) = false := by rw [decide_eq_false_iff_not]; omega
      by_cases c3 : (k : Int) + 2 < gi t.rej k
      · have E := Lib.hid (validE_b G0.out G2.out hlt (Or.inr (Or.inr c3)))
        have d : decide ((k : Int) + 2 < gi t.rej k) = true := decide_eq_true c3
        clear c3
        go_wp2
        go_big_quiet (fail)
        go_wp2
        go_ret
        exact ⟨ret_i E.out.symm, Below.drawn (hbx.out _) ((Drawn.of _).drewN _)⟩
      have d3 : decide ((k : Int) + 2 < gi t.rej k) = false := by rw [decide_eq_false_iff_not]; omega
      have hk1 : Hid (¬ vBad t k) := Lib.hid (by unfold vBad; omega)
      clear c1 c2 c3
      go_wp2
      go_big_quiet (fail)
      go_wp2
      go_roundw
      case rel => exact ⟨k + 1, by omega, by go_num, fun j hj => by (rcases Nat.lt_succ_iff_lt_or_eq.1 hj with h | h; exact hall.out j h; rw [h]; exact hk1.out), Drawn.of _⟩
      case measure => simp [intOf]; omega
    · obtain rfl : k = t.acc.length := by omega
      have da := hca.out (t.acc.length - 1) (by omega)
      have db := hcb.out (t.acc.length - 1) (by have := G2.out; omega)
      unfold iv at da db
      have e1 : ((t.acc.length : Int) - 1).toNat = t.acc.length - 1 := by omega
      have i0 : (0 : Int) ≤ (t.acc.length : Int) - 1 := by omega
      have i1 : (t.acc.length : Int) - 1 < (t.acc.length : Int) := by omega
      have i2 : (t.acc.length : Int) - 1 < (t.rej.length : Int) := by have := G2.out; omega
      have nb := hall.out (t.acc.length - 1) (by omega)
      unfold vBad at nb
      have wr : IntKind.i64.wrap (gi t.acc (t.acc.length - 1) + 1) = gi t.acc (t.acc.length - 1) + 1 := IntWalk.i64_in _ (by omega)
      clear nb
      by_cases c : gi t.acc (t.acc.length - 1) + 1 = gi t.rej (t.acc.length - 1)
      · have E := Lib.hid (validE_0 G0.out G2.out hall.out c)
        have c' : (gi t.acc (t.acc.length - 1) + 1 != gi t.rej (t.acc.length - 1)) = false := by rw [bne_eq_false_iff_eq]; exact c
        clear c nn
        go_wp2
        go_big_quiet (fail)
        go_wp2
        go_ret
        exact ⟨ret_i E.out.symm, Below.drawn (hbx.out _) ((Drawn.of _).drewN _)⟩
      · have E := Lib.hid (validE_l G0.out G2.out hall.out c)
        have c' : (gi t.acc (t.acc.length - 1) + 1 != gi t.rej (t.acc.length - 1)) = true := by rw [bne_iff_ne]; exact c
        clear c nn
        go_wp2
        go_big_quiet (fail)
        go_wp2
        go_ret
        exact ⟨ret_i E.out.symm, Below.drawn (hbx.out _) ((Drawn.of _).drewN _)⟩

theorem at_any (t : Tst) (q : TstP) (n : Nat) (f : Int) (w : World) (h : RTst w w.heap.size t q) (hbd : TBd t) (h0 : 0 < n) (h1 : n ≤ t.acc.length) (h2 : n ≤ t.rej.length) :
    Calls Tryd.prog 32 #[tstV t q, .int .i64 n, .int .i64 f] w fun e w' => e = .returned (.int .i64 (atV t n f)) ∧ Below w.heap.size w w' := by
  obtain ⟨qa, qc, qb, qd⟩ := q
  have hbx : Hid (∀ o : Obj, Below w.heap.size w (w.alloc o)) := Lib.hid fun o => (Below.refl _ _).alloc (Nat.le_refl _) o
  have b0 := hbd.b0
  have b1 := hbd.b1
  obtain ⟨ba, oa, ea, hba, hca⟩ := h.r0 (by omega)
  obtain ⟨bb, ob, eb, hbb, hcb⟩ := h.r1 (by omega)
  dsimp only at ea eb
  subst ea eb
  have da := hca (n - 1) (by omega)
  have db := hcb (n - 1) (by omega)
  unfold iv at da db
  have e1 : ((n : Int) - 1).toNat = n - 1 := by omega
  have i0 : (0 : Int) ≤ (n : Int) - 1 := by omega
  have i1 : (n : Int) - 1 < (t.acc.length : Int) := by omega
  have i2 : (n : Int) - 1 < (t.rej.length : Int) := by omega
  clear hca hcb h
  by_cases c1 : f ≤ gi t.acc (n - 1)
  · have E : Hid (atV t n f = 1) := Lib.hid (by unfold atV; rw [if_pos c1])
    have d : decide (f ≤ gi t.acc (n - 1)) = true := decide_eq_true c1
    clear c1
    go_enter Tryd.func32, Tryd.ntmps32
    go_wp2
    go_ret
    exact ⟨ret_i E.out.symm, hbx.out _⟩
  have d1 : decide (f ≤ gi t.acc (n - 1)) = false := by rw [decide_eq_false_iff_not]; omega
  by_cases c2 : gi t.rej (n - 1) ≤ f
  · have E : Hid (atV t n f = 2) := Lib.hid (by unfold atV; rw [if_neg c1, if_pos c2])
    have d : decide (gi t.rej (n - 1) ≤ f) = true := decide_eq_true c2
    clear c1 c2
    go_enter Tryd.func32, Tryd.ntmps32
    go_wp2
    go_ret
    exact ⟨ret_i E.out.symm, hbx.out _⟩
  · have E : Hid (atV t n f = 0) := Lib.hid (by unfold atV; rw [if_neg c1, if_neg c2])
    have d : decide (gi t.rej (n - 1) ≤ f) = false := by rw [decide_eq_false_iff_not]; omega
    clear c1 c2
    go_enter Tryd.func32, Tryd.ntmps32
    go_wp2
    go_ret
    exact ⟨ret_i E.out.symm, hbx.out _⟩

theorem rat_any (t : Tst) (q : TstP) (n : Nat) (f : Int) (w : World) (h : RTst w w.heap.size t q) (hbd : TBd t) (h0 : 0 < n) (h1 : n ≤ t.acc.length) (h2 : n ≤ t.rej.length) :
    Calls Tryd.prog 36 #[tstV t q, .int .i64 n, .int .i64 f] w fun e w' => e = .returned (.int .i64 (atV t n f)) ∧ Below w.heap.size w w' := by
  obtain ⟨qa, qc, qb, qd⟩ := q
  have hbx : Hid (∀ o : Obj, Below w.heap.size w (w.alloc o)) := Lib.hid fun o => (Below.refl _ _).alloc (Nat.le_refl _) o
  have b0 := hbd.b0
  have b1 := hbd.b1
  obtain ⟨ba, oa, ea, hba, hca⟩ := h.r0 (by omega)
  obtain ⟨bb, ob, eb, hbb, hcb⟩ := h.r1 (by omega)
  dsimp only at ea eb
  subst ea eb
  have da := hca (n - 1) (by omega)
  have db := hcb (n - 1) (by omega)
  unfold iv at da db
  have e1 : ((n : Int) - 1).toNat = n - 1 := by omega
  have i0 : (0 : Int) ≤ (n : Int) - 1 := by omega
  have i1 : (n : Int) - 1 < (t.acc.length : Int) := by omega
  have i2 : (n : Int) - 1 < (t.rej.length : Int) := by omega
  clear hca hcb h
  by_cases c1 : f ≤ gi t.acc (n - 1)
  · have E : Hid (atV t n f = 1) := Lib.hid (by unfold atV; rw [if_pos c1])
    have d : decide (f ≤ gi t.acc (n - 1)) = true := decide_eq_true c1
    clear c1
    go_enter Tryd.func36, Tryd.ntmps36
    go_wp2
    go_ret
    exact ⟨ret_i E.out.symm, hbx.out _⟩
  have d1 : decide (f ≤ gi t.acc (n - 1)) = false := by rw [decide_eq_false_iff_not]; omega
  by_cases c2 : gi t.rej (n - 1) ≤ f
  · have E : Hid (atV t n f = 2) := Lib.hid (by unfold atV; rw [if_neg c1, if_pos c2])
    have d : decide (gi t.rej (n - 1) ≤ f) = true := decide_eq_true c2
    clear c1 c2
    go_enter Tryd.func36, Tryd.ntmps36
    go_wp2
    go_ret
    exact ⟨ret_i E.out.symm, hbx.out _⟩
  · have E : Hid (atV t n f = 0) := Lib.hid (by unfold atV; rw [if_neg c1, if_neg c2])
    have d : decide (gi t.rej (n - 1) ≤ f) = false := by rw [decide_eq_false_iff_not]; omega
    clear c1 c2
    go_enter Tryd.func36, Tryd.ntmps36
    go_wp2
    go_ret
    exact ⟨ret_i E.out.symm, hbx.out _⟩

theorem verdict_any (t : Tst) (q : TstP) (n f : Int) (w : World) (h : RTst w w.heap.size t q) (hbd : TBd t) :
    Calls Tryd.prog 25 #[tstV t q, .int .i64 n, .int .i64 f] w fun e w' => e = .returned (.tuple #[.int .i64 (verdV t n f), .int .i64 (verdE t n f)]) ∧ Below w.heap.size w w' := by
  obtain ⟨qa, qc, qb, qd⟩ := q
  have hbx : Hid (∀ o : Obj, Below w.heap.size w (w.alloc o)) := Lib.hid fun o => (Below.refl _ _).alloc (Nat.le_refl _) o
  have hv : Hid (∀ o : Obj, Calls Tryd.prog 19 #[tstV t ⟨qa, qc, qb, qd⟩] (w.alloc o) fun e w' => e = .returned (.int .i64 (validE t)) ∧ Below (w.alloc o).heap.size (w.alloc o) w') :=
    Lib.hid fun o => valid_any t ⟨qa, qc, qb, qd⟩ _ (h.to (hbx.out o)) hbd
  replace h := Lib.hid h
  have b0 := hbd.b0
  by_cases g : validE t = 0
  case neg =>
    have E1 : Hid (verdV t n f = 0) := Lib.hid (verdV_no (by rw [verdE_v g]; exact g))
    have E2 : Hid (verdE t n f = validE t) := Lib.hid (verdE_v g)
    have hx : (validE t != 0) = true := by rw [bne_iff_ne]; exact g
    clear g
    go_enter Tryd.func25, Tryd.ntmps25
    go_wp2_with fail
    refine (hv.out _).mono ?_
    rintro e w1 ⟨rfl, hb1⟩
    have hfin := Lib.hid (below_of (hbx.out _) (hbx.out _).size hb1)
    clear hb1
    go_wp2
    go_ret2
    exact ⟨ret_2 (val_i E1.out.symm) (val_i E2.out.symm), hfin.out⟩
  have vl := validE_vld g
  have G := Lib.hid g
  have hx : (validE t != 0) = false := by rw [bne_eq_false_iff_eq]; exact g
  have hn1 := vl.n1
  have hl := Lib.hid vl.len
  replace vl := Lib.hid vl
  by_cases c : n < 1 ∨ (t.acc.length : Int) < n ∨ f < 0 ∨ n < f
  · have E1 : Hid (verdV t n f = 0) := Lib.hid (verdV_no (by rw [verdE_7 g c]; omega))
    have E2 : Hid (verdE t n f = 7) := Lib.hid (verdE_7 g c)
    have d : (decide (n < 1) || (decide ((t.acc.length : Int) < n) || (decide (f < 0) || decide (n < f)))) = true := by simpa using c
    clear g
    by_cases c1 : n < 1
    · have d1 : decide (n < 1) = true := decide_eq_true c1
      clear c d c1
      go_enter Tryd.func25, Tryd.ntmps25
      go_wp2_with fail
      refine (hv.out _).mono ?_
      rintro e w1 ⟨rfl, hb1⟩
      obtain ⟨z, y0, y1⟩ := (TBox.new (q := ⟨qa, qc, qb, qd⟩)).to hb1
      have hfin := Lib.hid (below_of (hbx.out _) (hbx.out _).size hb1)
      dsimp only at y0 y1
      clear hb1
      go_wp2
      go_ret2
      exact ⟨ret_2 (val_i E1.out.symm) (val_i E2.out.symm), hfin.out⟩
    have d1 : decide (n < 1) = false := by rw [decide_eq_false_iff_not]; exact c1
    by_cases c2 : (t.acc.length : Int) < n
    · have d2 : decide ((t.acc.length : Int) < n) = true := decide_eq_true c2
      clear c d c1 c2
      go_enter Tryd.func25, Tryd.ntmps25
      go_wp2_with fail
      refine (hv.out _).mono ?_
      rintro e w1 ⟨rfl, hb1⟩
      obtain ⟨z, y0, y1⟩ := (TBox.new (q := ⟨qa, qc, qb, qd⟩)).to hb1
      have hfin := Lib.hid (below_of (hbx.out _) (hbx.out _).size hb1)
      dsimp only at y0 y1
      clear hb1
      go_wp2
      go_ret2
      exact ⟨ret_2 (val_i E1.out.symm) (val_i E2.out.symm), hfin.out⟩
    have d2 : decide ((t.acc.length : Int) < n) = false := by rw [decide_eq_false_iff_not]; exact c2
    by_cases c3 : f < 0
    · have d3 : decide (f < 0) = true := decide_eq_true c3
      clear c d c1 c2 c3
      go_enter Tryd.func25, Tryd.ntmps25
      go_wp2_with fail
      refine (hv.out _).mono ?_
      rintro e w1 ⟨rfl, hb1⟩
      obtain ⟨z, y0, y1⟩ := (TBox.new (q := ⟨qa, qc, qb, qd⟩)).to hb1
      have hfin := Lib.hid (below_of (hbx.out _) (hbx.out _).size hb1)
      dsimp only at y0 y1
      clear hb1
      go_wp2
      go_ret2
      exact ⟨ret_2 (val_i E1.out.symm) (val_i E2.out.symm), hfin.out⟩
    have d3 : decide (f < 0) = false := by rw [decide_eq_false_iff_not]; exact c3
    have c4 : n < f := by omega
    have d4 : decide (n < f) = true := decide_eq_true c4
    clear c d c1 c2 c3 c4
    go_enter Tryd.func25, Tryd.ntmps25
    go_wp2_with fail
    refine (hv.out _).mono ?_
    rintro e w1 ⟨rfl, hb1⟩
    obtain ⟨z, y0, y1⟩ := (TBox.new (q := ⟨qa, qc, qb, qd⟩)).to hb1
    have hfin := Lib.hid (below_of (hbx.out _) (hbx.out _).size hb1)
    dsimp only at y0 y1
    clear hb1
    go_wp2
    go_ret2
    exact ⟨ret_2 (val_i E1.out.symm) (val_i E2.out.symm), hfin.out⟩
  · have hn : ∃ k : Nat, n = k ∧ 0 < k ∧ k ≤ t.acc.length := ⟨n.toNat, by omega, by omega, by omega⟩
    obtain ⟨k, rfl, hk0, hk1⟩ := hn
    have E1 : Hid (verdV t k f = atV t k f) := Lib.hid (verdV_ok (verdE_0 g c))
    have E2 : Hid (verdE t k f = 0) := Lib.hid (verdE_0 g c)
    have d1 : decide ((k : Int) < 1) = false := by rw [decide_eq_false_iff_not]; omega
    have d2 : decide (t.acc.length < k) = false := by rw [decide_eq_false_iff_not]; omega
    have d3 : decide (f < 0) = false := by rw [decide_eq_false_iff_not]; omega
    have d4 : decide ((k : Int) < f) = false := by rw [decide_eq_false_iff_not]; omega
    have hat : Hid (∀ W, Below w.heap.size w W → Calls Tryd.prog 32 #[tstV t ⟨qa, qc, qb, qd⟩, .int .i64 k, .int .i64 f] W fun e w' => e = .returned (.int .i64 (atV t k f)) ∧ Below W.heap.size W w') :=
      Lib.hid fun W hW => at_any t ⟨qa, qc, qb, qd⟩ k f W (h.out.to hW) hbd hk0 hk1 (by have := hl.out; omega)
    clear c g
    go_enter Tryd.func25, Tryd.ntmps25
    go_wp2_with fail
    refine (hv.out _).mono ?_
    rintro e w1 ⟨rfl, hb1⟩
    obtain ⟨z, y0, y1⟩ := (TBox.new (q := ⟨qa, qc, qb, qd⟩)).to hb1
    have hb2 := below_of (hbx.out _) (hbx.out _).size hb1
    dsimp only at y0 y1
    clear hb1
    go_wp2_with fail
    refine (hat.out _ hb2).mono ?_
    rintro e w2 ⟨rfl, hb3⟩
    have hfin := Lib.hid (below_of hb2 hb2.size hb3)
    go_wp2
    go_ret2
    exact ⟨ret_2 (val_i E1.out.symm) (val_i E2.out.symm), hfin.out⟩

theorem rverdict_any (t : Tst) (q : TstP) (n f : Int) (w : World) (h : RTst w w.heap.size t q) (hbd : TBd t) :
    Calls Tryd.prog 26 #[tstV t q, .int .i64 n, .int .i64 f] w fun e w' => e = .returned (.tuple #[.int .i64 (verdV t n f), .int .i64 (verdE t n f)]) ∧ Below w.heap.size w w' := by
  obtain ⟨qa, qc, qb, qd⟩ := q
  have hbx : Hid (∀ o : Obj, Below w.heap.size w (w.alloc o)) := Lib.hid fun o => (Below.refl _ _).alloc (Nat.le_refl _) o
  have hv : Hid (∀ o : Obj, Calls Tryd.prog 21 #[tstV t ⟨qa, qc, qb, qd⟩] (w.alloc o) fun e w' => e = .returned (.int .i64 (validE t)) ∧ Below (w.alloc o).heap.size (w.alloc o) w') :=
    Lib.hid fun o => rvalid_any t ⟨qa, qc, qb, qd⟩ _ (h.to (hbx.out o)) hbd
  replace h := Lib.hid h
  have b0 := hbd.b0
  by_cases g : validE t = 0
  case neg =>
    have E1 : Hid (verdV t n f = 0) := Lib.hid (verdV_no (by rw [verdE_v g]; exact g))
    have E2 : Hid (verdE t n f = validE t) := Lib.hid (verdE_v g)
    have hx : (validE t != 0) = true := by rw [bne_iff_ne]; exact g
    clear g
    go_enter Tryd.func26, Tryd.ntmps26
    go_wp2_with fail
    refine (hv.out _).mono ?_
    rintro e w1 ⟨rfl, hb1⟩
    have hfin := Lib.hid (below_of (hbx.out _) (hbx.out _).size hb1)
    clear hb1
    go_wp2
    go_ret2
    exact ⟨ret_2 (val_i E1.out.symm) (val_i E2.out.symm), hfin.out⟩
  have vl := validE_vld g
  have G := Lib.hid g
  have hx : (validE t != 0) = false := by rw [bne_eq_false_iff_eq]; exact g
  have hn1 := vl.n1
  have hl := Lib.hid vl.len
  replace vl := Lib.hid vl
  by_cases c : n < 1 ∨ (t.acc.length : Int) < n ∨ f < 0 ∨ n < f
  · have E1 : Hid (verdV t n f = 0) := Lib.hid (verdV_no (by rw [verdE_7 g c]; omega))
    have E2 : Hid (verdE t n f = 7) := Lib.hid (verdE_7 g c)
    have d : (decide (n < 1) || (decide ((t.acc.length : Int) < n) || (decide (f < 0) || decide (n < f)))) = true := by simpa using c
    clear g
    by_cases c1 : n < 1
    · have d1 : decide (n < 1) = true := decide_eq_true c1
      clear c d c1
      go_enter Tryd.func26, Tryd.ntmps26
      go_wp2_with fail
      refine (hv.out _).mono ?_
      rintro e w1 ⟨rfl, hb1⟩
      obtain ⟨z, y0, y1⟩ := (TBox.new (q := ⟨qa, qc, qb, qd⟩)).to hb1
      have hfin := Lib.hid (below_of (hbx.out _) (hbx.out _).size hb1)
      dsimp only at y0 y1
      clear hb1
      go_wp2
      go_ret2
      exact ⟨ret_2 (val_i E1.out.symm) (val_i E2.out.symm), hfin.out⟩
    have d1 : decide (n < 1) = false := by rw [decide_eq_false_iff_not]; exact c1
    by_cases c2 : (t.acc.length : Int) < n
    · have d2 : decide ((t.acc.length : Int) < n) = true := decide_eq_true c2
      clear c d c1 c2
      go_enter Tryd.func26, Tryd.ntmps26
      go_wp2_with fail
      refine (hv.out _).mono ?_
      rintro e w1 ⟨rfl, hb1⟩
      obtain ⟨z, y0, y1⟩ := (TBox.new (q := ⟨qa, qc, qb, qd⟩)).to hb1
      have hfin := Lib.hid (below_of (hbx.out _) (hbx.out _).size hb1)
      dsimp only at y0 y1
      clear hb1
      go_wp2
      go_ret2
      exact ⟨ret_2 (val_i E1.out.symm) (val_i E2.out.symm), hfin.out⟩
    have d2 : decide ((t.acc.length : Int) < n) = false := by rw [decide_eq_false_iff_not]; exact c2
    by_cases c3 : f < 0
    · have d3 : decide (f < 0) = true := decide_eq_true c3
      clear c d c1 c2 c3
      go_enter Tryd.func26, Tryd.ntmps26
      go_wp2_with fail
      refine (hv.out _).mono ?_
      rintro e w1 ⟨rfl, hb1⟩
      obtain ⟨z, y0, y1⟩ := (TBox.new (q := ⟨qa, qc, qb, qd⟩)).to hb1
      have hfin := Lib.hid (below_of (hbx.out _) (hbx.out _).size hb1)
      dsimp only at y0 y1
      clear hb1
      go_wp2
      go_ret2
      exact ⟨ret_2 (val_i E1.out.symm) (val_i E2.out.symm), hfin.out⟩
    have d3 : decide (f < 0) = false := by rw [decide_eq_false_iff_not]; exact c3
    have c4 : n < f := by omega
    have d4 : decide (n < f) = true := decide_eq_true c4
    clear c d c1 c2 c3 c4
    go_enter Tryd.func26, Tryd.ntmps26
    go_wp2_with fail
    refine (hv.out _).mono ?_
    rintro e w1 ⟨rfl, hb1⟩
    obtain ⟨z, y0, y1⟩ := (TBox.new (q := ⟨qa, qc, qb, qd⟩)).to hb1
    have hfin := Lib.hid (below_of (hbx.out _) (hbx.out _).size hb1)
    dsimp only at y0 y1
    clear hb1
    go_wp2
    go_ret2
    exact ⟨ret_2 (val_i E1.out.symm) (val_i E2.out.symm), hfin.out⟩
  · have hn : ∃ k : Nat, n = k ∧ 0 < k ∧ k ≤ t.acc.length := ⟨n.toNat, by omega, by omega, by omega⟩
    obtain ⟨k, rfl, hk0, hk1⟩ := hn
    have E1 : Hid (verdV t k f = atV t k f) := Lib.hid (verdV_ok (verdE_0 g c))
    have E2 : Hid (verdE t k f = 0) := Lib.hid (verdE_0 g c)
    have d1 : decide ((k : Int) < 1) = false := by rw [decide_eq_false_iff_not]; omega
    have d2 : decide (t.acc.length < k) = false := by rw [decide_eq_false_iff_not]; omega
    have d3 : decide (f < 0) = false := by rw [decide_eq_false_iff_not]; omega
    have d4 : decide ((k : Int) < f) = false := by rw [decide_eq_false_iff_not]; omega
    have hat : Hid (∀ W, Below w.heap.size w W → Calls Tryd.prog 36 #[tstV t ⟨qa, qc, qb, qd⟩, .int .i64 k, .int .i64 f] W fun e w' => e = .returned (.int .i64 (atV t k f)) ∧ Below W.heap.size W w') :=
      Lib.hid fun W hW => rat_any t ⟨qa, qc, qb, qd⟩ k f W (h.out.to hW) hbd hk0 hk1 (by have := hl.out; omega)
    clear c g
    go_enter Tryd.func26, Tryd.ntmps26
    go_wp2_with fail
    refine (hv.out _).mono ?_
    rintro e w1 ⟨rfl, hb1⟩
    obtain ⟨z, y0, y1⟩ := (TBox.new (q := ⟨qa, qc, qb, qd⟩)).to hb1
    have hb2 := below_of (hbx.out _) (hbx.out _).size hb1
    dsimp only at y0 y1
    clear hb1
    go_wp2_with fail
    refine (hat.out _ hb2).mono ?_
    rintro e w2 ⟨rfl, hb3⟩
    have hfin := Lib.hid (below_of hb2 hb2.size hb3)
    go_wp2
    go_ret2
    exact ⟨ret_2 (val_i E1.out.symm) (val_i E2.out.symm), hfin.out⟩

end Go.Proofs.YtbpgpjmihbmcbaaDoor
