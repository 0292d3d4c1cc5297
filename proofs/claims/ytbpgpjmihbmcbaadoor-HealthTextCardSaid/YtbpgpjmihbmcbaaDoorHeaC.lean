/-
  CONTRACTS of the reference's Same, Outcomes; few; slices.Clone at bool.
  Conditions: those that each theorem names.
-/
import Derived.Test.YtbpgpjmihbmcbaaDoorHeaB
namespace Go.Proofs.YtbpgpjmihbmcbaaDoor
open Go.RowKit Go.Sv

theorem elBool : ElemT Tryd.prog 31 4 (.bool false) 1 1 := ⟨Tryd.underlying31, by kernel_rfl, rfl, by decide⟩
theorem elInt : ElemT Tryd.prog 24 3 (.int .i64 0) 1 8 := ⟨Tryd.underlying24, by kernel_rfl, rfl, by decide⟩
/-- the cells of a list of truth values, in a row -/
def bRow (l : List Bool) : List Value := l.map Value.bool
theorem bRow_snoc (l : List Bool) (b : Bool) : bRow (l ++ [b]) = bRow l ++ [.bool b] := by simp [bRow]
theorem bRow_get {l : List Bool} {k : Nat} (h : k < l.length) : (bRow l)[k]? = some (bv l k) := by simp [bRow, bv, gb, h]
def RBools (w : World) (l : List Bool) (v : Value) (w' : World) : Prop := RArr w l.length (bv l) v w'
/-- the observations that a number's digits say -/
def ob (x : Int) (k : Nat) : Bool := bits BinOp.and IntKind.i64 (x / 2 ^ k) 1 == 1
def outc (x : Int) (n : Nat) : List Bool := (List.range n).map (ob x)
theorem outc_len (x : Int) (n : Nat) : (outc x n).length = n := by simp [outc]
theorem outc_succ (x : Int) (n : Nat) : outc x (n + 1) = outc x n ++ [ob x n] := by simp [outc, List.range_succ]
theorem own_bools {w w' : World} {base : Nat} {v : Value} {l : List Bool} {e : TypeId} (h : w'.ownsRow base e 1 v l.length (bRow l)) (hb : Below w.heap.size w w') : RBools w l v w' :=
  own_RArr h (fun _ hk => bRow_get hk) hb

set_option maxRecDepth 100000 in
theorem outcomes_any (n : Nat) (x : Int) (hn : n ≤ 64) (_hx : 0 ≤ x) (w : World) :
    Calls Tryd.prog 15 #[.int .i64 n, .int .i64 x] w (Ret (RBools w (outc x n))) := by
  go_enter Tryd.func15, Tryd.ntmps15
  go_wp2
  go_loopw [5, 6] (fun v i wr => ∃ k : Nat, k ≤ n ∧ i = .int .i64 k ∧ wr.ownsRow w.heap.size 4 1 v k (bRow (outc x k)) ∧ Below w.heap.size w wr) (fun _ i _ => n - (intOf i).toNat)
  case atStart => exact ⟨0, Nat.zero_le _, rfl, World.ownsRow_nil _ _ _ _, Below.refl _ _⟩
  case round =>
    obtain ⟨k, hk, rfl, hown, hbel⟩ := hrel
    have S : Hid (bRow (outc x (k + 1)) = bRow (outc x k) ++ [.bool (ob x k)]) := Lib.hid (by rw [outc_succ, bRow_snoc])
    have hsz := hbel.size
    by_cases hlt : k < n
    · replace hown := Lib.hid hown
      have i0 : (0 : Int) ≤ k := by omega
      go_wp2_with (at_builtin; refine push_own elBool rfl _ _ rfl w.heap.size _ k (bRow (outc x k)) hown.out rfl _ rfl rfl rfl (by omega) (by omega) hsz ?_)
      intro v' w3 hown3 hgr hb3 hs3 _
      have R : Hid (w3.ownsRow w.heap.size 4 1 v' (k + 1) (bRow (outc x (k + 1)))) := Lib.hid (by rw [S.out]; exact hown3)
      have hb4 := Lib.hid (hbel.trans hb3)
      clear hown3 hgr hb3 hs3
      go_wp2
      go_roundw
      case rel => exact ⟨k + 1, by omega, by go_num, R.out, hb4.out⟩
      case measure => simp [intOf]; omega
    · obtain rfl : k = n := by omega
      have hR : Hid (RBools w (outc x k) _ wr) := Lib.hid (own_bools (v := u5) (by rw [outc_len]; exact hown) hbel)
      clear hown
      go_wp2
      go_ret
      exact Ret.mk hR.out

theorem few_any (t : Tst) (q : TstP) (w : World) (hbd : TBd t) :
    Calls Tryd.prog 20 #[tstV t q] w fun e w' => e = .returned (.bool (decide (t.acc.length ≤ 70 ∧ t.rej.length ≤ 70))) ∧ Below w.heap.size w w' := by
  have hbx : Hid (∀ o : Obj, Below w.heap.size w (w.alloc o)) := Lib.hid fun o => (Below.refl _ _).alloc (Nat.le_refl _) o
  obtain ⟨qa, qc, qb, qd⟩ := q
  have b0 := hbd.b0
  have b1 := hbd.b1
  by_cases c1 : t.acc.length ≤ 70
  · by_cases c2 : t.rej.length ≤ 70
    · have E : Hid (decide (t.acc.length ≤ 70 ∧ t.rej.length ≤ 70) = true) := Lib.hid (decide_eq_true ⟨c1, c2⟩)
      have d1 : decide ((t.acc.length : Int) ≤ 70) = true := decide_eq_true (by omega)
      have d2 : decide ((t.rej.length : Int) ≤ 70) = true := decide_eq_true (by omega)
      clear c1 c2
      go_enter Tryd.func20, Tryd.ntmps20
      go_wp2
      go_ret
      exact ⟨ret_b E.out.symm, hbx.out _⟩
    · have E : Hid (decide (t.acc.length ≤ 70 ∧ t.rej.length ≤ 70) = false) := Lib.hid (by rw [decide_eq_false_iff_not]; omega)
      have d1 : decide ((t.acc.length : Int) ≤ 70) = true := decide_eq_true (by omega)
      have d2 : decide ((t.rej.length : Int) ≤ 70) = false := by rw [decide_eq_false_iff_not]; omega
      clear c1 c2
      go_enter Tryd.func20, Tryd.ntmps20
      go_wp2
      go_ret
      exact ⟨ret_b E.out.symm, hbx.out _⟩
  · have E : Hid (decide (t.acc.length ≤ 70 ∧ t.rej.length ≤ 70) = false) := Lib.hid (by rw [decide_eq_false_iff_not]; omega)
    have d1 : decide ((t.acc.length : Int) ≤ 70) = false := by rw [decide_eq_false_iff_not]; omega
    clear c1
    go_enter Tryd.func20, Tryd.ntmps20
    go_wp2
    go_ret
    exact ⟨ret_b E.out.symm, hbx.out _⟩

theorem tst_ne1 {t u : Tst} (h : t.acc.length ≠ u.acc.length) : decide (t = u) = false := by rw [decide_eq_false_iff_not]; rintro rfl; exact h rfl
theorem tst_ne2 {t u : Tst} (h : t.rej.length ≠ u.rej.length) : decide (t = u) = false := by rw [decide_eq_false_iff_not]; rintro rfl; exact h rfl
theorem tst_ne3 {t u : Tst} {k : Nat} (h : gi t.acc k ≠ gi u.acc k) : decide (t = u) = false := by rw [decide_eq_false_iff_not]; rintro rfl; exact h rfl
theorem tst_ne4 {t u : Tst} {k : Nat} (h : gi t.rej k ≠ gi u.rej k) : decide (t = u) = false := by rw [decide_eq_false_iff_not]; rintro rfl; exact h rfl
theorem tst_eq {t u : Tst} (h1 : t.acc.length = u.acc.length) (h2 : t.rej.length = u.rej.length) (h3 : ∀ k, k < t.acc.length → gi t.acc k = gi u.acc k) (h4 : ∀ k, k < t.rej.length → gi t.rej k = gi u.rej k) : decide (t = u) = true := by
  rw [decide_eq_true_iff]
  cases t; cases u
  simp only [Tst.mk.injEq]
  exact ⟨gi_ext h1 h3, gi_ext h2 h4⟩

set_option maxHeartbeats 1000000 in
theorem same_any (t u : Tst) (q r : TstP) (w : World) (h : RTst w w.heap.size t q) (h' : RTst w w.heap.size u r) (hbd : TBd t) (hbd' : TBd u) :
    Calls Tryd.prog 14 #[tstV t q, tstV u r] w fun e w' => e = .returned (.bool (decide (t = u))) ∧ Below w.heap.size w w' := by
  have hbx : Hid (∀ o o' : Obj, Below w.heap.size w ((w.alloc o).alloc o')) := Lib.hid fun o o' => ((Below.refl _ _).alloc (Nat.le_refl _) o).alloc (by simp) o'
  obtain ⟨qa, qc, qb, qd⟩ := q
  obtain ⟨ra, rc, rb, rd⟩ := r
  have b0 := hbd.b0
  have b1 := hbd.b1
  have b2 := hbd'.b0
  have b3 := hbd'.b1
  have h0 := Lib.hid h.r0
  have h1 := Lib.hid h.r1
  have h2 := Lib.hid h'.r0
  have h3 := Lib.hid h'.r1
  dsimp only at h0 h1 h2 h3
  clear h h'
  by_cases g1 : t.acc.length = u.acc.length
  case neg =>
    rw [tst_ne1 g1]
    have d : ((t.acc.length : Int) != (u.acc.length : Int)) = true := by rw [bne_iff_ne]; omega
    clear g1
    go_enter Tryd.func14, Tryd.ntmps14
    go_wp2
    go_ret
    exact ⟨rfl, hbx.out _ _⟩
  have d1 : ((t.acc.length : Int) != (u.acc.length : Int)) = false := by rw [bne_eq_false_iff_eq]; omega
  by_cases g2 : t.rej.length = u.rej.length
  case neg =>
    rw [tst_ne2 g2]
    have d : ((t.rej.length : Int) != (u.rej.length : Int)) = true := by rw [bne_iff_ne]; omega
    clear g1 g2
    go_enter Tryd.func14, Tryd.ntmps14
    go_wp2
    go_ret
    exact ⟨rfl, hbx.out _ _⟩
  have d2 : ((t.rej.length : Int) != (u.rej.length : Int)) = false := by rw [bne_eq_false_iff_eq]; omega
  have G1 := Lib.hid g1
  have G2 := Lib.hid g2
  clear g1 g2
  go_enter Tryd.func14, Tryd.ntmps14
  go_wp2
  go_loopw [5] (fun i wr => ∃ k : Nat, k ≤ t.acc.length ∧ i = .int .i64 k ∧ (∀ j, j < k → gi t.acc j = gi u.acc j) ∧
    Drawn ((w.alloc (.cells #[.slice qa t.acc.length qc, .slice qb t.rej.length qd] 26)).alloc (.cells #[.slice ra u.acc.length rc, .slice rb u.rej.length rd] 26)) wr) (fun i _ => t.acc.length - (intOf i).toNat)
  case atStart => exact ⟨0, Nat.zero_le _, rfl, fun j hj => by omega, Drawn.refl _⟩
  case round =>
    obtain ⟨k, hk, rfl, hall, m, rfl⟩ := hrel
    replace hall := Lib.hid hall
    by_cases hlt : k < t.acc.length
    · have hlt2 : k < u.acc.length := by have := G1.out; omega
      obtain ⟨ba, oa, rfl, hba, hca⟩ := h0.out (by omega)
      obtain ⟨bb, ob, rfl, hbb, hcb⟩ := h2.out (by omega)
      have da := hca k hlt
      have db := hcb k hlt2
      unfold iv at da db
      clear hca hcb
      by_cases c : gi t.acc k = gi u.acc k
      · have c' : (gi t.acc k != gi u.acc k) = false := by rw [bne_eq_false_iff_eq]; exact c
        replace c := Lib.hid c
        go_wp2
        go_big_quiet (fail)
        go_wp2
        go_roundw
        case rel => exact ⟨k + 1, by omega, by go_num, fun j hj => by (rcases Nat.lt_succ_iff_lt_or_eq.1 hj with h | h; exact hall.out j h; rw [h]; exact c.out), Drawn.of _⟩
        case measure => simp [intOf]; omega
      · have c' : (gi t.acc k != gi u.acc k) = true := by rw [bne_iff_ne]; exact c
        have E := Lib.hid (tst_ne3 c)
        clear c
        go_wp2
        go_big_quiet (fail)
        go_wp2
        go_ret
        exact ⟨ret_b E.out.symm, Below.drawn (hbx.out _ _) ((Drawn.of _).drewN _)⟩
    · obtain rfl : k = t.acc.length := by omega
      go_wp2
      go_loopw [6] (fun i wr => ∃ k : Nat, k ≤ t.rej.length ∧ i = .int .i64 k ∧ (∀ j, j < k → gi t.rej j = gi u.rej j) ∧
        Drawn ((w.alloc (.cells #[.slice qa t.acc.length qc, .slice qb t.rej.length qd] 26)).alloc (.cells #[.slice ra u.acc.length rc, .slice rb u.rej.length rd] 26)) wr) (fun i _ => t.rej.length - (intOf i).toNat)
      case atStart => exact ⟨0, Nat.zero_le _, rfl, fun j hj => by omega, Drawn.of _⟩
      case round =>
        obtain ⟨k, hk, rfl, hall2, m2, rfl⟩ := hrel
        replace hall2 := Lib.hid hall2
        by_cases hlt : k < t.rej.length
        · have hlt2 : k < u.rej.length := by have := G2.out; omega
          obtain ⟨ba, oa, rfl, hba, hca⟩ := h1.out (by omega)
          obtain ⟨bb, ob, rfl, hbb, hcb⟩ := h3.out (by omega)
          have da := hca k hlt
          have db := hcb k hlt2
          unfold iv at da db
          clear hca hcb
          by_cases c : gi t.rej k = gi u.rej k
          · have c' : (gi t.rej k != gi u.rej k) = false := by rw [bne_eq_false_iff_eq]; exact c
            replace c := Lib.hid c
            go_wp2
            go_big_quiet (fail)
            go_wp2
            go_roundw
            case rel => exact ⟨k + 1, by omega, by go_num, fun j hj => by (rcases Nat.lt_succ_iff_lt_or_eq.1 hj with h | h; exact hall2.out j h; rw [h]; exact c.out), Drawn.of _⟩
            case measure => simp [intOf]; omega
          · have c' : (gi t.rej k != gi u.rej k) = true := by rw [bne_iff_ne]; exact c
            have E := Lib.hid (tst_ne4 c)
            clear c
            go_wp2
            go_big_quiet (fail)
            go_wp2
            go_ret
            exact ⟨ret_b E.out.symm, Below.drawn (hbx.out _ _) ((Drawn.of _).drewN _)⟩
        · obtain rfl : k = t.rej.length := by omega
          have E := Lib.hid (tst_eq G1.out G2.out hall.out hall2.out)
          go_wp2
          go_ret
          exact ⟨ret_b E.out.symm, Below.drawn (hbx.out _ _) (Drawn.of _)⟩
end Go.Proofs.YtbpgpjmihbmcbaaDoor
