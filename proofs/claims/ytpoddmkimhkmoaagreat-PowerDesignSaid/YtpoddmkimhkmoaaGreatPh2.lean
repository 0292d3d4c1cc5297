/-
  CONTRACTS of the reference's Same, Outcomes; few; slices.Clone at bool.
  Conditions: those that each theorem names.
-/
import Derived.Test.YtpoddmkimhkmoaaGreatPh1
import Derived.Test.YtpoddmkimhkmoaaGreatTwo
import Derived.StillTailTactics
import Derived.Deep.RegionHeld3
namespace Go.Proofs.YtpoddmkimhkmoaaGreat
open Go.RowKit Go.Sv

theorem elBool : ElemT Tryz.prog 105 4 (.bool false) 1 1 := ⟨Tryz.underlying105, by kernel_rfl, rfl, by decide⟩
theorem elInt : ElemT Tryz.prog 30 3 (.int .i64 0) 1 8 := ⟨Tryz.underlying30, by kernel_rfl, rfl, by decide⟩
/-- the cells of a list of truth values, in a row -/
def bRow (l : List Bool) : List Value := l.map Value.bool
theorem bRow_snoc (l : List Bool) (b : Bool) : bRow (l ++ [b]) = bRow l ++ [.bool b] := by simp [bRow]
theorem bRow_get {l : List Bool} {k : Nat} (h : k < l.length) : (bRow l)[k]? = some (bv l k) := by simp [bRow, bv, gb, h]
def RBools (w : World) (l : List Bool) (v : Value) (w' : World) : Prop := RArr w l.length (bv l) v w'
/-- the observations that a number's digits say -/
def ob (x : Int) (k : Nat) : Bool := bits BinOp.and IntKind.i64 (x / 2 ^ k) 1 == 1
def outc (x : Int) (n : Nat) : List Bool := (List.range n).map (ob x)
theorem outc_len (x : Int) (n : Nat) : (outc x n).length = n := by simp [outc]
theorem outc_succ (x : Int) (n : Nat) : outc x (n + 1) = outc x n ++ [ob x n] := by simp [outc, List.range_succ]
theorem own_bools {w w' : World} {base : Nat} {v : Value} {l : List Bool} {e : TypeId} (h : w'.ownsRow base e 1 v l.length (bRow l)) (hb : Below w.heap.size w w') : RBools w l v w' :=
  own_RArr h (fun _ hk => bRow_get hk) hb

set_option maxRecDepth 100000 in
theorem outcomes_any (n : Nat) (x : Int) (hn : n ≤ 64) (_hx : 0 ≤ x) (w : World) :
    Calls Tryz.prog 81 #[.int .i64 n, .int .i64 x] w (Ret (RBools w (outc x n))) := by
  go_enter Tryz.func81, Tryz.ntmps81
  go_wp2
  go_loopw [5, 6] (fun v i wr => ∃ k : Nat, k ≤ n ∧ i = .int .i64 k ∧ wr.ownsRow w.heap.size 4 1 v k (bRow (outc x k)) ∧ Below w.heap.size w wr) (fun _ i _ => n - (intOf i).toNat)
  case atStart => exact ⟨0, Nat.zero_le _, rfl, World.ownsRow_nil _ _ _ _, Below.refl _ _⟩
  case round =>
    obtain ⟨k, hk, rfl, hown, hbel⟩ := hrel
    have S : Hid (bRow (outc x (k + 1)) = bRow (outc x k) ++ [.bool (ob x k)]) := Lib.hid (by rw [outc_succ, bRow_snoc])
    have hsz := hbel.size
    by_cases hlt : k < n
    · replace hown := Lib.hid hown
      have i0 : (0 : Int) ≤ k := by omega
      go_wp2_with (at_builtin; refine push_own elBool rfl _ _ rfl w.heap.size _ k (bRow (outc x k)) hown.out rfl _ rfl rfl rfl (by omega) (by omega) hsz ?_)
      intro v' w3 hown3 hgr hb3 hs3 _
      have R : Hid (w3.ownsRow w.heap.size 4 1 v' (k + 1) (bRow (outc x (k + 1)))) := Lib.hid (by rw [S.out]; exact hown3)
      have hb4 := Lib.hid (hbel.trans hb3)
      clear hown3 hgr hb3 hs3
      go_wp2
      go_roundw
      case rel => exact ⟨k + 1, by omega, by go_num, R.out, hb4.out⟩
      case measure => simp [intOf]; omega
    · obtain rfl : k = n := by omega
      have hR : Hid (RBools w (outc x k) _ wr) := Lib.hid (own_bools (v := u5) (by rw [outc_len]; exact hown) hbel)
      clear hown
      go_wp2
      go_ret
      exact Ret.mk hR.out


theorem tst_ne1 {t u : Tst} (h : t.acc.length ≠ u.acc.length) : decide (t = u) = false := by rw [decide_eq_false_iff_not]; rintro rfl; exact h rfl
theorem tst_ne2 {t u : Tst} (h : t.rej.length ≠ u.rej.length) : decide (t = u) = false := by rw [decide_eq_false_iff_not]; rintro rfl; exact h rfl
theorem tst_ne3 {t u : Tst} {k : Nat} (h : gi t.acc k ≠ gi u.acc k) : decide (t = u) = false := by rw [decide_eq_false_iff_not]; rintro rfl; exact h rfl
theorem tst_ne4 {t u : Tst} {k : Nat} (h : gi t.rej k ≠ gi u.rej k) : decide (t = u) = false := by rw [decide_eq_false_iff_not]; rintro rfl; exact h rfl
theorem tst_eq {t u : Tst} (h1 : t.acc.length = u.acc.length) (h2 : t.rej.length = u.rej.length) (h3 : ∀ k, k < t.acc.length → gi t.acc k = gi u.acc k) (h4 : ∀ k, k < t.rej.length → gi t.rej k = gi u.rej k) : decide (t = u) = true := by
  rw [decide_eq_true_iff]
  cases t; cases u
  simp only [Tst.mk.injEq]
  exact ⟨gi_ext h1 h3, gi_ext h2 h4⟩

set_option maxHeartbeats 1000000 in
theorem hsame_any (t u : Tst) (q r : TstP) (w : World) (h : RTst w w.heap.size t q) (h' : RTst w w.heap.size u r) (hbd : TBd t) (hbd' : TBd u) :
    Calls Tryz.prog 9 #[tstV t q, tstV u r] w fun e w' => e = .returned (.bool (decide (t = u))) ∧ Below w.heap.size w w' := by
  have hbx : Hid (∀ o o' : Obj, Below w.heap.size w ((w.alloc o).alloc o')) := Lib.hid fun o o' => ((Below.refl _ _).alloc (Nat.le_refl _) o).alloc (by simp) o'
  obtain ⟨qa, qc, qb, qd⟩ := q
  obtain ⟨ra, rc, rb, rd⟩ := r
  have b0 := hbd.b0
  have b1 := hbd.b1
  have b2 := hbd'.b0
  have b3 := hbd'.b1
  have h0 := Lib.hid h.r0
  have h1 := Lib.hid h.r1
  have h2 := Lib.hid h'.r0
  have h3 := Lib.hid h'.r1
  dsimp only at h0 h1 h2 h3
  clear h h'
  by_cases g1 : t.acc.length = u.acc.length
  case neg =>
    rw [tst_ne1 g1]
    have d : ((t.acc.length : Int) != (u.acc.length : Int)) = true := by rw [bne_iff_ne]; omega
    clear g1
    go_enter Tryz.func9, Tryz.ntmps9
    go_wp2
    go_ret
    exact ⟨rfl, hbx.out _ _⟩
  have d1 : ((t.acc.length : Int) != (u.acc.length : Int)) = false := by rw [bne_eq_false_iff_eq]; omega
  by_cases g2 : t.rej.length = u.rej.length
  case neg =>
    rw [tst_ne2 g2]
    have d : ((t.rej.length : Int) != (u.rej.length : Int)) = true := by rw [bne_iff_ne]; omega
    clear g1 g2
    go_enter Tryz.func9, Tryz.ntmps9
    go_wp2
    go_ret
    exact ⟨rfl, hbx.out _ _⟩
  have d2 : ((t.rej.length : Int) != (u.rej.length : Int)) = false := by rw [bne_eq_false_iff_eq]; omega
  have G1 := Lib.hid g1
  have G2 := Lib.hid g2
  clear g1 g2
  go_enter Tryz.func9, Tryz.ntmps9
  go_wp2
  go_loopw [5] (fun i wr => ∃ k : Nat, k ≤ t.acc.length ∧ i = .int .i64 k ∧ (∀ j, j < k → gi t.acc j = gi u.acc j) ∧
    Drawn ((w.alloc (.cells #[.slice qa t.acc.length qc, .slice qb t.rej.length qd] 32)).alloc (.cells #[.slice ra u.acc.length rc, .slice rb u.rej.length rd] 32)) wr) (fun i _ => t.acc.length - (intOf i).toNat)
  case atStart => exact ⟨0, Nat.zero_le _, rfl, fun j hj => by omega, Drawn.refl _⟩
  case round =>
    obtain ⟨k, hk, rfl, hall, m, rfl⟩ := hrel
    replace hall := Lib.hid hall
    by_cases hlt : k < t.acc.length
    · have hlt2 : k < u.acc.length := by have := G1.out; omega
      obtain ⟨ba, oa, rfl, hba, hca⟩ := h0.out (by omega)
      obtain ⟨bb, ob, rfl, hbb, hcb⟩ := h2.out (by omega)
      have da := hca k hlt
      have db := hcb k hlt2
      unfold iv at da db
      clear hca hcb
      by_cases c : gi t.acc k = gi u.acc k
      · have c' : (gi t.acc k != gi u.acc k) = false := by rw [bne_eq_false_iff_eq]; exact c
        replace c := Lib.hid c
        go_wp2
        go_big_quiet (fail)
        go_wp2
        go_roundw
        case rel => exact ⟨k + 1, by omega, by go_num, fun j hj => by (rcases Nat.lt_succ_iff_lt_or_eq.1 hj with h | h; exact hall.out j h; rw [h]; exact c.out), Drawn.of _⟩
        case measure => simp [intOf]; omega
      · have c' : (gi t.acc k != gi u.acc k) = true := by rw [bne_iff_ne]; exact c
        have E := Lib.hid (tst_ne3 c)
        clear c
        go_wp2
        go_big_quiet (fail)
        go_wp2
        go_ret
        exact ⟨ret_b E.out.symm, Below.drawn (hbx.out _ _) ((Drawn.of _).drewN _)⟩
    · obtain rfl : k = t.acc.length := by omega
      go_wp2
      go_loopw [6] (fun i wr => ∃ k : Nat, k ≤ t.rej.length ∧ i = .int .i64 k ∧ (∀ j, j < k → gi t.rej j = gi u.rej j) ∧
        Drawn ((w.alloc (.cells #[.slice qa t.acc.length qc, .slice qb t.rej.length qd] 32)).alloc (.cells #[.slice ra u.acc.length rc, .slice rb u.rej.length rd] 32)) wr) (fun i _ => t.rej.length - (intOf i).toNat)
      case atStart => exact ⟨0, Nat.zero_le _, rfl, fun j hj => by omega, Drawn.of _⟩
      case round =>
        obtain ⟨k, hk, rfl, hall2, m2, rfl⟩ := hrel
        replace hall2 := Lib.hid hall2
        by_cases hlt : k < t.rej.length
        · have hlt2 : k < u.rej.length := by have := G2.out; omega
          obtain ⟨ba, oa, rfl, hba, hca⟩ := h1.out (by omega)
          obtain ⟨bb, ob, rfl, hbb, hcb⟩ := h3.out (by omega)
          have da := hca k hlt
          have db := hcb k hlt2
          unfold iv at da db
          clear hca hcb
          by_cases c : gi t.rej k = gi u.rej k
          · have c' : (gi t.rej k != gi u.rej k) = false := by rw [bne_eq_false_iff_eq]; exact c
            replace c := Lib.hid c
            go_wp2
            go_big_quiet (fail)
            go_wp2
            go_roundw
            case rel => exact ⟨k + 1, by omega, by go_num, fun j hj => by (rcases Nat.lt_succ_iff_lt_or_eq.1 hj with h | h; exact hall2.out j h; rw [h]; exact c.out), Drawn.of _⟩
            case measure => simp [intOf]; omega
          · have c' : (gi t.rej k != gi u.rej k) = true := by rw [bne_iff_ne]; exact c
            have E := Lib.hid (tst_ne4 c)
            clear c
            go_wp2
            go_big_quiet (fail)
            go_wp2
            go_ret
            exact ⟨ret_b E.out.symm, Below.drawn (hbx.out _ _) ((Drawn.of _).drewN _)⟩
        · obtain rfl : k = t.rej.length := by omega
          have E := Lib.hid (tst_eq G1.out G2.out hall.out hall2.out)
          go_wp2
          go_ret
          exact ⟨ret_b E.out.symm, Below.drawn (hbx.out _ _) (Drawn.of _)⟩
end Go.Proofs.YtpoddmkimhkmoaaGreat

namespace Go.Sv
open Go.RowKit

section
variable {P : Program} {ops : Array Oper} {Q : Exit → Act → World → Prop}

theorem wpAny_more {md : Region.Mode} : ∀ (f : Nat) (listed : Array Bool) (a : Act) (w : World), wpAny P md ops Q f listed a w → wpAny P md ops Q (f + 1) listed a w
  | 0, _, _, _, h => ⟨fun _ => h.2, fun i hi => by rw [h.1] at hi; cases hi⟩
  | f + 1, _, _, _, h => ⟨h.1, fun i hi => wpOp_mono (fun a' w' => wpAny_more f _ a' w') (h.2 i hi)⟩
theorem wpAny_le {md : Region.Mode} {f : Nat} {listed : Array Bool} {a : Act} {w : World} (h : wpAny P md ops Q f listed a w) : ∀ g, wpAny P md ops Q (f + g) listed a w
  | 0 => h
  | g + 1 => wpAny_more _ _ _ _ (wpAny_le h g)

/-- a and b agree but for the slots D -/
structure Agree (D : List Nat) (a b : Act) : Prop where
  defers : b.defers = a.defers
  size : b.tmps.size = a.tmps.size
  same : ∀ k, k ∉ D → b.tmps[k]? = a.tmps[k]?
theorem Agree.refl (D : List Nat) (a : Act) : Agree D a a := ⟨rfl, rfl, fun _ _ => rfl⟩
theorem Agree.put {D : List Nat} {a b : Act} (h : Agree D a b) {d : Nat} (hd : d ∈ D) (v : Value) : Agree D a (b.put (some d) v) :=
  ⟨h.defers, by simp [Act.put, h.size], fun k hk => by
    have hne : d ≠ k := by rintro rfl; exact hk hd
    simp only [Act.put, Array.getElem?_setIfInBounds, if_neg hne]
    exact h.same k hk⟩
theorem Agree.eval {D : List Nat} {a b : Act} (h : Agree D a b) {k : Nat} (hk : k ∉ D) : b.eval (.tmp k) = a.eval (.tmp k) := by
  have e := h.same k hk
  unfold Act.eval
  simp only [Array.getD_eq_getD_getElem?, e]
theorem eval_put_same {a : Act} {d : Nat} {v : Value} (hd : d < a.tmps.size) : (a.put (some d) v).eval (.tmp d) = v := by
  simp [Act.put, Act.eval, hd]
theorem eval_put_ne {a : Act} {d k : Nat} {v : Value} (hd : d ≠ k) : (a.put (some d) v).eval (.tmp k) = a.eval (.tmp k) := by
  simp only [Act.put, Act.eval, Array.getD_eq_getD_getElem?, Array.getElem?_setIfInBounds, if_neg hd]
/-- the frame written out -/
theorem Agree.puts : ∀ {D : List Nat} {a b : Act}, Agree D a b → b = D.foldl (fun c d => c.put (some d) (b.eval (.tmp d))) a := by
  intro D a b h
  show b = D.foldl (fun c d => c.put (some d) (b.tmps.getD d undef)) a
  have key : ∀ (E : List Nat) (c : Act), Agree E c b → b = E.foldl (fun c d => c.put (some d) (b.tmps.getD d undef)) c := by
    intro E
    induction E with
    | nil =>
      intro c hc
      cases b; cases c
      have h1 := hc.defers
      have h2 : _ = _ := Array.ext_getElem? (fun k => hc.same k (by simp))
      simp only at h1 h2
      simp [h1, h2]
    | cons d E ih =>
      intro c hc
      rw [List.foldl_cons]
      refine ih _ ⟨hc.defers, by simp [Act.put, hc.size], fun k hk => ?_⟩
      by_cases e : k = d
      · subst e
        simp only [Act.put, Array.getElem?_setIfInBounds, if_true]
        have hs := hc.size
        by_cases hlt : k < c.tmps.size
        · simp [hlt, hs]
        · simp [hlt]; omega
      · have hne : d ≠ k := fun e' => e e'.symm
        simp only [Act.put, Array.getElem?_setIfInBounds, if_neg hne]
        exact hc.same k (by simp [e, hk])
  exact key D a h
end
end Go.Sv
namespace Go.Sv
open Go.RowKit
section
variable {P : Program} {ops : Array Oper} {Q : Exit → Act → World → Prop}

theorem wpOp_of {i : Nat} {o : Oper} {K : Act → World → Prop} {a : Act} {w : World} (hi : ops[i]? = some o) (hg : o.guard = none) (h : o.wp P a w K Q) : wpOp P ops Q i K a w := by
  unfold wpOp
  simp only [hi]
  have hw : Region.wanted o (yielded ops a.tmps) = true := by simp [Region.wanted, hg]
  rw [if_pos hw]
  exact Or.inl h
theorem waits_listed {md : Region.Mode} {i j : Nat} {listed : Array Bool} (hw : Region.waitsFor md ops j i = true) (hr : j ∈ Region.ready md ops listed) : listed.getD i true = true := by
  obtain ⟨oj, hoj, e, he, hb, hon⟩ := Region.waitsFor_spec hw
  obtain ⟨_, o', ho', hall⟩ := mem_ready.1 hr
  have : o' = oj := Option.some.inj (ho'.symm.trans hoj)
  subst this
  have h := hall e he hb
  rw [hon] at h
  cases hx : listed.getD i true with
  | true => rfl
  | false => rw [getD_both hx] at h; cases h
theorem ready_un {md : Region.Mode} {j : Nat} {listed : Array Bool} (hr : j ∈ Region.ready md ops listed) : listed.getD j true = false := (mem_ready.1 hr).1
theorem set_get {listed : Array Bool} {i j : Nat} (h : (listed.setIfInBounds i true).getD j true = false) : j ≠ i ∧ listed.getD j true = false := by
  by_cases e : i = j
  · subst e
    by_cases hs : i < listed.size <;> simp [hs] at h
  · rw [getD_set_ne true e] at h
    exact ⟨fun e' => e e'.symm, h⟩
theorem set_same {listed : Array Bool} {i : Nat} : (listed.setIfInBounds i true).getD i true = true := by
  by_cases hs : i < listed.size <;> simp [hs]

structure Pair2 where
  iL : Bool → Nat
  iB : Bool → Nat
  dL : Bool → Nat
  dB : Bool → Nat
  iA : Bool → Nat
  dA : Bool → Nat
  iF : Nat
  dF : Nat
abbrev Pair2.D (X : Pair2) : List Nat := [X.dL false, X.dB false, X.dA false, X.dL true, X.dB true, X.dA true, X.dF]
def two_ {α : Type} (x y : α) (c : Bool) : α := match c with
  | false => x
  | true => y

/-- the state of one chain -/
structure Chain (X : Pair2) (c : Bool) (H0 : Nat) (v r : Value) (n m : Nat) (xs ys : List Value) (u : Value) (listed : Array Bool) (a : Act) (w : World) : Prop where
  l : listed.getD (X.iL c) true = true → a.eval (.tmp (X.dL c)) = v
  bb : listed.getD (X.iB c) true = true → listed.getD (X.iA c) true = false → ∃ B, a.eval (.tmp (X.dB c)) = .slice (some ⟨B, 0, none⟩) 1 1 ∧ w.cell? ⟨B, 0, none⟩ = some u ∧ H0 ≤ B
  done : listed.getD (X.iA c) true = true → a.eval (.tmp (X.dA c)) = r ∧ m = n + 1 ∧ ys = xs ++ [u]
  todo : listed.getD (X.iA c) true = false → r = v ∧ m = n ∧ ys = xs
/-- one chain is let alone -/
theorem Chain.keep {X : Pair2} {c : Bool} {H0 : Nat} {v r : Value} {n m : Nat} {xs ys : List Value} {u : Value} {listed : Array Bool} {a a' : Act} {w w' : World} {i : Nat} (h : Chain X c H0 v r n m xs ys u listed a w)
    (h1 : i ≠ X.iL c) (h2 : i ≠ X.iB c) (h3 : i ≠ X.iA c) (e1 : a'.eval (.tmp (X.dL c)) = a.eval (.tmp (X.dL c))) (e2 : a'.eval (.tmp (X.dB c)) = a.eval (.tmp (X.dB c))) (e3 : a'.eval (.tmp (X.dA c)) = a.eval (.tmp (X.dA c)))
    (hc : ∀ B u, H0 ≤ B → w.cell? ⟨B, 0, none⟩ = some u → listed.getD (X.iA c) true = false → w'.cell? ⟨B, 0, none⟩ = some u) : Chain X c H0 v r n m xs ys u (listed.setIfInBounds i true) a' w' := by
  refine ⟨fun k => ?_, fun k k' => ?_, fun k => ?_, fun k => ?_⟩
  · rw [getD_set_ne true h1] at k
    rw [e1]; exact h.l k
  · rw [getD_set_ne true h2] at k
    rw [getD_set_ne true h3] at k'
    obtain ⟨B, q1, q2, q3⟩ := h.bb k k'
    exact ⟨B, e2.trans q1, hc B u q3 q2 k', q3⟩
  · rw [getD_set_ne true h3] at k
    rw [e3]; exact h.done k
  · rw [getD_set_ne true h3] at k
    exact h.todo k

abbrev Pair2.J (X : Pair2) : List Nat := [X.iL false, X.iB false, X.iA false, X.iL true, X.iB true, X.iA true, X.iF]
def unl (listed : Array Bool) (j : Nat) : Bool := !listed.getD j true
theorem count_set {listed : Array Bool} {i : Nat} : ∀ {l : List Nat}, i ∈ l → listed.getD i true = false → l.countP (unl (listed.setIfInBounds i true)) < l.countP (unl listed)
  | [], h, _ => by cases h
  | j :: l, h, hu => by
    have hle : ∀ l : List Nat, l.countP (unl (listed.setIfInBounds i true)) ≤ l.countP (unl listed) := fun l =>
      List.countP_mono_left fun k _ hk => by
        unfold unl at hk ⊢
        have : (listed.setIfInBounds i true).getD k true = false := by simpa using hk
        simp [(set_get this).2]
    rw [List.countP_cons, List.countP_cons]
    rcases List.mem_cons.1 h with e | e
    · subst e
      have h1 : unl (listed.setIfInBounds i true) i = false := by unfold unl; rw [set_same]; rfl
      have h2 : unl listed i = true := by unfold unl; rw [hu]; rfl
      rw [h1, h2]
      have := hle l
      simp; omega
    · have := count_set e hu
      have h3 : (if unl (listed.setIfInBounds i true) j = true then 1 else 0) ≤ (if unl listed j = true then 1 else 0) := by
        cases hx : unl (listed.setIfInBounds i true) j with
        | false => simp
        | true =>
          have : (listed.setIfInBounds i true).getD j true = false := by unfold unl at hx; simpa using hx
          have : unl listed j = true := by unfold unl; rw [(set_get this).2]; rfl
          simp [this]
      omega
/-- each of the operations J waits for earlier ones of J, and for what is listed, alone -/
def edgesB (ops : Array Oper) (l0 : Array Bool) (J : List Nat) : Bool :=
  (List.range J.length).all fun p => match ops[J.getD p 0]? with
    | none => false
    | some o => o.guard.isNone && o.after.all fun e => !Region.binds .any e || l0.getD e.on false || (J.take p).contains e.on
theorem ready_some {l0 listed : Array Bool} {J : List Nat} (hB : edgesB ops l0 J = true) (hk : ∀ j, l0.getD j false = true → listed.getD j false = true) (hsz : ∀ j ∈ J, j < listed.size)
    (hex : ∃ j ∈ J, listed.getD j true = false) : Region.ready .any ops listed ≠ [] := by
  obtain ⟨p, hp, hpu, hpa⟩ : ∃ p, p < J.length ∧ listed.getD (J.getD p 0) true = false ∧ ∀ q, q < p → listed.getD (J.getD q 0) true = true := by
    obtain ⟨j, hj, hju⟩ := hex
    obtain ⟨p, hp, rfl⟩ := List.mem_iff_getElem.1 hj
    have hj' : listed.getD (J.getD p 0) true = false := by simpa [hp] using hju
    clear hju hj
    induction p using Nat.strongRecOn with
    | _ p ih =>
      by_cases c : ∃ q, q < p ∧ listed.getD (J.getD q 0) true = false
      · obtain ⟨q, hq, hqu⟩ := c
        exact ih q hq (by omega) hqu
      · refine ⟨p, hp, hj', fun q hq => ?_⟩
        cases hx : listed.getD (J.getD q 0) true with
        | true => rfl
        | false => exact absurd ⟨q, hq, hx⟩ c
  have h1 := List.all_eq_true.1 hB p (List.mem_range.2 hp)
  intro hnil
  cases ho : ops[J.getD p 0]? with
  | none => rw [ho] at h1; cases h1
  | some o =>
    rw [ho] at h1
    simp only [Bool.and_eq_true] at h1
    have hmem : J.getD p 0 ∈ Region.ready .any ops listed := mem_ready.2 ⟨hpu, o, ho, fun e he hb => by
      have h2 := Array.all_eq_true'.1 h1.2 e he
      rw [hb] at h2
      simp only [Bool.not_true, Bool.false_or, Bool.or_eq_true] at h2
      rcases h2 with h2 | h2
      · exact hk _ h2
      · have h3 : e.on ∈ J.take p := by simpa using h2
        obtain ⟨q, hq, hqe⟩ := List.mem_iff_getElem.1 h3
        have hq2 : q < p ∧ q < J.length := by simp at hq; omega
        have h4 := hpa q hq2.1
        have h5 : J.getD q 0 = e.on := by simp [hq2.2]; rw [← hqe]; simp
        rw [h5] at h4
        have h6 : e.on < listed.size := hsz _ (by rw [← h5]; simp [hq2.2])
        simpa [h6] using h4⟩
    rw [hnil] at hmem
    cases hmem
end
end Go.Sv
namespace Go.Sv
open Go.RowKit
section
variable {P : Program} {ops : Array Oper} {Q : Exit → Act → World → Prop}
/-- what is known of the region's operations -/
structure Two8 (P : Program) (ops : Array Oper) (Q : Exit → Act → World → Prop) (X : Pair2) (T : List Nat) (tail : List Oper) (l0 lF : Array Bool) (a0 : Act) (t e : TypeId) (b : Nat) (v1 v2 u1 u2 ptr : Value) : Prop where
  nd : X.D.Nodup
  lt : ∀ d ∈ X.D, d < a0.tmps.size
  jd : X.J.Nodup
  jT : ∀ j ∈ X.J, j ∉ T
  js : ∀ j ∈ X.J, j < l0.size
  ed : edgesB ops l0 X.J = true
  wA : ∀ c, Region.waitsFor .any ops (X.iA c) (X.iL c) = true ∧ Region.waitsFor .any ops (X.iA c) (X.iB c) = true
  wAA : Region.waitsFor .any ops (X.iA true) (X.iA false) = true
  wT : ∀ j ∈ T, (Region.waitsFor .any ops j X.iF = true ∧ Region.waitsFor .any ops j (X.iA true) = true) ∨ ∃ k ∈ T, Region.waitsFor .any ops j k = true
  un : ∀ j, l0.getD j true = false → j ∈ X.J ∨ j ∈ T
  tl : ∀ j ∈ T, l0.getD j true = false
  fin : ∀ j, lF.getD j true = false ↔ j ∈ T
  fsz : lF.size = l0.size
  nt : 0 < tail.length
  seq : ∃ k, (∀ j, tail[j]? = ops[k + j]?) ∧ Region.seqB .any ops tail.length k lF = true
  sL : ∀ c, ∃ o, ops[X.iL c]? = some o ∧ o.guard = none ∧ ∀ a w K, Agree X.D a0 a → w.cell? ⟨b, two_ 0 1 c, none⟩ = some (two_ v1 v2 c) → K (a.put (some (X.dL c)) (two_ v1 v2 c)) w → o.wp P a w K Q
  sB : ∀ c, ∃ o, ops[X.iB c]? = some o ∧ o.guard = none ∧ ∀ a w K, Agree X.D a0 a → K (a.put (some (X.dB c)) (.slice (some ⟨w.heap.size, 0, none⟩) 1 1)) (w.alloc (.cells #[two_ u1 u2 c] e)) → o.wp P a w K Q
  sA : ∀ c, ∃ o, ops[X.iA c]? = some o ∧ o.guard = none ∧ o.dst = some (X.dA c) ∧ o.op = .call { callee := .builtin .append, args := #[.tmp (X.dL c), .tmp (X.dB c)], argTypes := #[t, t] }
  sF : ∃ o, ops[X.iF]? = some o ∧ o.guard = none ∧ ∀ a w K, Agree X.D a0 a → K (a.put (some X.dF) ptr) w → o.wp P a w K Q

/-- the state on the way -/
structure Two8I (X : Pair2) (T : List Nat) (l0 : Array Bool) (a0 : Act) (w0 : World) (B0 b base : Nat) (tt e : TypeId) (H0 : Nat) (v1 v2 u1 u2 ptr : Value) (n : Nat) (xs1 xs2 : List Value) (listed : Array Bool) (a : Act) (w : World) : Prop where
  ag : Agree X.D a0 a
  sz : listed.size = l0.size
  mo : ∀ j, listed.getD j true = false → l0.getD j true = false
  tl : ∀ j ∈ T, listed.getD j true = false
  hH : H0 ≤ w.heap.size
  cl : ∀ c, listed.getD (X.iA c) true = true → listed.getD (X.iL c) true = true ∧ listed.getD (X.iB c) true = true
  ca : listed.getD (X.iA true) true = true → listed.getD (X.iA false) true = true
  f : listed.getD X.iF true = true → a.eval (.tmp X.dF) = ptr
  o1 : ∀ g, v1.ownBlock = some g → g < H0
  o2 : ∀ g, v2.ownBlock = some g → g < H0
  st : ∃ (r1 r2 : Value) (m1 m2 : Nat) (ys1 ys2 : List Value), Two w0 B0 w b base tt e v1 v2 r1 m1 ys1 r2 m2 ys2 ∧
    Chain X false H0 v1 r1 n m1 xs1 ys1 u1 listed a w ∧ Chain X true H0 v2 r2 n m2 xs2 ys2 u2 listed a w

theorem two8_core {z : Value} {bytes : Nat} {X : Pair2} {T : List Nat} {tail : List Oper} {l0 lF : Array Bool} {a0 : Act} {t e tt : TypeId} {w0 : World} {B0 b base H0 n : Nat} {v1 v2 u1 u2 ptr : Value} {xs1 xs2 : List Value}
    (E : ElemT P t e z 1 bytes) (hby : bytes ≤ 4096) (hn : n ≤ 1000000) (hu1 : u1.oneCell' = true) (hu2 : u2.oneCell' = true) (O : Two8 P ops Q X T tail l0 lF a0 t e b v1 v2 u1 u2 ptr)
    (h : ∀ (f : Nat → Value) (r1 r2 : Value) (w' : World), Two w0 B0 w' b base tt e v1 v2 r1 (n + 1) (xs1 ++ [u1]) r2 (n + 1) (xs2 ++ [u2]) → f (X.dA false) = r1 → f (X.dA true) = r2 → f X.dF = ptr →
      wpList P ops Q tail (X.D.foldl (fun c d => c.put (some d) (f d)) a0) w') :
    ∀ (fuel : Nat) (listed : Array Bool) (a : Act) (w : World), X.J.countP (unl listed) + tail.length ≤ fuel → Two8I X T l0 a0 w0 B0 b base tt e H0 v1 v2 u1 u2 ptr n xs1 xs2 listed a w → wpAny P .any ops Q fuel listed a w := by
  have hne : ∀ (x y : Nat), x ∈ X.D → y ∈ X.D → X.D.idxOf x ≠ X.D.idxOf y → x ≠ y := fun x y _ _ h e => h (by rw [e])
  have ndD := O.nd
  have ndJ := O.jd
  simp only [Pair2.D, List.nodup_cons, List.mem_cons, List.not_mem_nil, or_false, not_or, List.nodup_nil, and_true, not_false_eq_true] at ndD
  simp only [Pair2.J, List.nodup_cons, List.mem_cons, List.not_mem_nil, or_false, not_or, List.nodup_nil, and_true, not_false_eq_true] at ndJ
  obtain ⟨⟨q01, q02, q03, q04, q05, q06⟩, ⟨q12, q13, q14, q15, q16⟩, ⟨q23, q24, q25, q26⟩, ⟨q34, q35, q36⟩, ⟨q45, q46⟩, q56⟩ := ndD
  obtain ⟨⟨j01, j02, j03, j04, j05, j06⟩, ⟨j12, j13, j14, j15, j16⟩, ⟨j23, j24, j25, j26⟩, ⟨j34, j35, j36⟩, ⟨j45, j46⟩, j56⟩ := ndJ
  have Ne := fun {x y : Nat} (h : ¬ x = y) => (fun e => h e.symm : y ≠ x)
  intro fuel
  induction fuel with
  | zero =>
    intro listed a w hf I
    have := O.nt
    omega
  | succ fuel ih =>
    intro listed a w hf I
    by_cases hall : ∀ j ∈ X.J, listed.getD j true = true
    · obtain ⟨k, hk, hseq⟩ := O.seq
      have hlF : listed = lF := by
        apply Array.ext (by rw [I.sz, O.fsz])
        intro j h1 h2
        have e1 : listed.getD j true = listed[j] := by simp [h1]
        have e2 : lF.getD j true = lF[j] := by simp [h2]
        rw [← e1, ← e2]
        cases hx : lF.getD j true with
        | false => exact I.tl j ((O.fin j).1 hx)
        | true =>
          cases hy : listed.getD j true with
          | true => rfl
          | false =>
            rcases O.un j (I.mo j hy) with h3 | h3
            · rw [hall j h3] at hy; cases hy
            · rw [(O.fin j).2 h3] at hx; cases hx
      obtain ⟨r1, r2, m1, m2, ys1, ys2, T2, C1, C2⟩ := I.st
      obtain ⟨g1, rfl, rfl⟩ := C1.done (hall _ (by simp))
      obtain ⟨g2, rfl, rfl⟩ := C2.done (hall _ (by simp))
      have g3 := I.f (hall _ (by simp))
      have hw := h (fun d => a.eval (.tmp d)) r1 r2 w T2 g1 g2 g3
      rw [← I.ag.puts] at hw
      rw [← hlF] at hseq
      have := wpAny_of_seq tail k listed a w hk hseq hw
      obtain ⟨g, hg⟩ : ∃ g, fuel + 1 = tail.length + g := ⟨fuel + 1 - tail.length, by omega⟩
      rw [hg]
      exact wpAny_le this g
    · have hex : ∃ j ∈ X.J, listed.getD j true = false := Classical.byContradiction fun hx => hall fun j hj => by
        cases hy : listed.getD j true with
        | true => rfl
        | false => exact absurd ⟨j, hj, hy⟩ hx
      refine ⟨fun hnil => absurd hnil (ready_some O.ed (fun j hj => ?_) (fun j hj => by rw [I.sz]; exact O.js j hj) hex), fun i hi => ?_⟩
      · cases hx : listed.getD j true with
        | true =>
          have h1 : j < listed.size := by
            rw [I.sz]
            rcases Nat.lt_or_ge j l0.size with h1 | h1
            · exact h1
            · simp [Array.getElem?_eq_none h1] at hj
          simpa [h1] using hx
        | false =>
          have := getD_both (I.mo j hx)
          rw [this] at hj
          cases hj
      · have hiu := ready_un hi
        have hcases : i ∈ X.J ∨ i ∈ T := O.un i (I.mo i hiu)
        rcases hcases with hJ | hT
        case inr =>
          exfalso
          rcases O.wT i hT with ⟨h1, h2⟩ | ⟨k, hk, h1⟩
          · have e1 := waits_listed h1 hi
            have e2 := waits_listed h2 hi
            have e3 := I.ca e2
            have e4 := I.cl true e2
            have e5 := I.cl false e3
            refine hall fun j hj => ?_
            simp only [Pair2.J, List.mem_cons, List.not_mem_nil, or_false] at hj
            rcases hj with rfl | rfl | rfl | rfl | rfl | rfl | rfl
            · exact e5.1
            · exact e5.2
            · exact e3
            · exact e4.1
            · exact e4.2
            · exact e2
            · exact e1
          · have := waits_listed h1 hi
            rw [I.tl k hk] at this
            cases this
        have keepT : ∀ j, listed.getD j true = true → (listed.setIfInBounds i true).getD j true = true := fun j hj => by
          by_cases e : i = j
          · subst e; exact set_same
          · rw [getD_set_ne true e]; exact hj
        have hcnt : X.J.countP (unl (listed.setIfInBounds i true)) + tail.length ≤ fuel := by
          have := count_set hJ hiu
          omega
        have mk : ∀ (a' : Act) (w' : World), Agree X.D a0 a' → H0 ≤ w'.heap.size → ((listed.setIfInBounds i true).getD X.iF true = true → a'.eval (.tmp X.dF) = ptr) →
            (∃ (r1 r2 : Value) (m1 m2 : Nat) (ys1 ys2 : List Value), Two w0 B0 w' b base tt e v1 v2 r1 m1 ys1 r2 m2 ys2 ∧
              Chain X false H0 v1 r1 n m1 xs1 ys1 u1 (listed.setIfInBounds i true) a' w' ∧ Chain X true H0 v2 r2 n m2 xs2 ys2 u2 (listed.setIfInBounds i true) a' w') →
            wpAny P .any ops Q fuel (listed.setIfInBounds i true) a' w' := fun a' w' q1 q2 q3 q4 =>
          ih _ _ _ hcnt ⟨q1, by rw [Array.size_setIfInBounds]; exact I.sz, fun j hj => I.mo j (set_get hj).2, fun j hj => by
            rw [getD_set_ne true (fun e => O.jT i hJ (by rw [e]; exact hj))]; exact I.tl j hj, q2, fun c hc => by
            by_cases e : i = X.iA c
            · have hi' := hi
              rw [e] at hi'
              exact ⟨keepT _ (waits_listed (O.wA c).1 hi'), keepT _ (waits_listed (O.wA c).2 hi')⟩
            · rw [getD_set_ne true e] at hc
              exact ⟨keepT _ (I.cl c hc).1, keepT _ (I.cl c hc).2⟩, fun hc => by
            by_cases e : i = X.iA true
            · have hi' := hi
              rw [e] at hi'
              exact keepT _ (waits_listed O.wAA hi')
            · rw [getD_set_ne true e] at hc
              exact keepT _ (I.ca hc), q3, I.o1, I.o2, q4⟩
        obtain ⟨r1, r2, m1, m2, ys1, ys2, T2, C1, C2⟩ := I.st
        have Fk : ∀ (a' : Act), i ≠ X.iF → a'.eval (.tmp X.dF) = a.eval (.tmp X.dF) → ((listed.setIfInBounds i true).getD X.iF true = true → a'.eval (.tmp X.dF) = ptr) := fun a' h1 h2 h3 => by
          rw [getD_set_ne true h1] at h3
          rw [h2]; exact I.f h3
        have dm : ∀ {d : Nat}, d ∈ X.D → d < a.tmps.size := fun hd => by rw [I.ag.size]; exact O.lt _ hd
        simp only [Pair2.J, List.mem_cons, List.not_mem_nil, or_false] at hJ
        have alc : ∀ (o : Obj) (B : Nat) (u : Value), w.cell? ⟨B, 0, none⟩ = some u → (w.alloc o).cell? ⟨B, 0, none⟩ = some u := fun o B u hc => (World.cell?_alloc_lt w o _ (World.block_lt_of_cell? w _ hc)).trans hc
        rcases hJ with rfl | rfl | rfl | rfl | rfl | rfl | rfl
        · obtain ⟨o, ho, hg, hs⟩ := O.sL false
          refine wpOp_of ho hg (hs a w _ I.ag (T2.box.cell 0) (mk _ _ (I.ag.put (by simp) _) I.hH (Fk _ j06 (eval_put_ne q06)) ⟨r1, r2, m1, m2, ys1, ys2, T2, ⟨fun _ => eval_put_same (dm (by simp)), fun k k' => ?_, fun k => ?_, fun k => ?_⟩,
            C2.keep j03 j04 j05 (eval_put_ne q03) (eval_put_ne q04) (eval_put_ne q05) (fun _ _ _ h _ => h)⟩))
          · rw [getD_set_ne true j01] at k
            rw [getD_set_ne true j02] at k'
            obtain ⟨B, g1, g2, g3⟩ := C1.bb k k'
            exact ⟨B, (eval_put_ne q01).trans g1, g2, g3⟩
          · rw [getD_set_ne true j02] at k
            rw [eval_put_ne q02]; exact C1.done k
          · rw [getD_set_ne true j02] at k
            exact C1.todo k
        · obtain ⟨o, ho, hg, hs⟩ := O.sB false
          refine wpOp_of ho hg (hs a w _ I.ag (mk _ _ (I.ag.put (by simp) _) (Nat.le_trans I.hH (by simp)) (Fk _ j16 (eval_put_ne q16)) ⟨r1, r2, m1, m2, ys1, ys2, T2.alloc _, ⟨fun k => ?_, fun _ _ => ⟨w.heap.size, eval_put_same (dm (by simp)), World.cell?_alloc_new w _ _ 0, I.hH⟩, fun k => ?_, fun k => ?_⟩,
            C2.keep j13 j14 j15 (eval_put_ne q13) (eval_put_ne q14) (eval_put_ne q15) (fun _ _ _ h _ => alc _ _ _ h)⟩))
          · rw [getD_set_ne true (Ne j01)] at k
            rw [eval_put_ne (Ne q01)]; exact C1.l k
          · rw [getD_set_ne true j12] at k
            rw [eval_put_ne q12]; exact C1.done k
          · rw [getD_set_ne true j12] at k
            exact C1.todo k
        · have eL := C1.l (waits_listed (O.wA false).1 hi)
          obtain ⟨B, eB, hc, hB⟩ := C1.bb (waits_listed (O.wA false).2 hi) hiu
          obtain ⟨rfl, rfl, rfl⟩ := C1.todo hiu
          obtain ⟨o, ho, hg, hd, hop⟩ := O.sA false
          obtain ⟨v', w', hr, h2, h3, h4⟩ := run_append_arr E w o.type base r1 m1 ys1 T2.o1 (some ⟨B, 0, none⟩) 1 1 [u1] rfl (by simpa using hu1) (fun h => by cases h) (one_news hc) (by omega) hby T2.hs
          refine wpOp_of ho hg ?_
          unfold Oper.wp execOp
          simp only [hop, resolve, invoke, builtin, Sem.run_bind, Sem.run_pure, Result.andThen_ok, List.map_toArray, List.map_cons, List.map_nil, eL, eB, hr, Oper.upon, hd]
          refine mk _ _ (I.ag.put (by simp) _) (Nat.le_trans I.hH h3.size) (Fk _ j26 (eval_put_ne q26)) ⟨v', r2, m1 + 1, m2, ys1 ++ [u1], ys2, T2.grow1 h2 h3 h4, ⟨fun k => ?_, fun _ k => (by rw [set_same] at k; cases k), fun _ => ⟨eval_put_same (dm (by simp)), rfl, rfl⟩, fun k => (by rw [set_same] at k; cases k)⟩,
            C2.keep j23 j24 j25 (eval_put_ne q23) (eval_put_ne q24) (eval_put_ne q25) (fun B' u hB' hc' _ => (World.cell?_of_block (h3.block B' (World.block_lt_of_cell? w _ hc') (fun e => by have := I.o1 B' e.symm; omega))).trans hc')⟩
          rw [getD_set_ne true (Ne j02)] at k
          rw [eval_put_ne (Ne q02)]; exact C1.l k
        · obtain ⟨o, ho, hg, hs⟩ := O.sL true
          refine wpOp_of ho hg (hs a w _ I.ag (T2.box.cell 1) (mk _ _ (I.ag.put (by simp) _) I.hH (Fk _ j36 (eval_put_ne q36)) ⟨r1, r2, m1, m2, ys1, ys2, T2,
            C1.keep (Ne j03) (Ne j13) (Ne j23) (eval_put_ne (Ne q03)) (eval_put_ne (Ne q13)) (eval_put_ne (Ne q23)) (fun _ _ _ h _ => h), ⟨fun _ => eval_put_same (dm (by simp)), fun k k' => ?_, fun k => ?_, fun k => ?_⟩⟩))
          · rw [getD_set_ne true j34] at k
            rw [getD_set_ne true j35] at k'
            obtain ⟨B, g1, g2, g3⟩ := C2.bb k k'
            exact ⟨B, (eval_put_ne q34).trans g1, g2, g3⟩
          · rw [getD_set_ne true j35] at k
            rw [eval_put_ne q35]; exact C2.done k
          · rw [getD_set_ne true j35] at k
            exact C2.todo k
        · obtain ⟨o, ho, hg, hs⟩ := O.sB true
          refine wpOp_of ho hg (hs a w _ I.ag (mk _ _ (I.ag.put (by simp) _) (Nat.le_trans I.hH (by simp)) (Fk _ j46 (eval_put_ne q46)) ⟨r1, r2, m1, m2, ys1, ys2, T2.alloc _,
            C1.keep (Ne j04) (Ne j14) (Ne j24) (eval_put_ne (Ne q04)) (eval_put_ne (Ne q14)) (eval_put_ne (Ne q24)) (fun _ _ _ h _ => alc _ _ _ h), ⟨fun k => ?_, fun _ _ => ⟨w.heap.size, eval_put_same (dm (by simp)), World.cell?_alloc_new w _ _ 0, I.hH⟩, fun k => ?_, fun k => ?_⟩⟩))
          · rw [getD_set_ne true (Ne j34)] at k
            rw [eval_put_ne (Ne q34)]; exact C2.l k
          · rw [getD_set_ne true j45] at k
            rw [eval_put_ne q45]; exact C2.done k
          · rw [getD_set_ne true j45] at k
            exact C2.todo k
        · have eL := C2.l (waits_listed (O.wA true).1 hi)
          obtain ⟨B, eB, hc, hB⟩ := C2.bb (waits_listed (O.wA true).2 hi) hiu
          obtain ⟨rfl, rfl, rfl⟩ := C2.todo hiu
          obtain ⟨o, ho, hg, hd, hop⟩ := O.sA true
          obtain ⟨v', w', hr, h2, h3, h4⟩ := run_append_arr E w o.type base r2 m2 ys2 T2.o2 (some ⟨B, 0, none⟩) 1 1 [u2] rfl (by simpa using hu2) (fun h => by cases h) (one_news hc) (by omega) hby T2.hs
          refine wpOp_of ho hg ?_
          unfold Oper.wp execOp
          simp only [hop, resolve, invoke, builtin, Sem.run_bind, Sem.run_pure, Result.andThen_ok, List.map_toArray, List.map_cons, List.map_nil, eL, eB, hr, Oper.upon, hd]
          refine mk _ _ (I.ag.put (by simp) _) (Nat.le_trans I.hH h3.size) (Fk _ j56 (eval_put_ne q56)) ⟨r1, v', m1, m2 + 1, ys1, ys2 ++ [u2], T2.grow2 h2 h3 h4,
            C1.keep (Ne j05) (Ne j15) (Ne j25) (eval_put_ne (Ne q05)) (eval_put_ne (Ne q15)) (eval_put_ne (Ne q25)) (fun B' u hB' hc' k => absurd (waits_listed O.wAA hi) (by rw [k]; simp)),
            ⟨fun k => ?_, fun _ k => (by rw [set_same] at k; cases k), fun _ => ⟨eval_put_same (dm (by simp)), rfl, rfl⟩, fun k => (by rw [set_same] at k; cases k)⟩⟩
          rw [getD_set_ne true (Ne j35)] at k
          rw [eval_put_ne (Ne q35)]; exact C2.l k
        · obtain ⟨o, ho, hg, hs⟩ := O.sF
          exact wpOp_of ho hg (hs a w _ I.ag (mk _ _ (I.ag.put (by simp) _) I.hH (fun _ => eval_put_same (dm (by simp))) ⟨r1, r2, m1, m2, ys1, ys2, T2,
            C1.keep (Ne j06) (Ne j16) (Ne j26) (eval_put_ne (Ne q06)) (eval_put_ne (Ne q16)) (eval_put_ne (Ne q26)) (fun _ _ _ h _ => h), C2.keep (Ne j36) (Ne j46) (Ne j56) (eval_put_ne (Ne q36)) (eval_put_ne (Ne q46)) (eval_put_ne (Ne q56)) (fun _ _ _ h _ => h)⟩))
end
end Go.Sv
namespace Go.Sv
open Go.RowKit
section
variable {P : Program} {Q : Exit → Act → World → Prop} {K : Act → World → Prop}
theorem oper_load {o : Oper} {a : Act} {w : World} {ty e : TypeId} {d p : Nat} {ad : Addr} {v : Value} (ho : o.op = .load ty (.tmp p)) (hd : o.dst = some d) (he : a.eval (.tmp p) = .pointer (some ad))
    (hty : P.underlying ty = some (.slice e)) (hc : w.cell? ad = some v) (h : K (a.put (some d) v) w) : o.wp P a w K Q := by
  have hA : (isAgg ty).run P w = .ok false w := by simp [isAgg, run_underlying hty]
  unfold Oper.wp execOp
  simp only [ho, he, hd, Oper.upon]
  go_simp
  exact h
theorem oper_build1 {o : Oper} {a : Act} {w : World} {ty e : TypeId} {d : Nat} {x : Operand} {k : IntKind} {n : Int} {z : Value} {bytes : Nat} (E : ElemT P ty e z 1 bytes) (ho : o.op = .buildSlice ty 1 #[(0, x)]) (hd : o.dst = some d) (he : a.eval x = .int k n) 
    (h : K (a.put (some d) (.slice (some ⟨w.heap.size, 0, none⟩) 1 1)) (w.alloc (.cells #[.int k n] e))) : o.wp P a w K Q := by
  obtain ⟨i, hi, e1, e2, e3⟩ := info_parts E.hi
  have hu := run_underlying E.ht w
  unfold Oper.wp execOp
  simp only [ho, hd, Oper.upon, List.map_toArray, List.map_cons, List.map_nil, he]
  have hz := E.hz
  have hr : Array.range 1 = #[0] := by decide
  have hcs : (Value.int k n).cells = #[.int k n] := rfl
  simp [Instr.buildSlice, hu, sizeOf, typeInfo, hi, e1, e2, zeroValue, Instr.fill, hz, newRow, hcs, hr]
  exact h
theorem oper_field {o : Oper} {a : Act} {w : World} {ty : TypeId} {fs : Array Field} {f : Field} {d p k : Nat} {b off : Nat} {i : TypeInfo} (ho : o.op = .fieldAddr ty (.tmp p) k) (hd : o.dst = some d) (he : a.eval (.tmp p) = .pointer (some ⟨b, 0, none⟩))
    (hty : P.underlying ty = some (.struct fs)) (hf : fs[k]? = some f) (ho' : f.offset = off) (hi : P.info? f.type = some i) (hs : i.size = 1)
    (h : K (a.put (some d) (.pointer (some ⟨b, off, none⟩))) w) : o.wp P a w K Q := by
  have hu := run_underlying hty w
  unfold Oper.wp execOp
  simp only [ho, he, hd, Oper.upon]
  simp [Instr.fieldAt, hu, hf, Instr.sureAddr, fieldPlace, sizeOf, typeInfo, hi, hs, Addr.add, ho']
  have e : (if off = 0 then (⟨b, 0, none⟩ : Addr) else ⟨b, off, none⟩) = ⟨b, off, none⟩ := by split <;> simp_all
  rw [e]
  exact h
end
end Go.Sv
namespace Go.Sv
open Go.RowKit
section
variable {P : Program} {Q : Exit → Act → World → Prop}
/-- the closed facts on the operations -/
def chk8 (ops : Array Oper) (X : Pair2) (T : List Nat) (l0 lF : Array Bool) (k : Nat) : Bool :=
  decide X.D.Nodup && decide X.J.Nodup && X.J.all (fun j => !T.contains j && decide (j < l0.size)) && edgesB ops l0 X.J &&
  [false, true].all (fun c => Region.waitsFor .any ops (X.iA c) (X.iL c) && Region.waitsFor .any ops (X.iA c) (X.iB c)) && Region.waitsFor .any ops (X.iA true) (X.iA false) &&
  T.all (fun j => (Region.waitsFor .any ops j X.iF && Region.waitsFor .any ops j (X.iA true)) || T.any (fun i => Region.waitsFor .any ops j i)) &&
  (List.range l0.size).all (fun j => l0.getD j true || X.J.contains j || T.contains j) && T.all (fun j => !l0.getD j true) &&
  (List.range lF.size).all (fun j => (!lF.getD j true) == T.contains j) && T.all (fun j => decide (j < lF.size)) && lF.size == l0.size && decide (k < ops.size) &&
  Region.seqB .any ops (ops.size - k) k lF
theorem two8_of {ops : Array Oper} {X : Pair2} {T : List Nat} {l0 lF : Array Bool} {k : Nat} {a0 : Act} {t e tt : TypeId} {b : Nat} {v1 v2 : Value} {k1 k2 : IntKind} {n1 n2 : Int} {z : Value} {bytes : Nat} {fs : Array Field} (E : ElemT P t e z 1 bytes)
    (hc : chk8 ops X T l0 lF k = true) (lt' : X.D.all (fun d => decide (d < a0.tmps.size)) = true)
    (p1 p2 p3 : Nat) (x1 x2 : Operand) (f0 : Field)
    (hp : p1 ∉ X.D ∧ p2 ∉ X.D ∧ p3 ∉ X.D) (hx : ∀ x ∈ [x1, x2], ∀ j, x = .tmp j → j ∉ X.D)
    (hL : ∀ c, ops[X.iL c]?.map (fun o => (o.dst, o.op, o.guard)) = some (some (X.dL c), .load t (.tmp (two_ p1 p2 c)), none))
    (hB : ∀ c, ops[X.iB c]?.map (fun o => (o.dst, o.op, o.guard)) = some (some (X.dB c), .buildSlice t 1 #[(0, two_ x1 x2 c)], none))
    (hA : ∀ c, ops[X.iA c]?.map (fun o => (o.dst, o.op, o.guard)) = some (some (X.dA c), .call { callee := .builtin .append, args := #[.tmp (X.dL c), .tmp (X.dB c)], argTypes := #[t, t] }, none))
    (hF : ops[X.iF]?.map (fun o => (o.dst, o.op, o.guard)) = some (some X.dF, .fieldAddr tt (.tmp p3) 0, none))
    (htt : P.underlying tt = some (.struct fs)) (hfs : fs[0]? = some f0) (hof : f0.offset = 0) (hft : f0.type = t) (hsz : (P.info? t).map (·.size) = some 1)
    (e1 : a0.eval (.tmp p1) = .pointer (some ⟨b, 0, none⟩)) (e2 : a0.eval (.tmp p2) = .pointer (some ⟨b, 1, none⟩)) (e3 : a0.eval (.tmp p3) = .pointer (some ⟨b, 0, none⟩))
    (q1 : a0.eval x1 = .int k1 n1) (q2 : a0.eval x2 = .int k2 n2) :
    Two8 P ops Q X T (ops.toList.drop k) l0 lF a0 t e b v1 v2 (.int k1 n1) (.int k2 n2) (.pointer (some ⟨b, 0, none⟩)) := by
  have lt : ∀ d ∈ X.D, d < a0.tmps.size := fun d hd => by simpa using List.all_eq_true.1 lt' d hd
  unfold chk8 at hc
  simp only [Bool.and_eq_true] at hc
  obtain ⟨⟨⟨⟨⟨⟨⟨⟨⟨⟨⟨⟨⟨c1, c2⟩, c3⟩, c4⟩, c5⟩, c6⟩, c7⟩, c8⟩, c9⟩, c10⟩, c11⟩, c12⟩, c13⟩, c14⟩ := hc
  have out : ∀ {i : Nat} {d : Option Tmp} {op : Op} {g : Option (Nat × Bool)}, ops[i]?.map (fun o => (o.dst, o.op, o.guard)) = some (d, op, g) → ∃ o, ops[i]? = some o ∧ o.dst = d ∧ o.op = op ∧ o.guard = g := fun {i d op g} h => by
    cases ho : ops[i]? with
    | none => rw [ho] at h; cases h
    | some o =>
      rw [ho] at h
      simp only [Option.map_some, Option.some.injEq, Prod.mk.injEq] at h
      exact ⟨o, rfl, h.1, h.2.1, h.2.2⟩
  have agx : ∀ {x : Operand} {a : Act}, x ∈ [x1, x2] → Agree X.D a0 a → a.eval x = a0.eval x := fun {x a} hm hag => by
    cases x with
    | tmp j => exact hag.eval (hx _ hm j rfl)
    | const v => rfl
    | global g => rfl
    | func f => rfl
  have lfT : ∀ j, lF.getD j true = false ↔ j ∈ T := fun j => by
    rcases Nat.lt_or_ge j lF.size with h1 | h1
    · have := List.all_eq_true.1 c10 j (List.mem_range.2 h1)
      simp only [beq_iff_eq] at this
      constructor
      · intro h2
        rw [h2] at this
        simpa using this.symm
      · intro h2
        have h3 : T.contains j = true := by simpa using h2
        rw [h3] at this
        simpa using this
    · constructor
      · intro h2
        simp [Array.getElem?_eq_none h1] at h2
      · intro h2
        have := List.all_eq_true.1 c11 j h2
        simp only [decide_eq_true_eq] at this
        omega
  refine ⟨of_decide_eq_true c1, lt, of_decide_eq_true c2, fun j hj => ?_, fun j hj => ?_, c4, fun c => ?_, c6, fun j hj => ?_, fun j hj => ?_, fun j hj => ?_, lfT, by simpa using c12, ?_, ⟨k, fun j => ?_, ?_⟩, fun c => ?_, fun c => ?_, fun c => ?_, ?_⟩
  · have := List.all_eq_true.1 c3 j hj
    simp only [Bool.and_eq_true, Bool.not_eq_true'] at this
    simpa using this.1
  · have := List.all_eq_true.1 c3 j hj
    simp only [Bool.and_eq_true, decide_eq_true_eq] at this
    exact this.2
  · have := List.all_eq_true.1 c5 c (by cases c <;> simp)
    simpa using this
  · have := List.all_eq_true.1 c7 j hj
    simp only [Bool.or_eq_true, Bool.and_eq_true] at this
    rcases this with h | h
    · exact Or.inl h
    · obtain ⟨i, hi, hw⟩ := List.any_eq_true.1 h
      exact Or.inr ⟨i, hi, hw⟩
  · have hlt : j < l0.size := by
      rcases Nat.lt_or_ge j l0.size with h | h
      · exact h
      · simp [Array.getElem?_eq_none h] at hj
    have := List.all_eq_true.1 c8 j (List.mem_range.2 hlt)
    simp only [Bool.or_eq_true] at this
    rcases this with (h | h) | h
    · rw [h] at hj; cases hj
    · exact Or.inl (by simpa using h)
    · exact Or.inr (by simpa using h)
  · have := List.all_eq_true.1 c9 j hj
    simpa using this
  · have := of_decide_eq_true c13
    simp; omega
  · simp [List.getElem?_drop]
  · have : (List.drop k ops.toList).length = ops.size - k := by simp
    rw [this]; exact c14
  · obtain ⟨o, ho, hd, hop, hg⟩ := out (hL c)
    refine ⟨o, ho, hg, fun a w K hag hcell hK => oper_load (ad := ⟨b, two_ 0 1 c, none⟩) hop hd ?_ E.ht hcell hK⟩
    cases c with
    | false => exact (hag.eval hp.1).trans e1
    | true => exact (hag.eval hp.2.1).trans e2
  · obtain ⟨o, ho, hd, hop, hg⟩ := out (hB c)
    cases c with
    | false => exact ⟨o, ho, hg, fun a w K hag hK => oper_build1 E hop hd ((agx (by simp [two_]) hag).trans q1) hK⟩
    | true => exact ⟨o, ho, hg, fun a w K hag hK => oper_build1 E hop hd ((agx (by simp [two_]) hag).trans q2) hK⟩
  · obtain ⟨o, ho, hd, hop, hg⟩ := out (hA c)
    exact ⟨o, ho, hg, hd, hop⟩
  · obtain ⟨o, ho, hd, hop, hg⟩ := out hF
    subst hft
    cases hi : P.info? f0.type with
    | none => rw [hi] at hsz; cases hsz
    | some i =>
      rw [hi] at hsz
      exact ⟨o, ho, hg, fun a w K hag hK => oper_field (i := i) hop hd ((hag.eval hp.2.2).trans e3) htt hfs hof hi (by simpa using hsz) hK⟩
/-- the state when the loads and appends begin -/
theorem two8_start {X : Pair2} {T : List Nat} {l0 : Array Bool} {a0 : Act} {w0 w : World} {B0 b base n : Nat} {tt e : TypeId} {v1 v2 u1 u2 ptr : Value} {xs1 xs2 : List Value} (c9 : T.all (fun j => !l0.getD j true) = true)
    (hT : Two w0 B0 w b base tt e v1 v2 v1 n xs1 v2 n xs2) (hu : X.J.all (fun j => !l0.getD j true) = true) :
    Two8I X T l0 a0 w0 B0 b base tt e w.heap.size v1 v2 u1 u2 ptr n xs1 xs2 l0 a0 w := by
  have hun : ∀ j ∈ X.J, l0.getD j true = false := fun j hj => by
    have := List.all_eq_true.1 hu j hj
    simpa using this
  have hno : ∀ {p : Prop} {j : Nat}, j ∈ X.J → l0.getD j true = true → p := fun hj h => by rw [hun _ hj] at h; cases h
  refine ⟨Agree.refl _ _, rfl, fun _ h => h, fun j hj => ?_, Nat.le_refl _, fun c h => hno (by cases c <;> simp) h, fun h => hno (by simp) h, fun h => hno (by simp) h, fun g hg => (hT.o1.lt g hg).2, fun g hg => (hT.o2.lt g hg).2,
    ⟨v1, v2, n, n, xs1, xs2, hT, ⟨fun h => hno (by simp) h, fun h => hno (by simp) h, fun h => hno (by simp) h, fun _ => ⟨rfl, rfl, rfl⟩⟩, ⟨fun h => hno (by simp) h, fun h => hno (by simp) h, fun h => hno (by simp) h, fun _ => ⟨rfl, rfl, rfl⟩⟩⟩⟩
  have := List.all_eq_true.1 c9 j hj
  simpa using this
end
section
variable {P : Program} {ops : Array Oper} {Q : Exit → Act → World → Prop}
/-- an operation that yields whatever the world is, taken first, its slot by name -/
theorem wpAny_takeD {md : Region.Mode} {i d : Nat} {oi : Oper} {v : Value} {fuel : Nat} {listed : Array Bool} {a : Act} {w : World} (hi : ops[i]? = some oi) (hd : oi.dst = some d)
    (hs : Region.noSelect ops = true) (hf : Region.free md ops listed i = true) (hr : (Region.ready md ops listed).contains i = true)
    (hQ : ∀ c a w, Q (.panic c) (a.put oi.dst v) w → Q (.panic c) a w) (hy : Yields P ops oi v a)
    (h : wpAny P md ops Q fuel (listed.setIfInBounds i true) (a.put (some d) v) w) : wpAny P md ops Q (fuel + 1) listed a w := by
  rw [← hd] at h
  exact wpAny_take hi hs hf hr hQ hy h
end
end Go.Sv

namespace Go.Proofs.YtpoddmkimhkmoaaGreat
open Go.RowKit Go.Sv

def iRow (l : List Int) : List Value := l.map (Value.int .i64)
theorem iRow_snoc (l : List Int) (x : Int) : iRow (l ++ [x]) = iRow l ++ [.int .i64 x] := by simp [iRow]
theorem iRow_get {l : List Int} {k : Nat} (h : k < l.length) : (iRow l)[k]? = some (iv l k) := by simp [iRow, iv, gi, h]
theorem iRow_set (l : List Int) (k : Nat) (x : Int) : (iRow l).set k (.int .i64 x) = iRow (l.set k x) := by simp [iRow, List.map_set]
theorem iRow_len (l : List Int) : (iRow l).length = l.length := by simp [iRow]
theorem own_iarr {w : World} {base : Nat} {e : TypeId} {A : Option Addr} {n c : Nat} {l : List Int} (h : w.ownsRow base e 1 (.slice A n c) n (iRow l)) (hl : l.length = n) : Arr w w.heap.size A l.length (iv l) := by
  obtain ⟨A', c', hv, _, _, ha⟩ := own_arr h (f := iv l) (fun k hk => iRow_get (by omega))
  injection hv with h1
  subst h1
  rw [hl]; exact ha
theorem two_res {W w : World} {B0 b base r : Nat} {tt e : TypeId} {v1 v2 x y : Value} {A1 A2 : Option Addr} {n q1 q2 : Nat} {t : Tst} (T : Two W B0 w b base tt e v1 v2 (.slice A1 n q1) n (iRow t.acc) (.slice A2 n q2) n (iRow t.rej)) (h1 : t.acc.length = n) (h2 : t.rej.length = n) (hr : r < base) :
    RTst ((w.setCell ⟨r, 0, none⟩ x).setCell ⟨r, 1, none⟩ y) ((w.setCell ⟨r, 0, none⟩ x).setCell ⟨r, 1, none⟩ y).heap.size t ⟨A1, q1, A2, q2⟩ :=
  ⟨own_iarr (ownsRow_setCell_below (ownsRow_setCell_below T.o1 (a := ⟨r, 0, none⟩) hr x) (a := ⟨r, 1, none⟩) hr y) h1, own_iarr (ownsRow_setCell_below (ownsRow_setCell_below T.o2 (a := ⟨r, 0, none⟩) hr x) (a := ⟨r, 1, none⟩) hr y) h2⟩
/-- the result's cells, behind all -/
theorem res_cells {w w' : World} {t : TypeId} (h : Below (w.heap.size + 1) (w.alloc (.cells #[.slice none 0 0, .slice none 0 0] t)) w') :
    w'.cell? ⟨w.heap.size, 0, none⟩ = some (.slice none 0 0) ∧ w'.cell? ⟨w.heap.size, 1, none⟩ = some (.slice none 0 0) ∧ w'.frozen? ⟨w.heap.size, 0, none⟩ = false ∧ w'.frozen? ⟨w.heap.size, 1, none⟩ = false ∧ w.heap.size < w'.heap.size := by
  have hs := h.size
  simp at hs
  have hW := Whole.new w t #[.slice none 0 0, .slice none 0 0]
  refine ⟨(h.cell (by simp)).trans ((hW.cell 0).trans rfl), (h.cell (by simp)).trans ((hW.cell 1).trans rfl), (h.frozen (by simp)).trans (hW.frozen 0), (h.frozen (by simp)).trans (hW.frozen 1), by omega⟩
theorem fixA_succ (k : Nat) : iRow (fixA (k + 1)) = iRow (fixA k) ++ [.int .i64 (-1)] := by rw [← iRow_snoc]; simp [fixA, List.replicate_succ']
theorem fixR_succ (k : Nat) : iRow (fixR (k + 1)) = iRow (fixR k) ++ [.int .i64 ((k : Int) + 2)] := by rw [← iRow_snoc]; simp [fixR, List.range_succ]

set_option maxHeartbeats 1000000 in
set_option maxRecDepth 100000 in
theorem fixed_ok (n : Nat) (c : Int) (w : World) (h0 : 0 < n) (h1 : n ≤ 64) (h2 : -1 ≤ c) (h3 : c ≤ n) :
    Calls Tryz.prog 28 #[.int .i64 n, .int .i64 c] w (Ret (TRes w (fixT n c) 0)) := by
  have d1 : decide ((n : Int) < 1) = false := by rw [decide_eq_false_iff_not]; omega
  have d2 : decide (64 < n) = false := by rw [decide_eq_false_iff_not]; omega
  have d3 : decide (c < -1) = false := by rw [decide_eq_false_iff_not]; omega
  have d4 : decide ((n : Int) < c) = false := by rw [decide_eq_false_iff_not]; omega
  have hbx : Hid (Below w.heap.size w (w.alloc (.cells #[.slice none 0 0, .slice none 0 0] 32))) := Lib.hid ((Below.refl _ _).alloc (Nat.le_refl _) _)
  go_enter Tryz.func28, Tryz.ntmps28
  go_wp2
  go_loopw [25] (fun i wr => ∃ (k : Nat) (v1 v2 : Value), k ≤ n ∧ i = .int .i64 k ∧ Two (w.alloc (.cells #[.slice none 0 0, .slice none 0 0] 32)) (w.heap.size + 1) wr (w.heap.size + 1) (w.heap.size + 2) 32 3 v1 v2 v1 k (iRow (fixA k)) v2 k (iRow (fixR k))) (fun i _ => n - (intOf i).toNat)
  case atStart => exact ⟨0, _, _, Nat.zero_le _, rfl, Two.new rfl⟩
  case round =>
    obtain ⟨k, v1, v2, hk, rfl, T⟩ := hrel
    replace T := Lib.hid T
    by_cases hlt : k < n
    · have y0 : wr.cell? ⟨w.heap.size + 1, 0, none⟩ = some v1 := (T.out.box.cell 0).trans rfl
      have y1 : wr.cell? ⟨w.heap.size + 1, 1, none⟩ = some v2 := (T.out.box.cell 1).trans rfl
      have i0 : (0 : Int) ≤ k := by omega
      have wr2 : IntKind.i64.wrap ((k : Int) + 2) = (k : Int) + 2 := IntWalk.i64_in _ (by omega)
      go_wp2_with fail
      refine wp_region_any (by kernel_rfl) ?_
      change wpAny _ _ _ _ _ _ _ (World.drew _)
      refine wpAny_takeD (i := 0) (d := 28) (v := ?_) rfl rfl (by kernel_rfl) (by kernel_rfl) (by kernel_rfl) (fun _ _ _ h => h) (Or.inl ⟨by rfl, ?_⟩) ?_
      rotate_left
      · (intro w; go_simp; try with_reducible rfl)
      simp only [Act.put, List.setIfInBounds_toArray, List.set_cons_succ, List.set_cons_zero]
      refine wpAny_takeD (i := 4) (d := 32) (v := ?_) rfl rfl (by kernel_rfl) (by kernel_rfl) (by kernel_rfl) (fun _ _ _ h => h) (Or.inl ⟨by rfl, ?_⟩) ?_
      rotate_left
      · (intro w; go_simp; try with_reducible rfl)
      simp only [Act.put, List.setIfInBounds_toArray, List.set_cons_succ, List.set_cons_zero]
      refine wpAny_takeD (i := 6) (d := 34) (v := ?_) rfl rfl (by kernel_rfl) (by kernel_rfl) (by kernel_rfl) (fun _ _ _ h => h) (Or.inl ⟨by rfl, ?_⟩) ?_
      rotate_left
      · (intro w; go_simp; try with_reducible rfl)
      simp only [Act.put, List.setIfInBounds_toArray, List.set_cons_succ, List.set_cons_zero]
      refine wpAny_takeD (i := 7) (d := 35) (v := ?_) rfl rfl (by kernel_rfl) (by kernel_rfl) (by kernel_rfl) (fun _ _ _ h => h) (Or.inl ⟨by rfl, ?_⟩) ?_
      rotate_left
      · (intro w; go_simp; try with_reducible rfl)
      simp only [Act.put, List.setIfInBounds_toArray, List.set_cons_succ, List.set_cons_zero]
      change wpAny _ _ _ _ _ #[true, false, false, false, true, false, true, true, false, false, false, false, false, false] _ _
      refine two8_core (l0 := #[true, false, false, false, true, false, true, true, false, false, false, false, false, false]) (X := ⟨two_ 1 5, two_ 2 8, two_ 29 33, two_ 30 36, two_ 3 9, two_ 31 37, 10, 38⟩) (T := [11, 12, 13]) (lF := #[true, true, true, true, true, true, true, true, true, true, true, false, false, false]) elInt (by omega) (by omega) rfl rfl
        (two8_of (k := 11) (b := w.heap.size + 1) (k1 := .i64) (k2 := .i64) (n1 := (-1)) (n2 := ((k : Int) + 2)) elInt (by kernel_rfl) (by kernel_rfl) 28 32 6 (.const (.int .i64 (-1))) (.tmp 35) _ (by decide) ?q1hx (fun c => by cases c <;> rfl) (fun c => by cases c <;> rfl) (fun c => by cases c <;> rfl) (by rfl) Tryz.underlying32 rfl rfl rfl (by kernel_rfl) (by kernel_rfl) (by kernel_rfl) (by kernel_rfl) (by kernel_rfl) (by kernel_rfl))
        ?q1rest _ _ _ _ (by decide) (two8_start (by kernel_rfl) T.out.drew (by kernel_rfl))
      case q1hx =>
        intro x hx j hj
        simp only [List.mem_cons, List.not_mem_nil, or_false] at hx
        rcases hx with rfl | rfl <;> cases hj <;> decide
      case q1rest =>
        intro f r1 r2 w2 T2 g1 g2 g3
        obtain ⟨x0, e0⟩ : ∃ x, f 29 = x := ⟨_, rfl⟩
        obtain ⟨x1, e1⟩ : ∃ x, f 30 = x := ⟨_, rfl⟩
        obtain ⟨x3, e3⟩ : ∃ x, f 33 = x := ⟨_, rfl⟩
        obtain ⟨x4, e4⟩ : ∃ x, f 36 = x := ⟨_, rfl⟩
        replace g1 : f 31 = r1 := g1
        replace g2 : f 37 = r2 := g2
        replace g3 : f 38 = _ := g3
        simp only [Pair2.D, two_, List.foldl_cons, List.foldl_nil, List.drop_succ_cons, List.drop_zero, g1, g2, g3, e0, e1, e3, e4]
        clear e0 e1 e3 e4 g1 g2 g3 f
        have z0 : w2.cell? ⟨w.heap.size + 1, 0, none⟩ = some v1 := (T2.box.cell 0).trans rfl
        have z1 : w2.cell? ⟨w.heap.size + 1, 1, none⟩ = some v2 := (T2.box.cell 1).trans rfl
        have z2 := T2.box.frozen 0
        have z3 := T2.box.frozen 1
        obtain ⟨A1, q1, rfl, _⟩ := own_form T2.o1
        obtain ⟨A2, q2, rfl, _⟩ := own_form T2.o2
        rw [← fixA_succ, ← fixR_succ] at T2
        have T3 := Lib.hid T2.put
        clear T2 wr2
        go_wp2
        go_roundw
        case rel => exact ⟨k + 1, _, _, by omega, by go_num, T3.out⟩
        case measure => simp [intOf]; omega
    · obtain rfl : k = n := by omega
      obtain ⟨g1, q1, rfl, l1, l1'⟩ := T.out.o1.form h0
      obtain ⟨g2, q2, rfl, l2, l2'⟩ := T.out.o2.form h0
      have TL := Lib.hid ((T.out.last (k - 1) (k - 1) (.int .i64 c) (.int .i64 (c + 1))).drew)
      rw [iRow_set, iRow_set, fixA_set c h0, fixR_set c h0] at TL
      have y0 : wr.cell? ⟨w.heap.size + 1, 0, none⟩ = some (.slice (some ⟨g1, 0, none⟩) k q1) := (T.out.box.cell 0).trans rfl
      have y1 : wr.cell? ⟨w.heap.size + 1, 1, none⟩ = some (.slice (some ⟨g2, 0, none⟩) k q2) := (T.out.box.cell 1).trans rfl
      have e1 : ((k : Int) - 1).toNat = k - 1 := by omega
      have i0 : (0 : Int) ≤ (k : Int) - 1 := by omega
      have i1 : (k : Int) - 1 < (k : Int) := by omega
      have i2 : (1 : Int) ≤ (k : Int) := by omega
      have i3 : ¬ ((k : Int) - 1 < 0) := by omega
      have i4 : 0 < k := h0
      have s1 : wr.cell? ⟨g1, k - 1, none⟩ = some (iv (fixA k) (k - 1)) := (T.out.o1.cellAt (k - 1) (by omega)).trans (iRow_get (by rw [fixA_len]; omega))
      have s2 : wr.cell? ⟨g2, k - 1, none⟩ = some (iv (fixR k) (k - 1)) := (T.out.o2.cellAt (k - 1) (by omega)).trans (iRow_get (by rw [fixR_len]; omega))
      unfold iv at s1 s2
      have f1 : wr.frozen? ⟨g1, k - 1, none⟩ = false := T.out.o1.frozenAt _
      have f2 : wr.frozen? ⟨g2, k - 1, none⟩ = false := T.out.o2.frozenAt _
      have n1 : g1 ≠ g2 := fun e => T.out.ap g1 rfl (by rw [e]; rfl)
      have n2 : g1 ≠ w.heap.size + 1 := by omega
      have n3 : g2 ≠ w.heap.size + 1 := by omega
      have wr2 : IntKind.i64.wrap (c + 1) = c + 1 := IntWalk.i64_in _ (by omega)
      have wr3 : IntKind.i64.wrap ((k : Int) - 1) = (k : Int) - 1 := IntWalk.i64_in _ (by omega)
      go_wp2_with fail
      go_region_held3 (fun w' => w'.cell? ⟨w.heap.size + 1, 0, none⟩ = some (.slice (some ⟨g1, 0, none⟩) k q1) ∧ w'.cell? ⟨w.heap.size + 1, 1, none⟩ = some (.slice (some ⟨g2, 0, none⟩) k q2)) (go_keep) (fail)
      obtain ⟨W, hW⟩ : ∃ W : World, W = ((wr.setCell ⟨g1, k - 1, none⟩ (.int .i64 c)).setCell ⟨g2, k - 1, none⟩ (.int .i64 (c + 1))).drew := ⟨_, rfl⟩
      rw [← hW] at TL ⊢
      clear hW y0 y1 s1 s2 f1 f2 n1 n2 n3 wr2 wr3 e1 i0 i1
      obtain ⟨r0, r1, r2, r3, r4⟩ := res_cells TL.out.bel
      have y0 : W.cell? ⟨w.heap.size + 1, 0, none⟩ = some (.slice (some ⟨g1, 0, none⟩) k q1) := (TL.out.box.cell 0).trans rfl
      have y1 : W.cell? ⟨w.heap.size + 1, 1, none⟩ = some (.slice (some ⟨g2, 0, none⟩) k q2) := (TL.out.box.cell 1).trans rfl
      have R := Lib.hid (two_res (r := w.heap.size) (x := .slice (some ⟨g1, 0, none⟩) k q1) (y := .slice (some ⟨g2, 0, none⟩) k q2) (t := fixT k c) TL.out (fixT_len c h0).1 (fixT_len c h0).2 (by omega))
      have hb := Lib.hid (((hbx.out.trans (TL.out.bel.mono (by omega))).setCell (p := ⟨w.heap.size, 0, none⟩) (Nat.le_refl _) (.slice (some ⟨g1, 0, none⟩) k q1)).setCell (p := ⟨w.heap.size, 1, none⟩) (Nat.le_refl _) (.slice (some ⟨g2, 0, none⟩) k q2))
      have L1 := Lib.hid (fixT_len c h0).1
      have L2 := Lib.hid (fixT_len c h0).2
      go_wp2
      refine bodyPost_ret (v := .tuple #[.agg #[.slice (some ⟨g1, 0, none⟩) k q1, .slice (some ⟨g2, 0, none⟩) k q2], .int .i64 0]) (by simp [results, Tryz.results28, go_sem, r0, r1]) rfl ?_
      exact Ret.mk ⟨⟨_, _, _, _⟩, by show _ = Value.tuple #[.agg #[.slice _ (fixT k c).acc.length _, .slice _ (fixT k c).rej.length _], _]; rw [L1.out, L2.out], R.out, hb.out⟩

set_option maxHeartbeats 1000000 in
set_option maxRecDepth 100000 in
theorem rfixed_ok (n : Nat) (c : Int) (w : World) (h0 : 0 < n) (h1 : n ≤ 64) (h2 : -1 ≤ c) (h3 : c ≤ n) :
    Calls Tryz.prog 29 #[.int .i64 n, .int .i64 c] w (Ret (TRes w (fixT n c) 0)) := by
  have d1 : decide ((n : Int) < 1) = false := by rw [decide_eq_false_iff_not]; omega
  have d2 : decide (64 < n) = false := by rw [decide_eq_false_iff_not]; omega
  have d3 : decide (c < -1) = false := by rw [decide_eq_false_iff_not]; omega
  have d4 : decide ((n : Int) < c) = false := by rw [decide_eq_false_iff_not]; omega
  have hbx : Hid (Below w.heap.size w (w.alloc (.cells #[.slice none 0 0, .slice none 0 0] 32))) := Lib.hid ((Below.refl _ _).alloc (Nat.le_refl _) _)
  obtain ⟨m, hm1, hm2⟩ : ∃ m, n ≤ m + 1 ∧ m + 1 ≤ n := ⟨n - 1, by omega, by omega⟩
  go_enter Tryz.func29, Tryz.ntmps29
  go_wp2
  go_loopw [7] (fun i wr => ∃ (k : Nat) (v1 v2 : Value), k ≤ m ∧ i = .int .i64 k ∧ Two (w.alloc (.cells #[.slice none 0 0, .slice none 0 0] 32)) (w.heap.size + 1) wr (w.heap.size + 1) (w.heap.size + 2) 32 3 v1 v2 v1 k (iRow (fixA k)) v2 k (iRow (fixR k))) (fun i _ => n - (intOf i).toNat)
  case atStart => exact ⟨0, _, _, Nat.zero_le _, rfl, Two.new rfl⟩
  case round =>
    obtain ⟨k, v1, v2, hk, rfl, T⟩ := hrel
    replace T := Lib.hid T
    have y0 : wr.cell? ⟨w.heap.size + 1, 0, none⟩ = some v1 := (T.out.box.cell 0).trans rfl
    have y1 : wr.cell? ⟨w.heap.size + 1, 1, none⟩ = some v2 := (T.out.box.cell 1).trans rfl
    have i0 : (0 : Int) ≤ k := by omega
    by_cases hlt : k < m
    · have wr2 : IntKind.i64.wrap ((k : Int) + 2) = (k : Int) + 2 := IntWalk.i64_in _ (by omega)
      have hd : decide ((k : Int) < (n : Int) - 1) = true := decide_eq_true (by omega)
      go_wp2_with fail
      refine wp_region_any (by kernel_rfl) ?_
      change wpAny _ _ _ _ _ _ _ (World.drew _)
      refine wpAny_takeD (i := 0) (d := 30) (v := ?_) rfl rfl (by kernel_rfl) (by kernel_rfl) (by kernel_rfl) (fun _ _ _ h => h) (Or.inl ⟨by rfl, ?_⟩) ?_
      rotate_left
      · (intro w; go_simp; try with_reducible rfl)
      simp only [Act.put, List.setIfInBounds_toArray, List.set_cons_succ, List.set_cons_zero]
      refine wpAny_takeD (i := 4) (d := 34) (v := ?_) rfl rfl (by kernel_rfl) (by kernel_rfl) (by kernel_rfl) (fun _ _ _ h => h) (Or.inl ⟨by rfl, ?_⟩) ?_
      rotate_left
      · (intro w; go_simp; try with_reducible rfl)
      simp only [Act.put, List.setIfInBounds_toArray, List.set_cons_succ, List.set_cons_zero]
      refine wpAny_takeD (i := 6) (d := 36) (v := ?_) rfl rfl (by kernel_rfl) (by kernel_rfl) (by kernel_rfl) (fun _ _ _ h => h) (Or.inl ⟨by rfl, ?_⟩) ?_
      rotate_left
      · (intro w; go_simp; try with_reducible rfl)
      simp only [Act.put, List.setIfInBounds_toArray, List.set_cons_succ, List.set_cons_zero]
      refine wpAny_takeD (i := 7) (d := 37) (v := ?_) rfl rfl (by kernel_rfl) (by kernel_rfl) (by kernel_rfl) (fun _ _ _ h => h) (Or.inl ⟨by rfl, ?_⟩) ?_
      rotate_left
      · (intro w; go_simp; try with_reducible rfl)
      simp only [Act.put, List.setIfInBounds_toArray, List.set_cons_succ, List.set_cons_zero]
      change wpAny _ _ _ _ _ #[true, false, false, false, true, false, true, true, false, false, false, false, false, false] _ _
      refine two8_core (l0 := #[true, false, false, false, true, false, true, true, false, false, false, false, false, false]) (X := ⟨two_ 1 5, two_ 2 8, two_ 31 35, two_ 32 38, two_ 3 9, two_ 33 39, 10, 40⟩) (T := [11, 12, 13]) (lF := #[true, true, true, true, true, true, true, true, true, true, true, false, false, false]) elInt (by omega) (by omega) rfl rfl
        (two8_of (k := 11) (b := w.heap.size + 1) (k1 := .i64) (k2 := .i64) (n1 := (-1)) (n2 := ((k : Int) + 2)) elInt (by kernel_rfl) (by kernel_rfl) 30 34 6 (.const (.int .i64 (-1))) (.tmp 37) _ (by decide) ?q2hx (fun c => by cases c <;> rfl) (fun c => by cases c <;> rfl) (fun c => by cases c <;> rfl) (by rfl) Tryz.underlying32 rfl rfl rfl (by kernel_rfl) (by kernel_rfl) (by kernel_rfl) (by kernel_rfl) (by kernel_rfl) (by kernel_rfl))
        ?q2rest _ _ _ _ (by decide) (two8_start (by kernel_rfl) T.out.drew (by kernel_rfl))
      case q2hx =>
        intro x hx j hj
        simp only [List.mem_cons, List.not_mem_nil, or_false] at hx
        rcases hx with rfl | rfl <;> cases hj <;> decide
      case q2rest =>
        intro f r1 r2 w2 T2 g1 g2 g3
        obtain ⟨x0, e0⟩ : ∃ x, f 31 = x := ⟨_, rfl⟩
        obtain ⟨x1, e1⟩ : ∃ x, f 32 = x := ⟨_, rfl⟩
        obtain ⟨x3, e3⟩ : ∃ x, f 35 = x := ⟨_, rfl⟩
        obtain ⟨x4, e4⟩ : ∃ x, f 38 = x := ⟨_, rfl⟩
        replace g1 : f 33 = r1 := g1
        replace g2 : f 39 = r2 := g2
        replace g3 : f 40 = _ := g3
        simp only [Pair2.D, two_, List.foldl_cons, List.foldl_nil, List.drop_succ_cons, List.drop_zero, g1, g2, g3, e0, e1, e3, e4]
        clear e0 e1 e3 e4 g1 g2 g3 f
        have z0 : w2.cell? ⟨w.heap.size + 1, 0, none⟩ = some v1 := (T2.box.cell 0).trans rfl
        have z1 : w2.cell? ⟨w.heap.size + 1, 1, none⟩ = some v2 := (T2.box.cell 1).trans rfl
        have z2 := T2.box.frozen 0
        have z3 := T2.box.frozen 1
        obtain ⟨A1, q1, rfl, _⟩ := own_form T2.o1
        obtain ⟨A2, q2, rfl, _⟩ := own_form T2.o2
        rw [← fixA_succ, ← fixR_succ] at T2
        have T3 := Lib.hid T2.put
        clear T2 wr2
        go_wp2
        go_roundw
        case rel => exact ⟨k + 1, _, _, by omega, by go_num, T3.out⟩
        case measure => simp [intOf]; omega
    · have hd : decide ((k : Int) < (n : Int) - 1) = false := by rw [decide_eq_false_iff_not]; omega
      obtain rfl : k = m := by omega
      have wr2 : IntKind.i64.wrap (c + 1) = c + 1 := IntWalk.i64_in _ (by omega)
      go_wp2_with fail
      refine wp_region_any (by kernel_rfl) ?_
      change wpAny _ _ _ _ _ _ _ (World.drew _)
      refine wpAny_takeD (i := 0) (d := 42) (v := ?_) rfl rfl (by kernel_rfl) (by kernel_rfl) (by kernel_rfl) (fun _ _ _ h => h) (Or.inl ⟨by rfl, ?_⟩) ?_
      rotate_left
      · (intro w; go_simp; try with_reducible rfl)
      simp only [Act.put, List.setIfInBounds_toArray, List.set_cons_succ, List.set_cons_zero]
      refine wpAny_takeD (i := 2) (d := 44) (v := ?_) rfl rfl (by kernel_rfl) (by kernel_rfl) (by kernel_rfl) (fun _ _ _ h => h) (Or.inl ⟨by rfl, ?_⟩) ?_
      rotate_left
      · (intro w; go_simp; try with_reducible rfl)
      simp only [Act.put, List.setIfInBounds_toArray, List.set_cons_succ, List.set_cons_zero]
      refine wpAny_takeD (i := 5) (d := 47) (v := ?_) rfl rfl (by kernel_rfl) (by kernel_rfl) (by kernel_rfl) (fun _ _ _ h => h) (Or.inl ⟨by rfl, ?_⟩) ?_
      rotate_left
      · (intro w; go_simp; try with_reducible rfl)
      simp only [Act.put, List.setIfInBounds_toArray, List.set_cons_succ, List.set_cons_zero]
      refine wpAny_takeD (i := 7) (d := 49) (v := ?_) rfl rfl (by kernel_rfl) (by kernel_rfl) (by kernel_rfl) (fun _ _ _ h => h) (Or.inl ⟨by rfl, ?_⟩) ?_
      rotate_left
      · (intro w; go_simp; try with_reducible rfl)
      simp only [Act.put, List.setIfInBounds_toArray, List.set_cons_succ, List.set_cons_zero]
      refine wpAny_takeD (i := 8) (d := 50) (v := ?_) rfl rfl (by kernel_rfl) (by kernel_rfl) (by kernel_rfl) (fun _ _ _ h => h) (Or.inl ⟨by rfl, ?_⟩) ?_
      rotate_left
      · (intro w; go_simp; try with_reducible rfl)
      simp only [Act.put, List.setIfInBounds_toArray, List.set_cons_succ, List.set_cons_zero]
      change wpAny _ _ _ _ _ #[true, false, true, false, false, true, false, true, true, false, false, false, false, false, false] _ _
      refine two8_core (l0 := #[true, false, true, false, false, true, false, true, true, false, false, false, false, false, false]) (X := ⟨two_ 1 6, two_ 3 9, two_ 43 48, two_ 45 51, two_ 4 10, two_ 46 52, 11, 53⟩) (T := [12, 13, 14]) (lF := #[true, true, true, true, true, true, true, true, true, true, true, true, false, false, false]) elInt (by omega) (by omega) rfl rfl
        (two8_of (k := 12) (b := w.heap.size + 1) (k1 := .i64) (k2 := .i64) (n1 := c) (n2 := (c + 1)) elInt (by kernel_rfl) (by kernel_rfl) 42 47 6 (.tmp 44) (.tmp 50) _ (by decide) ?q3hx (fun c => by cases c <;> rfl) (fun c => by cases c <;> rfl) (fun c => by cases c <;> rfl) (by rfl) Tryz.underlying32 rfl rfl rfl (by kernel_rfl) (by kernel_rfl) (by kernel_rfl) (by kernel_rfl) (by kernel_rfl) (by kernel_rfl))
        ?q3rest _ _ _ _ (by decide) (two8_start (by kernel_rfl) T.out.drew (by kernel_rfl))
      case q3hx =>
        intro x hx j hj
        simp only [List.mem_cons, List.not_mem_nil, or_false] at hx
        rcases hx with rfl | rfl <;> cases hj <;> decide
      case q3rest =>
        intro f r1 r2 w2 T2 g1 g2 g3
        obtain ⟨x0, e0⟩ : ∃ x, f 43 = x := ⟨_, rfl⟩
        obtain ⟨x1, e1⟩ : ∃ x, f 45 = x := ⟨_, rfl⟩
        obtain ⟨x3, e3⟩ : ∃ x, f 48 = x := ⟨_, rfl⟩
        obtain ⟨x4, e4⟩ : ∃ x, f 51 = x := ⟨_, rfl⟩
        replace g1 : f 46 = r1 := g1
        replace g2 : f 52 = r2 := g2
        replace g3 : f 53 = _ := g3
        simp only [Pair2.D, two_, List.foldl_cons, List.foldl_nil, List.drop_succ_cons, List.drop_zero, g1, g2, g3, e0, e1, e3, e4]
        clear e0 e1 e3 e4 g1 g2 g3 f
        have z0 : w2.cell? ⟨w.heap.size + 1, 0, none⟩ = some v1 := (T2.box.cell 0).trans rfl
        have z1 : w2.cell? ⟨w.heap.size + 1, 1, none⟩ = some v2 := (T2.box.cell 1).trans rfl
        have z2 := T2.box.frozen 0
        have z3 := T2.box.frozen 1
        obtain ⟨s0, s1, s2, s3, s4⟩ := res_cells T2.bel
        obtain ⟨A1, q1, rfl, _⟩ := own_form T2.o1
        obtain ⟨A2, q2, rfl, _⟩ := own_form T2.o2
        obtain ⟨E1, E2, E3, E4⟩ := fixT_at c hm1 hm2
        rw [← iRow_snoc, ← iRow_snoc, E1, E2] at T2
        replace E3 := Lib.hid E3
        replace E4 := Lib.hid E4
        clear E1 E2
        have T3 := T2.put
        clear T2 wr2 hd
        have R := Lib.hid (two_res (r := w.heap.size) (x := .slice A1 (k + 1) q1) (y := .slice A2 (k + 1) q2) (t := (fixT n c)) T3 E3.out E4.out (by omega))
        have hb := Lib.hid (((hbx.out.trans (T3.bel.mono (by omega))).setCell (p := ⟨w.heap.size, 0, none⟩) (Nat.le_refl _) (.slice A1 (k + 1) q1)).setCell (p := ⟨w.heap.size, 1, none⟩) (Nat.le_refl _) (.slice A2 (k + 1) q2))
        clear T3
        have L1 : Hid (((fixT n c)).acc.length = k + 1) := Lib.hid E3.out
        have L2 : Hid (((fixT n c)).rej.length = k + 1) := Lib.hid E4.out
        go_wp2
        refine bodyPost_ret (v := .tuple #[.agg #[.slice A1 (k + 1) q1, .slice A2 (k + 1) q2], .int .i64 0]) (by simp [results, Tryz.results29, go_sem, s0, s1]) rfl ?_
        exact Ret.mk ⟨⟨_, _, _, _⟩, by show _ = Value.tuple #[.agg #[.slice _ ((fixT n c)).acc.length _, .slice _ ((fixT n c)).rej.length _], _]; rw [L1.out, L2.out], R.out, hb.out⟩
end Go.Proofs.YtpoddmkimhkmoaaGreat
