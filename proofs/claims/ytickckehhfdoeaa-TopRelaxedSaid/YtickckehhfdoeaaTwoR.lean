/-
  GENERAL: a region that draws its order and appends to two slices of one block: 'x.f, x.g = append(x.f, u), append(x.g, v)'.
  Conditions: those that each theorem names.
-/
import Derived.Test.YtickckehhfdoeaaTwo
import Derived.StillTailTactics
namespace Go.Sv
open Go.RowKit

section
variable {P : Program} {ops : Array Oper} {Q : Exit → Act → World → Prop}

theorem wpAny_more {md : Region.Mode} : ∀ (f : Nat) (listed : Array Bool) (a : Act) (w : World), wpAny P md ops Q f listed a w → wpAny P md ops Q (f + 1) listed a w
  | 0, _, _, _, h => ⟨fun _ => h.2, fun i hi => by rw [h.1] at hi; cases hi⟩
  | f + 1, _, _, _, h => ⟨h.1, fun i hi => wpOp_mono (fun a' w' => wpAny_more f _ a' w') (h.2 i hi)⟩
theorem wpAny_le {md : Region.Mode} {f : Nat} {listed : Array Bool} {a : Act} {w : World} (h : wpAny P md ops Q f listed a w) : ∀ g, wpAny P md ops Q (f + g) listed a w
  | 0 => h
  | g + 1 => wpAny_more _ _ _ _ (wpAny_le h g)

/-- a and b agree but for the slots D -/
structure Agree (D : List Nat) (a b : Act) : Prop where
  defers : b.defers = a.defers
  size : b.tmps.size = a.tmps.size
  same : ∀ k, k ∉ D → b.tmps[k]? = a.tmps[k]?
theorem Agree.refl (D : List Nat) (a : Act) : Agree D a a := ⟨rfl, rfl, fun _ _ => rfl⟩
theorem Agree.put {D : List Nat} {a b : Act} (h : Agree D a b) {d : Nat} (hd : d ∈ D) (v : Value) : Agree D a (b.put (some d) v) :=
  ⟨h.defers, by simp [Act.put, h.size], fun k hk => by
    have hne : d ≠ k := by rintro rfl; exact hk hd
    simp only [Act.put, Array.getElem?_setIfInBounds, if_neg hne]
    exact h.same k hk⟩
theorem Agree.eval {D : List Nat} {a b : Act} (h : Agree D a b) {k : Nat} (hk : k ∉ D) : b.eval (.tmp k) = a.eval (.tmp k) := by
  have e := h.same k hk
  unfold Act.eval
  simp only [Array.getD_eq_getD_getElem?, e]
theorem eval_put_same {a : Act} {d : Nat} {v : Value} (hd : d < a.tmps.size) : (a.put (some d) v).eval (.tmp d) = v := by
  simp [Act.put, Act.eval, hd]
theorem eval_put_ne {a : Act} {d k : Nat} {v : Value} (hd : d ≠ k) : (a.put (some d) v).eval (.tmp k) = a.eval (.tmp k) := by
  simp only [Act.put, Act.eval, Array.getD_eq_getD_getElem?, Array.getElem?_setIfInBounds, if_neg hd]
/-- the frame written out -/
theorem Agree.puts : ∀ {D : List Nat} {a b : Act}, Agree D a b → b = D.foldl (fun c d => c.put (some d) (b.eval (.tmp d))) a := by
  intro D a b h
  show b = D.foldl (fun c d => c.put (some d) (b.tmps.getD d undef)) a
  have key : ∀ (E : List Nat) (c : Act), Agree E c b → b = E.foldl (fun c d => c.put (some d) (b.tmps.getD d undef)) c := by
    intro E
    induction E with
    | nil =>
      intro c hc
      cases b; cases c
      have h1 := hc.defers
      have h2 : _ = _ := Array.ext_getElem? (fun k => hc.same k (by simp))
      simp only at h1 h2
      simp [h1, h2]
    | cons d E ih =>
      intro c hc
      rw [List.foldl_cons]
      refine ih _ ⟨hc.defers, by simp [Act.put, hc.size], fun k hk => ?_⟩
      by_cases e : k = d
      · subst e
        simp only [Act.put, Array.getElem?_setIfInBounds, if_true]
        have hs := hc.size
        by_cases hlt : k < c.tmps.size
        · simp [hlt, hs]
        · simp [hlt]; omega
      · have hne : d ≠ k := fun e' => e e'.symm
        simp only [Act.put, Array.getElem?_setIfInBounds, if_neg hne]
        exact hc.same k (by simp [e, hk])
  exact key D a h
end
end Go.Sv
namespace Go.Sv
open Go.RowKit
section
variable {P : Program} {ops : Array Oper} {Q : Exit → Act → World → Prop}

theorem wpOp_of {i : Nat} {o : Oper} {K : Act → World → Prop} {a : Act} {w : World} (hi : ops[i]? = some o) (hg : o.guard = none) (h : o.wp P a w K Q) : wpOp P ops Q i K a w := by
  unfold wpOp
  simp only [hi]
  have hw : Region.wanted o (yielded ops a.tmps) = true := by simp [Region.wanted, hg]
  rw [if_pos hw]
  exact Or.inl h
theorem waits_listed {md : Region.Mode} {i j : Nat} {listed : Array Bool} (hw : Region.waitsFor md ops j i = true) (hr : j ∈ Region.ready md ops listed) : listed.getD i true = true := by
  obtain ⟨oj, hoj, e, he, hb, hon⟩ := Region.waitsFor_spec hw
  obtain ⟨_, o', ho', hall⟩ := mem_ready.1 hr
  have : o' = oj := Option.some.inj (ho'.symm.trans hoj)
  subst this
  have h := hall e he hb
  rw [hon] at h
  cases hx : listed.getD i true with
  | true => rfl
  | false => rw [getD_both hx] at h; cases h
theorem ready_un {md : Region.Mode} {j : Nat} {listed : Array Bool} (hr : j ∈ Region.ready md ops listed) : listed.getD j true = false := (mem_ready.1 hr).1
theorem set_get {listed : Array Bool} {i j : Nat} (h : (listed.setIfInBounds i true).getD j true = false) : j ≠ i ∧ listed.getD j true = false := by
  by_cases e : i = j
  · subst e
    by_cases hs : i < listed.size <;> simp [hs] at h
  · rw [getD_set_ne true e] at h
    exact ⟨fun e' => e e'.symm, h⟩
theorem set_same {listed : Array Bool} {i : Nat} : (listed.setIfInBounds i true).getD i true = true := by
  by_cases hs : i < listed.size <;> simp [hs]

structure Pair2 where
  iL : Bool → Nat
  iB : Bool → Nat
  dL : Bool → Nat
  dB : Bool → Nat
  iA : Bool → Nat
  dA : Bool → Nat
  iF : Nat
  dF : Nat
abbrev Pair2.D (X : Pair2) : List Nat := [X.dL false, X.dB false, X.dA false, X.dL true, X.dB true, X.dA true, X.dF]
/-- the state of one chain -/
structure Chain (X : Pair2) (c : Bool) (H0 : Nat) (v r : Value) (n m : Nat) (xs ys : List Value) (u : Value) (listed : Array Bool) (a : Act) (w : World) : Prop where
  l : listed.getD (X.iL c) true = true → a.eval (.tmp (X.dL c)) = v
  bb : listed.getD (X.iB c) true = true → listed.getD (X.iA c) true = false → ∃ B, a.eval (.tmp (X.dB c)) = .slice (some ⟨B, 0, none⟩) 1 1 ∧ w.cell? ⟨B, 0, none⟩ = some u ∧ H0 ≤ B
  done : listed.getD (X.iA c) true = true → a.eval (.tmp (X.dA c)) = r ∧ m = n + 1 ∧ ys = xs ++ [u]
  todo : listed.getD (X.iA c) true = false → r = v ∧ m = n ∧ ys = xs
/-- one chain is let alone -/
theorem Chain.keep {X : Pair2} {c : Bool} {H0 : Nat} {v r : Value} {n m : Nat} {xs ys : List Value} {u : Value} {listed : Array Bool} {a a' : Act} {w w' : World} {i : Nat} (h : Chain X c H0 v r n m xs ys u listed a w)
    (h1 : i ≠ X.iL c) (h2 : i ≠ X.iB c) (h3 : i ≠ X.iA c) (e1 : a'.eval (.tmp (X.dL c)) = a.eval (.tmp (X.dL c))) (e2 : a'.eval (.tmp (X.dB c)) = a.eval (.tmp (X.dB c))) (e3 : a'.eval (.tmp (X.dA c)) = a.eval (.tmp (X.dA c)))
    (hc : ∀ B u, H0 ≤ B → w.cell? ⟨B, 0, none⟩ = some u → listed.getD (X.iA c) true = false → w'.cell? ⟨B, 0, none⟩ = some u) : Chain X c H0 v r n m xs ys u (listed.setIfInBounds i true) a' w' := by
  refine ⟨fun k => ?_, fun k k' => ?_, fun k => ?_, fun k => ?_⟩
  · rw [getD_set_ne true h1] at k
    rw [e1]; exact h.l k
  · rw [getD_set_ne true h2] at k
    rw [getD_set_ne true h3] at k'
    obtain ⟨B, q1, q2, q3⟩ := h.bb k k'
    exact ⟨B, e2.trans q1, hc B u q3 q2 k', q3⟩
  · rw [getD_set_ne true h3] at k
    rw [e3]; exact h.done k
  · rw [getD_set_ne true h3] at k
    exact h.todo k

abbrev Pair2.J (X : Pair2) : List Nat := [X.iL false, X.iB false, X.iA false, X.iL true, X.iB true, X.iA true, X.iF]
def unl (listed : Array Bool) (j : Nat) : Bool := !listed.getD j true
theorem count_set {listed : Array Bool} {i : Nat} : ∀ {l : List Nat}, i ∈ l → listed.getD i true = false → l.countP (unl (listed.setIfInBounds i true)) < l.countP (unl listed)
  | [], h, _ => by cases h
  | j :: l, h, hu => by
    have hle : ∀ l : List Nat, l.countP (unl (listed.setIfInBounds i true)) ≤ l.countP (unl listed) := fun l =>
      List.countP_mono_left fun k _ hk => by
        unfold unl at hk ⊢
        have : (listed.setIfInBounds i true).getD k true = false := by simpa using hk
        simp [(set_get this).2]
    rw [List.countP_cons, List.countP_cons]
    rcases List.mem_cons.1 h with e | e
    · subst e
      have h1 : unl (listed.setIfInBounds i true) i = false := by unfold unl; rw [set_same]; rfl
      have h2 : unl listed i = true := by unfold unl; rw [hu]; rfl
      rw [h1, h2]
      have := hle l
      simp; omega
    · have := count_set e hu
      have h3 : (if unl (listed.setIfInBounds i true) j = true then 1 else 0) ≤ (if unl listed j = true then 1 else 0) := by
        cases hx : unl (listed.setIfInBounds i true) j with
        | false => simp
        | true =>
          have : (listed.setIfInBounds i true).getD j true = false := by unfold unl at hx; simpa using hx
          have : unl listed j = true := by unfold unl; rw [(set_get this).2]; rfl
          simp [this]
      omega
/-- each of the operations J waits for earlier ones of J, and for what is listed, alone -/
def edgesB (ops : Array Oper) (l0 : Array Bool) (J : List Nat) : Bool :=
  (List.range J.length).all fun p => match ops[J.getD p 0]? with
    | none => false
    | some o => o.guard.isNone && o.after.all fun e => !Region.binds .any e || l0.getD e.on false || (J.take p).contains e.on
theorem ready_some {l0 listed : Array Bool} {J : List Nat} (hB : edgesB ops l0 J = true) (hk : ∀ j, l0.getD j false = true → listed.getD j false = true) (hsz : ∀ j ∈ J, j < listed.size)
    (hex : ∃ j ∈ J, listed.getD j true = false) : Region.ready .any ops listed ≠ [] := by
  obtain ⟨p, hp, hpu, hpa⟩ : ∃ p, p < J.length ∧ listed.getD (J.getD p 0) true = false ∧ ∀ q, q < p → listed.getD (J.getD q 0) true = true := by
    obtain ⟨j, hj, hju⟩ := hex
    obtain ⟨p, hp, rfl⟩ := List.mem_iff_getElem.1 hj
    have hj' : listed.getD (J.getD p 0) true = false := by simpa [hp] using hju
    clear hju hj
    induction p using Nat.strongRecOn with
    | _ p ih =>
      by_cases c : ∃ q, q < p ∧ listed.getD (J.getD q 0) true = false
      · obtain ⟨q, hq, hqu⟩ := c
        exact ih q hq (by omega) hqu
      · refine ⟨p, hp, hj', fun q hq => ?_⟩
        cases hx : listed.getD (J.getD q 0) true with
        | true => rfl
        | false => exact absurd ⟨q, hq, hx⟩ c
  have h1 := List.all_eq_true.1 hB p (List.mem_range.2 hp)
  intro hnil
  cases ho : ops[J.getD p 0]? with
  | none => rw [ho] at h1; cases h1
  | some o =>
    rw [ho] at h1
    simp only [Bool.and_eq_true] at h1
    have hmem : J.getD p 0 ∈ Region.ready .any ops listed := mem_ready.2 ⟨hpu, o, ho, fun e he hb => by
      have h2 := Array.all_eq_true'.1 h1.2 e he
      rw [hb] at h2
      simp only [Bool.not_true, Bool.false_or, Bool.or_eq_true] at h2
      rcases h2 with h2 | h2
      · exact hk _ h2
      · have h3 : e.on ∈ J.take p := by simpa using h2
        obtain ⟨q, hq, hqe⟩ := List.mem_iff_getElem.1 h3
        have hq2 : q < p ∧ q < J.length := by simp at hq; omega
        have h4 := hpa q hq2.1
        have h5 : J.getD q 0 = e.on := by simp [hq2.2]; rw [← hqe]; simp
        rw [h5] at h4
        have h6 : e.on < listed.size := hsz _ (by rw [← h5]; simp [hq2.2])
        simpa [h6] using h4⟩
    rw [hnil] at hmem
    cases hmem
end
end Go.Sv
namespace Go.Sv
open Go.RowKit
section
variable {P : Program} {ops : Array Oper} {Q : Exit → Act → World → Prop}
end
end Go.Sv
namespace Go.Sv
open Go.RowKit
section
variable {P : Program} {Q : Exit → Act → World → Prop} {K : Act → World → Prop}
theorem oper_load {o : Oper} {a : Act} {w : World} {ty e : TypeId} {d p : Nat} {ad : Addr} {v : Value} (ho : o.op = .load ty (.tmp p)) (hd : o.dst = some d) (he : a.eval (.tmp p) = .pointer (some ad))
    (hty : P.underlying ty = some (.slice e)) (hc : w.cell? ad = some v) (h : K (a.put (some d) v) w) : o.wp P a w K Q := by
  have hA : (isAgg ty).run P w = .ok false w := by simp [isAgg, run_underlying hty]
  unfold Oper.wp execOp
  simp only [ho, he, hd, Oper.upon]
  go_simp
  exact h
theorem oper_build1 {o : Oper} {a : Act} {w : World} {ty e : TypeId} {d : Nat} {x : Operand} {k : IntKind} {n : Int} {z : Value} {bytes : Nat} (E : ElemT P ty e z 1 bytes) (ho : o.op = .buildSlice ty 1 #[(0, x)]) (hd : o.dst = some d) (he : a.eval x = .int k n) 
    (h : K (a.put (some d) (.slice (some ⟨w.heap.size, 0, none⟩) 1 1)) (w.alloc (.cells #[.int k n] e))) : o.wp P a w K Q := by
  obtain ⟨i, hi, e1, e2, e3⟩ := info_parts E.hi
  have hu := run_underlying E.ht w
  unfold Oper.wp execOp
  simp only [ho, hd, Oper.upon, List.map_toArray, List.map_cons, List.map_nil, he]
  have hz := E.hz
  have hr : Array.range 1 = #[0] := by decide
  have hcs : (Value.int k n).cells = #[.int k n] := rfl
  simp [Instr.buildSlice, hu, sizeOf, typeInfo, hi, e1, e2, zeroValue, Instr.fill, hz, newRow, hcs, hr]
  exact h
end
end Go.Sv
namespace Go.Sv
open Go.RowKit
section
variable {P : Program} {Q : Exit → Act → World → Prop}
end
section
variable {P : Program} {ops : Array Oper} {Q : Exit → Act → World → Prop}
end
end Go.Sv
