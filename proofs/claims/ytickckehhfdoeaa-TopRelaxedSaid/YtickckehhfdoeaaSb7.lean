/-
  LISTS of mixes; CONTRACT of step.Run.
  Conditions: those that each theorem names.
-/
import Derived.Test.YtickckehhfdoeaaSb6
import Derived.Deep.DeepCutAuto
import Derived.Test.YtickckehhfdoeaaSb2

namespace Go.Proofs.Ytickckehhfdoeaa
open Go.RowKit Go.Sv
def mxC (m : Mx) (q : MixP) : Nat → Value
  | 0 => .slice q.a0 m.base.length q.c0
  | 1 => .slice q.a1 m.next.length q.c1
  | _ => .slice q.a2 m.held.length q.c2
def mxF (ms : List Mx) (Q : Nat → MixP) (k i : Nat) : Value := mxC (mxAt ms k) (Q k) i
def mxRow (ms : List Mx) (Q : Nat → MixP) : List Value := rowN 3 ms.length (mxF ms Q)
theorem mxRow_len (ms : List Mx) (Q : Nat → MixP) : (mxRow ms Q).length = ms.length * 3 := rowN_length ..
theorem mxRow_get {ms : List Mx} {Q : Nat → MixP} {k i : Nat} (hk : k < ms.length) (hi : i < 3) : (mxRow ms Q)[k * 3 + i]? = some (mxF ms Q k i) := rowN_get hk hi
def Qs (n : Nat) (Q : Nat → MixP) (q : MixP) (k : Nat) : MixP := if k = n then q else Q k
theorem Qs_lt {n k : Nat} {Q : Nat → MixP} {q : MixP} (h : k < n) : Qs n Q q k = Q k := if_neg (by omega)
theorem Qs_at {n : Nat} {Q : Nat → MixP} {q : MixP} : Qs n Q q n = q := if_pos rfl
theorem mxRow_snoc (ms : List Mx) (Q : Nat → MixP) (m : Mx) (q : MixP) : mxRow (ms ++ [m]) (Qs ms.length Q q) = mxRow ms Q ++ [.slice q.a0 m.base.length q.c0, .slice q.a1 m.next.length q.c1, .slice q.a2 m.held.length q.c2] := by
  unfold mxRow
  rw [List.length_append, List.length_singleton, rowN_snoc (f := mxF ms Q) (by decide) (fun k hk i _ => by unfold mxF; rw [mxAt_snoc_lt hk, Qs_lt hk])]
  unfold mxF
  rw [mxAt_snoc_last, Qs_at]
  rfl
theorem mx_cells {w : World} {b off k : Nat} {ms : List Mx} {Q : Nat → MixP} (h : ∀ i, i < 3 → w.cell? ⟨b, off + k * 3 + i, none⟩ = some (mxF ms Q k i)) :
    w.cell? ⟨b, off + k * 3, none⟩ = some (.slice (Q k).a0 (mxAt ms k).base.length (Q k).c0) ∧ w.cell? ⟨b, off + k * 3 + 1, none⟩ = some (.slice (Q k).a1 (mxAt ms k).next.length (Q k).c1) ∧ w.cell? ⟨b, off + k * 3 + 2, none⟩ = some (.slice (Q k).a2 (mxAt ms k).held.length (Q k).c2) := ⟨h 0 (by decide), h 1 (by decide), h 2 (by decide)⟩
/-- rows of another element type lie in other blocks -/
theorem ownO_other {w w' : World} {base base' : Nat} {e e' : TypeId} {size size' : Nat} {v u : Value} {n m : Nat} {xs ys : List Value} (h : w.ownsRow base e size v n xs) (hu : w.ownsRow base' e' size' u m ys) (hne : e ≠ e') (hg : w.grownBy w' u.ownBlock) : w'.ownsRow base e size v n xs := by
  refine ⟨h.1, ?_⟩
  rcases h.2 with hn | ⟨g, cap, cur, hv, hb, hgg, rest⟩
  · exact Or.inl hn
  · have hw : Whole w g e cur := hgg
    refine Or.inr ⟨g, cap, cur, hv, hb, hw.grown hg ?_, rest⟩
    intro heq
    rcases hu.2 with ⟨hv2, _⟩ | ⟨g2, cap2, cur2, hv2, _, hgg2, _⟩
    · rw [hv2] at heq; cases heq
    · rw [hv2] at heq
      have h3 : some g = some g2 := heq
      injection h3 with h3
      subst h3
      rw [hgg] at hgg2
      injection hgg2 with h4
      injection h4 with _ h5 _
      exact hne h5
theorem own_one {w : World} {B s : Nat} {e : TypeId} {cs : List Value} (hl : cs.length = s) (hB : B ≤ w.heap.size) : (w.alloc (.cells cs.toArray e)).ownsRow B e s (.slice (some ⟨w.heap.size, 0, none⟩) 1 1) 1 cs :=
  ⟨by rw [hl, Nat.one_mul], Or.inr ⟨w.heap.size, 1, cs.toArray, rfl, hB, Whole.new w e cs.toArray, Nat.le_refl _, by unfold maxLen; decide, by simp [hl], by rw [Nat.one_mul, List.take_of_length_le (by simp [hl])]⟩⟩
theorem elMix : ElemT Try.prog 40 56 (.agg #[.slice none 0 0, .slice none 0 0, .slice none 0 0]) 3 72 := ⟨Try.underlying40, by kernel_rfl, by kernel_rfl, by omega⟩
/-- an element of a list of mixes: its rows lie below A, or are the call's own, from B on -/
def MEl (W : World) (A B : Nat) (m : Mx) (q : MixP) : Prop := (RMix W A m q ∨ AO W B m q) ∧ MBd m q
theorem MEl.to {W W' : World} {A B : Nat} {m : Mx} {q : MixP} (h : MEl W A B m q) (hA : A ≤ W.heap.size) (hb : Below W.heap.size W W') : MEl W' A B m q :=
  ⟨h.1.imp (fun h => h.below (hb.mono hA)) (fun h => h.to hb), h.2⟩
theorem MEl.mix {W : World} {A B : Nat} {m : Mx} {q : MixP} (h : MEl W A B m q) (hA : A ≤ W.heap.size) : RMix W W.heap.size m q :=
  h.1.elim (fun h => h.more hA) (fun h => h.mix)
theorem MEl.push {W W' : World} {A B B' s n : Nat} {m : Mx} {q : MixP} {u : Value} {ys : List Value} (h : MEl W A B m q) (hu : W.ownsRow B' 56 s u n ys) (hg : W.grownBy W' u.ownBlock) (hb : Below A W W') : MEl W' A B m q :=
  ⟨h.1.imp (fun h => h.below hb) (fun h => ⟨ownO_other h.o0 hu (by decide) hg, ownO_other h.o1 hu (by decide) hg, ownO_other h.o2 hu (by decide) hg, h.d01, h.d02, h.d12⟩), h.2⟩
theorem MEl.base {W : World} {A B B' : Nat} {m : Mx} {q : MixP} (h : MEl W A B m q) (hB : B' ≤ B) : MEl W A B' m q := ⟨h.1.imp id (fun h => h.base hB), h.2⟩
structure MxL (W : World) (A B : Nat) (ms : List Mx) (Q : Nat → MixP) (v : Value) : Prop where
  row : W.ownsRow B 56 3 v ms.length (mxRow ms Q)
  el : ∀ k, k < ms.length → MEl W A B (mxAt ms k) (Q k)
theorem MxL.to {W W' : World} {A B : Nat} {ms : List Mx} {Q : Nat → MixP} {v : Value} (h : MxL W A B ms Q v) (hA : A ≤ W.heap.size) (hb : Below W.heap.size W W') : MxL W' A B ms Q v :=
  ⟨own_to h.row hb, fun k hk => (h.el k hk).to hA hb⟩
theorem MxL.base {W : World} {A B B' : Nat} {ms : List Mx} {Q : Nat → MixP} {v : Value} (h : MxL W A B ms Q v) (hB : B' ≤ B) : MxL W A B' ms Q v :=
  ⟨own_base h.row hB, fun k hk => (h.el k hk).base hB⟩
theorem MxL.arr {W : World} {A B : Nat} {ms : List Mx} {Q : Nat → MixP} {v : Value} (h : MxL W A B ms Q v) : ∃ A c, v = .slice A ms.length c ∧ ArrN W W.heap.size 3 A ms.length (mxF ms Q) := by
  obtain ⟨A, c, hv, _, _, ha⟩ := own_arrN (f := mxF ms Q) h.row (fun k hk i hi => mxRow_get hk hi)
  exact ⟨A, c, hv, ha⟩
/-- one more mix -/
theorem MxL.snoc {W W' : World} {A B : Nat} {ms : List Mx} {Q : Nat → MixP} {v v' : Value} {m : Mx} {q : MixP} {o : Obj} (h : MxL W A B ms Q v) (hm : MEl W A B m q) (hA : A ≤ B) (hB : B ≤ W.heap.size)
    (ho : W'.ownsRow B 56 3 v' (ms.length + 1) (mxRow ms Q ++ [.slice q.a0 m.base.length q.c0, .slice q.a1 m.next.length q.c1, .slice q.a2 m.held.length q.c2])) (hg : (W.alloc o).grownBy W' v.ownBlock) : MxL W' A B (ms ++ [m]) (Qs ms.length Q q) v' := by
  have ha : Below W.heap.size W (W.alloc o) := (Below.refl _ _).alloc (Nat.le_refl _) o
  have hb2 : Below A (W.alloc o) W' := (own_below (own_to h.row ha) hg (Nat.le_trans hB ha.size)).mono hA
  have hAW := Nat.le_trans hA hB
  refine ⟨?_, fun k hk => ?_⟩
  · show World.ownsRow _ _ _ _ _ (ms ++ [m]).length _
    rw [List.length_append, List.length_singleton, mxRow_snoc]
    exact ho
  · rw [List.length_append, List.length_singleton] at hk
    by_cases c : k < ms.length
    · rw [mxAt_snoc_lt c, Qs_lt c]
      exact ((h.el k c).to hAW ha).push (own_to h.row ha) hg hb2
    · obtain rfl : k = ms.length := by omega
      rw [mxAt_snoc_last, Qs_at]
      exact (hm.to hAW ha).push (own_to h.row ha) hg hb2
/-- a list of one mix -/
theorem MxL.one {W : World} {A B : Nat} {m : Mx} {q : MixP} (hm : MEl W A B m q) (hA : A ≤ B) (hB : B ≤ W.heap.size) : MxL (W.alloc (.cells #[.slice q.a0 m.base.length q.c0, .slice q.a1 m.next.length q.c1, .slice q.a2 m.held.length q.c2] 56)) A B [m] (fun _ => q) (.slice (some ⟨W.heap.size, 0, none⟩) 1 1) :=
  ⟨by
    have h := own_one (w := W) (B := B) (e := 56) (cs := [.slice q.a0 m.base.length q.c0, .slice q.a1 m.next.length q.c1, .slice q.a2 m.held.length q.c2]) (s := 3) rfl hB
    have e : mxRow [m] (fun _ => q) = [.slice q.a0 m.base.length q.c0, .slice q.a1 m.next.length q.c1, .slice q.a2 m.held.length q.c2] := by
      unfold mxRow rowN
      simp [List.range_succ, mxF, mxC, mxAt]
    show World.ownsRow _ _ _ _ _ 1 (mxRow [m] fun _ => q)
    rw [e]
    exact h, fun k hk => by
    have : k = 0 := by simpa using hk
    subst this
    exact hm.to (Nat.le_trans hA hB) ((Below.refl _ _).alloc (Nat.le_refl _) _)⟩
theorem MxL.nil (W : World) (A B : Nat) : MxL W A B [] (fun _ => ⟨none, 0, none, 0, none, 0⟩) (.slice none 0 0) := ⟨World.ownsRow_nil _ _ _ _, fun k hk => by cases hk⟩
end Go.Proofs.Ytickckehhfdoeaa

namespace Go.Proofs.Ytickckehhfdoeaa
open Go.RowKit Go.Sv
end Go.Proofs.Ytickckehhfdoeaa

namespace Go.Proofs.Ytickckehhfdoeaa
open Go.RowKit Go.Sv
end Go.Proofs.Ytickckehhfdoeaa
