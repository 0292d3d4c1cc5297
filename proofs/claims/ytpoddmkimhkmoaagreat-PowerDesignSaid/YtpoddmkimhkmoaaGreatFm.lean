/-
  GENERAL: the frame of a call: the boxes that it has made (its struct variables) and what it knows of other memory, kept through blocks, stores and calls.
  Conditions: none of its own.
-/
import Derived.Test.YtpoddmkimhkmoaaGreatBlk
namespace Go.Sv
open Go.RowKit

/-- a box: its block, its type, its cells -/
structure Bx where
  b : Nat
  t : TypeId
  cs : List Value
/-- a reading of memory that looks into the blocks of D alone -/
structure Rd where
  R : World → Prop
  D : Nat → Prop
  st : ∀ {w w' : World}, R w → (∀ p : Addr, D p.block → w'.cell? p = w.cell? p) → w.heap.size ≤ w'.heap.size → R w'

def AllB (W : World) : List Bx → Prop
  | [] => True
  | x :: r => Whole W x.b x.t x.cs.toArray ∧ AllB W r
def AllR (W : World) : List Rd → Prop
  | [] => True
  | x :: r => x.R W ∧ AllR W r
theorem allB_at {W : World} : ∀ {bs : List Bx}, AllB W bs → ∀ x ∈ bs, Whole W x.b x.t x.cs.toArray
  | [], _, x, hx => by cases hx
  | y :: r, h, x, hx => by
    rcases List.mem_cons.1 hx with rfl | hx
    · exact h.1
    · exact allB_at h.2 x hx
theorem allB_of {W : World} : ∀ {bs : List Bx}, (∀ x ∈ bs, Whole W x.b x.t x.cs.toArray) → AllB W bs
  | [], _ => trivial
  | y :: _r, h => ⟨h y (List.mem_cons_self ..), allB_of fun x hx => h x (List.mem_cons_of_mem _ hx)⟩
theorem allR_at {W : World} : ∀ {rs : List Rd}, AllR W rs → ∀ x ∈ rs, x.R W
  | [], _, x, hx => by cases hx
  | y :: r, h, x, hx => by
    rcases List.mem_cons.1 hx with rfl | hx
    · exact h.1
    · exact allR_at h.2 x hx
theorem allR_of {W : World} : ∀ {rs : List Rd}, (∀ x ∈ rs, x.R W) → AllR W rs
  | [], _ => trivial
  | y :: _r, h => ⟨h y (List.mem_cons_self ..), allR_of fun x hx => h x (List.mem_cons_of_mem _ hx)⟩

/-- what a box's cells hold, for the walk -/
def CellsAre (W : World) (b : Nat) : List Value → Prop
  | [a] => W.cell? ⟨b, 0, none⟩ = some a ∧ True
  | [a, c] => W.cell? ⟨b, 0, none⟩ = some a ∧ W.cell? ⟨b, 1, none⟩ = some c ∧ True
  | [a, c, d] => W.cell? ⟨b, 0, none⟩ = some a ∧ W.cell? ⟨b, 1, none⟩ = some c ∧ W.cell? ⟨b, 2, none⟩ = some d ∧ True
  | [a, c, d, e] => W.cell? ⟨b, 0, none⟩ = some a ∧ W.cell? ⟨b, 1, none⟩ = some c ∧ W.cell? ⟨b, 2, none⟩ = some d ∧ W.cell? ⟨b, 3, none⟩ = some e ∧ True
  | [a, c, d, e, f] => W.cell? ⟨b, 0, none⟩ = some a ∧ W.cell? ⟨b, 1, none⟩ = some c ∧ W.cell? ⟨b, 2, none⟩ = some d ∧ W.cell? ⟨b, 3, none⟩ = some e ∧ W.cell? ⟨b, 4, none⟩ = some f ∧ True
  | [a, c, d, e, f, g] => W.cell? ⟨b, 0, none⟩ = some a ∧ W.cell? ⟨b, 1, none⟩ = some c ∧ W.cell? ⟨b, 2, none⟩ = some d ∧ W.cell? ⟨b, 3, none⟩ = some e ∧ W.cell? ⟨b, 4, none⟩ = some f ∧ W.cell? ⟨b, 5, none⟩ = some g ∧ True
  | [a, c, d, e, f, g, h] => W.cell? ⟨b, 0, none⟩ = some a ∧ W.cell? ⟨b, 1, none⟩ = some c ∧ W.cell? ⟨b, 2, none⟩ = some d ∧ W.cell? ⟨b, 3, none⟩ = some e ∧ W.cell? ⟨b, 4, none⟩ = some f ∧ W.cell? ⟨b, 5, none⟩ = some g ∧ W.cell? ⟨b, 6, none⟩ = some h ∧ True
  | [a, c, d, e, f, g, h, i] => W.cell? ⟨b, 0, none⟩ = some a ∧ W.cell? ⟨b, 1, none⟩ = some c ∧ W.cell? ⟨b, 2, none⟩ = some d ∧ W.cell? ⟨b, 3, none⟩ = some e ∧ W.cell? ⟨b, 4, none⟩ = some f ∧ W.cell? ⟨b, 5, none⟩ = some g ∧ W.cell? ⟨b, 6, none⟩ = some h ∧ W.cell? ⟨b, 7, none⟩ = some i ∧ True
  | _ => True
def AllF (W : World) : List Bx → Prop
  | [] => True
  | ⟨b, _, cs⟩ :: r => (b < W.heap.size ∧ (∀ o, W.frozen? ⟨b, o, none⟩ = false) ∧ CellsAre W b cs) ∧ AllF W r
theorem cellsAre_of {W : World} {b : Nat} {t : TypeId} {cs : List Value} (h : Whole W b t cs.toArray) : CellsAre W b cs := by
  have hc := fun i => h.cell i
  unfold CellsAre
  split
  · exact ⟨hc 0, trivial⟩
  · exact ⟨hc 0, hc 1, trivial⟩
  · exact ⟨hc 0, hc 1, hc 2, trivial⟩
  · exact ⟨hc 0, hc 1, hc 2, hc 3, trivial⟩
  · exact ⟨hc 0, hc 1, hc 2, hc 3, hc 4, trivial⟩
  · exact ⟨hc 0, hc 1, hc 2, hc 3, hc 4, hc 5, trivial⟩
  · exact ⟨hc 0, hc 1, hc 2, hc 3, hc 4, hc 5, hc 6, trivial⟩
  · exact ⟨hc 0, hc 1, hc 2, hc 3, hc 4, hc 5, hc 6, hc 7, trivial⟩
  · trivial
theorem allF_of {W : World} : ∀ {bs : List Bx}, AllB W bs → AllF W bs
  | [], _ => trivial
  | ⟨_, _, _⟩ :: _, h => ⟨⟨h.1.lt, fun o => h.1.frozen o, cellsAre_of h.1⟩, allF_of h.2⟩

/-- the frame -/
structure Fm (w W : World) (bs : List Bx) (rs : List Rd) : Prop where
  bel : Below w.heap.size w W
  bx : AllB W bs
  rd : AllR W rs
  lo : ∀ x ∈ bs, w.heap.size ≤ x.b
  far : ∀ r ∈ rs, ∀ g, r.D g → g < W.heap.size ∧ ∀ x ∈ bs, x.b ≠ g
  dis : bs.Pairwise (fun x y => x.b ≠ y.b)
section
variable {w W W' : World} {bs : List Bx} {rs : List Rd}
theorem Fm.init (w : World) : Fm w w [] [] := ⟨Below.refl _ _, trivial, trivial, (fun x hx => by cases hx), (fun x hx => by cases hx), List.Pairwise.nil⟩
theorem Fm.facts (h : Fm w W bs rs) : AllF W bs := allF_of h.bx
theorem Fm.size (h : Fm w W bs rs) : w.heap.size ≤ W.heap.size := h.bel.size
theorem Fm.b_lt (h : Fm w W bs rs) {x : Bx} (hx : x ∈ bs) : x.b < W.heap.size := (allB_at h.bx x hx).lt
/-- what an argument reads as -/
theorem Fm.arg (h : Fm w w [] rs) (r : Rd) (hr : r.R w) (hD : ∀ g, r.D g → g < w.heap.size) : Fm w w [] (r :: rs) :=
  ⟨h.bel, trivial, ⟨hr, h.rd⟩, h.lo, (fun x hx g hg => by
    rcases List.mem_cons.1 hx with rfl | hx
    · exact ⟨hD g hg, fun y hy => by cases hy⟩
    · exact h.far x hx g hg), List.Pairwise.nil⟩
/-- a call that makes memory at most -/
theorem Fm.call (h : Fm w W bs rs) (hb : Below W.heap.size W W') : Fm w W' bs rs :=
  ⟨below_of h.bel h.bel.size hb, allB_of fun x hx => (allB_at h.bx x hx).below hb (h.b_lt hx),
    allR_of fun r hr => r.st (allR_at h.rd r hr) (fun _p hp => hb.cell (h.far r hr _ hp).1) hb.size, h.lo,
    fun r hr g hg => ⟨Nat.lt_of_lt_of_le (h.far r hr g hg).1 hb.size, (h.far r hr g hg).2⟩, h.dis⟩
theorem Fm.drawn (h : Fm w W bs rs) (hd : Drawn W W') : Fm w W' bs rs := h.call hd.below
theorem Fm.drew (h : Fm w W bs rs) : Fm w W.drew bs rs := h.drawn ((Drawn.refl W).drew)
theorem Fm.obj (h : Fm w W bs rs) (o : Obj) : Fm w (W.alloc o) bs rs := h.call ((Below.refl _ _).alloc (Nat.le_refl _) o)
/-- a call's result that reads -/
theorem Fm.res (h : Fm w W bs rs) (r : Rd) (hb : Below W.heap.size W W') (hr : r.R W') (hD : ∀ g, r.D g → W.heap.size ≤ g ∧ g < W'.heap.size) : Fm w W' bs (r :: rs) :=
  have k := h.call hb
  ⟨k.bel, k.bx, ⟨hr, k.rd⟩, k.lo, fun x hx g hg => by
    rcases List.mem_cons.1 hx with rfl | hx
    · refine ⟨(hD g hg).2, fun y hy e => ?_⟩
      have := h.b_lt hy
      have := (hD g hg).1
      omega
    · exact k.far x hx g hg, k.dis⟩
/-- a reading that follows at this world, of blocks that are known -/
theorem Fm.also (h : Fm w W bs rs) (r : Rd) (hr : r.R W) (hD : ∀ g, r.D g → g < W.heap.size ∧ ∀ x ∈ bs, x.b ≠ g) : Fm w W bs (r :: rs) :=
  ⟨h.bel, h.bx, ⟨hr, h.rd⟩, h.lo, fun x hx g hg => by
    rcases List.mem_cons.1 hx with rfl | hx
    · exact hD g hg
    · exact h.far x hx g hg, h.dis⟩
/-- a new box -/
theorem Fm.box (h : Fm w W bs rs) (t : TypeId) (cs : List Value) : Fm w (W.alloc (.cells cs.toArray t)) (⟨W.heap.size, t, cs⟩ :: bs) rs :=
  have k := h.obj (.cells cs.toArray t)
  ⟨k.bel, ⟨Whole.new W t cs.toArray, k.bx⟩, k.rd, fun x hx => by
    rcases List.mem_cons.1 hx with rfl | hx
    · exact h.bel.size
    · exact h.lo x hx, fun r hr g hg => ⟨(k.far r hr g hg).1, fun x hx => by
      rcases List.mem_cons.1 hx with rfl | hx
      · have := (h.far r hr g hg).1
        show W.heap.size ≠ g
        omega
      · exact (h.far r hr g hg).2 x hx⟩, List.Pairwise.cons (fun x hx e => by
        have := h.b_lt hx
        have e : W.heap.size = x.b := e
        omega) h.dis⟩
theorem Fm.box' (h : Fm w W bs rs) (t : TypeId) (cs : List Value) {K : Nat} (hK : W.heap.size = K) : Fm w (W.alloc (.cells cs.toArray t)) (⟨K, t, cs⟩ :: bs) rs := by
  subst hK; exact h.box t cs
theorem pair_ne : ∀ {bs : List Bx} {i : Nat} {x : Bx}, bs.Pairwise (fun x y => x.b ≠ y.b) → bs[i]? = some x → ∀ j y, bs[j]? = some y → j ≠ i → y.b ≠ x.b
  | [], i, x, _, h => by simp at h
  | z :: r, 0, x, hp, h => by
    simp at h
    subst h
    intro j y hy hj
    cases j with
    | zero => exact absurd rfl hj
    | succ j =>
      have := (List.pairwise_cons.1 hp).1 y (List.mem_of_getElem? (by simpa using hy))
      exact fun e => this e.symm
  | z :: r, i + 1, x, hp, h => by
    intro j y hy hj
    cases j with
    | zero =>
      simp at hy
      subst hy
      exact (List.pairwise_cons.1 hp).1 x (List.mem_of_getElem? (by simpa using h))
    | succ j => exact pair_ne (List.pairwise_cons.1 hp).2 (by simpa using h) j y (by simpa using hy) (by omega)
/-- a store into a box -/
theorem Fm.set (h : Fm w W bs rs) (i : Nat) {x : Bx} (hi : bs[i]? = some x) (k : Nat) (v : Value) : Fm w (W.setCell ⟨x.b, k, none⟩ v) (bs.set i ⟨x.b, x.t, x.cs.set k v⟩) rs := by
  have hmem := List.mem_of_getElem? hi
  have hm2 : ∀ y ∈ bs.set i ⟨x.b, x.t, x.cs.set k v⟩, ∃ z ∈ bs, z.b = y.b := by
    intro y hy
    rcases List.mem_or_eq_of_mem_set hy with hy | rfl
    · exact ⟨y, hy, rfl⟩
    · exact ⟨x, hmem, rfl⟩
  refine ⟨h.bel.setCell (h.lo x hmem) v, allB_of fun y hy => ?_, allR_of fun r hr => ?_, fun y hy => ?_, fun r hr g hg => ?_, ?_⟩
  · obtain ⟨j, hj⟩ := List.mem_iff_getElem?.1 hy
    rw [List.getElem?_set] at hj
    split at hj
    · rename_i e
      subst e
      split at hj
      · simp at hj
        subst hj
        have := (allB_at h.bx x hmem).set k v
        simpa using this
      · cases hj
    · rename_i e
      exact (allB_at h.bx y (List.mem_of_getElem? hj)).far (pair_ne h.dis hi j y hj (fun e' => e e'.symm)) v
  · refine r.st (allR_at h.rd r hr) (fun p hp => ?_) (by simp)
    refine World.cell?_setCell_other _ _ _ _ fun e => ?_
    have := (h.far r hr _ hp).2 x hmem
    rw [← e] at this
    exact this rfl
  · obtain ⟨z, hz, e⟩ := hm2 y hy
    rw [← e]; exact h.lo z hz
  · refine ⟨by have := (h.far r hr g hg).1; simpa using this, fun y hy => ?_⟩
    obtain ⟨z, hz, e⟩ := hm2 y hy
    rw [← e]; exact (h.far r hr g hg).2 z hz
  · have := h.dis
    rw [List.pairwise_iff_getElem] at this ⊢
    intro a c ha hc hac
    have hl : (bs.set i ⟨x.b, x.t, x.cs.set k v⟩).length = bs.length := List.length_set ..
    have key : ∀ a (ha : a < (bs.set i ⟨x.b, x.t, x.cs.set k v⟩).length), ((bs.set i ⟨x.b, x.t, x.cs.set k v⟩)[a]).b = (bs[a]'(by omega)).b := by
      intro a ha
      rw [List.getElem_set]
      split
      · rename_i e
        subst e
        rw [List.getElem?_eq_getElem (by omega)] at hi
        injection hi with hi
        rw [hi]
      · rfl
    rw [key a ha, key c hc]
    exact this a c (by omega) (by omega) hac
/-- fewer boxes, fewer readings -/
theorem Fm.drop (h : Fm w W bs rs) (bs' : List Bx) (rs' : List Rd) (hb : bs'.Sublist bs) (hr : rs'.Sublist rs) : Fm w W bs' rs' :=
  ⟨h.bel, allB_of fun x hx => allB_at h.bx x (hb.subset hx), allR_of fun x hx => allR_at h.rd x (hr.subset hx), fun x hx => h.lo x (hb.subset hx),
    fun r h1 g hg => ⟨(h.far r (hr.subset h1) g hg).1, fun x hx => (h.far r (hr.subset h1) g hg).2 x (hb.subset hx)⟩, h.dis.sublist hb⟩
variable {x0 x1 x2 x3 x4 x5 x6 x7 : Rd}
theorem Fm.r0 (h : Fm w W bs (x0 :: rs)) : x0.R W := h.rd.1
theorem Fm.r1 (h : Fm w W bs (x0 :: x1 :: rs)) : x1.R W := h.rd.2.1
theorem Fm.r2 (h : Fm w W bs (x0 :: x1 :: x2 :: rs)) : x2.R W := h.rd.2.2.1
theorem Fm.r3 (h : Fm w W bs (x0 :: x1 :: x2 :: x3 :: rs)) : x3.R W := h.rd.2.2.2.1
theorem Fm.r4 (h : Fm w W bs (x0 :: x1 :: x2 :: x3 :: x4 :: rs)) : x4.R W := h.rd.2.2.2.2.1
theorem Fm.r5 (h : Fm w W bs (x0 :: x1 :: x2 :: x3 :: x4 :: x5 :: rs)) : x5.R W := h.rd.2.2.2.2.2.1
theorem Fm.r6 (h : Fm w W bs (x0 :: x1 :: x2 :: x3 :: x4 :: x5 :: x6 :: rs)) : x6.R W := h.rd.2.2.2.2.2.2.1
theorem Fm.r7 (h : Fm w W bs (x0 :: x1 :: x2 :: x3 :: x4 :: x5 :: x6 :: x7 :: rs)) : x7.R W := h.rd.2.2.2.2.2.2.2.1
end
end Go.Sv
