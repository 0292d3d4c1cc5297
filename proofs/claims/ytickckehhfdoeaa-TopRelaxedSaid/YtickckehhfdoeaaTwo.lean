/-
  GENERAL: a block of two slices of the call's own, both appended to in one statement.
  Conditions: none of its own.
-/
import Derived.Test.YtickckehhfdoeaaSl
namespace Go.Sv
open Go.RowKit

/-- block b is just the cells cs -/
def Whole (w : World) (b : Nat) (t : TypeId) (cs : Array Value) : Prop := w.heap[b]? = some (.cells cs t (0, 0))
theorem Whole.lt {w : World} {b : Nat} {t : TypeId} {cs : Array Value} (h : Whole w b t cs) : b < w.heap.size := by
  rcases Nat.lt_or_ge b w.heap.size with h1 | h1
  · exact h1
  · unfold Whole at h; rw [Array.getElem?_eq_none h1] at h; cases h
theorem Whole.cell {w : World} {b : Nat} {t : TypeId} {cs : Array Value} (h : Whole w b t cs) (i : Nat) : w.cell? ⟨b, i, none⟩ = cs[i]? := cell_of_row w b i cs t (0, 0) h
theorem Whole.frozen {w : World} {b : Nat} {t : TypeId} {cs : Array Value} (h : Whole w b t cs) (i : Nat) : w.frozen? ⟨b, i, none⟩ = false := by
  unfold Whole at h
  simp [World.frozen?, h]
theorem Whole.new (w : World) (t : TypeId) (cs : Array Value) : Whole (w.alloc (.cells cs t)) w.heap.size t cs := heap_alloc_new w _
theorem Whole.alloc {w : World} {b : Nat} {t : TypeId} {cs : Array Value} (h : Whole w b t cs) (o : Obj) : Whole (w.alloc o) b t cs := (Below.heap_alloc w o b h.lt).trans h
theorem Whole.drew {w : World} {b : Nat} {t : TypeId} {cs : Array Value} (h : Whole w b t cs) : Whole w.drew b t cs := h
theorem Whole.set {w : World} {b : Nat} {t : TypeId} {cs : Array Value} (h : Whole w b t cs) (i : Nat) (u : Value) : Whole (w.setCell ⟨b, i, none⟩ u) b t (cs.setIfInBounds i u) := by
  unfold Whole at h ⊢
  simp [World.setCell, Array.getElem?_modify, h]
theorem Whole.far {w : World} {b : Nat} {t : TypeId} {cs : Array Value} (h : Whole w b t cs) {p : Addr} (hp : b ≠ p.block) (u : Value) : Whole (w.setCell p u) b t cs := (Below.heap_setCell w p u b hp).trans h
theorem Whole.below {w w' : World} {B b : Nat} {t : TypeId} {cs : Array Value} (h : Whole w b t cs) (hb : Below B w w') (hB : b < B) : Whole w' b t cs := (hb.block b hB).trans h
theorem Whole.grown {w w' : World} {row : Option Nat} {b : Nat} {t : TypeId} {cs : Array Value} (h : Whole w b t cs) (hg : w.grownBy w' row) (hB : some b ≠ row) : Whole w' b t cs := (hg.block b h.lt hB).trans h
theorem grownBy_set (w : World) (b i : Nat) (u : Value) : w.grownBy (w.setCell ⟨b, i, none⟩ u) (some b) :=
  ⟨rfl, rfl, rfl, by simp [World.setCell], fun k _ hk => Below.heap_setCell _ _ _ _ (by rintro rfl; exact hk rfl)⟩

/-- The block b holds c1, c2; v1, v2 are rows of the call's own from 'base' on, apart. -/
structure Two (w0 : World) (B0 : Nat) (w : World) (b base : Nat) (tt e : TypeId) (c1 c2 v1 : Value) (n1 : Nat) (xs1 : List Value) (v2 : Value) (n2 : Nat) (xs2 : List Value) : Prop where
  box : Whole w b tt #[c1, c2]
  o1 : w.ownsRow base e 1 v1 n1 xs1
  o2 : w.ownsRow base e 1 v2 n2 xs2
  ap : ∀ g, v1.ownBlock = some g → v2.ownBlock ≠ some g
  hb : b < base
  hB : B0 ≤ b
  hs : base ≤ w.heap.size
  bel : Below B0 w0 w
  kb : ∀ k, k < base → k ≠ b → w.heap[k]? = w0.heap[k]?

section
variable {w0 w w' : World} {B0 b base : Nat} {tt e : TypeId} {c1 c2 v1 v2 : Value} {n1 n2 : Nat} {xs1 xs2 : List Value}
theorem Two.new {o : Obj} (_h : 0 = 0) : Two (w.alloc o) (w.heap.size + 1) ((w.alloc o).alloc (.cells #[.slice none 0 0, .slice none 0 0] tt)) (w.heap.size + 1) (w.heap.size + 2) tt e (.slice none 0 0) (.slice none 0 0) (.slice none 0 0) 0 [] (.slice none 0 0) 0 [] := by
  have hs : (w.alloc o).heap.size = w.heap.size + 1 := by simp
  have := Whole.new (w.alloc o) tt #[.slice none 0 0, .slice none 0 0]
  rw [hs] at this
  exact ⟨this, World.ownsRow_nil _ _ _ _, World.ownsRow_nil _ _ _ _, fun g h => by simp [Value.ownBlock] at h, by omega, Nat.le_refl _, by simp, (Below.refl _ _).alloc (by simp) _, fun k hk hb => ((Below.refl (w.alloc o).heap.size (w.alloc o)).alloc (Nat.le_refl _) _).block k (by omega)⟩
theorem Two.kept (h : Two w0 B0 w b base tt e c1 c2 v1 n1 xs1 v2 n2 xs2) (hg : w.grownBy w' none) : Two w0 B0 w' b base tt e c1 c2 v1 n1 xs1 v2 n2 xs2 :=
  ⟨h.box.grown hg (fun h => by cases h), h.o1.kept hg (by cases v1.ownBlock <;> simp), h.o2.kept hg (by cases v2.ownBlock <;> simp), h.ap, h.hb, h.hB, Nat.le_trans h.hs hg.size, h.bel.grown hg (by have := h.hs; have := h.hb; have := h.hB; omega) (fun k hk => by cases hk), fun k hk hb => (hg.block k (by have := h.hs; omega) (fun e => by cases e)).trans (h.kb k hk hb)⟩
theorem Two.alloc (h : Two w0 B0 w b base tt e c1 c2 v1 n1 xs1 v2 n2 xs2) (o : Obj) : Two w0 B0 (w.alloc o) b base tt e c1 c2 v1 n1 xs1 v2 n2 xs2 := h.kept (World.grownBy_alloc w o none)
theorem Two.drew (h : Two w0 B0 w b base tt e c1 c2 v1 n1 xs1 v2 n2 xs2) : Two w0 B0 w.drew b base tt e c1 c2 v1 n1 xs1 v2 n2 xs2 := ⟨h.box, h.o1, h.o2, h.ap, h.hb, h.hB, h.hs, h.bel.drew, h.kb⟩
theorem Two.to (h : Two w0 B0 w b base tt e c1 c2 v1 n1 xs1 v2 n2 xs2) (hb : Below w.heap.size w w') : Two w0 B0 w' b base tt e c1 c2 v1 n1 xs1 v2 n2 xs2 := h.kept ⟨hb.os, hb.tape, hb.output, hb.size, fun k hk _ => hb.block k hk⟩
theorem Two.start (hw : Whole w b tt #[.slice none 0 0, .slice none 0 0]) (hb : b < base) (hs : base ≤ w.heap.size) (hB : B0 ≤ b) (hbel : Below B0 w0 w) (hk : ∀ k, k < base → k ≠ b → w.heap[k]? = w0.heap[k]?) : Two w0 B0 w b base tt e (.slice none 0 0) (.slice none 0 0) (.slice none 0 0) 0 [] (.slice none 0 0) 0 [] :=
  ⟨hw, World.ownsRow_nil _ _ _ _, World.ownsRow_nil _ _ _ _, fun g h => by simp [Value.ownBlock] at h, hb, hB, hs, hbel, hk⟩
theorem Two.set (h : Two w0 B0 w b base tt e c1 c2 v1 n1 xs1 v2 n2 xs2) (u1 u2 : Value) (hx : (#[c1, c2] : Array Value).setIfInBounds 0 u1 = #[u1, c2]) : Two w0 B0 ((w.setCell ⟨b, 0, none⟩ u1).setCell ⟨b, 1, none⟩ u2) b base tt e u1 u2 v1 n1 xs1 v2 n2 xs2 := by
  have hn1 : v1.ownBlock = none ∨ v1.ownBlock ≠ some b := by
    right; intro e; have := (h.o1.lt b e).1; have := h.hb; omega
  have hn2 : v2.ownBlock = none ∨ v2.ownBlock ≠ some b := by
    right; intro e; have := (h.o2.lt b e).1; have := h.hb; omega
  refine ⟨?_, ((h.o1.kept (grownBy_set w b 0 u1) hn1).kept (grownBy_set _ b 1 u2) hn1), ((h.o2.kept (grownBy_set w b 0 u1) hn2).kept (grownBy_set _ b 1 u2) hn2), h.ap, h.hb, h.hB, ?_, (h.bel.setCell h.hB u1).setCell h.hB u2, fun k hk hb => ((grownBy_set _ b 1 u2).block k (by have := h.hs; simp [World.setCell]; omega) (fun e => hb (by injection e))).trans (((grownBy_set w b 0 u1).block k (by have := h.hs; omega) (fun e => hb (by injection e))).trans (h.kb k hk hb))⟩
  · have := (h.box.set 0 u1).set 1 u2
    rw [hx] at this
    exact this
  · have := h.hs
    simpa [World.setCell] using this
theorem Two.put (h : Two w0 B0 w b base tt e c1 c2 v1 n1 xs1 v2 n2 xs2) : Two w0 B0 ((w.setCell ⟨b, 0, none⟩ v1).setCell ⟨b, 1, none⟩ v2) b base tt e v1 v2 v1 n1 xs1 v2 n2 xs2 := h.set v1 v2 rfl
end

section
variable {P : Program} {t e : TypeId} {z : Value} {bytes : Nat} {w0 w : World} {B0 b base : Nat} {tt : TypeId} {c1 c2 v1 v2 : Value} {n1 n2 : Nat} {xs1 xs2 : List Value}
end
end Go.Sv
