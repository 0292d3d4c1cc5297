/-
  GENERAL: a made slice of one-cell elements as a block of its own; two of them behind a box.
  Conditions: none of its own.
-/
import Derived.Test.YtpoddmkimhkmoaaGreatTwo
namespace Go.Sv
open Go.RowKit

/-- block g is just the n cells f 0, f 1, .. -/
def Blk (w : World) (g : Nat) (e : TypeId) (n : Nat) (f : Nat → Value) : Prop := ∃ cs : Array Value, Whole w g e cs ∧ cs.size = n ∧ ∀ k, k < n → cs[k]? = some (f k)
section
variable {w w' : World} {g n : Nat} {e : TypeId} {f f' : Nat → Value}
theorem Blk.lt (h : Blk w g e n f) : g < w.heap.size := by obtain ⟨cs, h, _⟩ := h; exact h.lt
theorem Blk.cell (h : Blk w g e n f) {k : Nat} (hk : k < n) : w.cell? ⟨g, k, none⟩ = some (f k) := by obtain ⟨cs, h, _, hc⟩ := h; exact (h.cell k).trans (hc k hk)
theorem Blk.frozen (h : Blk w g e n f) (k : Nat) : w.frozen? ⟨g, k, none⟩ = false := by obtain ⟨cs, h, _⟩ := h; exact h.frozen k
theorem Blk.congr (h : Blk w g e n f) (hf : ∀ k, k < n → f k = f' k) : Blk w g e n f' := by
  obtain ⟨cs, h, hs, hc⟩ := h
  exact ⟨cs, h, hs, fun k hk => (hc k hk).trans (congrArg some (hf k hk))⟩
theorem Blk.set (h : Blk w g e n f) (i : Nat) (u : Value) : Blk (w.setCell ⟨g, i, none⟩ u) g e n (fun k => if k = i then u else f k) := by
  obtain ⟨cs, h, hs, hc⟩ := h
  refine ⟨_, h.set i u, by simpa using hs, fun k hk => ?_⟩
  by_cases hki : k = i
  · subst hki
    simp [hs, hk]
  · have : i ≠ k := fun e => hki e.symm
    simp [hki, this, hc k hk]
theorem Blk.far (h : Blk w g e n f) {p : Addr} (hp : g ≠ p.block) (u : Value) : Blk (w.setCell p u) g e n f := by
  obtain ⟨cs, h, hs, hc⟩ := h
  exact ⟨cs, h.far hp u, hs, hc⟩
theorem Blk.to (h : Blk w g e n f) (hb : Below w.heap.size w w') : Blk w' g e n f := by
  obtain ⟨cs, h, hs, hc⟩ := h
  exact ⟨cs, h.below hb h.lt, hs, hc⟩
theorem Blk.alloc (h : Blk w g e n f) (o : Obj) : Blk (w.alloc o) g e n f := by
  obtain ⟨cs, h, hs, hc⟩ := h
  exact ⟨cs, h.alloc o, hs, hc⟩
theorem Blk.drawn (h : Blk w g e n f) (hd : Drawn w w') : Blk w' g e n f := by
  obtain ⟨m, rfl⟩ := hd
  obtain ⟨cs, h, hs, hc⟩ := h
  exact ⟨cs, h, hs, hc⟩
theorem Blk.drew (h : Blk w g e n f) : Blk w.drew g e n f := h
theorem Blk.made (w : World) (e : TypeId) (z : Value) (n : Nat) : Blk (w.alloc (.cells (madeCells #[z] n) e)) w.heap.size e n (fun _ => z) := by
  refine ⟨_, Whole.new w e _, size_madeCells _ _, fun k hk => ?_⟩
  simp [madeCells, hk, Nat.mod_one]
theorem Blk.made' {w : World} {g : Nat} (e : TypeId) (z : Value) (n : Nat) (hg : g = w.heap.size) : Blk (w.alloc (.cells (madeCells #[z] n) e)) g e n (fun _ => z) := by subst hg; exact Blk.made w e z n
theorem Blk.arr (h : Blk w g e n f) {B : Nat} (hB : g < B) : Arr w B (some ⟨g, 0, none⟩) n f := fun _ => ⟨g, 0, rfl, hB, fun k hk => by rw [Nat.zero_add]; exact h.cell hk⟩
end

/-- a box of two made slices -/
structure Tri (w0 : World) (B0 : Nat) (w : World) (b g1 g2 : Nat) (tt e : TypeId) (n : Nat) (f1 f2 : Nat → Value) : Prop where
  box : Whole w b tt #[.slice (some ⟨g1, 0, none⟩) n n, .slice (some ⟨g2, 0, none⟩) n n]
  r1 : Blk w g1 e n f1
  r2 : Blk w g2 e n f2
  n1 : g1 ≠ b
  n2 : g2 ≠ b
  n3 : g1 ≠ g2
  h1 : B0 ≤ g1
  h2 : B0 ≤ g2
  hb : B0 ≤ b
  bel : Below B0 w0 w
section
variable {w0 w w' : World} {B0 b g1 g2 n : Nat} {tt e : TypeId} {f1 f2 : Nat → Value}
theorem Tri.to (h : Tri w0 B0 w b g1 g2 tt e n f1 f2) (hb : Below w.heap.size w w') : Tri w0 B0 w' b g1 g2 tt e n f1 f2 :=
  ⟨h.box.below hb h.box.lt, h.r1.to hb, h.r2.to hb, h.n1, h.n2, h.n3, h.h1, h.h2, h.hb, below_of h.bel (Nat.le_trans h.hb (Nat.le_of_lt h.box.lt)) hb⟩
theorem Tri.set (h : Tri w0 B0 w b g1 g2 tt e n f1 f2) (i j : Nat) (u1 u2 : Value) : Tri w0 B0 ((w.setCell ⟨g1, i, none⟩ u1).setCell ⟨g2, j, none⟩ u2) b g1 g2 tt e n (fun k => if k = i then u1 else f1 k) (fun k => if k = j then u2 else f2 k) :=
  ⟨(h.box.far (p := ⟨g1, i, none⟩) (fun e => h.n1 e.symm) u1).far (p := ⟨g2, j, none⟩) (fun e => h.n2 e.symm) u2, (h.r1.set i u1).far (p := ⟨g2, j, none⟩) h.n3 u2, (h.r2.far (p := ⟨g1, i, none⟩) (fun e => h.n3 e.symm) u1).set j u2, h.n1, h.n2, h.n3, h.h1, h.h2, h.hb, (h.bel.setCell h.h1 u1).setCell h.h2 u2⟩
theorem Tri.drew (h : Tri w0 B0 w b g1 g2 tt e n f1 f2) : Tri w0 B0 w.drew b g1 g2 tt e n f1 f2 := ⟨h.box, h.r1.drew, h.r2.drew, h.n1, h.n2, h.n3, h.h1, h.h2, h.hb, h.bel.drew⟩
theorem Tri.congr {f1' f2' : Nat → Value} (h : Tri w0 B0 w b g1 g2 tt e n f1 f2) (h1 : ∀ k, k < n → f1 k = f1' k) (h2 : ∀ k, k < n → f2 k = f2' k) : Tri w0 B0 w b g1 g2 tt e n f1' f2' :=
  ⟨h.box, h.r1.congr h1, h.r2.congr h2, h.n1, h.n2, h.n3, h.h1, h.h2, h.hb, h.bel⟩
end
theorem heap3 (w : World) (o1 o2 o3 : Obj) : (((w.alloc o1).alloc o2).alloc o3).drew.heap[w.heap.size]? = some o1 ∧ (((w.alloc o1).alloc o2).alloc o3).drew.heap[w.heap.size + 1]? = some o2 ∧ (((w.alloc o1).alloc o2).alloc o3).drew.heap[w.heap.size + 1 + 1]? = some o3 := by
  have e1 : (w.alloc o1).heap.size = w.heap.size + 1 := by simp
  have e2 : ((w.alloc o1).alloc o2).heap.size = w.heap.size + 1 + 1 := by simp
  refine ⟨?_, ?_, ?_⟩
  · exact (Below.heap_alloc _ o3 _ (by omega)).trans ((Below.heap_alloc _ o2 _ (by omega)).trans (heap_alloc_new w o1))
  · refine (Below.heap_alloc _ o3 _ (by omega)).trans ?_
    have := heap_alloc_new (w.alloc o1) o2
    rwa [e1] at this
  · have := heap_alloc_new ((w.alloc o1).alloc o2) o3
    rwa [e2] at this
theorem below3 (w : World) (o1 o2 o3 : Obj) : Below w.heap.size w (((w.alloc o1).alloc o2).alloc o3).drew :=
  ((((Below.refl _ _).alloc (Nat.le_refl _) o1).alloc (by simp) o2).alloc (by simp; omega) o3).drew
theorem Tri.make {W w1 : World} {b g1 g2 n : Nat} {tt e : TypeId} {z : Value} {f1 f2 : Nat → Value} (hb : Below w1.heap.size w1 W)
    (h0 : W.heap[b]? = some (.cells #[.slice (some ⟨g1, 0, none⟩) n n, .slice (some ⟨g2, 0, none⟩) n n] tt)) (h1 : W.heap[g1]? = some (.cells (madeCells #[z] n) e)) (h2 : W.heap[g2]? = some (.cells (madeCells #[z] n) e))
    (n1 : g1 ≠ b) (n2 : g2 ≠ b) (n3 : g1 ≠ g2) (l1 : w1.heap.size ≤ g1) (l2 : w1.heap.size ≤ g2) (l3 : w1.heap.size ≤ b) (e1 : ∀ k, k < n → f1 k = z) (e2 : ∀ k, k < n → f2 k = z) :
    Tri w1 w1.heap.size W b g1 g2 tt e n f1 f2 := by
  have hk : ∀ k, k < n → (madeCells #[z] n)[k]? = some z := fun k hk => by simp [madeCells, hk, Nat.mod_one]
  exact ⟨h0, ⟨_, h1, size_madeCells _ _, fun k h => (hk k h).trans (congrArg some (e1 k h).symm)⟩, ⟨_, h2, size_madeCells _ _, fun k h => (hk k h).trans (congrArg some (e2 k h).symm)⟩, n1, n2, n3, l1, l2, l3, hb⟩
end Go.Sv
