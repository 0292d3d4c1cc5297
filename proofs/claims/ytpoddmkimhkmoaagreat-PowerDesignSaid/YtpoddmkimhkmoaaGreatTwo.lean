/-
  GENERAL: a block of two slices of the call's own, both appended to in one statement.
  Conditions: none of its own.
-/
import Derived.Test.YtpoddmkimhkmoaaGreatSl
namespace Go.Sv
open Go.RowKit

/-- block b is just the cells cs -/
def Whole (w : World) (b : Nat) (t : TypeId) (cs : Array Value) : Prop := w.heap[b]? = some (.cells cs t (0, 0))
theorem Whole.lt {w : World} {b : Nat} {t : TypeId} {cs : Array Value} (h : Whole w b t cs) : b < w.heap.size := by
  rcases Nat.lt_or_ge b w.heap.size with h1 | h1
  · exact h1
  · unfold Whole at h; rw [Array.getElem?_eq_none h1] at h; cases h
theorem Whole.cell {w : World} {b : Nat} {t : TypeId} {cs : Array Value} (h : Whole w b t cs) (i : Nat) : w.cell? ⟨b, i, none⟩ = cs[i]? := cell_of_row w b i cs t (0, 0) h
theorem Whole.frozen {w : World} {b : Nat} {t : TypeId} {cs : Array Value} (h : Whole w b t cs) (i : Nat) : w.frozen? ⟨b, i, none⟩ = false := by
  unfold Whole at h
  simp [World.frozen?, h]
theorem Whole.new (w : World) (t : TypeId) (cs : Array Value) : Whole (w.alloc (.cells cs t)) w.heap.size t cs := heap_alloc_new w _
theorem Whole.alloc {w : World} {b : Nat} {t : TypeId} {cs : Array Value} (h : Whole w b t cs) (o : Obj) : Whole (w.alloc o) b t cs := (Below.heap_alloc w o b h.lt).trans h
theorem Whole.drew {w : World} {b : Nat} {t : TypeId} {cs : Array Value} (h : Whole w b t cs) : Whole w.drew b t cs := h
theorem Whole.set {w : World} {b : Nat} {t : TypeId} {cs : Array Value} (h : Whole w b t cs) (i : Nat) (u : Value) : Whole (w.setCell ⟨b, i, none⟩ u) b t (cs.setIfInBounds i u) := by
  unfold Whole at h ⊢
  simp [World.setCell, Array.getElem?_modify, h]
theorem Whole.far {w : World} {b : Nat} {t : TypeId} {cs : Array Value} (h : Whole w b t cs) {p : Addr} (hp : b ≠ p.block) (u : Value) : Whole (w.setCell p u) b t cs := (Below.heap_setCell w p u b hp).trans h
theorem Whole.below {w w' : World} {B b : Nat} {t : TypeId} {cs : Array Value} (h : Whole w b t cs) (hb : Below B w w') (hB : b < B) : Whole w' b t cs := (hb.block b hB).trans h
theorem Whole.grown {w w' : World} {row : Option Nat} {b : Nat} {t : TypeId} {cs : Array Value} (h : Whole w b t cs) (hg : w.grownBy w' row) (hB : some b ≠ row) : Whole w' b t cs := (hg.block b h.lt hB).trans h
theorem grownBy_set (w : World) (b i : Nat) (u : Value) : w.grownBy (w.setCell ⟨b, i, none⟩ u) (some b) :=
  ⟨rfl, rfl, rfl, by simp [World.setCell], fun k _ hk => Below.heap_setCell _ _ _ _ (by rintro rfl; exact hk rfl)⟩

/-- The block b holds c1, c2; v1, v2 are rows of the call's own from 'base' on, apart. -/
structure Two (w0 : World) (B0 : Nat) (w : World) (b base : Nat) (tt e : TypeId) (c1 c2 v1 : Value) (n1 : Nat) (xs1 : List Value) (v2 : Value) (n2 : Nat) (xs2 : List Value) : Prop where
  box : Whole w b tt #[c1, c2]
  o1 : w.ownsRow base e 1 v1 n1 xs1
  o2 : w.ownsRow base e 1 v2 n2 xs2
  ap : ∀ g, v1.ownBlock = some g → v2.ownBlock ≠ some g
  hb : b < base
  hB : B0 ≤ b
  hs : base ≤ w.heap.size
  bel : Below B0 w0 w
  kb : ∀ k, k < base → k ≠ b → w.heap[k]? = w0.heap[k]?

section
variable {w0 w w' : World} {B0 b base : Nat} {tt e : TypeId} {c1 c2 v1 v2 : Value} {n1 n2 : Nat} {xs1 xs2 : List Value}
theorem Two.new {o : Obj} (_h : 0 = 0) : Two (w.alloc o) (w.heap.size + 1) ((w.alloc o).alloc (.cells #[.slice none 0 0, .slice none 0 0] tt)) (w.heap.size + 1) (w.heap.size + 2) tt e (.slice none 0 0) (.slice none 0 0) (.slice none 0 0) 0 [] (.slice none 0 0) 0 [] := by
  have hs : (w.alloc o).heap.size = w.heap.size + 1 := by simp
  have := Whole.new (w.alloc o) tt #[.slice none 0 0, .slice none 0 0]
  rw [hs] at this
  exact ⟨this, World.ownsRow_nil _ _ _ _, World.ownsRow_nil _ _ _ _, fun g h => by simp [Value.ownBlock] at h, by omega, Nat.le_refl _, by simp, (Below.refl _ _).alloc (by simp) _, fun k hk hb => ((Below.refl (w.alloc o).heap.size (w.alloc o)).alloc (Nat.le_refl _) _).block k (by omega)⟩
theorem Two.kept (h : Two w0 B0 w b base tt e c1 c2 v1 n1 xs1 v2 n2 xs2) (hg : w.grownBy w' none) : Two w0 B0 w' b base tt e c1 c2 v1 n1 xs1 v2 n2 xs2 :=
  ⟨h.box.grown hg (fun h => by cases h), h.o1.kept hg (by cases v1.ownBlock <;> simp), h.o2.kept hg (by cases v2.ownBlock <;> simp), h.ap, h.hb, h.hB, Nat.le_trans h.hs hg.size, h.bel.grown hg (by have := h.hs; have := h.hb; have := h.hB; omega) (fun k hk => by cases hk), fun k hk hb => (hg.block k (by have := h.hs; omega) (fun e => by cases e)).trans (h.kb k hk hb)⟩
theorem Two.alloc (h : Two w0 B0 w b base tt e c1 c2 v1 n1 xs1 v2 n2 xs2) (o : Obj) : Two w0 B0 (w.alloc o) b base tt e c1 c2 v1 n1 xs1 v2 n2 xs2 := h.kept (World.grownBy_alloc w o none)
theorem Two.drew (h : Two w0 B0 w b base tt e c1 c2 v1 n1 xs1 v2 n2 xs2) : Two w0 B0 w.drew b base tt e c1 c2 v1 n1 xs1 v2 n2 xs2 := ⟨h.box, h.o1, h.o2, h.ap, h.hb, h.hB, h.hs, h.bel.drew, h.kb⟩
theorem Two.to (h : Two w0 B0 w b base tt e c1 c2 v1 n1 xs1 v2 n2 xs2) (hb : Below w.heap.size w w') : Two w0 B0 w' b base tt e c1 c2 v1 n1 xs1 v2 n2 xs2 := h.kept ⟨hb.os, hb.tape, hb.output, hb.size, fun k hk _ => hb.block k hk⟩
theorem Two.new0 : Two w w.heap.size (w.alloc (.cells #[.slice none 0 0, .slice none 0 0] tt)) w.heap.size (w.heap.size + 1) tt e (.slice none 0 0) (.slice none 0 0) (.slice none 0 0) 0 [] (.slice none 0 0) 0 [] :=
  ⟨Whole.new w tt #[.slice none 0 0, .slice none 0 0], World.ownsRow_nil _ _ _ _, World.ownsRow_nil _ _ _ _, fun g h => by simp [Value.ownBlock] at h, by omega, Nat.le_refl _, by simp, (Below.refl _ _).alloc (Nat.le_refl _) _, fun k hk hb => ((Below.refl w.heap.size w).alloc (Nat.le_refl _) _).block k (by omega)⟩
theorem Two.start (hw : Whole w b tt #[.slice none 0 0, .slice none 0 0]) (hb : b < base) (hs : base ≤ w.heap.size) (hB : B0 ≤ b) (hbel : Below B0 w0 w) (hk : ∀ k, k < base → k ≠ b → w.heap[k]? = w0.heap[k]?) : Two w0 B0 w b base tt e (.slice none 0 0) (.slice none 0 0) (.slice none 0 0) 0 [] (.slice none 0 0) 0 [] :=
  ⟨hw, World.ownsRow_nil _ _ _ _, World.ownsRow_nil _ _ _ _, fun g h => by simp [Value.ownBlock] at h, hb, hB, hs, hbel, hk⟩
theorem Two.grow1 (h : Two w0 B0 w b base tt e c1 c2 v1 n1 xs1 v2 n2 xs2) {v1' : Value} {n1' : Nat} {xs1' : List Value} (ho : w'.ownsRow base e 1 v1' n1' xs1') (hg : w.grownBy w' v1.ownBlock)
    (hv : v1'.ownBlock = v1.ownBlock ∨ v1'.ownBlock = some w.heap.size) : Two w0 B0 w' b base tt e c1 c2 v1' n1' xs1' v2 n2 xs2 := by
  refine ⟨h.box.grown hg (fun e => ?_), ho, h.o2.kept hg ?_, fun g h1 h2 => ?_, h.hb, h.hB, Nat.le_trans h.hs hg.size, h.bel.grown hg (by have := h.hs; have := h.hb; have := h.hB; omega) (fun k hk => ?_), fun k hk hb => (hg.block k (by have := h.hs; omega) (fun e => by have := (h.o1.lt k e.symm).1; omega)).trans (h.kb k hk hb)⟩
  · have := (h.o1.lt b e.symm).1
    have := h.hb
    omega
  · cases hx : v2.ownBlock with
    | none => exact Or.inl rfl
    | some g => exact Or.inr fun e => h.ap g e.symm hx
  · rcases hv with e | e
    · exact h.ap g (e.symm.trans h1) h2
    · have := (h.o2.lt g h2).2
      rw [e] at h1
      injection h1 with h1
      omega
  · have := (h.o1.lt k hk).1
    have := h.hb
    have := h.hB
    omega
theorem Two.swap (h : Two w0 B0 w b base tt e c1 c2 v1 n1 xs1 v2 n2 xs2) : (∀ g, v2.ownBlock = some g → v1.ownBlock ≠ some g) := fun g h1 h2 => h.ap g h2 h1
theorem Two.grow2 (h : Two w0 B0 w b base tt e c1 c2 v1 n1 xs1 v2 n2 xs2) {v2' : Value} {n2' : Nat} {xs2' : List Value} (ho : w'.ownsRow base e 1 v2' n2' xs2') (hg : w.grownBy w' v2.ownBlock)
    (hv : v2'.ownBlock = v2.ownBlock ∨ v2'.ownBlock = some w.heap.size) : Two w0 B0 w' b base tt e c1 c2 v1 n1 xs1 v2' n2' xs2' := by
  refine ⟨h.box.grown hg (fun e => ?_), h.o1.kept hg ?_, ho, fun g h1 h2 => ?_, h.hb, h.hB, Nat.le_trans h.hs hg.size, h.bel.grown hg (by have := h.hs; have := h.hb; have := h.hB; omega) (fun k hk => ?_), fun k hk hb => (hg.block k (by have := h.hs; omega) (fun e => by have := (h.o2.lt k e.symm).1; omega)).trans (h.kb k hk hb)⟩
  · have := (h.o2.lt b e.symm).1
    have := h.hb
    omega
  · cases hx : v1.ownBlock with
    | none => exact Or.inl rfl
    | some g => exact Or.inr fun e => h.ap g hx e.symm
  · rcases hv with e | e
    · exact h.ap g h1 (e.symm.trans h2)
    · have := (h.o1.lt g h1).2
      rw [e] at h2
      injection h2 with h2
      omega
  · have := (h.o2.lt k hk).1
    have := h.hb
    have := h.hB
    omega
theorem Two.set (h : Two w0 B0 w b base tt e c1 c2 v1 n1 xs1 v2 n2 xs2) (u1 u2 : Value) (hx : (#[c1, c2] : Array Value).setIfInBounds 0 u1 = #[u1, c2]) : Two w0 B0 ((w.setCell ⟨b, 0, none⟩ u1).setCell ⟨b, 1, none⟩ u2) b base tt e u1 u2 v1 n1 xs1 v2 n2 xs2 := by
  have hn1 : v1.ownBlock = none ∨ v1.ownBlock ≠ some b := by
    right; intro e; have := (h.o1.lt b e).1; have := h.hb; omega
  have hn2 : v2.ownBlock = none ∨ v2.ownBlock ≠ some b := by
    right; intro e; have := (h.o2.lt b e).1; have := h.hb; omega
  refine ⟨?_, ((h.o1.kept (grownBy_set w b 0 u1) hn1).kept (grownBy_set _ b 1 u2) hn1), ((h.o2.kept (grownBy_set w b 0 u1) hn2).kept (grownBy_set _ b 1 u2) hn2), h.ap, h.hb, h.hB, ?_, (h.bel.setCell h.hB u1).setCell h.hB u2, fun k hk hb => ((grownBy_set _ b 1 u2).block k (by have := h.hs; simp [World.setCell]; omega) (fun e => hb (by injection e))).trans (((grownBy_set w b 0 u1).block k (by have := h.hs; omega) (fun e => hb (by injection e))).trans (h.kb k hk hb))⟩
  · have := (h.box.set 0 u1).set 1 u2
    rw [hx] at this
    exact this
  · have := h.hs
    simpa [World.setCell] using this
theorem Two.put (h : Two w0 B0 w b base tt e c1 c2 v1 n1 xs1 v2 n2 xs2) : Two w0 B0 ((w.setCell ⟨b, 0, none⟩ v1).setCell ⟨b, 1, none⟩ v2) b base tt e v1 v2 v1 n1 xs1 v2 n2 xs2 := h.set v1 v2 rfl
/-- a store into each row -/
theorem Two.last {g1 g2 q1 q2 : Nat} (h : Two w0 B0 w b base tt e c1 c2 (.slice (some ⟨g1, 0, none⟩) n1 q1) n1 xs1 (.slice (some ⟨g2, 0, none⟩) n2 q2) n2 xs2) (j1 j2 : Nat) (u1 u2 : Value) :
    Two w0 B0 ((w.setCell ⟨g1, j1, none⟩ u1).setCell ⟨g2, j2, none⟩ u2) b base tt e c1 c2 (.slice (some ⟨g1, 0, none⟩) n1 q1) n1 (xs1.set j1 u1) (.slice (some ⟨g2, 0, none⟩) n2 q2) n2 (xs2.set j2 u2) := by
  have hne : g1 ≠ g2 := fun e => h.ap g1 rfl (by rw [e]; rfl)
  obtain ⟨a1, a2⟩ := h.o1.stored j1 u1
  have a3 := h.o2.kept a2 (Or.inr (by simp [Value.ownBlock]; exact fun e => hne e.symm))
  obtain ⟨b1, b2⟩ := a3.stored j2 u2
  have b3 := a1.kept b2 (Or.inr (by simp [Value.ownBlock]; exact hne))
  have l1 := (h.o1.lt g1 rfl).1
  have l2 := (h.o2.lt g2 rfl).1
  have := h.hb
  have := h.hB
  have := h.hs
  refine ⟨(h.box.grown a2 (by simp; omega)).grown b2 (by simp; omega), b3, b1, h.ap, h.hb, h.hB, Nat.le_trans h.hs (Nat.le_trans a2.size b2.size), (h.bel.setCell (by show B0 ≤ g1; omega) u1).setCell (by show B0 ≤ g2; omega) u2, fun k hk hb => (b2.block k (Nat.lt_of_lt_of_le (Nat.lt_of_lt_of_le hk h.hs) a2.size) (fun e => by injection e with e; omega)).trans ((a2.block k (by omega) (fun e => by injection e with e; omega)).trans (h.kb k hk hb))⟩
theorem Two.far1 (h : Two w0 B0 w b base tt e c1 c2 v1 n1 xs1 v2 n2 xs2) : ∀ g, w.heap.size ≤ g → v1.ownBlock ≠ some g := fun g hg e => by have := (h.o1.lt g e).2; omega
theorem Two.far2 (h : Two w0 B0 w b base tt e c1 c2 v1 n1 xs1 v2 n2 xs2) : ∀ g, w.heap.size ≤ g → v2.ownBlock ≠ some g := fun g hg e => by have := (h.o2.lt g e).2; omega
end

section
variable {P : Program} {t e : TypeId} {z : Value} {bytes : Nat} {w0 w : World} {B0 b base : Nat} {tt : TypeId} {c1 c2 v1 v2 : Value} {n1 n2 : Nat} {xs1 xs2 : List Value}
theorem one_news {w : World} {B : Nat} {u : Value} (hc : w.cell? ⟨B, 0, none⟩ = some u) : ∀ ad, some (⟨B, 0, none⟩ : Addr) = some ad → ∀ j v, [u][j]? = some v → w.cell? (ad.add j) = some v := by
  intro ad had j v hv
  injection had with had
  subst had
  match j, hv with
  | 0, hv =>
    have : u = v := by simpa using hv
    subst this
    exact hc
/-- one append of one element to the first row, in a region that draws its order -/
theorem step_two1 (E : ElemT P t e z 1 bytes) {ops : Array Oper} {o : Oper} {a : Act} {K : Act → World → Prop} {Q : Exit → Act → World → Prop} {X : Prop} (hgd : o.guard = none) (s x : Operand)
    (ho : o.op = .call { callee := .builtin .append, args := #[s, x], argTypes := #[t, t] }) (T : Two w0 B0 w b base tt e c1 c2 v1 n1 xs1 v2 n2 xs2) (hs : a.eval s = v1)
    (B : Nat) (hx : a.eval x = .slice (some ⟨B, 0, none⟩) 1 1) (u : Value) (hc : w.cell? ⟨B, 0, none⟩ = some u) (hu : u.oneCell' = true) (hn : n1 ≤ 1000000) (hby : bytes ≤ 4096)
    (h : ∀ v1' w', Two w0 B0 w' b base tt e c1 c2 v1' (n1 + 1) (xs1 ++ [u]) v2 n2 xs2 → (∀ g i, g < w.heap.size → v1.ownBlock ≠ some g → w'.cell? ⟨g, i, none⟩ = w.cell? ⟨g, i, none⟩) → w.heap.size ≤ w'.heap.size → K (a.put o.dst v1') w') :
    if Region.wanted o (yielded ops a.tmps) = true then Oper.wp P o a w K Q else X := by
  have hw : Region.wanted o (yielded ops a.tmps) = true := by simp [Region.wanted, hgd]
  rw [if_pos hw]
  obtain ⟨v', w', hr, h2, h3, h4⟩ := run_append_arr E w o.type base v1 n1 xs1 T.o1 (some ⟨B, 0, none⟩) 1 1 [u] rfl (by simpa using hu) (fun h => by cases h) (one_news hc) (by omega) hby T.hs
  unfold Oper.wp execOp
  simp only [ho, resolve, invoke, builtin, Sem.run_bind, Sem.run_pure, Result.andThen_ok, List.map_toArray, List.map_cons, List.map_nil, hs, hx, hr]
  exact h v' w' (T.grow1 h2 h3 h4) (fun g i hg hne => World.cell?_of_block (h3.block g hg (Ne.symm hne))) h3.size
theorem step_two2 (E : ElemT P t e z 1 bytes) {ops : Array Oper} {o : Oper} {a : Act} {K : Act → World → Prop} {Q : Exit → Act → World → Prop} {X : Prop} (hgd : o.guard = none) (s x : Operand)
    (ho : o.op = .call { callee := .builtin .append, args := #[s, x], argTypes := #[t, t] }) (T : Two w0 B0 w b base tt e c1 c2 v1 n1 xs1 v2 n2 xs2) (hs : a.eval s = v2)
    (B : Nat) (hx : a.eval x = .slice (some ⟨B, 0, none⟩) 1 1) (u : Value) (hc : w.cell? ⟨B, 0, none⟩ = some u) (hu : u.oneCell' = true) (hn : n2 ≤ 1000000) (hby : bytes ≤ 4096)
    (h : ∀ v2' w', Two w0 B0 w' b base tt e c1 c2 v1 n1 xs1 v2' (n2 + 1) (xs2 ++ [u]) → (∀ g i, g < w.heap.size → v2.ownBlock ≠ some g → w'.cell? ⟨g, i, none⟩ = w.cell? ⟨g, i, none⟩) → w.heap.size ≤ w'.heap.size → K (a.put o.dst v2') w') :
    if Region.wanted o (yielded ops a.tmps) = true then Oper.wp P o a w K Q else X := by
  have hw : Region.wanted o (yielded ops a.tmps) = true := by simp [Region.wanted, hgd]
  rw [if_pos hw]
  obtain ⟨v', w', hr, h2, h3, h4⟩ := run_append_arr E w o.type base v2 n2 xs2 T.o2 (some ⟨B, 0, none⟩) 1 1 [u] rfl (by simpa using hu) (fun h => by cases h) (one_news hc) (by omega) hby T.hs
  unfold Oper.wp execOp
  simp only [ho, resolve, invoke, builtin, Sem.run_bind, Sem.run_pure, Result.andThen_ok, List.map_toArray, List.map_cons, List.map_nil, hs, hx, hr]
  exact h v' w' (T.grow2 h2 h3 h4) (fun g i hg hne => World.cell?_of_block (h3.block g hg (Ne.symm hne))) h3.size
end
end Go.Sv
