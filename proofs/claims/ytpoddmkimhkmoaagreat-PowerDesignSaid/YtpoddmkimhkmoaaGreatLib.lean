/-
  GENERAL: small lemmas on worlds, draws and endings that every walk of this seat uses. No program in sight.
  Conditions: none.
-/
import Derived.WalkKit
import Derived.Lib.Hide
import Derived.Outline
import Derived.Deep.QuietTactic
import Derived.BigQuiet
import Derived.LoopTactic
import Derived.Below
import Derived.Deep.Draws
import Derived.OwnWalk
import Derived.Laws.OwnMore
import Derived.Laws.Rows
import Derived.Deep.AppendLies
namespace Go.Sv
open Go.RowKit

theorem ret_i {k : IntKind} {a b : Int} (h : a = b) : Ending.returned (.int k a) = .returned (.int k b) := by rw [h]
theorem ret_b {a b : Bool} (h : a = b) : Ending.returned (.bool a) = .returned (.bool b) := by rw [h]
theorem ret_2 {a b c d : Value} (h : a = b) (k : c = d) : Ending.returned (.tuple #[a, c]) = .returned (.tuple #[b, d]) := by rw [h, k]
theorem val_i {k : IntKind} {a b : Int} (h : a = b) : Value.int k a = .int k b := by rw [h]
theorem val_b {a b : Bool} (h : a = b) : Value.bool a = .bool b := by rw [h]

/-- A post with an 'exists' behind a name of its own. -/
def Ret (R : Value → World → Prop) (e : Ending) (w' : World) : Prop := ∃ v, e = .returned v ∧ R v w'
theorem Ret.mk {R : Value → World → Prop} {v : Value} {w' : World} (h : R v w') : Ret R (.returned v) w' := ⟨v, rfl, h⟩

/-- draws alone -/
def Drawn (w w' : World) : Prop := ∃ n, w' = w.drewN n
theorem Drawn.refl (w : World) : Drawn w w := ⟨0, rfl⟩
theorem Drawn.drewN {a w : World} (h : Drawn a w) (n : Nat) : Drawn a (w.drewN n) := by
  obtain ⟨m, rfl⟩ := h
  exact ⟨m + n, by rw [World.drewN_drewN]⟩
theorem Drawn.drew {a w : World} (h : Drawn a w) : Drawn a w.drew := h.drewN 1
theorem Drawn.trans {a b c : World} (h : Drawn a b) (k : Drawn b c) : Drawn a c := by
  obtain ⟨m, rfl⟩ := k
  exact h.drewN m
theorem Drawn.cell {a w : World} (h : Drawn a w) (p : Addr) : w.cell? p = a.cell? p := by
  obtain ⟨m, rfl⟩ := h
  rfl
theorem Drawn.frozen {a w : World} (h : Drawn a w) (p : Addr) : w.frozen? p = a.frozen? p := by
  obtain ⟨m, rfl⟩ := h
  rfl
theorem Drawn.size {a w : World} (h : Drawn a w) : w.heap.size = a.heap.size := by
  obtain ⟨m, rfl⟩ := h
  rfl
theorem Drawn.of {w : World} (n : Nat) : Drawn w (w.drewN n) := ⟨n, rfl⟩
theorem below_drewN {B : Nat} {a w : World} (h : Below B a w) (n : Nat) : Below B a (w.drewN n) := ⟨h.os, h.tape, h.output, h.size, h.block⟩
theorem Drawn.below {B : Nat} {a w : World} (h : Drawn a w) : Below B a w := by
  obtain ⟨m, rfl⟩ := h
  exact below_drewN (Below.refl _ _) m
theorem _root_.Go.RowKit.Below.drawn {B : Nat} {a w w' : World} (h : Below B a w) (k : Drawn w w') : Below B a w' := h.trans k.below
theorem below_of {a w w' : World} {B : Nat} (h : Below B a w) (hB : B ≤ w.heap.size) (k : Below w.heap.size w w') : Below B a w' := h.trans (k.mono hB)

/-- contracts inside a region that draws its order -/
theorem quiet_l {P : Program} {f : FuncId} {args : Array Value} {w : World} {n : Nat} {v : Value}
    (h : Calls P f args (w.drewN n) fun e w' => e = .returned v ∧ w.drewN n = w') : Calls P f args (w.drewN n) fun e w'' => e = .returned v ∧ ∃ m, w'' = w.drewN m :=
  h.mono fun _ _ ⟨he, hm⟩ => ⟨he, n, hm.symm⟩
/-- behind an earlier region of that kind -/
theorem quiet_al {P : Program} {f : FuncId} {args : Array Value} {w : World} {a n : Nat} {v : Value}
    (h : Calls P f args (w.drewN (a + n)) fun e w' => e = .returned v ∧ w.drewN (a + n) = w') : Calls P f args (w.drewN (a + n)) fun e w'' => e = .returned v ∧ ∃ m, w'' = w.drewN (a + m) :=
  h.mono fun _ _ ⟨he, hm⟩ => ⟨he, n, hm.symm⟩
theorem quiet_ad {P : Program} {f : FuncId} {args : Array Value} {w : World} {a n : Nat} {v : Value}
    (h : Calls P f args (w.drewN (a + n)) fun e w' => e = .returned v ∧ Drawn (w.drewN (a + n)) w') : Calls P f args (w.drewN (a + n)) fun e w'' => e = .returned v ∧ ∃ m, w'' = w.drewN (a + m) :=
  h.mono fun _ _ ⟨he, m, hm⟩ => ⟨he, n + m, by rw [hm, World.drewN_drewN, Nat.add_assoc]⟩
theorem quiet_d {P : Program} {f : FuncId} {args : Array Value} {w : World} {n : Nat} {v : Value}
    (h : Calls P f args (w.drewN n) fun e w' => e = .returned v ∧ Drawn (w.drewN n) w') : Calls P f args (w.drewN n) fun e w'' => e = .returned v ∧ ∃ m, w'' = w.drewN m :=
  h.mono fun _ _ ⟨he, m, hm⟩ => ⟨he, n + m, by rw [hm, World.drewN_drewN]⟩

theorem cell_first (w : World) (cs : Array Value) (t : TypeId) (o : Obj) (i : Nat) : ((w.alloc (.cells cs t)).alloc o).cell? ⟨w.heap.size, i, none⟩ = cs[i]? := by
  rw [World.cell?_alloc_lt _ _ _ (by simp)]
  exact World.cell?_alloc_new w cs t i
theorem cell_second (w : World) (cs : Array Value) (t : TypeId) (o : Obj) (i : Nat) : ((w.alloc o).alloc (.cells cs t)).cell? ⟨w.heap.size + 1, i, none⟩ = cs[i]? := by
  have h := World.cell?_alloc_new (w.alloc o) cs t i
  have e : (w.alloc o).heap.size = w.heap.size + 1 := by simp
  rwa [e] at h

/-! ### a region that draws its order, whose callees may make memory of their own -/
/-- A world that has at most new blocks. -/
def GrowX (w : World) : Type := { w' : World // Below w.heap.size w w' }
instance (w : World) : Nonempty (GrowX w) := ⟨⟨w, Below.refl _ _⟩⟩
def grow (w : World) (x : GrowX w) : World := x.1
theorem grow_is (w : World) (x : GrowX w) : Below w.heap.size w (grow w x) := x.2
theorem grow_of {w w' : World} (h : Below w.heap.size w w') : ∃ x : GrowX w, w' = grow w x := ⟨⟨w', h⟩, rfl⟩
theorem grow_below {w w' : World} (h : ∃ x : GrowX w, w' = grow w x) : Below w.heap.size w w' := by
  obtain ⟨x, rfl⟩ := h
  exact x.2
@[go_sem] theorem cell_grow {w : World} {x : GrowX w} {a : Addr} (h : a.block < w.heap.size) : (grow w x).cell? a = w.cell? a := (grow_is w x).cell h
@[go_sem] theorem frozen_grow {w : World} {x : GrowX w} {a : Addr} (h : a.block < w.heap.size) : (grow w x).frozen? a = w.frozen? a := (grow_is w x).frozen h
theorem wp_region_calm {P : Program} {id : Nat} {Q : Exit → Act → World → Prop} {a : Act} {w : World} {l : List Oper} (hm : P.follows .mixedOrders = true) (hB : Region.lexB .any l.toArray = true)
    (h : wpQuiet P l.toArray (fun w' => ∃ x : GrowX w, w' = grow w x) (fun a' => ∀ w', (∃ x : GrowX w, w' = grow w x) → Q .normal a' w') l a) : (Code.region id l.toArray true).wp P Q a w :=
  wp_region_quiet (C := fun w' => ∃ x : GrowX w, w' = grow w x) hm hB (grow_of (w' := w.drew) (Below.refl _ _).drew) (by simpa using h)
theorem calm_b {P : Program} {f : FuncId} {args : Array Value} {w : World} {x : GrowX w} {v : Value}
    (h : Calls P f args (grow w x) fun e w' => e = .returned v ∧ Below (grow w x).heap.size (grow w x) w') : Calls P f args (grow w x) fun e w'' => e = .returned v ∧ ∃ y : GrowX w, w'' = grow w y :=
  h.mono fun _ _ ⟨he, hb⟩ => ⟨he, grow_of (below_of (grow_is w x) (grow_is w x).size hb)⟩
theorem calm_d {P : Program} {f : FuncId} {args : Array Value} {w : World} {x : GrowX w} {v : Value}
    (h : Calls P f args (grow w x) fun e w' => e = .returned v ∧ Drawn (grow w x) w') : Calls P f args (grow w x) fun e w'' => e = .returned v ∧ ∃ y : GrowX w, w'' = grow w y :=
  h.mono fun _ _ ⟨he, hd⟩ => ⟨he, grow_of ((grow_is w x).drawn hd)⟩
theorem calm_l {P : Program} {f : FuncId} {args : Array Value} {w : World} {x : GrowX w} {v : Value}
    (h : Calls P f args (grow w x) fun e w' => e = .returned v ∧ grow w x = w') : Calls P f args (grow w x) fun e w'' => e = .returned v ∧ ∃ y : GrowX w, w'' = grow w y :=
  h.mono fun _ _ ⟨he, hd⟩ => ⟨he, x, hd.symm⟩
end Go.Sv
