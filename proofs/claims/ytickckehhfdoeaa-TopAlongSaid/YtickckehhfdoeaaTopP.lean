/-
  PLAIN: aborts, robust mixes, the region of a problem as the program walks it, and its first way to a goal.
  Conditions: those that each theorem names.
-/
import Derived.Test.YtickckehhfdoeaaSb1
namespace Go.Sv
open Go.RowKit
/-! ### aborts -/
def openL (m : Mx) : List Nat := (List.range m.next.length).filter fun i => decide (0 ≤ gi m.next i)
/-- the services of a list are closed where the number has a bit -/
def abF : List Nat → Nat → Nat → List Int → List Int
  | [], _, _, l => l
  | i :: r, b, k, l => abF r (b + 1) k (if k.testBit b then l.set i (-1) else l)
def abM (m : Mx) (k : Nat) : Mx := { m with next := abF (openL m) 0 k m.next }
def abL (m : Mx) : List Mx := (List.range (2 ^ (openL m).length)).map (abM m)
def robB (p : Prob) (m : Mx) : Bool := (abL m).all fun x => (foundL p x).isEmpty
theorem abM_held (m : Mx) (h : List Int) (k : Nat) : abM { m with held := h } k = { abM m k with held := h } := rfl
/-- clearing keeps a mix robust -/
theorem rob_less {p : Prob} {m m' : Mx} (hb : m'.base = m.base) (hn : m'.next = m.next) (hh : ∀ i, i < p.tabs.length → sub (hd m' i) (hd m i)) (h : robB p m = true) : robB p m' = true := by
  obtain ⟨b, n, l⟩ := m
  obtain ⟨b', n', l'⟩ := m'
  dsimp only at hb hn
  subst hb hn
  unfold robB at h ⊢
  rw [List.all_eq_true] at h ⊢
  intro x hx
  unfold abL at hx
  obtain ⟨k, hk, rfl⟩ := List.mem_map.1 hx
  have h1 := h (abM ⟨b', n', l⟩ k) (List.mem_map.2 ⟨k, hk, rfl⟩)
  rw [List.isEmpty_iff] at h1 ⊢
  have h2 := found_less (p := p) (m := abM ⟨b', n', l⟩ k) (m' := abM ⟨b', n', l'⟩ k) rfl rfl (fun i hi => hh i hi)
  rw [h1] at h2
  exact List.eq_nil_iff_forall_not_mem.2 fun c hc => by cases h2 c hc
/-- what is robust stays so where more is OK -/
theorem rob_relaxed {p q : Prob} {m : Mx} (hv : q.vs = p.vs) (hl : q.tabs.length = p.tabs.length)
    (ht : ∀ i, i < p.tabs.length → (tab q.tabs i).kind = (tab p.tabs i).kind ∧ (tab q.tabs i).src = (tab p.tabs i).src ∧ (tab q.tabs i).dst = (tab p.tabs i).dst ∧ (tab q.tabs i).aware = (tab p.tabs i).aware ∧ ∀ u v, mat (tab p.tabs i).ok u v = true → mat (tab q.tabs i).ok u v = true)
    (h : robB p m = true) : robB q m = true := by
  unfold robB at h ⊢
  rw [List.all_eq_true] at h ⊢
  intro x hx
  have h1 := h x hx
  rw [List.isEmpty_iff] at h1 ⊢
  have h2 := found_relaxed (m := x) hv hl ht
  rw [h1] at h2
  exact List.eq_nil_iff_forall_not_mem.2 fun c hc => by cases h2 c hc
/-! ### the region -/
structure Nd where
  m : Mx
  frm : Int
  by_ : Sp
def nd0 : Nd := ⟨⟨[], [], []⟩, -1, ⟨0, 0, 0⟩⟩
def ndAt (l : List Nd) (i : Nat) : Nd := l.getD i nd0
/-- the nodes, and which mixes are known: with their node, or -1 -/
structure Rg where
  nds : List Nd
  pl : List (Mx × Int)
def look (pl : List (Mx × Int)) (m : Mx) : Option Int := (pl.find? fun x => decide (x.1 = m)).map (·.2)
section
variable (st : Mx → List Sp) (ap : Mx → Sp → Mx) (rob : Mx → Bool)
/-- a step s from node i -/
def rgStep (i : Nat) (g : Rg) (s : Sp) : Rg :=
  let x := ap (ndAt g.nds i).m s
  match look g.pl x with
  | some _ => g
  | none => if rob x then ⟨g.nds ++ [⟨x, i, s⟩], (x, (g.nds.length : Int)) :: g.pl⟩ else ⟨g.nds, (x, -1) :: g.pl⟩
/-- the steps of a node, until there are too many nodes -/
def rgRow (most i : Nat) : Rg → List Sp → Option Rg
  | g, [] => some g
  | g, s :: r => let h := rgStep ap rob i g s; if most < h.nds.length then none else rgRow most i h r
def rgAll (most : Nat) : Nat → Nat → Rg → Option Rg
  | 0, _, g => some g
  | f + 1, i, g => if i < g.nds.length then (match rgRow ap rob most i g (st (ndAt g.nds i).m) with | none => none | some h => rgAll most f (i + 1) h) else some g
def rgStart (m : Mx) : Rg := ⟨[⟨m, -1, ⟨0, 0, 0⟩⟩], [(m, 0)]⟩
end
/-- the way to a node, backwards -/
def wayB (l : List Nd) : Nat → Int → List Sp
  | 0, _ => []
  | f + 1, i => if (ndAt l i.toNat).frm < 0 then [] else (ndAt l i.toNat).by_ :: wayB l f (ndAt l i.toNat).frm
def goalB (p : Prob) (m : Mx) : Bool := decide (m.base = p.tgt) && m.next.all fun n => decide (n < 0)
def findW (p : Prob) (l : List Nd) : Option (List Sp) := (l.findIdx? fun n => goalB p n.m).map fun i => (wayB l l.length i).reverse
/-- a step where nothing is stored -/
def aftC (m : Mx) (s : Sp) : Option Mx :=
  let i := s.ix.toNat
  if s.kind = 1 then (if 0 ≤ gi m.next i ∨ gi m.base i = s.ver then none else some { m with next := m.next.set i s.ver })
  else if s.kind = 3 then none
  else if gi m.next i < 0 then none
  else if s.kind = 2 then some { m with base := m.base.set i (gi m.next i), next := m.next.set i (-1) }
  else some { m with next := m.next.set i (-1) }
theorem heldS_none {p : Prob} (h : ∀ i, stored (tab p.tabs i) = false) (m : Mx) (i v : Int) : heldS p m i v = m.held := by
  unfold heldS
  apply List.ext_getElem (by simp)
  intro k h1 h2
  simp only [List.getElem_map, List.getElem_range]
  rw [if_neg (fun c => by rw [h k] at c; exact absurd c.2.2 (by decide))]
  simp [gi, h2]
theorem aft_none {p : Prob} (h : ∀ i, stored (tab p.tabs i) = false) (m : Mx) (s : Sp) : aft p m s = aftC m s := by
  unfold aft aftC
  dsimp only
  by_cases h1 : s.kind = 1
  · rw [if_pos h1, if_pos h1, heldS_none h]
  · rw [if_neg h1, if_neg h1]
    by_cases h3 : s.kind = 3
    · rw [if_pos h3, if_pos h3, if_pos (Or.inl (h _))]
    · rw [if_neg h3, if_neg h3]
/-! ### the example -/
def p46 : Prob := ⟨[2, 2], [0, 0], [1, 1], [⟨1, 0, 1, false, [[true, true], [false, true]], []⟩]⟩
def st46 (m : Mx) : List Sp := (allL p46).filter fun s => (aftC m s).isSome
def ap46 (m : Mx) (s : Sp) : Mx := (aftC m s).getD mx0
theorem ex46 : (rgAll st46 ap46 (robB p46) 100 50 0 (rgStart ⟨[0, 0], [-1, -1], [0]⟩)).bind (fun g => findW p46 g.nds) = some [⟨1, 1, 1⟩, ⟨2, 1, 0⟩, ⟨1, 0, 1⟩, ⟨2, 0, 0⟩] := by decide +kernel
end Go.Sv
