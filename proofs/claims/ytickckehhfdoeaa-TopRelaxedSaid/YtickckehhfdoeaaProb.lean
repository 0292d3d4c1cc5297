/-
  PROBLEMS (services, versions, tables) as plain data; how they lie in memory; the error of a problem. No program in sight.
  Conditions: none.
-/
import Derived.Test.YtickckehhfdoeaaSl
namespace Go.Sv
open Go.RowKit

structure Tab where
  kind : Int
  src : Int
  dst : Int
  aware : Bool
  ok : List (List Bool)
  rw : List (List Bool)
  deriving Inhabited
structure Prob where
  vs : List Int
  now : List Int
  tgt : List Int
  tabs : List Tab

def iv (l : List Int) (k : Nat) : Value := .int .i64 (gi l k)
def mrow (m : List (List Bool)) (i : Nat) : List Bool := m.getD i []
def mlen (m : List (List Bool)) (i : Nat) : Nat := (mrow m i).length
def mat (m : List (List Bool)) (i j : Nat) : Bool := (mrow m i).getD j false
def tab (ts : List Tab) (k : Nat) : Tab := ts.getD k default

/-! ### the error of a problem -/
def win (k n : Int) : Bool := decide (0 ≤ k ∧ k < n)
def kindB (k : Int) (aw : Bool) : Bool := decide (k = 1 ∨ k = 2 ∨ (k = 3 ∨ k = 4) ∧ aw = false)
def sq (m : List (List Bool)) (n k : Int) : Bool := decide ((m.length : Int) = n ∧ ∀ i, i < m.length → (mlen m i : Int) = k)
def tabE (vs : List Int) (t : Tab) : Int :=
  if kindB t.kind t.aware = false then 1
  else if win t.src vs.length = false ∨ win t.dst vs.length = false then 4
  else if sq t.ok (gi vs t.src.toNat) (gi vs t.dst.toNat) = false ∨ (t.kind = 4 ∧ sq t.rw (gi vs t.src.toNat) (gi vs t.src.toNat) = false) ∨ (t.kind ≠ 4 ∧ 0 < t.rw.length) then 6
  else if ∃ i, i < t.rw.length ∧ mat t.rw i i = false then 1 else 0
def svcBad (p : Prob) (i : Nat) : Prop := gi p.vs i < 1 ∨ 6 < gi p.vs i ∨ win (gi p.now i) (gi p.vs i) = false ∨ win (gi p.tgt i) (gi p.vs i) = false
def tabsE (p : Prob) (k : Nat) : Nat → Int
  | 0 => 0
  | f + 1 => if tabE p.vs (tab p.tabs k) = 0 then tabsE p (k + 1) f else tabE p.vs (tab p.tabs k)
open Classical in
noncomputable def probE (p : Prob) : Int :=
  if 6 < p.vs.length ∨ 12 < p.tabs.length then 3
  else if p.now.length ≠ p.vs.length ∨ p.tgt.length ≠ p.vs.length then 6
  else if ∃ i, i < p.vs.length ∧ svcBad p i then 7
  else tabsE p 0 p.tabs.length

theorem win_iff {k n : Int} : win k n = true ↔ 0 ≤ k ∧ k < n := by simp [win]
theorem win_no {k n : Int} : win k n = false ↔ ¬ (0 ≤ k ∧ k < n) := by unfold win; exact decide_eq_false_iff_not
theorem probE_3 {p : Prob} (h : 6 < p.vs.length ∨ 12 < p.tabs.length) : probE p = 3 := by unfold probE; rw [if_pos h]
theorem probE_6 {p : Prob} (h : ¬ (6 < p.vs.length ∨ 12 < p.tabs.length)) (h2 : p.now.length ≠ p.vs.length ∨ p.tgt.length ≠ p.vs.length) : probE p = 6 := by unfold probE; rw [if_neg h, if_pos h2]
theorem probE_7 {p : Prob} {i : Nat} (h : ¬ (6 < p.vs.length ∨ 12 < p.tabs.length)) (h2 : ¬ (p.now.length ≠ p.vs.length ∨ p.tgt.length ≠ p.vs.length)) (hi : i < p.vs.length) (h3 : svcBad p i) : probE p = 7 := by
  unfold probE; rw [if_neg h, if_neg h2, if_pos ⟨i, hi, h3⟩]
theorem probE_t {p : Prob} (h : ¬ (6 < p.vs.length ∨ 12 < p.tabs.length)) (h2 : ¬ (p.now.length ≠ p.vs.length ∨ p.tgt.length ≠ p.vs.length)) (h3 : ∀ i, i < p.vs.length → ¬ svcBad p i) : probE p = tabsE p 0 p.tabs.length := by
  unfold probE; rw [if_neg h, if_neg h2, if_neg (fun ⟨i, hi, hb⟩ => h3 i hi hb)]
theorem tabsE_bad {p : Prob} {k : Nat} (hk : k < p.tabs.length) (h : tabE p.vs (tab p.tabs k) ≠ 0) : tabsE p k (p.tabs.length - k) = tabE p.vs (tab p.tabs k) := by
  obtain ⟨f, hf⟩ : ∃ f, p.tabs.length - k = f + 1 := ⟨p.tabs.length - k - 1, by omega⟩
  rw [hf, tabsE, if_neg h]
theorem tabsE_next {p : Prob} {k : Nat} (hk : k < p.tabs.length) (h : tabE p.vs (tab p.tabs k) = 0) : tabsE p k (p.tabs.length - k) = tabsE p (k + 1) (p.tabs.length - (k + 1)) := by
  obtain ⟨f, hf⟩ : ∃ f, p.tabs.length - k = f + 1 := ⟨p.tabs.length - k - 1, by omega⟩
  have e : p.tabs.length - (k + 1) = f := by omega
  rw [hf, tabsE, if_pos h, e]
theorem tabE_1 {vs : List Int} {t : Tab} (h : kindB t.kind t.aware = false) : tabE vs t = 1 := by unfold tabE; rw [if_pos h]
theorem tabE_4 {vs : List Int} {t : Tab} (h : kindB t.kind t.aware = true) (h2 : win t.src vs.length = false ∨ win t.dst vs.length = false) : tabE vs t = 4 := by
  unfold tabE; rw [if_neg (by simp [h]), if_pos h2]
theorem tabE_6 {vs : List Int} {t : Tab} (h : kindB t.kind t.aware = true) (h2 : win t.src vs.length = true) (h3 : win t.dst vs.length = true)
    (h4 : sq t.ok (gi vs t.src.toNat) (gi vs t.dst.toNat) = false ∨ (t.kind = 4 ∧ sq t.rw (gi vs t.src.toNat) (gi vs t.src.toNat) = false) ∨ (t.kind ≠ 4 ∧ 0 < t.rw.length)) : tabE vs t = 6 := by
  unfold tabE; rw [if_neg (by simp [h]), if_neg (by simp [h2, h3]), if_pos h4]
theorem tabE_d {vs : List Int} {t : Tab} {i : Nat} (h : kindB t.kind t.aware = true) (h2 : win t.src vs.length = true) (h3 : win t.dst vs.length = true)
    (h4 : ¬ (sq t.ok (gi vs t.src.toNat) (gi vs t.dst.toNat) = false ∨ (t.kind = 4 ∧ sq t.rw (gi vs t.src.toNat) (gi vs t.src.toNat) = false) ∨ (t.kind ≠ 4 ∧ 0 < t.rw.length))) (hi : i < t.rw.length) (hm : mat t.rw i i = false) : tabE vs t = 1 := by
  unfold tabE; rw [if_neg (by simp [h]), if_neg (by simp [h2, h3]), if_neg h4, if_pos ⟨i, hi, hm⟩]
theorem tabE_0 {vs : List Int} {t : Tab} (h : kindB t.kind t.aware = true) (h2 : win t.src vs.length = true) (h3 : win t.dst vs.length = true)
    (h4 : ¬ (sq t.ok (gi vs t.src.toNat) (gi vs t.dst.toNat) = false ∨ (t.kind = 4 ∧ sq t.rw (gi vs t.src.toNat) (gi vs t.src.toNat) = false) ∨ (t.kind ≠ 4 ∧ 0 < t.rw.length))) (hm : ∀ i, i < t.rw.length → mat t.rw i i = true) : tabE vs t = 0 := by
  unfold tabE; rw [if_neg (by simp [h]), if_neg (by simp [h2, h3]), if_neg h4, if_neg (fun ⟨i, hi, hb⟩ => by rw [hm i hi] at hb; cases hb)]

/-! ### in memory -/
def RMat (w : World) (B : Nat) (A : Option Addr) (m : List (List Bool)) : Prop :=
  ∃ r : Nat → Option Addr × Nat, Arr w B A m.length (fun i => .slice (r i).1 (mlen m i) (r i).2) ∧ ∀ i, i < m.length → Arr w B (r i).1 (mlen m i) (fun j => .bool (mat m i j))
structure TabP where
  okA : Option Addr
  okC : Nat
  rwA : Option Addr
  rwC : Nat
def tabCells (t : Tab) (q : TabP) (i : Nat) : Value :=
  match i with
  | 0 => .int .i64 t.kind
  | 1 => .int .i64 t.src
  | 2 => .int .i64 t.dst
  | 3 => .bool t.aware
  | 4 => .slice q.okA t.ok.length q.okC
  | _ => .slice q.rwA t.rw.length q.rwC
abbrev tabV (t : Tab) (q : TabP) : Value := .agg #[.int .i64 t.kind, .int .i64 t.src, .int .i64 t.dst, .bool t.aware, .slice q.okA t.ok.length q.okC, .slice q.rwA t.rw.length q.rwC]
def RTab (w : World) (B : Nat) (t : Tab) (q : TabP) : Prop := RMat w B q.okA t.ok ∧ RMat w B q.rwA t.rw
def RTabs (w : World) (B : Nat) (A : Option Addr) (ts : List Tab) : Prop :=
  ∃ q : Nat → TabP, ArrN w B 6 A ts.length (fun k i => tabCells (tab ts k) (q k) i) ∧ ∀ k, k < ts.length → RTab w B (tab ts k) (q k)
structure ProbP where
  a0 : Option Addr
  c0 : Nat
  a1 : Option Addr
  c1 : Nat
  a2 : Option Addr
  c2 : Nat
  a3 : Option Addr
  c3 : Nat
abbrev probV (p : Prob) (q : ProbP) : Value := .agg #[.slice q.a0 p.vs.length q.c0, .slice q.a1 p.now.length q.c1, .slice q.a2 p.tgt.length q.c2, .slice q.a3 p.tabs.length q.c3]
structure RProb (w : World) (B : Nat) (p : Prob) (q : ProbP) : Prop where
  r0 : Arr w B q.a0 p.vs.length (iv p.vs)
  r1 : Arr w B q.a1 p.now.length (iv p.now)
  r2 : Arr w B q.a2 p.tgt.length (iv p.tgt)
  r3 : RTabs w B q.a3 p.tabs

theorem RMat.below {w w' : World} {B : Nat} {A : Option Addr} {m : List (List Bool)} (h : RMat w B A m) (hb : Below B w w') : RMat w' B A m := by
  obtain ⟨r, h1, h2⟩ := h
  exact ⟨r, h1.below hb, fun i hi => (h2 i hi).below hb⟩
theorem RMat.more {w : World} {B B' : Nat} {A : Option Addr} {m : List (List Bool)} (h : RMat w B A m) (hB : B ≤ B') : RMat w B' A m := by
  obtain ⟨r, h1, h2⟩ := h
  exact ⟨r, h1.more hB, fun i hi => (h2 i hi).more hB⟩
theorem RTab.below {w w' : World} {B : Nat} {t : Tab} {q : TabP} (h : RTab w B t q) (hb : Below B w w') : RTab w' B t q := ⟨h.1.below hb, h.2.below hb⟩
theorem RTab.more {w : World} {B B' : Nat} {t : Tab} {q : TabP} (h : RTab w B t q) (hB : B ≤ B') : RTab w B' t q := ⟨h.1.more hB, h.2.more hB⟩
theorem RTabs.below {w w' : World} {B : Nat} {A : Option Addr} {ts : List Tab} (h : RTabs w B A ts) (hb : Below B w w') : RTabs w' B A ts := by
  obtain ⟨q, h1, h2⟩ := h
  exact ⟨q, h1.below hb, fun i hi => (h2 i hi).below hb⟩
theorem RTabs.more {w : World} {B B' : Nat} {A : Option Addr} {ts : List Tab} (h : RTabs w B A ts) (hB : B ≤ B') : RTabs w B' A ts := by
  obtain ⟨q, h1, h2⟩ := h
  exact ⟨q, h1.more hB, fun i hi => (h2 i hi).more hB⟩
theorem RProb.below {w w' : World} {B : Nat} {p : Prob} {q : ProbP} (h : RProb w B p q) (hb : Below B w w') : RProb w' B p q := ⟨h.r0.below hb, h.r1.below hb, h.r2.below hb, h.r3.below hb⟩
theorem RProb.more {w : World} {B B' : Nat} {p : Prob} {q : ProbP} (h : RProb w B p q) (hB : B ≤ B') : RProb w B' p q := ⟨h.r0.more hB, h.r1.more hB, h.r2.more hB, h.r3.more hB⟩
/-- to a later world -/
theorem RProb.to {w w' : World} {p : Prob} {q : ProbP} (h : RProb w w.heap.size p q) (hb : Below w.heap.size w w') : RProb w' w'.heap.size p q := (h.below hb).more hb.size
theorem RTab.to {w w' : World} {t : Tab} {q : TabP} (h : RTab w w.heap.size t q) (hb : Below w.heap.size w w') : RTab w' w'.heap.size t q := (h.below hb).more hb.size
theorem RMat.to {w w' : World} {A : Option Addr} {m : List (List Bool)} (h : RMat w w.heap.size A m) (hb : Below w.heap.size w w') : RMat w' w'.heap.size A m := (h.below hb).more hb.size
end Go.Sv
namespace Go.Sv
open Go.RowKit
/-- sizes that an int holds -/
structure PBd (p : Prob) : Prop where
  b0 : p.vs.length ≤ 9223372036854775807
  b1 : p.now.length ≤ 9223372036854775807
  b2 : p.tgt.length ≤ 9223372036854775807
  b3 : p.tabs.length ≤ 9223372036854775807
  bt : ∀ k, k < p.tabs.length → (tab p.tabs k).ok.length ≤ 9223372036854775807 ∧ (tab p.tabs k).rw.length ≤ 9223372036854775807
/-- the six cells of a table -/
theorem tab_cells {w : World} {b off k : Nat} {ts : List Tab} {q : Nat → TabP} (h : ∀ i, i < 6 → w.cell? ⟨b, off + k * 6 + i, none⟩ = some (tabCells (tab ts k) (q k) i)) :
    w.cell? ⟨b, off + k * 6, none⟩ = some (.int .i64 (tab ts k).kind) ∧ w.cell? ⟨b, off + k * 6 + 1, none⟩ = some (.int .i64 (tab ts k).src) ∧ w.cell? ⟨b, off + k * 6 + 2, none⟩ = some (.int .i64 (tab ts k).dst) ∧
    w.cell? ⟨b, off + k * 6 + 3, none⟩ = some (.bool (tab ts k).aware) ∧ w.cell? ⟨b, off + k * 6 + 4, none⟩ = some (.slice (q k).okA (tab ts k).ok.length (q k).okC) ∧
    w.cell? ⟨b, off + k * 6 + 5, none⟩ = some (.slice (q k).rwA (tab ts k).rw.length (q k).rwC) :=
  ⟨h 0 (by omega), h 1 (by omega), h 2 (by omega), h 3 (by omega), h 4 (by omega), h 5 (by omega)⟩
end Go.Sv
