/-
  REPLICAS as plain data; what Start, Apply and Power give; how replicas lie in memory. No program in sight.
  Conditions: none.
-/
import Derived.Test.YtcjnfciemangkaaProb
namespace Go.Sv
open Go.RowKit

structure Rep where
  sv : Int
  ver : Int
  up : Bool
  rnd : Int
  deriving Inhabited, DecidableEq
def rp (l : List Rep) (k : Nat) : Rep := l.getD k default
theorem rp_get {l : List Rep} {k : Nat} (h : k < l.length) : l[k]? = some (rp l k) := by simp [rp, h]
theorem rp_ext {l m : List Rep} (hl : l.length = m.length) (h : ∀ k, k < l.length → rp l k = rp m k) : l = m := by
  apply List.ext_getElem hl
  intro k h1 h2
  have := h k h1
  simpa [rp, h1, h2] using this
def rpCell (r : Rep) (i : Nat) : Value :=
  match i with
  | 0 => .int .i64 r.sv
  | 1 => .int .i64 r.ver
  | 2 => .bool r.up
  | _ => .int .i64 r.rnd
def rpF (l : List Rep) (k i : Nat) : Value := rpCell (rp l k) i
theorem rpF_one (l : List Rep) (k i : Nat) : (rpF l k i).oneCell' = true := by
  unfold rpF rpCell
  split <;> rfl
abbrev RReps (w : World) (B : Nat) (A : Option Addr) (l : List Rep) : Prop := ArrN w B 4 A l.length (rpF l)
theorem rp_cells {w : World} {b off k : Nat} {l : List Rep} (h : ∀ i, i < 4 → w.cell? ⟨b, off + k * 4 + i, none⟩ = some (rpF l k i)) :
    w.cell? ⟨b, off + k * 4, none⟩ = some (.int .i64 (rp l k).sv) ∧ w.cell? ⟨b, off + k * 4 + 1, none⟩ = some (.int .i64 (rp l k).ver) ∧ w.cell? ⟨b, off + k * 4 + 2, none⟩ = some (.bool (rp l k).up) ∧
    w.cell? ⟨b, off + k * 4 + 3, none⟩ = some (.int .i64 (rp l k).rnd) := ⟨h 0 (by omega), h 1 (by omega), h 2 (by omega), h 3 (by omega)⟩
/-- the cells of a list of replicas, in a row -/
def rpRow (l : List Rep) : List Value := l.flatMap fun r => [.int .i64 r.sv, .int .i64 r.ver, .bool r.up, .int .i64 r.rnd]
theorem rpRow_length (l : List Rep) : (rpRow l).length = l.length * 4 := by
  induction l with
  | nil => rfl
  | cons r l ih => simp only [rpRow, List.flatMap_cons, List.length_append, List.length_cons, List.length_nil] at *; omega
theorem rpRow_snoc (l : List Rep) (r : Rep) : rpRow (l ++ [r]) = rpRow l ++ [.int .i64 r.sv, .int .i64 r.ver, .bool r.up, .int .i64 r.rnd] := by
  simp [rpRow, List.flatMap_append]
theorem rpRow_get : ∀ (l : List Rep) (k i : Nat), k < l.length → i < 4 → (rpRow l)[k * 4 + i]? = some (rpF l k i)
  | [], k, i, h, _ => by simp at h
  | r :: l, 0, i, _, hi => by
    have e : rpRow (r :: l) = [.int .i64 r.sv, .int .i64 r.ver, .bool r.up, .int .i64 r.rnd] ++ rpRow l := rfl
    rw [e, List.getElem?_append_left (by simp; omega)]
    match i, hi with
    | 0, _ => rfl
    | 1, _ => rfl
    | 2, _ => rfl
    | 3, _ => rfl
  | r :: l, k + 1, i, h, hi => by
    have e : rpRow (r :: l) = [.int .i64 r.sv, .int .i64 r.ver, .bool r.up, .int .i64 r.rnd] ++ rpRow l := rfl
    have e2 : (k + 1) * 4 + i = 4 + (k * 4 + i) := by omega
    rw [e, e2, List.getElem?_append_right (by simp)]
    have e3 : 4 + (k * 4 + i) - [Value.int .i64 r.sv, Value.int .i64 r.ver, Value.bool r.up, Value.int .i64 r.rnd].length = k * 4 + i := by simp
    rw [e3, rpRow_get l k i (by simpa using h) hi]
    rfl

/-! ### Start -/
def repsOne (p : Prob) (ns : List Int) (i : Nat) : List Rep := List.replicate (gi ns i).toNat ⟨i, gi p.now i, true, 0⟩
def repsTo (p : Prob) (ns : List Int) : Nat → List Rep
  | 0 => []
  | k + 1 => repsTo p ns k ++ repsOne p ns k
def nsBad (ns : List Int) (i : Nat) : Prop := gi ns i < 1 ∨ 4 < gi ns i
open Classical in
noncomputable def startE (p : Prob) (ns : List Int) : Int :=
  if probE p ≠ 0 then probE p else if ns.length ≠ p.vs.length then 6 else if ∃ i, i < ns.length ∧ nsBad ns i then 7 else 0
noncomputable def startL (p : Prob) (ns : List Int) : List Rep := if startE p ns = 0 then repsTo p ns ns.length else []
theorem startE_p {p : Prob} {ns : List Int} (h : probE p ≠ 0) : startE p ns = probE p := by unfold startE; rw [if_pos h]
theorem startE_6 {p : Prob} {ns : List Int} (h : probE p = 0) (h2 : ns.length ≠ p.vs.length) : startE p ns = 6 := by unfold startE; rw [if_neg (by simp [h]), if_pos h2]
theorem startE_7 {p : Prob} {ns : List Int} {i : Nat} (h : probE p = 0) (h2 : ns.length = p.vs.length) (hi : i < ns.length) (hb : nsBad ns i) : startE p ns = 7 := by
  unfold startE; rw [if_neg (by simp [h]), if_neg (by simp [h2]), if_pos ⟨i, hi, hb⟩]
theorem startE_0 {p : Prob} {ns : List Int} (h : probE p = 0) (h2 : ns.length = p.vs.length) (hb : ∀ i, i < ns.length → ¬ nsBad ns i) : startE p ns = 0 := by
  unfold startE; rw [if_neg (by simp [h]), if_neg (by simp [h2]), if_neg (fun ⟨i, hi, hx⟩ => hb i hi hx)]
theorem startL_bad {p : Prob} {ns : List Int} (h : startE p ns ≠ 0) : startL p ns = [] := by unfold startL; rw [if_neg h]
theorem startL_ok {p : Prob} {ns : List Int} (h : startE p ns = 0) : startL p ns = repsTo p ns ns.length := by unfold startL; rw [if_pos h]
theorem repsTo_len {p : Prob} {ns : List Int} {k : Nat} (hb : ∀ i, i < k → ¬ nsBad ns i) : (repsTo p ns k).length ≤ 4 * k := by
  induction k with
  | zero => simp [repsTo]
  | succ k ih =>
    have := ih (fun i hi => hb i (by omega))
    have h2 := hb k (by omega)
    unfold nsBad at h2
    simp only [repsTo, repsOne, List.length_append, List.length_replicate]
    omega
/-- part of one service's replicas -/
def repsPart (p : Prob) (ns : List Int) (k j : Nat) : List Rep := repsTo p ns k ++ List.replicate j ⟨k, gi p.now k, true, 0⟩
theorem repsPart_0 (p : Prob) (ns : List Int) (k : Nat) : repsPart p ns k 0 = repsTo p ns k := by simp [repsPart]
theorem repsPart_succ (p : Prob) (ns : List Int) (k j : Nat) : repsPart p ns k (j + 1) = repsPart p ns k j ++ [⟨k, gi p.now k, true, 0⟩] := by
  unfold repsPart
  rw [List.replicate_succ', List.append_assoc]
theorem repsPart_end (p : Prob) (ns : List Int) (k : Nat) : repsPart p ns k (gi ns k).toNat = repsTo p ns (k + 1) := rfl
theorem repsPart_len (p : Prob) (ns : List Int) (k j : Nat) : (repsPart p ns k j).length = (repsTo p ns k).length + j := by simp [repsPart]
theorem probE_dims {p : Prob} (h : probE p = 0) : p.vs.length ≤ 6 ∧ p.tabs.length ≤ 12 ∧ p.now.length = p.vs.length ∧ p.tgt.length = p.vs.length ∧ ∀ i, i < p.vs.length → ¬ svcBad p i := by
  unfold probE at h
  split at h
  · omega
  split at h
  · omega
  split at h
  · omega
  · rename_i h1 h2 h3
    refine ⟨by omega, by omega, by omega, by omega, fun i hi hb => h3 ⟨i, hi, hb⟩⟩

/-! ### Apply, Power -/
structure Cmd where
  rnd : Int
  rep : Int
  ver : Int
noncomputable def applyE (p : Prob) (l : List Rep) (c : Cmd) : Int :=
  if probE p ≠ 0 then probE p
  else if ¬ (0 ≤ c.rep ∧ c.rep < l.length) then 4
  else if ¬ (0 ≤ (rp l c.rep.toNat).sv ∧ (rp l c.rep.toNat).sv < p.vs.length ∧ 0 ≤ c.ver ∧ c.ver < gi p.vs (rp l c.rep.toNat).sv.toNat) then 7
  else if (rp l c.rep.toNat).up = false then 11
  else if c.rnd < (rp l c.rep.toNat).rnd then 16 else 0
def setCmd (l : List Rep) (c : Cmd) : List Rep :=
  if (rp l c.rep.toNat).rnd < c.rnd then l.set c.rep.toNat { rp l c.rep.toNat with ver := c.ver, rnd := c.rnd } else l
noncomputable def applyL (p : Prob) (l : List Rep) (c : Cmd) : List Rep := if applyE p l c = 0 then setCmd l c else []
def powerE (l : List Rep) (i : Int) (up : Bool) : Int := if ¬ (0 ≤ i ∧ i < l.length) then 4 else if (rp l i.toNat).up = up then 11 else 0
def powerL (l : List Rep) (i : Int) (up : Bool) : List Rep := if powerE l i up = 0 then l.set i.toNat { rp l i.toNat with up := up } else []
theorem powerE_4 {l : List Rep} {i : Int} {up : Bool} (h : ¬ (0 ≤ i ∧ i < l.length)) : powerE l i up = 4 := by unfold powerE; rw [if_pos h]
theorem powerE_11 {l : List Rep} {i : Int} {up : Bool} (h : 0 ≤ i ∧ i < l.length) (h2 : (rp l i.toNat).up = up) : powerE l i up = 11 := by unfold powerE; rw [if_neg (by simp [h]), if_pos h2]
theorem powerE_0 {l : List Rep} {i : Int} {up : Bool} (h : 0 ≤ i ∧ i < l.length) (h2 : (rp l i.toNat).up ≠ up) : powerE l i up = 0 := by unfold powerE; rw [if_neg (by simp [h]), if_neg h2]
theorem powerL_bad {l : List Rep} {i : Int} {up : Bool} (h : powerE l i up ≠ 0) : powerL l i up = [] := by unfold powerL; rw [if_neg h]
theorem powerL_ok {l : List Rep} {i : Int} {up : Bool} (h : powerE l i up = 0) : powerL l i up = l.set i.toNat { rp l i.toNat with up := up } := by unfold powerL; rw [if_pos h]

/-- what a call leaves that hands back replicas and an error -/
def RRes (w : World) (l : List Rep) (e : Int) (v : Value) (w' : World) : Prop :=
  ∃ A c, v = .tuple #[.slice A l.length c, .int .i64 e] ∧ (A = none → l.length = 0 ∧ c = 0) ∧ RReps w' w'.heap.size A l ∧ Below w.heap.size w w'
theorem RRes.none_ {w w' : World} {e : Int} (hb : Below w.heap.size w w') : RRes w [] e (.tuple #[.slice none 0 0, .int .i64 e]) w' :=
  ⟨none, 0, rfl, fun _ => ⟨rfl, rfl⟩, (fun h => by simp at h), hb⟩
theorem RReps.to {w w' : World} {A : Option Addr} {l : List Rep} (h : RReps w w.heap.size A l) (hb : Below w.heap.size w w') : RReps w' w'.heap.size A l := (ArrN.below h hb).more hb.size
theorem rp_set_same {l : List Rep} {k : Nat} {r : Rep} (h : k < l.length) : rp (l.set k r) k = r := by simp [rp, h]
theorem rp_set_ne {l : List Rep} {k j : Nat} {r : Rep} (h : j ≠ k) : rp (l.set k r) j = rp l j := by simp [rp, List.getElem?_set_ne (Ne.symm h)]
end Go.Sv
namespace Go.Sv
open Go.RowKit
theorem row_ext {xs ys : List Value} {n : Nat} (h1 : xs.length = n * 4) (h2 : ys.length = n * 4) (h : ∀ k i, k < n → i < 4 → xs[k * 4 + i]? = ys[k * 4 + i]?) : xs = ys := by
  apply List.ext_getElem?
  intro j
  by_cases hj : j < n * 4
  · have := h (j / 4) (j % 4) (by omega) (by omega)
    have e : j / 4 * 4 + j % 4 = j := by omega
    rwa [e] at this
  · rw [List.getElem?_eq_none (by omega), List.getElem?_eq_none (by omega)]
theorem rpRow_is (l : List Rep) : rowN 4 l.length (rpF l) = rpRow l :=
  row_ext (n := l.length) (rowN_length ..) (rpRow_length l) (fun k i hk hi => by rw [rowN_get hk hi, rpRow_get l k i hk hi])
theorem rpRow_set {l : List Rep} {k i : Nat} {r : Rep} {u : Value} (hi : i < 4) (hu : rpCell r i = u) (hr : ∀ j, j < 4 → j ≠ i → rpCell r j = rpCell (rp l k) j) (hk : k < l.length) :
    (rpRow l).set (k * 4 + i) u = rpRow (l.set k r) := by
  apply row_ext (n := l.length)
  · rw [List.length_set, rpRow_length]
  · rw [rpRow_length, List.length_set]
  · intro k' i' hk' hi'
    rw [rpRow_get _ _ _ (by rw [List.length_set]; exact hk') hi']
    by_cases e : k' = k
    · subst e
      unfold rpF
      rw [rp_set_same hk]
      by_cases e2 : i' = i
      · subst e2
        rw [List.getElem?_set_self (by rw [rpRow_length]; omega), hu]
      · rw [List.getElem?_set_ne (by omega), rpRow_get _ _ _ hk' hi', hr i' hi' e2]
        rfl
    · rw [List.getElem?_set_ne (by omega), rpRow_get _ _ _ hk' hi']
      unfold rpF
      rw [rp_set_ne e]
/-- a copy of replicas: of the call's own -/
def RCl (w : World) (e : TypeId) (l : List Rep) (v : Value) (w' : World) : Prop :=
  ∃ A c, v = .slice A l.length c ∧ w'.ownsRow w.heap.size e 4 (.slice A l.length c) l.length (rpRow l) ∧ Below w.heap.size w w'
theorem own_reps {w : World} {base : Nat} {e : TypeId} {A : Option Addr} {c : Nat} {l : List Rep} (h : w.ownsRow base e 4 (.slice A l.length c) l.length (rpRow l)) : RReps w w.heap.size A l := by
  obtain ⟨A', c', hv, _, _, ha⟩ := own_arrN (f := rpF l) h (fun k hk i hi => rpRow_get l k i hk hi)
  injection hv with e1 _ _
  subst e1
  exact ha
end Go.Sv
