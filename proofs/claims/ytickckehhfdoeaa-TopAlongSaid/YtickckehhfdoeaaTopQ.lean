/-
  PLAIN: the mixes that aborts lead to, step by step; they are valid.
  Conditions: those that each theorem names.
-/
import Derived.Test.YtickckehhfdoeaaTopP
import Derived.Test.YtickckehhfdoeaaSb2
namespace Go.Sv
open Go.RowKit
/-- the open upgrades among the first j services -/
def opN (m : Mx) (j : Nat) : List Nat := (List.range j).filter fun i => decide (0 ≤ gi m.next i)
theorem opN_0 (m : Mx) : opN m 0 = [] := rfl
theorem opN_all (m : Mx) : opN m m.next.length = openL m := rfl
theorem opN_yes {m : Mx} {j : Nat} (h : 0 ≤ gi m.next j) : opN m (j + 1) = opN m j ++ [j] := by
  unfold opN
  rw [List.range_succ, List.filter_append]
  simp [h]
theorem opN_no {m : Mx} {j : Nat} (h : ¬ 0 ≤ gi m.next j) : opN m (j + 1) = opN m j := by
  unfold opN
  rw [List.range_succ, List.filter_append]
  simp [h]
theorem opN_len (m : Mx) (j : Nat) : (opN m j).length ≤ j := by
  unfold opN
  exact Nat.le_trans (List.length_filter_le _ _) (by simp)
theorem openL_lt {m : Mx} {i : Nat} (h : i ∈ openL m) : i < m.next.length ∧ 0 ≤ gi m.next i := by
  unfold openL at h
  obtain ⟨a, b⟩ := List.mem_filter.1 h
  exact ⟨List.mem_range.1 a, of_decide_eq_true b⟩
/-- an open upgrade, by its place -/
def opA (m : Mx) (j : Nat) : Nat := (openL m).getD j 0
theorem opA_mem {m : Mx} {j : Nat} (h : j < (openL m).length) : opA m j ∈ openL m := by simp [opA, h]
theorem opA_get {m : Mx} {j : Nat} (h : j < (openL m).length) : (openL m)[j]? = some (opA m j) := by simp [opA, h]
theorem abF_snoc : ∀ (l : List Nat) (i b k : Nat) (n : List Int), abF (l ++ [i]) b k n = (if k.testBit (b + l.length) then (abF l b k n).set i (-1) else abF l b k n)
  | [], i, b, k, n => rfl
  | x :: l, i, b, k, n => by
    rw [List.cons_append, abF, abF_snoc l i (b + 1) k _, abF, List.length_cons, show b + 1 + l.length = b + (l.length + 1) by omega]
/-- the open upgrades whose places are less than j, closed where k has a bit -/
def abN (m : Mx) (k j : Nat) : List Int := abF ((openL m).take j) 0 k m.next
def abX (m : Mx) (k j : Nat) : Mx := { m with next := abN m k j }
theorem abN_0 (m : Mx) (k : Nat) : abN m k 0 = m.next := rfl
theorem abN_next {m : Mx} {k j : Nat} (h : j < (openL m).length) : abN m k (j + 1) = if k.testBit j then (abN m k j).set (opA m j) (-1) else abN m k j := by
  unfold abN
  rw [List.take_add_one, opA_get h, Option.toList_some, abF_snoc, List.length_take, Nat.min_eq_left (Nat.le_of_lt h), Nat.zero_add]
theorem abN_yes {m : Mx} {k j : Nat} (h : j < (openL m).length) (hb : k.testBit j = true) : abN m k (j + 1) = (abN m k j).set (opA m j) (-1) := by rw [abN_next h, if_pos hb]
theorem abN_no {m : Mx} {k j : Nat} (h : j < (openL m).length) (hb : k.testBit j = false) : abN m k (j + 1) = abN m k j := by rw [abN_next h, if_neg (by rw [hb]; decide)]
theorem abX_all (m : Mx) (k : Nat) : abX m k (openL m).length = abM m k := by unfold abX abN abM; rw [List.take_length]
theorem abX_0 (m : Mx) (k : Nat) : abX m k 0 = m := rfl
theorem abF_len : ∀ (l : List Nat) (b k : Nat) (n : List Int), (abF l b k n).length = n.length
  | [], _, _, _ => rfl
  | i :: l, b, k, n => by
    rw [abF, abF_len l]
    split <;> simp
theorem abN_len (m : Mx) (k j : Nat) : (abN m k j).length = m.next.length := abF_len ..
theorem abF_gi : ∀ (l : List Nat) (b k : Nat) (n : List Int) (i : Nat), gi (abF l b k n) i = gi n i ∨ gi (abF l b k n) i = -1
  | [], _, _, _, _ => Or.inl rfl
  | x :: l, b, k, n, i => by
    rw [abF]
    rcases abF_gi l (b + 1) k (if k.testBit b = true then n.set x (-1) else n) i with h | h
    · rw [h]
      split
      · by_cases e : i = x
        · by_cases hx : x < n.length
          · right; rw [e, gi_set_same hx]
          · left; rw [List.set_eq_of_length_le (by omega)]
        · left; exact gi_set_ne e
      · exact Or.inl rfl
    · exact Or.inr h
/-- what aborts lead to is a valid mix -/
theorem abX_ok {p : Prob} {m : Mx} (h : MOk p m) (k j : Nat) : MOk p (abX m k j) := by
  have hg := fun i => abF_gi ((openL m).take j) 0 k m.next i
  refine ⟨h.pr, h.lb, (abN_len ..).trans h.ln, h.lh, fun i hi => ?_, fun i hi hs => ?_, h.ns⟩
  · obtain ⟨a, b, c, d, e⟩ := h.sv i hi
    show 0 ≤ gi m.base i ∧ gi m.base i < gi p.vs i ∧ -1 ≤ gi (abN m k j) i ∧ gi (abN m k j) i < gi p.vs i ∧ gi m.base i ≠ gi (abN m k j) i
    rcases hg i with g | g
    · unfold abN; rw [g]; exact ⟨a, b, c, d, e⟩
    · unfold abN; rw [g]; exact ⟨a, b, by omega, by omega, by omega⟩
  · obtain ⟨a, b⟩ := h.st i hi hs
    refine ⟨a, fun u hu => b u ?_⟩
    unfold run at hu ⊢
    have hn : gi (abX m k j).next (tab p.tabs i).src.toNat = gi m.next (tab p.tabs i).src.toNat ∨ gi (abX m k j).next (tab p.tabs i).src.toNat = -1 := hg _
    rcases hn with g | g
    · rw [g] at hu; exact hu
    · rw [g, if_neg (by omega), Nat.or_zero] at hu
      rw [Nat.testBit_or]
      have hu : (2 ^ (gi m.base (tab p.tabs i).src.toNat).toNat).testBit u = true := hu
      rw [hu]; rfl
theorem abM_ok {p : Prob} {m : Mx} (h : MOk p m) (k : Nat) : MOk p (abM m k) := by rw [← abX_all]; exact abX_ok h k _
theorem abM_h8 {m : Mx} (h : H8 m) (k : Nat) : H8 (abM m k) := h
/-- the first k mixes -/
def abK (m : Mx) (k : Nat) : List Mx := (List.range k).map (abM m)
theorem abK_0 (m : Mx) : abK m 0 = [] := rfl
theorem abK_len (m : Mx) (k : Nat) : (abK m k).length = k := by simp [abK]
theorem abK_next (m : Mx) (k : Nat) : abK m (k + 1) = abK m k ++ [abM m k] := by simp [abK, List.range_succ]
theorem abK_all (m : Mx) : abK m (2 ^ (openL m).length) = abL m := rfl
theorem abL_at {m : Mx} {k : Nat} (h : k < 2 ^ (openL m).length) : mxAt (abL m) k = abM m k := by
  unfold mxAt abL
  simp [h]
theorem abL_len (m : Mx) : (abL m).length = 2 ^ (openL m).length := by simp [abL]
theorem open_6 {p : Prob} {m : Mx} (h : MOk p m) (h6 : p.vs.length ≤ 6) : (openL m).length ≤ 6 := by
  have := opN_len m m.next.length
  rw [opN_all] at this
  have := h.ln
  omega
/-! ### Blame -/
/-- the first mix with conflicts among those from k on -/
def blmE (p : Prob) (m : Mx) : Int := if robB p m = true then 15 else 0
theorem rob_all {p : Prob} {m : Mx} (h : ∀ k, k < 2 ^ (openL m).length → (foundL p (abM m k)).length = 0) : robB p m = true := by
  unfold robB abL
  rw [List.all_eq_true]
  intro x hx
  obtain ⟨k, hk, rfl⟩ := List.mem_map.1 hx
  rw [List.isEmpty_iff]
  exact List.eq_nil_of_length_eq_zero (h k (List.mem_range.1 hk))
theorem rob_not {p : Prob} {m : Mx} {k : Nat} (hk : k < 2 ^ (openL m).length) (h : 0 < (foundL p (abM m k)).length) : robB p m = false := by
  unfold robB abL
  rw [List.all_eq_false]
  refine ⟨abM m k, List.mem_map.2 ⟨k, List.mem_range.2 hk, rfl⟩, ?_⟩
  rw [List.isEmpty_iff]
  intro e
  rw [e] at h
  exact absurd h (by decide)
/-! ### Start -/
theorem now_in {p : Prob} (h : probE p = 0) {i : Nat} (hi : i < p.vs.length) : 0 ≤ gi p.now i ∧ gi p.now i < gi p.vs i ∧ 0 ≤ gi p.tgt i ∧ gi p.tgt i < gi p.vs i := by
  by_cases hb : svcBad p i
  · unfold probE at h
    split at h
    · cases h
    · split at h
      · cases h
      · split at h
        · cases h
        · rename_i hn
          exact absurd ⟨i, hi, hb⟩ hn
  · unfold svcBad at hb
    have h1 : win (gi p.now i) (gi p.vs i) = true := by
      cases hw : win (gi p.now i) (gi p.vs i) with
      | true => rfl
      | false => exact absurd (Or.inr (Or.inr (Or.inl hw))) hb
    have h2 : win (gi p.tgt i) (gi p.vs i) = true := by
      cases hw : win (gi p.tgt i) (gi p.vs i) with
      | true => rfl
      | false => exact absurd (Or.inr (Or.inr (Or.inr hw))) hb
    have := win_iff.1 h1
    have := win_iff.1 h2
    omega

def stHd (p : Prob) (i : Nat) : Int := if stored (tab p.tabs i) = true then ((2 ^ (gi p.now (tab p.tabs i).src.toNat).toNat : Nat) : Int) else 0
/-- the first mix -/
def stMx (p : Prob) : Mx := ⟨p.now, List.replicate p.now.length (-1), (List.range p.tabs.length).map (stHd p)⟩
def stHl (p : Prob) (i : Nat) : List Int := (List.range p.tabs.length).map fun k => if k < i then stHd p k else 0
theorem stHl_len (p : Prob) (i : Nat) : (stHl p i).length = p.tabs.length := by simp [stHl]
theorem stHl_gi {p : Prob} {i k : Nat} (h : k < p.tabs.length) : gi (stHl p i) k = if k < i then stHd p k else 0 := gi_map h
theorem stHl_all (p : Prob) : stHl p p.tabs.length = (stMx p).held := by
  refine gi_ext (by simp [stHl, stMx]) fun k hk => ?_
  rw [stHl_len] at hk
  rw [stHl_gi hk, if_pos hk]
  exact (gi_map hk).symm
theorem stHl_next {p : Prob} {i : Nat} (h : i < p.tabs.length) : stHl p (i + 1) = (stHl p i).set i (stHd p i) := by
  refine gi_ext (by simp [stHl]) fun k hk => ?_
  rw [stHl_len] at hk
  rw [stHl_gi hk]
  by_cases e : k = i
  · subst e
    rw [if_pos (by omega), gi_set_same (by rw [stHl_len]; exact h)]
  · rw [gi_set_ne e, stHl_gi hk]
    by_cases c : k < i
    · rw [if_pos c, if_pos (by omega)]
    · rw [if_neg c, if_neg (by omega)]
theorem stHl_skip {p : Prob} {i : Nat} (h : i < p.tabs.length) (hs : stored (tab p.tabs i) = false) : stHl p (i + 1) = stHl p i := by
  have h0 : stHd p i = 0 := by unfold stHd; rw [if_neg (by rw [hs]; decide)]
  refine gi_ext (by simp [stHl]) fun k hk => ?_
  rw [stHl_len] at hk
  rw [stHl_gi hk, stHl_gi hk]
  by_cases e : k = i
  · subst e; rw [if_pos (by omega), if_neg (by omega), h0]
  · by_cases c : k < i
    · rw [if_pos c, if_pos (by omega)]
    · rw [if_neg c, if_neg (by omega)]
theorem stHl_0 (p : Prob) : stHl p 0 = List.replicate p.tabs.length 0 := by
  refine gi_ext (by simp [stHl]) fun k hk => ?_
  rw [stHl_len] at hk
  rw [stHl_gi hk, if_neg (by omega)]
  simp [gi, hk]
end Go.Sv
