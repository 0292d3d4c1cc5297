/-
  PLAIN: the list that TopAlong makes is possible and leads to a goal.
  Conditions: those that each theorem names.
-/
import Derived.Test.YtickckehhfdoeaaTopT
namespace Go.Sv
open Go.RowKit
variable {p : Prob}
/-- a step of Enabled's -/
theorem en_step {m : Mx} {s : Sp} (h : s ∈ (allL p).filter (aftB p m)) : appE p m s = 0 ∧ s.kind ≠ 4 := by
  obtain ⟨hs, ha⟩ := List.mem_filter.1 h
  obtain ⟨x, hx⟩ := Option.isSome_iff_exists.1 ha
  have key : spB s = true ∧ existsB p s = true ∧ s.kind ≠ 4 := by
    unfold allL at hs
    simp only [List.mem_append, List.mem_flatMap, List.mem_map, List.mem_range] at hs
    rcases hs with (⟨i, hi, v, hv, rfl⟩ | ⟨i, hi, rfl⟩) | ⟨i, hi, rfl⟩
    · refine ⟨by unfold spB; simp, ?_, by simp⟩
      unfold existsB
      rw [if_neg (by simp)]
      simp only [Int.toNat_natCast, decide_true, Bool.not_true, Bool.false_or, Bool.and_eq_true, decide_eq_true_eq]
      omega
    · refine ⟨by unfold spB; simp, ?_, by simp⟩
      unfold existsB
      rw [if_neg (by simp)]
      simp
      omega
    · refine ⟨by unfold spB; simp, ?_, by simp⟩
      unfold existsB
      rw [if_pos rfl]
      simp
      omega
  exact ⟨appE_ok.2 ⟨key.1, key.2.1, x, hx⟩, key.2.2⟩
/-- to finish what is under way -/
theorem fin_step {m : Mx} {i : Nat} (_hm : MOk p m) (hi : i < p.vs.length) (hn : 0 ≤ gi m.next i) : appE p m ⟨2, i, 0⟩ = 0 ∧ (apM p m ⟨2, i, 0⟩).next = m.next.set i (-1) := by
  have h1 : spB ⟨2, i, 0⟩ = true := by unfold spB; simp
  have h2 : existsB p ⟨2, i, 0⟩ = true := by
    unfold existsB
    rw [if_neg (by simp)]
    simp
    omega
  have h3 : aft p m ⟨2, i, 0⟩ = some { m with base := m.base.set i (gi m.next i), next := m.next.set i (-1) } := by
    unfold aft
    dsimp only
    rw [if_neg (by simp), if_neg (by simp), Int.toNat_natCast, if_neg (by omega), if_pos rfl]
  exact ⟨appE_ok.2 ⟨h1, h2, _, h3⟩, by rw [apM_ok h1 h2 h3]⟩
theorem dirL_k4 (m : Mx) : ∀ (r : List Int) (i : Nat), ∀ s ∈ dirL m i r, s.kind ≠ 4
  | [], i, s, h => by rw [dirL] at h; cases h
  | v :: r, i, s, h => by
    rw [dirL] at h
    rcases List.mem_append.1 h with h | h
    · split at h
      · cases h
      · simp only [List.mem_cons, List.not_mem_nil, or_false] at h
        rcases h with rfl | rfl
        · simp
        · simp
    · exact dirL_k4 m r (i + 1) s h
theorem goes_any : ∀ (l : List Sp) (m : Mx) (k j : Nat) (o : List Mx), goes p m l k = .ok o → goes p m l j = .ok o
  | [], m, k, j, o, h => h
  | s :: l, m, k, j, o, h => by
    by_cases c : appE p m s = 0
    · rw [goes_step c] at h ⊢
      cases hg : goes p (apM p m s) l (k + 1) with
      | error e => rw [hg] at h; cases h
      | ok t =>
        rw [hg] at h
        rw [goes_any l (apM p m s) (k + 1) (j + 1) t hg]
        exact h
    · rw [goes_stop c] at h; cases h
/-- straight to the targets -/
theorem Tr.dir {m : Mx} (hm : MOk p m) (ht : p.tgt.length = p.vs.length) (htg : ∀ i, i < p.vs.length → 0 ≤ gi p.tgt i ∧ gi p.tgt i < gi p.vs i) (hn : ∀ j, j < p.vs.length → gi m.next j = -1) : ∃ o x, Tr p m (dirL m 0 p.tgt) o x ∧ goalB p x = true := by
  obtain ⟨o, h1, h2, h3, h4⟩ := dir_leads (m := m) ht htg p.tgt 0 m 0 hm rfl (by omega) hn (fun j hj => by omega) (fun j _ => rfl)
  refine ⟨o, lastM m o, ⟨fun k => goes_any _ _ 0 k _ h1, rfl, h2, dirL_k4 m p.tgt 0⟩, ?_⟩
  unfold goalB
  rw [h3, decide_eq_true rfl, Bool.true_and, List.all_eq_true]
  intro n hn
  obtain ⟨j, hj, rfl⟩ := List.getElem_of_mem hn
  have h5 := h4 j (by rw [← h2.ln]; exact hj)
  have : (lastM m o).next[j] = gi (lastM m o).next j := by simp [gi, hj]
  rw [this, h5]
  decide
/-- what Direct answers there -/
theorem di_tgt {m : Mx} (hm : MOk p m) (hn : ∀ j, j < p.vs.length → gi m.next j = -1) : diE p m p.tgt = 0 ∧ diL p m p.tgt = dirL m 0 p.tgt :=
  di_0 (mixE_ok.2 hm) (prob_small hm.pr).2.2.2 (anyB_no fun i hi => by
    have h := now_in hm.pr (i := i) (by rw [← (prob_small hm.pr).2.2.2]; exact hi)
    unfold tgB
    exact decide_eq_false (by omega)) (anyB_no fun i hi => by
    rw [hn i (by rw [← hm.ln]; exact hi)]
    decide)
/-- the whole list: steps of Enabled's, finishes, then straight -/
theorem Tr.whole {m x : Mx} {l : List Sp} {o : List Mx} (h : Tr p m l o x) (hn : ∀ j, j < p.vs.length → gi x.next j = -1) : ∃ o2 y, Tr p m (l ++ diL p x p.tgt) o2 y ∧ goalB p y = true := by
  rw [(di_tgt h.ok hn).2]
  obtain ⟨o3, y, h3, hg⟩ := Tr.dir h.ok (prob_small h.ok.pr).2.2.2 (fun i hi => ⟨(now_in h.ok.pr hi).2.2.1, (now_in h.ok.pr hi).2.2.2⟩) hn
  exact ⟨_, y, h.app h3, hg⟩
theorem goes_ok : ∀ (l : List Sp) (m : Mx) (k : Nat) (o : List Mx), MOk p m → goes p m l k = .ok o → ∀ x ∈ o, MOk p x
  | [], m, k, o, hm, h => by
    rw [goes] at h
    injection h with h
    subst h
    intro x hx
    cases hx
  | s :: l, m, k, o, hm, h => by
    by_cases c : appE p m s = 0
    · rw [goes_step c] at h
      cases hg : goes p (apM p m s) l (k + 1) with
      | error e => rw [hg] at h; cases h
      | ok t =>
        rw [hg] at h
        have h5 : o = apM p m s :: t := by
          injection h with h
          exact h.symm
        subst h5
        intro x hx
        rcases List.mem_cons.1 hx with rfl | hx
        · exact apM_mok hm c
        · exact goes_ok l _ (k + 1) t (apM_mok hm c) hg x hx
    · rw [goes_stop c] at h; cases h
/-- the mixes of a run are valid -/
theorem Tr.mixes {m x : Mx} {l : List Sp} {o : List Mx} (hm : MOk p m) (h : Tr p m l o x) : ∀ k, k < (m :: o).length → MOk p (mxAt (m :: o) k) := by
  intro k hk
  have e : mxAt (m :: o) k = (m :: o)[k] := by
    unfold mxAt
    rw [List.getD_eq_getElem?_getD, List.getElem?_eq_getElem hk]
    rfl
  rw [e]
  rcases List.mem_cons.1 (List.getElem_mem hk) with h1 | h1
  · rw [h1]; exact hm
  · exact goes_ok l m 0 o hm (h.go 0) _ h1
theorem Tr.len {m x : Mx} {l : List Sp} {o : List Mx} (h : Tr p m l o x) : o.length = l.length := goes_len l m 0 o (h.go 0)
/-- one more step -/
theorem Tr.snoc {m x : Mx} {l : List Sp} {o : List Mx} {s : Sp} (h : Tr p m l o x) (ha : appE p x s = 0) (h4 : s.kind ≠ 4) : Tr p m (l ++ [s]) (o ++ [apM p x s]) (apM p x s) := h.app (Tr.one h.ok ha h4)
theorem dirL_len (m : Mx) : ∀ (r : List Int) (i : Nat), (dirL m i r).length ≤ 2 * r.length
  | [], i => by rw [dirL]; simp
  | v :: r, i => by
    rw [dirL, List.length_append, List.length_cons]
    have := dirL_len m r (i + 1)
    split
    · simp; omega
    · simp; omega
end Go.Sv
