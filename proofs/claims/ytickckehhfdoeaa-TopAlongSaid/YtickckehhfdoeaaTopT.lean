/-
  PLAIN: what Safe and Check answer along a list of steps that leads to a goal.
  Conditions: those that each theorem names.
-/
import Derived.Test.YtickckehhfdoeaaTopQ
namespace Go.Sv
open Go.RowKit
/-- the check behind a mix -/
noncomputable def ckB (p : Prob) : Mx → List Sp → Bool
  | m, [] => goalB p m
  | m, s :: r => if appE p m s ≠ 0 ∨ s.kind = 4 ∨ robB p (apM p m s) = false then false else ckB p (apM p m s) r
noncomputable def chkB (p : Prob) (l : List Sp) : Bool := robB p (stMx p) && ckB p (stMx p) l
/-- a possible list -/
structure Tr (p : Prob) (m : Mx) (l : List Sp) (o : List Mx) (x : Mx) : Prop where
  go : ∀ k, goes p m l k = .ok o
  la : lastM m o = x
  ok : MOk p x
  k4 : ∀ s ∈ l, s.kind ≠ 4
theorem Tr.nil {p : Prob} {m : Mx} (h : MOk p m) : Tr p m [] [] m := ⟨fun _ => rfl, rfl, h, fun s hs => by cases hs⟩
theorem goes_app {p : Prob} : ∀ (l r : List Sp) (m : Mx) (k : Nat) (o o2 : List Mx), goes p m l k = .ok o → (∀ j, goes p (lastM m o) r j = .ok o2) → goes p m (l ++ r) k = .ok (o ++ o2)
  | [], r, m, k, o, o2, h, h2 => by
    rw [goes] at h
    injection h with h
    subst h
    exact h2 k
  | s :: l, r, m, k, o, o2, h, h2 => by
    by_cases c : appE p m s = 0
    · rw [goes, if_pos c] at h
      cases hg : goes p ((aft p m s).getD m) l (k + 1) with
      | error e => rw [hg] at h; cases h
      | ok t =>
        rw [hg] at h
        injection h with h
        subst h
        have e : lastM m ((aft p m s).getD m :: t) = lastM ((aft p m s).getD m) t := by cases t <;> rfl
        rw [e] at h2
        show goes p m (s :: (l ++ r)) k = _
        rw [goes, if_pos c, goes_app l r _ (k + 1) t o2 hg h2]
        rfl
    · rw [goes, if_neg c] at h; cases h
theorem lastM_app {m : Mx} {o o2 : List Mx} : lastM m (o ++ o2) = lastM (lastM m o) o2 := by
  cases o2 with
  | nil => rw [List.append_nil]; rfl
  | cons a t => unfold lastM; simp [List.getLastD_eq_getLast?]
theorem Tr.app {p : Prob} {m x y : Mx} {l r : List Sp} {o o2 : List Mx} (h : Tr p m l o x) (h2 : Tr p x r o2 y) : Tr p m (l ++ r) (o ++ o2) y := by
  refine ⟨fun k => goes_app l r m k o o2 (h.go k) (fun j => by rw [h.la]; exact h2.go j), by rw [lastM_app, h.la, h2.la], h2.ok, fun s hs => ?_⟩
  rcases List.mem_append.1 hs with hs | hs
  · exact h.k4 s hs
  · exact h2.k4 s hs
theorem Tr.one {p : Prob} {m : Mx} {s : Sp} (hm : MOk p m) (h : appE p m s = 0) (h4 : s.kind ≠ 4) : Tr p m [s] [apM p m s] (apM p m s) := by
  refine ⟨fun k => ?_, rfl, apM_mok hm h, fun t ht => by rw [List.mem_singleton.1 ht]; exact h4⟩
  rw [goes_step h]
  rfl
theorem ck_run {p : Prob} : ∀ (l : List Sp) (m : Mx) (k : Nat) (o : List Mx), goes p m l k = .ok o → (∀ s ∈ l, s.kind ≠ 4) → goalB p (lastM m o) = true → ckB p m l = o.all (robB p)
  | [], m, k, o, h, _, hg => by
    rw [goes] at h
    injection h with h
    subst h
    rw [ckB]
    exact hg
  | s :: l, m, k, o, h, h4, hg => by
    by_cases c : appE p m s = 0
    · rw [goes_step c] at h
      cases ht : goes p (apM p m s) l (k + 1) with
      | error e => rw [ht] at h; cases h
      | ok t =>
        rw [ht] at h
        have h5 : o = apM p m s :: t := by
          injection h with h
          exact h.symm
        subst h5
        have e : lastM m (apM p m s :: t) = lastM (apM p m s) t := by cases t <;> rfl
        rw [e] at hg
        rw [ckB]
        have k4 := h4 s (List.mem_cons_self ..)
        by_cases hr : robB p (apM p m s) = false
        · rw [if_pos (Or.inr (Or.inr hr)), List.all_cons, hr]; rfl
        · rw [if_neg (fun hx => hx.elim (fun x => x c) (fun x => x.elim k4 hr)), ck_run l _ (k + 1) t ht (fun s hs => h4 s (List.mem_cons_of_mem _ hs)) hg, List.all_cons]
          rw [Bool.not_eq_false] at hr
          rw [hr]; rfl
    · rw [goes_stop c] at h; cases h
/-- the law -/
theorem along_law {p : Prob} {l : List Sp} {o : List Mx} {x : Mx} (h : Tr p (stMx p) l o x) (hok : mixE p (stMx p) = 0) (hg : goalB p x = true) :
    rnE p (stMx p) l = 0 ∧ rnL p (stMx p) l = stMx p :: o ∧ chkB p l = (stMx p :: o).all (robB p) := by
  refine ⟨?_, ?_, ?_⟩
  · unfold rnE; rw [if_pos hok, h.go 0]
  · unfold rnL; rw [if_pos hok, h.go 0]
  · unfold chkB
    rw [ck_run l _ 0 o (h.go 0) h.k4 (by rw [h.la]; exact hg), List.all_cons]
end Go.Sv
