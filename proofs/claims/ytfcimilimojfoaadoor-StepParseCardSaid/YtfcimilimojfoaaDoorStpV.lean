/-
  PLAIN: the text of a step; both texts' Parse.
  Conditions: those that each theorem names.
-/
import Derived.Test.YtfcimilimojfoaaDoorTxt
import Derived.Test.YtfcimilimojfoaaDoorSb1
namespace Go.Sv
open Go.RowKit Go.Lx
def kindW (k : Int) : Bs := if k = 1 then [115, 116, 97, 114, 116] else if k = 2 then [102, 105, 110, 105, 115, 104] else if k = 3 then [99, 108, 101, 97, 114] else [97, 98, 111, 114, 116]
/-- the kind with a word -/
def kw (w : Bs) : Int := if w = [115, 116, 97, 114, 116] then 1 else if w = [102, 105, 110, 105, 115, 104] then 2 else if w = [99, 108, 101, 97, 114] then 3 else if w = [97, 98, 111, 114, 116] then 4 else 0
def stepT (s : Sp) : Bs := kindW s.kind ++ 32 :: (Lib.decDigits s.ix.toNat ++ (if s.kind = 1 then 32 :: Lib.decDigits s.ver.toNat else []))
theorem kw_kindW {k : Int} (h1 : 1 ≤ k) (h2 : k ≤ 4) : kw (kindW k) = k := by
  rcases (by omega : k = 1 ∨ k = 2 ∨ k = 3 ∨ k = 4) with rfl | rfl | rfl | rfl <;> decide
theorem kindW_kw {w : Bs} (h : kw w ≠ 0) : kindW (kw w) = w ∧ 1 ≤ kw w ∧ kw w ≤ 4 := by
  by_cases h1 : w = [115, 116, 97, 114, 116]
  · subst h1; decide
  · by_cases h2 : w = [102, 105, 110, 105, 115, 104]
    · subst h2; decide
    · by_cases h3 : w = [99, 108, 101, 97, 114]
      · subst h3; decide
      · by_cases h4 : w = [97, 98, 111, 114, 116]
        · subst h4; decide
        · exact absurd (by unfold kw; rw [if_neg h1, if_neg h2, if_neg h3, if_neg h4]) h
theorem kindW_nosp (k : Int) : (32 : UInt8) ∉ kindW k := by
  unfold kindW
  split
  · decide
  · split
    · decide
    · split <;> decide
theorem spl_step (s : Sp) : spl 32 (stepT s) = kindW s.kind :: Lib.decDigits s.ix.toNat :: (if s.kind = 1 then [Lib.decDigits s.ver.toNat] else []) := by
  unfold stepT
  rw [spl_app _ (kindW_nosp _)]
  split
  · rw [spl_app _ (dec_nosp _), spl_word (dec_nosp _)]
  · rw [List.append_nil, spl_word (dec_nosp _)]
/-- valid, and the numbers fit -/
def spR (s : Sp) : Prop := spB s = true ∧ s.ix ≤ 9223372036854775807 ∧ s.ver ≤ 9223372036854775807
/-! ### the reference -/
def parR (t : Bs) : Option Sp := match spl 32 t with
  | w :: a :: rest =>
    if kw w = 0 then none
    else if kw w = 1 then (match rest with | [b] => (match numR a, numR b with | some i, some v => some ⟨1, (i : Nat), (v : Nat)⟩ | _, _ => none) | _ => none)
    else (match rest with | [] => (match numR a with | some i => some ⟨kw w, (i : Nat), 0⟩ | none => none) | _ => none)
  | _ => none
theorem parR_step {s : Sp} (h : spR s) : parR (stepT s) = some s := by
  obtain ⟨hs, hi, hv⟩ := h
  unfold spB at hs
  have hs := of_decide_eq_true hs
  unfold parR
  rw [spl_step]
  simp only
  rw [kw_kindW hs.1 hs.2.1, if_neg (by omega)]
  have n1 : numR (Lib.decDigits s.ix.toNat) = some s.ix.toNat := numR_iff.2 ⟨rfl, by omega⟩
  have n2 : numR (Lib.decDigits s.ver.toNat) = some s.ver.toNat := numR_iff.2 ⟨rfl, by omega⟩
  obtain ⟨k, i, v⟩ := s
  simp only at *
  by_cases e : k = 1
  · rw [if_pos e, if_pos e]
    simp only [n1, n2]
    rw [e]
    congr 2 <;> omega
  · rw [if_neg e, if_neg e]
    simp only [n1]
    congr 2 <;> omega
theorem parR_some {t : Bs} {s : Sp} (h : parR t = some s) : spR s ∧ stepT s = t := by
  have hj := join_spl 32 t
  unfold parR at h
  split at h
  · rename_i w a rest hw
    rw [hw] at hj
    split at h
    · cases h
    · rename_i h0
      obtain ⟨k1, k2, k3⟩ := kindW_kw h0
      split at h
      · rename_i h1
        split at h
        · rename_i b
          split at h
          · rename_i i v hi hv
            injection h with h
            subst h
            obtain ⟨e1, b1⟩ := numR_iff.1 hi
            obtain ⟨e2, b2⟩ := numR_iff.1 hv
            refine ⟨⟨decide_eq_true (by simp), by simp only; omega, by simp only; omega⟩, ?_⟩
            rw [← hj]
            unfold stepT
            simp only [joinS, Int.toNat_natCast]
            rw [← h1, k1, if_pos trivial, ← e1, ← e2]
          · cases h
        · cases h
      · rename_i h1
        split at h
        · split at h
          · rename_i i hi
            injection h with h
            subst h
            obtain ⟨e1, b1⟩ := numR_iff.1 hi
            refine ⟨⟨decide_eq_true (by simp; omega), by simp only; omega, by simp only; omega⟩, ?_⟩
            rw [← hj]
            unfold stepT
            simp only [joinS, Int.toNat_natCast]
            rw [k1, if_neg h1, ← e1, List.append_nil]
          · cases h
        · cases h
  · cases h
/-! ### the program: 'at' is the number of a word, whatever its error -/
def nthA (at' : Bs → Int) (ws : List Bs) (i : Nat) : Int := match ws[i]? with | some a => at' a | none => 0
def decS (at' : Bs → Int) (t : Bs) : Sp := ⟨kw ((spl 32 t).headD []), nthA at' (spl 32 t) 1, nthA at' (spl 32 t) 2⟩
def parP (at' : Bs → Int) (t : Bs) : Option Sp := if spB (decS at' t) = true ∧ stepT (decS at' t) = t then some (decS at' t) else none
theorem nthA_le {at' : Bs → Int} (h2 : ∀ w, at' w ≤ 9223372036854775807) (ws : List Bs) (i : Nat) : nthA at' ws i ≤ 9223372036854775807 := by
  unfold nthA
  split
  · exact h2 _
  · decide
theorem decS_step {at' : Bs → Int} (h1 : ∀ n : Nat, n ≤ 9223372036854775807 → at' (Lib.decDigits n) = n) {s : Sp} (h : spR s) : decS at' (stepT s) = s := by
  obtain ⟨a, b, c⟩ := h
  unfold spB at a
  have hs := of_decide_eq_true a
  unfold decS nthA
  rw [spl_step]
  obtain ⟨k, i, v⟩ := s
  simp only at *
  have x1 : at' (Lib.decDigits i.toNat) = i := by rw [h1 _ (by omega)]; omega
  by_cases h : k = 1
  · rw [if_pos h]
    have x2 : at' (Lib.decDigits v.toNat) = v := by rw [h1 _ (by omega)]; omega
    simp [kw_kindW hs.1 hs.2.1, x1, x2]
  · rw [if_neg h]
    have : v = 0 := by omega
    simp [kw_kindW hs.1 hs.2.1, x1, this]
theorem par_eq {at' : Bs → Int} (h1 : ∀ n : Nat, n ≤ 9223372036854775807 → at' (Lib.decDigits n) = n) (h2 : ∀ w, at' w ≤ 9223372036854775807) (t : Bs) : parP at' t = parR t := by
  unfold parP
  by_cases hc : spB (decS at' t) = true ∧ stepT (decS at' t) = t
  · rw [if_pos hc]
    have hr : spR (decS at' t) := ⟨hc.1, nthA_le h2 _ _, nthA_le h2 _ _⟩
    have := parR_step hr
    rw [hc.2] at this
    exact this.symm
  · rw [if_neg hc]
    cases hr : parR t with
    | none => rfl
    | some s =>
      obtain ⟨h, e⟩ := parR_some hr
      refine absurd ?_ hc
      have key : decS at' t = s := by rw [← e]; exact decS_step h1 h
      rw [key]
      exact ⟨h.1, e⟩
end Go.Sv
