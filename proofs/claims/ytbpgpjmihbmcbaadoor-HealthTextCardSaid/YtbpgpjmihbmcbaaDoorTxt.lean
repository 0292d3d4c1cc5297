/-
  PLAIN, GENERAL: texts of words with spaces between; decimal numbers that fit: strings.Split, and a loop that reads digits and compares with the number's own text.
  Conditions: those that each theorem names.
-/
import Derived.Test.YtbpgpjmihbmcbaaDoorLexQ
import Derived.Lib.SplitLaws
namespace Go.Lx
open Go
/-! ### words -/
def spl (c : UInt8) : Bs → List Bs
  | [] => [[]]
  | b :: r => if b = c then [] :: spl c r else (match spl c r with | [] => [[b]] | w :: ws => (b :: w) :: ws)
theorem spl_ne (c : UInt8) : ∀ s, spl c s ≠ []
  | [] => by simp [spl]
  | b :: r => by
    rw [spl]
    split
    · simp
    · split <;> simp
theorem spl_word {c : UInt8} : ∀ {w : Bs}, c ∉ w → spl c w = [w]
  | [], _ => rfl
  | b :: r, h => by
    rw [spl, if_neg (fun e => h (by rw [e]; exact List.mem_cons_self ..)), spl_word (fun e => h (List.mem_cons_of_mem _ e))]
theorem spl_app {c : UInt8} : ∀ {w : Bs} (r : Bs), c ∉ w → spl c (w ++ c :: r) = w :: spl c r
  | [], r, _ => by rw [List.nil_append, spl, if_pos rfl]
  | b :: w, r, h => by
    rw [List.cons_append, spl, if_neg (fun e => h (by rw [e]; exact List.mem_cons_self ..)), spl_app r (fun e => h (List.mem_cons_of_mem _ e))]
def joinS (c : UInt8) : List Bs → Bs
  | [] => []
  | [w] => w
  | w :: x :: ws => w ++ c :: joinS c (x :: ws)
theorem join_spl (c : UInt8) : ∀ s, joinS c (spl c s) = s
  | [] => rfl
  | b :: r => by
    have ih := join_spl c r
    rw [spl]
    split
    · rename_i h
      subst h
      cases hs : spl b r with
      | nil => exact absurd hs (spl_ne _ _)
      | cons w ws => rw [hs] at ih; rw [joinS, ih]; rfl
    · cases hs : spl c r with
      | nil => exact absurd hs (spl_ne _ _)
      | cons w ws =>
        rw [hs] at ih
        cases ws with
        | nil => simp only [joinS] at ih ⊢; rw [ih]
        | cons x ws => simp only [joinS] at ih ⊢; rw [← ih]; rfl
theorem idx_cons (b c : UInt8) (l : Bs) (h : b ≠ c) : Lib.index (b :: l) [c] = if Lib.index l [c] == -1 then -1 else Lib.index l [c] + 1 := by
  have hp : ([c] : List UInt8).isPrefixOf (b :: l) = false := by simp [List.isPrefixOf, Ne.symm h]
  rw [Lib.index, hp]; simp
/-- strings.Split at a separator of one byte -/
theorem split_spl (c : UInt8) : ∀ s, Lib.split s [c] = spl c s
  | [] => by
    unfold Lib.split
    rw [Lib.count_one]
    rfl
  | b :: l => by
    have ih := split_spl c l
    unfold Lib.split at ih ⊢
    by_cases h : b = c
    · subst h
      rw [Lib.count_cons_eq, Nat.add_comm, Lib.splitK]
      have hix : Lib.index (b :: l) [b] = ((0 : Nat) : Int) := by rw [Lib.index]; simp [List.isPrefixOf]
      rw [hix, if_neg (by decide), spl, if_pos rfl, ← ih]
      rfl
    · rw [Lib.count_cons_ne _ _ _ h, spl, if_neg h, ← ih]
      cases Lib.count l [c] with
      | zero => rfl
      | succ k =>
        rw [Lib.splitK, Lib.splitK, idx_cons _ _ _ h]
        by_cases hm : (Lib.index l [c] == -1) = true
        · rw [if_pos hm, if_pos (by decide), if_pos hm]
        · have hge := Lib.index_ge l [c]
          have hne : Lib.index l [c] ≠ -1 := fun e => hm (by rw [e]; rfl)
          rw [if_neg hm, if_neg hm, if_neg]
          · rw [show (Lib.index l [c] + 1).toNat + 0 = (Lib.index l [c]).toNat + 0 + 1 by omega, List.take_succ_cons,
              show (Lib.index l [c] + 1).toNat + ([c] : Bs).length = (Lib.index l [c]).toNat + ([c] : Bs).length + 1 by omega, List.drop_succ_cons]
            rfl
          · intro e
            have := beq_iff_eq.1 e
            omega
/-! ### numbers that fit -/
def nR : Nat → Bs → Option Nat
  | n, [] => some n
  | n, c :: r => if c.toNat < 48 ∨ 57 < c.toNat ∨ (9223372036854775807 - (c.toNat - 48)) / 10 < n then none else nR (10 * n + (c.toNat - 48)) r
theorem nR_le : ∀ (w : Bs) (n m : Nat), n ≤ 9223372036854775807 → nR n w = some m → m ≤ 9223372036854775807
  | [], n, m, h, e => by
    rw [nR] at e
    injection e with e
    omega
  | c :: r, n, m, h, e => by
    rw [nR] at e
    split at e
    · cases e
    · exact nR_le r _ m (by omega) e
theorem nR_app : ∀ (l r : Bs) (n m : Nat), nR n l = some m → nR n (l ++ r) = nR m r
  | [], r, n, m, h => by
    rw [nR] at h
    injection h with h
    rw [h]; rfl
  | c :: l, r, n, m, h => by
    rw [nR] at h
    split at h
    · cases h
    · rename_i hc
      rw [List.cons_append, nR, if_neg hc]
      exact nR_app l r _ m h
theorem nR_dec (u : Nat) (h : u ≤ 9223372036854775807) : nR 0 (Lib.decDigits u) = some u := by
  induction u using Nat.strongRecOn with
  | _ u ih =>
    by_cases c : u < 10
    · rw [dec_s c, nR, if_neg, nR]
      · rw [dg_nat c]; congr 1; omega
      · rw [dg_nat c]; omega
    · rw [dec_b c, nR_app _ _ _ _ (ih (u / 10) (by omega) (by omega)), nR, if_neg, nR]
      · rw [dg_nat (by omega)]; congr 1; omega
      · rw [dg_nat (by omega)]; omega
/-- the reference's number -/
def numR (w : Bs) : Option Nat := match nR 0 w with
  | none => none
  | some n => if w ≠ [] ∧ Lib.decDigits n = w then some n else none
theorem numR_iff {w : Bs} {n : Nat} : numR w = some n ↔ w = Lib.decDigits n ∧ n ≤ 9223372036854775807 := by
  unfold numR
  constructor
  · intro h
    split at h
    · cases h
    · rename_i m hm
      split at h
      · rename_i hc
        injection h with h
        subst h
        exact ⟨hc.2.symm, nR_le _ _ _ (by omega) hm⟩
      · cases h
  · rintro ⟨rfl, h⟩
    rw [nR_dec n h]
    simp only
    rw [if_pos]
    refine ⟨fun e => ?_, trivial⟩
    obtain ⟨c, r, hc, _⟩ := dec_cons n
    rw [hc] at e; cases e
theorem dec_nosp (u : Nat) : (32 : UInt8) ∉ Lib.decDigits u := by
  induction u using Nat.strongRecOn with
  | _ u ih =>
    have d : ∀ k, k < 10 → (32 : UInt8) ≠ UInt8.ofNat (48 + k) := fun k hk e => by
      have := congrArg UInt8.toNat e
      rw [dg_nat hk] at this
      have h32 : (32 : UInt8).toNat = 32 := rfl
      omega
    by_cases c : u < 10
    · rw [dec_s c]
      intro h
      rw [List.mem_singleton] at h
      exact d u c h
    · rw [dec_b c]
      intro h
      rw [List.mem_append, List.mem_singleton] at h
      rcases h with h | h
      · exact ih (u / 10) (by omega) h
      · exact d (u % 10) (by omega) h
end Go.Lx
