/-
  PLAIN: the lexer: numbers, symbols, tokens.
  Conditions: those that each theorem names.
-/
import Derived.Test.YtbpgpjmihbmcbaaDoorLexP
namespace Go.Lx
open Go
/-! ### numbers -/
def W (z : Int) : Int := (z + 9223372036854775808) % 18446744073709551616 - 9223372036854775808
theorem W_in {z : Int} (h1 : -9223372036854775808 ≤ z) (h2 : z ≤ 9223372036854775807) : W z = z := by unfold W; omega
theorem W_range (z : Int) : -9223372036854775808 ≤ W z ∧ W z ≤ 9223372036854775807 := by unfold W; omega
def fP (n : Int) (l : Bs) : Int := l.foldl (fun n c => W (10 * n + ((c.toNat : Int) - 48))) n
def fN (n : Int) (l : Bs) : Int := l.foldl (fun n c => W (10 * n - ((c.toNat : Int) - 48))) n
theorem dec_s {u : Nat} (h : u < 10) : Lib.decDigits u = [UInt8.ofNat (48 + u)] := by rw [Lib.decDigits, dif_pos h]
theorem dec_b {u : Nat} (h : ¬ u < 10) : Lib.decDigits u = Lib.decDigits (u / 10) ++ [UInt8.ofNat (48 + u % 10)] := by rw [Lib.decDigits, dif_neg h]
theorem dg_nat {u : Nat} (h : u < 10) : (UInt8.ofNat (48 + u)).toNat = 48 + u := by simp; omega
theorem fP_dec (u : Nat) (h : u ≤ 9223372036854775807) : fP 0 (Lib.decDigits u) = u := by
  induction u using Nat.strongRecOn with
  | _ u ih =>
    by_cases c : u < 10
    · rw [dec_s c]
      show W (10 * 0 + (((UInt8.ofNat (48 + u)).toNat : Int) - 48)) = u
      rw [dg_nat c, W_in (by omega) (by omega)]
      omega
    · rw [dec_b c]
      unfold fP at ih ⊢
      rw [List.foldl_append, ih (u / 10) (by omega) (by omega)]
      show W (10 * ((u / 10 : Nat) : Int) + (((UInt8.ofNat (48 + u % 10)).toNat : Int) - 48)) = u
      rw [dg_nat (by omega), W_in (by omega) (by omega)]
      omega
theorem fN_dec (u : Nat) (h : u ≤ 9223372036854775808) : fN 0 (Lib.decDigits u) = -(u : Int) := by
  induction u using Nat.strongRecOn with
  | _ u ih =>
    by_cases c : u < 10
    · rw [dec_s c]
      show W (10 * 0 - (((UInt8.ofNat (48 + u)).toNat : Int) - 48)) = _
      rw [dg_nat c, W_in (by omega) (by omega)]
      omega
    · rw [dec_b c]
      unfold fN at ih ⊢
      rw [List.foldl_append, ih (u / 10) (by omega) (by omega)]
      show W (10 * (-((u / 10 : Nat) : Int)) - (((UInt8.ofNat (48 + u % 10)).toNat : Int) - 48)) = _
      rw [dg_nat (by omega), W_in (by omega) (by omega)]
      omega
/-- the reference's number -/
def refInt (t : Bs) : Int := match t with
  | [] => 0
  | c :: r => if c.toNat = 45 then fN 0 r else fP 0 (c :: r)
theorem refInt_neg (r : Bs) : refInt (45 :: r) = fN 0 r := rfl
theorem refInt_pos {c : UInt8} {r : Bs} (h : ¬ c.toNat = 45) : refInt (c :: r) = fP 0 (c :: r) := if_neg h
theorem dec_cons (u : Nat) : ∃ c r, Lib.decDigits u = c :: r ∧ 48 ≤ c.toNat ∧ c.toNat ≤ 57 := by
  induction u using Nat.strongRecOn with
  | _ u ih =>
    by_cases c : u < 10
    · exact ⟨_, _, dec_s c, by rw [dg_nat c]; omega, by rw [dg_nat c]; omega⟩
    · obtain ⟨x, r, e, h1, h2⟩ := ih (u / 10) (by omega)
      exact ⟨x, r ++ [UInt8.ofNat (48 + u % 10)], by rw [dec_b c, e]; rfl, h1, h2⟩
theorem itoa_pos {v : Int} (h : 0 ≤ v) : Lib.itoa v = Lib.decDigits v.toNat := if_neg (by omega)
theorem itoa_neg {v : Int} (h : v < 0) : Lib.itoa v = 45 :: Lib.decDigits v.natAbs := if_pos h
theorem refInt_itoa {v : Int} (h1 : -9223372036854775808 ≤ v) (h2 : v ≤ 9223372036854775807) : refInt (Lib.itoa v) = v := by
  by_cases h : v < 0
  · rw [itoa_neg h]
    rw [refInt_neg, fN_dec _ (by omega)]
    omega
  · rw [itoa_pos (by omega)]
    obtain ⟨c, r, e, a, b⟩ := dec_cons v.toNat
    have := fP_dec v.toNat (by omega)
    rw [e] at this ⊢
    rw [refInt_pos (by omega), this]
    omega
theorem parseM_cons (M acc : Nat) (c : UInt8) (r : Bs) : Lib.parseUintM M acc (c :: r) = if 48 ≤ c.toNat ∧ c.toNat ≤ 57 then (if 1844674407370955162 ≤ acc then .range else if M < acc * 10 + (c.toNat - 48) then .range else Lib.parseUintM M (acc * 10 + (c.toNat - 48)) r) else .syntax := rfl
theorem parseM_app {M : Nat} : ∀ (l l2 : Bs) (acc v : Nat), Lib.parseUintM M acc l = .ok v → Lib.parseUintM M acc (l ++ l2) = Lib.parseUintM M v l2
  | [], l2, acc, v, h => by
    have : acc = v := by simpa [Lib.parseUintM] using h
    subst this
    rfl
  | c :: r, l2, acc, v, h => by
    rw [parseM_cons] at h
    rw [List.cons_append, parseM_cons]
    split at h
    · rename_i h1
      rw [if_pos h1]
      split at h
      · cases h
      · rename_i h2
        rw [if_neg h2]
        split at h
        · cases h
        · rename_i h3
          rw [if_neg h3]
          exact parseM_app r l2 _ _ h
    · cases h
theorem parseM_one {acc d : Nat} (hd : d < 10) (h : acc * 10 + d ≤ 18446744073709551615) : Lib.parseUintM (2 ^ 64 - 1) acc [UInt8.ofNat (48 + d)] = .ok (acc * 10 + d) := by
  unfold Lib.parseUintM
  rw [dg_nat hd, if_pos (by omega), if_neg (by omega), if_neg (by omega)]
  unfold Lib.parseUintM
  congr 1
  omega
theorem parseM_dec (u : Nat) (h : u ≤ 18446744073709551615) : Lib.parseUintM (2 ^ 64 - 1) 0 (Lib.decDigits u) = .ok u := by
  induction u using Nat.strongRecOn with
  | _ u ih =>
    by_cases c : u < 10
    · rw [dec_s c, parseM_one c (by omega)]
      congr 1
      omega
    · rw [dec_b c, parseM_app _ _ _ _ (ih (u / 10) (by omega) (by omega)), parseM_one (by omega) (by omega)]
      congr 1
      omega
theorem parseB_dec (u : Nat) (h : u ≤ 18446744073709551615) : Lib.parseUintB 64 (Lib.decDigits u) = .ok u := by
  obtain ⟨c, r, e, _, _⟩ := dec_cons u
  unfold Lib.parseUintB
  rw [if_neg (by rw [e]; simp), parseM_dec u h]
theorem parse_itoa {v : Int} (h1 : -9223372036854775808 ≤ v) (h2 : v ≤ 9223372036854775807) : Lib.parseIntB 64 (Lib.itoa v) = .ok v := by
  by_cases h : v < 0
  · rw [itoa_neg h]
    unfold Lib.parseIntB
    simp only
    rw [if_pos (show UInt8.toNat 45 = 43 ∨ UInt8.toNat 45 = 45 from Or.inr rfl), parseB_dec _ (by omega)]
    simp only
    rw [if_neg (show ¬ (¬ UInt8.toNat 45 = 45 ∧ 2 ^ (64 - 1) ≤ v.natAbs) from fun h => h.1 rfl), if_neg (show ¬ (UInt8.toNat 45 = 45 ∧ 2 ^ (64 - 1) < v.natAbs) from fun h => by have := h.2; omega), if_pos (show UInt8.toNat 45 = 45 from rfl)]
    congr 1
    omega
  · rw [itoa_pos (by omega)]
    obtain ⟨c, r, e, a, b⟩ := dec_cons v.toNat
    have hp := parseB_dec v.toNat (by omega)
    rw [e] at hp ⊢
    unfold Lib.parseIntB
    simp only
    rw [if_neg (by omega), hp]
    simp only
    rw [if_neg (by simp; omega), if_neg (by omega), if_neg (by omega)]
    congr 1
    omega
/-- the number with a text -/
def numV (t : Bs) : Option Int := if Lib.itoa (refInt t) = t then some (refInt t) else none
theorem refInt_range (t : Bs) : -9223372036854775808 ≤ refInt t ∧ refInt t ≤ 9223372036854775807 := by
  have key : ∀ (f : Int → UInt8 → Int) (l : Bs) (n : Int), (∀ n c, -9223372036854775808 ≤ f n c ∧ f n c ≤ 9223372036854775807) → -9223372036854775808 ≤ n ∧ n ≤ 9223372036854775807 → -9223372036854775808 ≤ l.foldl f n ∧ l.foldl f n ≤ 9223372036854775807 := by
    intro f l
    induction l with
    | nil => intro n _ h; exact h
    | cons c r ih => intro n hf _; exact ih _ hf (hf n c)
  unfold refInt
  split
  · omega
  · split
    · exact key _ _ _ (fun n c => W_range _) (by omega)
    · exact key _ _ _ (fun n c => W_range _) (by omega)
theorem num_ok {t : Bs} {v : Int} (h : numV t = some v) : Lib.itoa v = t ∧ Lib.parseIntB 64 t = .ok v ∧ -9223372036854775808 ≤ v ∧ v ≤ 9223372036854775807 := by
  unfold numV at h
  split at h
  · rename_i e
    injection h with h
    subst h
    obtain ⟨a, b⟩ := refInt_range t
    exact ⟨e, by rw [← parse_itoa a b, e], a, b⟩
  · cases h
theorem num_no {t : Bs} {v : Int} (h : numV t = none) (_hp : Lib.parseIntB 64 t = .ok v) (h1 : -9223372036854775808 ≤ v) (h2 : v ≤ 9223372036854775807) : Lib.itoa v ≠ t := fun e => by
  have : refInt t = v := by rw [← e]; exact refInt_itoa h1 h2
  unfold numV at h
  rw [this, if_pos e] at h
  cases h

/-! ### symbols -/
def sing : Bs := [123, 125, 40, 41, 91, 93, 44, 59, 58, 61, 46, 33, 63, 64, 42, 124]
def syms : List Bs := [45, 62] :: [46, 46] :: sing.map fun k => [k]
def symsR : List Bs := [[123], [125], [40], [41], [91], [93], [44], [59], [58], [61], [46], [46, 46], [45, 62], [33], [63], [64], [42], [124]]
def symAt (s : Bs) : Option Bs := syms.find? fun x => x.isPrefixOf s
theorem find_sing (c : UInt8) (r : Bs) : ∀ L : Bs, (L.map fun k => [k]).find? (fun x => x.isPrefixOf (c :: r)) = if c ∈ L then some [c] else none
  | [] => by simp
  | k :: L => by
    rw [List.map_cons, List.find?_cons]
    by_cases e : k = c
    · subst e
      simp
    · have h1 : [k].isPrefixOf (c :: r) = false := by
        show (k == c && List.isPrefixOf [] r) = false
        simp [e]
      rw [h1, find_sing c r L]
      have : c ∈ k :: L ↔ c ∈ L := by simp [Ne.symm e]
      simp only [this]
/-- what the reference finds: two bytes first, then one -/
def symR (s : Bs) : Option Bs := if 2 ≤ s.length ∧ s.take 2 ∈ symsR then some (s.take 2) else if s.take 1 ∈ symsR then some (s.take 1) else none
theorem sym_two (c d : UInt8) : [c, d] ∈ symsR ↔ (c = 45 ∧ d = 62) ∨ (c = 46 ∧ d = 46) := by
  unfold symsR
  simp
  constructor
  · rintro (h | h)
    · exact Or.inr h
    · exact Or.inl h
  · rintro (h | h)
    · exact Or.inr h
    · exact Or.inl h
theorem sym_one (c : UInt8) : [c] ∈ symsR ↔ c ∈ sing := by
  unfold symsR sing
  simp
theorem symAt_eq {s : Bs} (h : s ≠ []) : symAt s = symR s := by
  unfold symAt symR syms
  match s, h with
  | [c], _ =>
    have p1 : List.isPrefixOf [45, 62] [c] = false := by
      show ((45 : UInt8) == c && false) = false
      simp
    have p2 : List.isPrefixOf [46, 46] [c] = false := by
      show ((46 : UInt8) == c && false) = false
      simp
    rw [List.find?_cons, List.find?_cons, find_sing, p1, p2]
    simp [sym_one]
  | c :: d :: r, _ =>
    rw [List.find?_cons, List.find?_cons, find_sing]
    have e2 : (c :: d :: r).take 2 = [c, d] := rfl
    have e1 : (c :: d :: r).take 1 = [c] := rfl
    rw [e2, e1]
    simp only [sym_two, sym_one, List.length_cons]
    by_cases h1 : c = 45 ∧ d = 62
    · obtain ⟨rfl, rfl⟩ := h1
      simp
    · by_cases h2 : c = 46 ∧ d = 46
      · obtain ⟨rfl, rfl⟩ := h2
        have p1 : List.isPrefixOf [45, 62] (46 :: 46 :: r) = false := rfl
        rw [p1]
        simp
      · have p1 : List.isPrefixOf [45, 62] (c :: d :: r) = false := by
          rw [Bool.eq_false_iff]; intro h; simp at h; exact h1 ⟨h.1.symm, h.2.symm⟩
        have p2 : List.isPrefixOf [46, 46] (c :: d :: r) = false := by
          rw [Bool.eq_false_iff]; intro h; simp at h; exact h2 ⟨h.1.symm, h.2.symm⟩
        rw [p1, p2]
        simp only
        rw [if_neg (c := _ ∧ _) (fun h => h.2.elim h1 h2)]

/-! ### tokens -/
structure Tok where
  kind : Int
  text : Bs
  int : Int
  str : Bs
  line : Int
  deriving DecidableEq, Repr
/-- the token at the head of a text, and its length -/
def nextT (s : Bs) : Option (Tok × Nat) := match s with
  | [] => none
  | c :: r =>
    if isL c = true then (if 1 + (r.takeWhile isLD).length ≤ 24 then some (⟨1, c :: r.takeWhile isLD, 0, [], 0⟩, 1 + (r.takeWhile isLD).length) else none)
    else if isD c = true ∨ (c.toNat = 45 ∧ ∃ d ∈ r.head?, isD d = true) then
      (match numV (c :: r.takeWhile isD) with
        | some v => some (⟨2, [], v, [], 0⟩, 1 + (r.takeWhile isD).length)
        | none => none)
    else if c.toNat = 34 then (match rd r with
        | some (t, n) => some (⟨3, [], 0, t, 0⟩, n + 1)
        | none => none)
    else (match symAt (c :: r) with
        | some x => some (⟨4, x, 0, [], 0⟩, x.length)
        | none => none)
/-- the tokens of a text, or the line of the first error -/
def toksF : Nat → Int → Bs → Except Int (List Tok)
  | 0, line, _ => .error line
  | f + 1, line, s => match s with
    | [] => .ok []
    | c :: r =>
      if c.toNat = 10 then toksF f (line + 1) r
      else if c.toNat = 32 ∨ c.toNat = 9 then toksF f line r
      else if c.toNat = 47 ∧ r.head? = some 47 then toksF f line ((c :: r).dropWhile fun x => !(x.toNat == 10))
      else match nextT (c :: r) with
        | none => .error line
        | some (t, n) => (match toksF f line ((c :: r).drop n) with
          | .error e => .error e
          | .ok l => .ok ({ t with line := line } :: l))
def toks (s : Bs) : Except Int (List Tok) := toksF (s.length + 1) 1 s
end Go.Lx
