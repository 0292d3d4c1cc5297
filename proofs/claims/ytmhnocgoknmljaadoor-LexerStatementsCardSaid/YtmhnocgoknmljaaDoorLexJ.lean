/-
  PLAIN: the lexer: the tokens of joined texts.
  Conditions: those that each theorem names.
-/
import Derived.Test.YtmhnocgoknmljaaDoorLexQ
namespace Go.Lx
open Go
theorem nextT_pos {s : Bs} {t : Tok} {n : Nat} (h : nextT s = some (t, n)) : 1 ≤ n := by
  cases s with
  | nil => cases h
  | cons c r =>
    unfold nextT at h
    simp only at h
    split at h
    · split at h
      · simp at h; omega
      · cases h
    · split at h
      · split at h
        · simp at h; omega
        · cases h
      · split at h
        · split at h
          · simp at h; omega
          · cases h
        · split at h
          · rename_i x hx
            simp at h
            have hm := List.mem_of_find?_eq_some hx
            have : ∀ y ∈ syms, 1 ≤ y.length := by decide
            have := this x hm
            omega
          · cases h
theorem dropW_le (p : UInt8 → Bool) (l : Bs) : (l.dropWhile p).length ≤ l.length := (List.dropWhile_sublist p).length_le
theorem toksF_fuel : ∀ (f g : Nat) (line : Int) (s : Bs), s.length < f → s.length < g → toksF f line s = toksF g line s
  | 0, _, _, _, h, _ => absurd h (Nat.not_lt_zero _)
  | _, 0, _, _, _, h => absurd h (Nat.not_lt_zero _)
  | f + 1, g + 1, line, s, h1, h2 => by
    cases s with
    | nil => rfl
    | cons c r =>
      simp only [List.length_cons] at h1 h2
      unfold toksF
      simp only
      split
      · exact toksF_fuel f g _ r (by omega) (by omega)
      · split
        · exact toksF_fuel f g _ r (by omega) (by omega)
        · split
          · rename_i h3
            have hd : (c :: r).dropWhile (fun x => !(x.toNat == 10)) = r.dropWhile (fun x => !(x.toNat == 10)) := by
              rw [List.dropWhile_cons_of_pos (by simp [h3.1])]
            have := dropW_le (fun x => !(x.toNat == 10)) r
            rw [hd]
            exact toksF_fuel f g _ _ (by omega) (by omega)
          · cases hn : nextT (c :: r) with
            | none => rfl
            | some x =>
              obtain ⟨t, n⟩ := x
              have := nextT_pos hn
              simp only
              rw [toksF_fuel f g line ((c :: r).drop n) (by rw [List.length_drop, List.length_cons]; omega) (by rw [List.length_drop, List.length_cons]; omega)]
/-- the tokens from a line on -/
def tk (line : Int) (s : Bs) : Except Int (List Tok) := toksF (s.length + 1) line s
def consT (t : Tok) : Except Int (List Tok) → Except Int (List Tok)
  | .error e => .error e
  | .ok l => .ok (t :: l)
theorem tk_nil (line : Int) : tk line [] = .ok [] := rfl
theorem tk_nl (line : Int) (r : Bs) : tk line (10 :: r) = tk (line + 1) r := by
  unfold tk
  rw [List.length_cons, toksF]
  rfl
theorem tk_sp (line : Int) {c : UInt8} (r : Bs) (h : c = 32 ∨ c = 9) : tk line (c :: r) = tk line r := by
  unfold tk
  rw [List.length_cons, toksF]
  rcases h with rfl | rfl <;> rfl
theorem tk_cm (line : Int) (r : Bs) : tk line (47 :: 47 :: r) = tk line (r.dropWhile fun x => !(x.toNat == 10)) := by
  unfold tk
  have hd : (47 :: 47 :: r : Bs).dropWhile (fun x => !(x.toNat == 10)) = r.dropWhile (fun x => !(x.toNat == 10)) := rfl
  rw [List.length_cons, toksF]
  show toksF ((47 :: r : Bs).length + 1) line ((47 :: 47 :: r : Bs).dropWhile (fun x => !(x.toNat == 10))) = _
  rw [hd]
  have := dropW_le (fun x => !(x.toNat == 10)) r
  exact toksF_fuel _ _ _ _ (by simp; omega) (by omega)
/-- the text goes on with a token -/
def tokB (s : Bs) : Bool := match s with
  | [] => false
  | c :: r => !(c.toNat == 10) && !(c.toNat == 32) && !(c.toNat == 9) && !(c.toNat == 47 && r.head? == some 47)
theorem tk_tok (line : Int) {s : Bs} (h : tokB s = true) : tk line s = match nextT s with
    | none => .error line
    | some (t, n) => consT { t with line := line } (tk line (s.drop n)) := by
  cases s with
  | nil => cases h
  | cons c r =>
    unfold tokB at h
    simp only [Bool.and_eq_true, Bool.not_eq_true', beq_eq_false_iff_ne, ne_eq, Bool.and_eq_false_iff] at h
    obtain ⟨⟨⟨h1, h2⟩, h3⟩, h4⟩ := h
    unfold tk
    rw [List.length_cons, toksF]
    rw [if_neg h1, if_neg (by omega), if_neg (fun h => by
      rcases h4 with h4 | h4
      · exact h4 h.1
      · exact h4 h.2)]
    cases hn : nextT (c :: r) with
    | none => rfl
    | some x =>
      obtain ⟨t, n⟩ := x
      have := nextT_pos hn
      simp only
      rw [toksF_fuel (r.length + 1) (((c :: r).drop n).length + 1) line ((c :: r).drop n) (by rw [List.length_drop, List.length_cons]; omega) (by omega)]
      cases toksF (((c :: r).drop n).length + 1) line ((c :: r).drop n) <;> rfl

/-! ### valid tokens -/
def validT (t : Tok) : Bool :=
  if t.kind = 1 then nameB t.text && decide (t.int = 0) && t.str.isEmpty
  else if t.kind = 2 then t.text.isEmpty && t.str.isEmpty
  else if t.kind = 3 then t.text.isEmpty && decide (t.int = 0)
  else if t.kind = 4 then syms.contains t.text && decide (t.int = 0) && t.str.isEmpty
  else false
def word (t : Tok) : Bs := if t.kind = 2 then Lib.itoa t.int else if t.kind = 3 then qform t.str else t.text
def I64 (t : Tok) : Prop := -9223372036854775808 ≤ t.int ∧ t.int ≤ 9223372036854775807
def bare (t : Tok) : Tok := { t with line := 0 }
/-- what may follow a token without a space -/
def fol (a : Tok) (r : Bs) : Prop :=
  (a.kind = 1 → ∀ c ∈ r.head?, isLD c = false) ∧ (a.kind = 2 → ∀ c ∈ r.head?, isD c = false) ∧ (a.kind = 4 → a.text = [46] → r.head? ≠ some 46)
theorem takeW_app {p : UInt8 → Bool} {l r : Bs} (h : l.all p = true) (hr : ∀ c ∈ r.head?, p c = false) : (l ++ r).takeWhile p = l := by
  rw [List.takeWhile_append_of_pos (List.all_eq_true.1 h)]
  cases r with
  | nil => simp
  | cons c r => rw [List.takeWhile_cons_of_neg (by rw [hr c rfl]; decide)]; simp
theorem isLD_L {c : UInt8} (h : isL c = true) : isLD c = true := by unfold isLD; rw [h]; rfl
theorem dig_all (u : Nat) : (Lib.decDigits u).all isD = true := by
  induction u using Nat.strongRecOn with
  | _ u ih =>
    by_cases c : u < 10
    · rw [dec_s c]
      simp only [List.all_cons, List.all_nil, Bool.and_true]
      unfold isD
      rw [dg_nat c]
      simp; omega
    · rw [dec_b c, List.all_append, ih (u / 10) (by omega)]
      simp only [List.all_cons, List.all_nil, Bool.and_true, Bool.true_and]
      unfold isD
      rw [dg_nat (by omega)]
      simp; omega
theorem num_itoa {v : Int} (h1 : -9223372036854775808 ≤ v) (h2 : v ≤ 9223372036854775807) : numV (Lib.itoa v) = some v := by
  unfold numV
  rw [refInt_itoa h1 h2, if_pos rfl]
theorem not_L_of_D {c : UInt8} (h1 : 48 ≤ c.toNat) (h2 : c.toNat ≤ 57) : isL c = false := by
  unfold isL
  simp only [Bool.or_eq_false_iff, Bool.and_eq_false_iff, beq_eq_false_iff_ne, decide_eq_false_iff_not]
  omega
/-- a valid token's text at the head of a text gives the token -/
theorem next_word {a : Tok} {r : Bs} (hv : validT a = true) (hi : I64 a) (hf : fol a r) : nextT (word a ++ r) = some (bare a, (word a).length) ∧ tokB (word a ++ r) = true := by
  obtain ⟨kind, text, int, str, line⟩ := a
  unfold validT at hv
  simp only at hv
  split at hv
  · rename_i hk
    subst hk
    simp only [Bool.and_eq_true, decide_eq_true_eq, List.isEmpty_iff] at hv
    obtain ⟨⟨hn, rfl⟩, rfl⟩ := hv
    cases text with
    | nil => cases hn
    | cons c t =>
      unfold nameB at hn
      simp only [Bool.and_eq_true, decide_eq_true_eq, List.all_cons] at hn
      obtain ⟨⟨hl, hc⟩, -, ht⟩ := hn
      have hw : (t ++ r).takeWhile isLD = t := takeW_app ht (hf.1 rfl)
      constructor
      · show nextT (c :: (t ++ r)) = _
        unfold nextT
        simp only
        rw [if_pos hc, hw, if_pos (by simp at hl; omega)]
        simp [bare, word]
        omega
      · show tokB (c :: (t ++ r)) = true
        unfold tokB
        unfold isL at hc
        simp only [Bool.or_eq_true, Bool.and_eq_true, beq_iff_eq, decide_eq_true_eq] at hc
        simp only [Bool.and_eq_true, Bool.not_eq_true', beq_eq_false_iff_ne, ne_eq, Bool.and_eq_false_iff]
        omega
  · split at hv
    · rename_i hk
      subst hk
      simp only [Bool.and_eq_true, List.isEmpty_iff] at hv
      obtain ⟨rfl, rfl⟩ := hv
      have hw : word ⟨2, [], int, [], line⟩ = Lib.itoa int := rfl
      rw [hw]
      have hn := num_itoa hi.1 hi.2
      simp only at hn
      have hfol := hf.2.1 rfl
      by_cases hneg : int < 0
      · rw [itoa_neg hneg] at hn ⊢
        obtain ⟨d, t, e, d1, d2⟩ := dec_cons int.natAbs
        have hall := dig_all int.natAbs
        have htw : (Lib.decDigits int.natAbs ++ r).takeWhile isD = Lib.decDigits int.natAbs := takeW_app hall hfol
        constructor
        · show nextT (45 :: (Lib.decDigits int.natAbs ++ r)) = _
          unfold nextT
          simp only
          rw [if_neg (by decide), if_pos (Or.inr ⟨rfl, d, by rw [e]; rfl, by unfold isD; simp; omega⟩), htw, hn]
          simp [bare]
          omega
        · rfl
      · rw [itoa_pos (by omega)] at hn ⊢
        obtain ⟨d, t, e, d1, d2⟩ := dec_cons int.toNat
        have hall := dig_all int.toNat
        rw [e] at hall hn ⊢
        simp only [List.all_cons, Bool.and_eq_true] at hall
        have htw : (t ++ r).takeWhile isD = t := takeW_app hall.2 hfol
        constructor
        · show nextT (d :: (t ++ r)) = _
          unfold nextT
          simp only
          rw [if_neg (by rw [not_L_of_D d1 d2]; decide), if_pos (Or.inl hall.1), htw, hn]
          simp [bare]
          omega
        · show tokB (d :: (t ++ r)) = true
          unfold tokB
          simp only [Bool.and_eq_true, Bool.not_eq_true', beq_eq_false_iff_ne, ne_eq, Bool.and_eq_false_iff]
          omega
    · split at hv
      · rename_i hk
        subst hk
        simp only [Bool.and_eq_true, List.isEmpty_iff, decide_eq_true_eq] at hv
        obtain ⟨rfl, rfl⟩ := hv
        have hw : word ⟨3, [], 0, str, line⟩ ++ r = 34 :: (str.flatMap esc ++ 34 :: r) := by
          show qform str ++ r = _
          unfold qform
          simp
        rw [hw]
        constructor
        · unfold nextT
          simp only
          rw [if_neg (by decide), if_neg (by
            rintro (h | ⟨h, -⟩)
            · revert h; decide
            · revert h; decide), if_pos (by rfl), rd_quoted]
          simp [bare, word, qform]
        · rfl
      · split at hv
        · rename_i hk
          subst hk
          simp only [Bool.and_eq_true, List.isEmpty_iff, decide_eq_true_eq, List.contains_iff_mem] at hv
          obtain ⟨⟨hm, rfl⟩, rfl⟩ := hv
          have hw : word ⟨4, text, 0, [], line⟩ = text := rfl
          rw [hw]
          have hfol := hf.2.2 rfl
          simp only at hfol
          unfold syms sing at hm
          simp only [List.map_cons, List.map_nil, List.mem_cons, List.not_mem_nil, or_false] at hm
          rcases hm with rfl | rfl | rfl | rfl | rfl | rfl | rfl | rfl | rfl | rfl | rfl | rfl | rfl | rfl | rfl | rfl | rfl | rfl
          case inr.inr.inr.inr.inr.inr.inr.inr.inr.inr.inr.inr.inl =>
            have h46 := hfol rfl
            cases r with
            | nil => exact ⟨rfl, rfl⟩
            | cons c r =>
              have hc : c ≠ 46 := fun e => h46 (by rw [e]; rfl)
              constructor
              · show nextT (46 :: c :: r) = _
                have hs : symAt (46 :: c :: r) = some [46] := by
                  rw [symAt_eq (by simp)]
                  unfold symR
                  rw [if_neg (fun h => by
                    have := (sym_two 46 c).1 h.2
                    rcases this with ⟨h, -⟩ | ⟨-, h⟩
                    · revert h; decide
                    · exact hc h), if_pos (show List.take 1 (46 :: c :: r) ∈ symsR from (sym_one 46).2 (by decide))]
                  rfl
                unfold nextT
                simp only
                rw [if_neg (by decide), if_neg (by
                  rintro (h | ⟨h, -⟩)
                  · revert h; decide
                  · revert h; decide), if_neg (by decide), hs]
                rfl
              · rfl
          all_goals
            cases r with
            | nil => exact ⟨rfl, rfl⟩
            | cons c r => exact ⟨rfl, rfl⟩
        · cases hv
theorem tk_word {a : Tok} {r : Bs} (line : Int) (hv : validT a = true) (hi : I64 a) (hf : fol a r) : tk line (word a ++ r) = consT { a with line := line } (tk line r) := by
  obtain ⟨h1, h2⟩ := next_word hv hi hf
  rw [tk_tok line h2, h1]
  simp only
  rw [List.drop_left]
  rfl
end Go.Lx
