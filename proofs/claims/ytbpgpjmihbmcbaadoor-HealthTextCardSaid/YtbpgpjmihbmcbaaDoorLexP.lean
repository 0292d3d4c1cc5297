/-
  PLAIN: the lexer: letters, names, quoted forms, numbers.
  Conditions: those that each theorem names.
-/
import Derived.Lib.ItoaNum
import Derived.Lib.ParseIntB
namespace Go.Lx
open Go
abbrev Bs := List UInt8
def isL (c : UInt8) : Bool := c.toNat == 95 || (decide (97 ≤ c.toNat) && decide (c.toNat ≤ 122)) || (decide (65 ≤ c.toNat) && decide (c.toNat ≤ 90))
def isD (c : UInt8) : Bool := decide (48 ≤ c.toNat) && decide (c.toNat ≤ 57)
def isLD (c : UInt8) : Bool := isL c || isD c
def nameB (s : Bs) : Bool := match s with
  | [] => false
  | c :: r => decide ((c :: r).length ≤ 24) && isL c && (c :: r).all isLD

/-! ### quoted forms -/
def hexd (n : Nat) : UInt8 := UInt8.ofNat (if n < 10 then 48 + n else 87 + n)
def esc (b : UInt8) : Bs :=
  if b.toNat = 34 ∨ b.toNat = 92 then [92, b] else if b.toNat = 10 then [92, 110]
  else if b.toNat < 32 ∨ 126 < b.toNat then [92, 120, hexd (b.toNat / 16), hexd (b.toNat % 16)] else [b]
def qform (s : Bs) : Bs := 34 :: (s.flatMap esc ++ [34])
def hexv (c : UInt8) : Option Nat := if 48 ≤ c.toNat ∧ c.toNat ≤ 57 then some (c.toNat - 48) else if 97 ≤ c.toNat ∧ c.toNat ≤ 102 then some (c.toNat - 87) else none
def escX (a b : UInt8) : Option (UInt8 × Nat) := match hexv a, hexv b with
  | some x, some y => if (16 * x + y < 32 ∨ 126 < 16 * x + y) ∧ 16 * x + y ≠ 10 then some (UInt8.ofNat (16 * x + y), 3) else none
  | _, _ => none
/-- an escape behind its backslash -/
def escD (s : Bs) : Option (UInt8 × Nat) := match s with
  | [] => none
  | c :: r => if c.toNat = 34 ∨ c.toNat = 92 then some (c, 1) else if c.toNat = 110 then some (10, 1) else if c.toNat = 120 then (match r with
    | a :: b :: _ => escX a b
    | _ => none) else none
/-- the byte whose form stands at the head -/
def un (s : Bs) : Option (UInt8 × Nat) := match s with
  | [] => none
  | c :: r => if c.toNat = 92 then (escD r).map (fun x => (x.1, x.2 + 1)) else if c.toNat < 32 ∨ 126 < c.toNat then none else some (c, 1)
theorem hexv_hexd : ∀ n, n < 16 → hexv (hexd n) = some n := by decide
theorem hexd_hexv {c : UInt8} {n : Nat} (h : hexv c = some n) : n < 16 ∧ hexd n = c := by
  have key : ∀ m : Fin 256, ∀ n, hexv (UInt8.ofNat m) = some n → n < 16 ∧ hexd n = UInt8.ofNat m := by
    intro m n h
    unfold hexv at h
    have hm : (UInt8.ofNat m).toNat = m := by simp
    rw [hm] at h
    split at h
    · injection h with h
      subst h
      refine ⟨by omega, ?_⟩
      unfold hexd
      rw [if_pos (by omega)]
      congr 1
      omega
    · split at h
      · injection h with h
        subst h
        refine ⟨by omega, ?_⟩
        unfold hexd
        rw [if_neg (by omega)]
        congr 1
        omega
      · cases h
  have := key ⟨c.toNat, c.toNat_lt⟩ n (by simpa using h)
  simpa using this
theorem ofNat_toNat (b : UInt8) : UInt8.ofNat b.toNat = b := by simp
theorem esc_ne (b : UInt8) : esc b ≠ [] := by
  unfold esc
  split
  · simp
  · split
    · simp
    · split <;> simp
theorem esc_len (b : UInt8) : 1 ≤ (esc b).length := List.length_pos_iff.2 (esc_ne b)
theorem escX_hex (b : UInt8) (h : (b.toNat < 32 ∨ 126 < b.toNat) ∧ b.toNat ≠ 10) : escX (hexd (b.toNat / 16)) (hexd (b.toNat % 16)) = some (b, 3) := by
  have hb := b.toNat_lt
  have e : 16 * (b.toNat / 16) + b.toNat % 16 = b.toNat := by omega
  unfold escX
  rw [hexv_hexd _ (by omega), hexv_hexd _ (by omega)]
  simp only
  rw [e, if_pos h, ofNat_toNat]
theorem un_bs (t : Bs) : un (92 :: t) = (escD t).map (fun x => (x.1, x.2 + 1)) := rfl
theorem un_c {c : UInt8} {r : Bs} (h : ¬ c.toNat = 92) (h2 : ¬ (c.toNat < 32 ∨ 126 < c.toNat)) : un (c :: r) = some (c, 1) := (if_neg h).trans (if_neg h2)
theorem un_esc (b : UInt8) (r : Bs) : un (esc b ++ r) = some (b, (esc b).length) := by
  unfold esc
  split
  · rename_i h
    have e : escD (b :: r) = some (b, 1) := if_pos h
    show un (92 :: b :: r) = _
    rw [un_bs, e]; rfl
  · rename_i h1
    split
    · rename_i h2
      have : b = 10 := UInt8.toNat_inj.1 h2
      subst this
      rfl
    · rename_i h2
      split
      · rename_i h3
        have e : escD (120 :: hexd (b.toNat / 16) :: hexd (b.toNat % 16) :: r) = escX (hexd (b.toNat / 16)) (hexd (b.toNat % 16)) := rfl
        show un (92 :: 120 :: hexd (b.toNat / 16) :: hexd (b.toNat % 16) :: r) = _
        rw [un_bs, e, escX_hex b ⟨h3, h2⟩]; rfl
      · rename_i h3
        exact un_c (by omega) h3
theorem esc_un {s : Bs} {b : UInt8} {n : Nat} (h : un s = some (b, n)) (h34 : s.head? ≠ some 34) : n = (esc b).length ∧ ∃ r, s = esc b ++ r := by
  cases s with
  | nil => cases h
  | cons c r =>
    unfold un at h
    simp only at h
    split at h
    · rename_i hc
      have hc : c = 92 := UInt8.toNat_inj.1 hc
      subst hc
      cases r with
      | nil => cases h
      | cons d r =>
        unfold escD at h
        simp only at h
        split at h
        · rename_i hd
          simp at h
          obtain ⟨rfl, rfl⟩ := h
          have e : esc d = [92, d] := if_pos hd
          rw [e]
          exact ⟨rfl, r, rfl⟩
        · split at h
          · rename_i h1 hd
            have hd : d = 110 := UInt8.toNat_inj.1 hd
            subst hd
            simp at h
            obtain ⟨rfl, rfl⟩ := h
            exact ⟨rfl, r, rfl⟩
          · split at h
            · rename_i h1 h2 hd
              have hd : d = 120 := UInt8.toNat_inj.1 hd
              subst hd
              match r, h with
              | [], h => cases h
              | [_], h => cases h
              | x :: y :: r, h =>
                simp only at h
                unfold escX at h
                split at h
                · rename_i p q hp hq
                  split at h
                  · rename_i hv
                    injection h with h
                    injection h with e1 e2
                    subst e1 e2
                    obtain ⟨p16, ep⟩ := hexd_hexv hp
                    obtain ⟨q16, eq⟩ := hexd_hexv hq
                    have hb : (UInt8.ofNat (16 * p + q)).toNat = 16 * p + q := by simp; omega
                    have e : esc (UInt8.ofNat (16 * p + q)) = [92, 120, x, y] := by
                      unfold esc
                      rw [hb, if_neg (by omega), if_neg (by omega), if_pos hv.1, show (16 * p + q) / 16 = p by omega, show (16 * p + q) % 16 = q by omega, ep, eq]
                    rw [e]
                    exact ⟨rfl, r, rfl⟩
                  · cases h
                · cases h
            · cases h
    · rename_i hc
      split at h
      · cases h
      · rename_i hr
        simp at h
        obtain ⟨rfl, rfl⟩ := h
        have hb : ¬ c.toNat = 34 := fun e => h34 (by rw [UInt8.toNat_inj.1 (show c.toNat = (34 : UInt8).toNat from e)]; rfl)
        have e : esc c = [c] := by
          unfold esc
          rw [if_neg (by omega), if_neg (by omega), if_neg hr]
        rw [e]
        exact ⟨rfl, r, rfl⟩
/-- a form at the head is the only one -/
theorem esc_prefix {s : Bs} {b : UInt8} : (esc b).isPrefixOf s = true → un s = some (b, (esc b).length) := fun h => by
  obtain ⟨r, rfl⟩ := List.isPrefixOf_iff_prefix.1 h
  exact un_esc b r
theorem un_prefix {s : Bs} {b : UInt8} {n : Nat} (h : un s = some (b, n)) (h34 : s.head? ≠ some 34) : (esc b).isPrefixOf s = true ∧ n = (esc b).length := by
  obtain ⟨e, r, rfl⟩ := esc_un h h34
  exact ⟨List.isPrefixOf_iff_prefix.2 ⟨r, rfl⟩, e⟩
theorem un_pos {s : Bs} {b : UInt8} {n : Nat} (h : un s = some (b, n)) : 1 ≤ n := by
  cases s with
  | nil => cases h
  | cons c r =>
    unfold un at h
    simp only at h
    split at h
    · cases he : escD r with
      | none => rw [he] at h; cases h
      | some x => rw [he] at h; simp at h; omega
    · split at h
      · cases h
      · simp at h; omega

/-! ### a string behind its double quote -/
def rdF : Nat → Bs → Option (Bs × Nat)
  | 0, _ => none
  | f + 1, s => match s with
    | [] => none
    | c :: r => if c.toNat = 34 then some ([], 1) else match un (c :: r) with
      | none => none
      | some (b, k) => (rdF f ((c :: r).drop k)).map (fun x => (b :: x.1, k + x.2))
theorem rdF_fuel : ∀ (f g : Nat) (s : Bs), s.length < f → s.length < g → rdF f s = rdF g s
  | 0, _, _, h, _ => absurd h (Nat.not_lt_zero _)
  | _, 0, _, _, h => absurd h (Nat.not_lt_zero _)
  | f + 1, g + 1, s, h1, h2 => by
    cases s with
    | nil => rfl
    | cons c r =>
      unfold rdF
      by_cases hc : c.toNat = 34
      · simp only [if_pos hc]
      · simp only [if_neg hc]
        cases hu : un (c :: r) with
        | none => rfl
        | some x =>
          obtain ⟨b, k⟩ := x
          have := un_pos hu
          simp only
          rw [rdF_fuel f g ((c :: r).drop k) (by rw [List.length_drop]; simp at h1 ⊢; omega) (by rw [List.length_drop]; simp at h2 ⊢; omega)]
def rd (s : Bs) : Option (Bs × Nat) := rdF (s.length + 1) s
theorem rd_nil : rd [] = none := rfl
theorem rd_end {c : UInt8} {r : Bs} (h : c.toNat = 34) : rd (c :: r) = some ([], 1) := by
  unfold rd rdF
  simp only [if_pos h]
theorem rd_bad {s : Bs} (h : s.head? ≠ some 34) (hu : un s = none) : rd s = none := by
  cases s with
  | nil => rfl
  | cons c r =>
    have hc : ¬ c.toNat = 34 := fun e => h (by rw [UInt8.toNat_inj.1 (show c.toNat = (34 : UInt8).toNat from e)]; rfl)
    unfold rd rdF
    simp only [if_neg hc, hu]
theorem rd_step {s : Bs} {b : UInt8} {k : Nat} (h : s.head? ≠ some 34) (hu : un s = some (b, k)) : rd s = (rd (s.drop k)).map (fun x => (b :: x.1, k + x.2)) := by
  cases s with
  | nil => cases hu
  | cons c r =>
    have hc : ¬ c.toNat = 34 := fun e => h (by rw [UInt8.toNat_inj.1 (show c.toNat = (34 : UInt8).toNat from e)]; rfl)
    have hk := un_pos hu
    unfold rd
    rw [rdF]
    simp only [if_neg hc, hu]
    rw [rdF_fuel (c :: r).length ((List.drop k (c :: r)).length + 1) _ (by rw [List.length_drop]; simp; omega) (by omega)]
theorem esc_head (b : UInt8) (r : Bs) : (esc b ++ r).head? ≠ some 34 := by
  unfold esc
  split
  · simp
  · rename_i h1
    split
    · simp
    · split
      · simp
      · simp
        intro e
        subst e
        exact h1 (Or.inl rfl)
theorem rd_quoted : ∀ (s r : Bs), rd (s.flatMap esc ++ 34 :: r) = some (s, (s.flatMap esc).length + 1)
  | [], r => rd_end rfl
  | b :: s, r => by
    have e : (b :: s).flatMap esc ++ 34 :: r = esc b ++ (s.flatMap esc ++ 34 :: r) := by simp
    rw [e, rd_step (esc_head b _) (un_esc b _), List.drop_left, rd_quoted s r]
    simp
    omega
theorem rd_le {s : Bs} {t : Bs} {n : Nat} (h : rd s = some (t, n)) : n ≤ s.length ∧ 1 ≤ n ∧ s = t.flatMap esc ++ 34 :: s.drop n ∧ n = (t.flatMap esc).length + 1 := by
  induction hl : s.length using Nat.strongRecOn generalizing s t n with
  | _ m ih =>
    by_cases h34 : s.head? = some 34
    · cases s with
      | nil => cases h34
      | cons c r =>
        simp at h34
        subst h34
        rw [rd_end rfl] at h
        simp at h
        obtain ⟨rfl, rfl⟩ := h
        simp at hl ⊢
        omega
    · cases hu : un s with
      | none => rw [rd_bad h34 hu] at h; cases h
      | some x =>
        obtain ⟨b, k⟩ := x
        rw [rd_step h34 hu] at h
        obtain ⟨ek, r, rfl⟩ := esc_un hu h34
        subst ek
        rw [List.drop_left] at h
        cases hr : rd r with
        | none => rw [hr] at h; cases h
        | some y =>
          obtain ⟨t', n'⟩ := y
          rw [hr] at h
          simp at h
          obtain ⟨rfl, rfl⟩ := h
          have := esc_len b
          obtain ⟨a1, a2, a3, a4⟩ := ih r.length (by rw [← hl, List.length_append]; omega) hr rfl
          refine ⟨by rw [← hl, List.length_append]; omega, by omega, ?_, ?_⟩
          · rw [List.flatMap_cons, List.append_assoc, ← List.drop_drop, List.drop_left, ← a3]
          · rw [List.flatMap_cons, List.length_append]; omega
def unqB (s : Bs) : Option Bs := match s with
  | [] => none
  | c :: r => if c.toNat = 34 then (match rd r with
    | none => none
    | some (t, n) => if n + 1 = (c :: r).length then some t else none) else none
theorem unq_qform (s : Bs) : unqB (qform s) = some s := by
  unfold qform unqB
  simp only
  rw [if_pos (by rfl), rd_quoted s []]
  simp
end Go.Lx
