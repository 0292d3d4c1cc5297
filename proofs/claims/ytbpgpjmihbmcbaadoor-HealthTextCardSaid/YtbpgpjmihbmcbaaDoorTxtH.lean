/-
  PLAIN: the text of a sequential test: words 'a/r' with spaces between.
  Conditions: those that each theorem names.
-/
import Derived.Test.YtbpgpjmihbmcbaaDoorTxt
namespace Go.Lx
open Go
theorem spl_joinS {c : UInt8} : ∀ {ws : List Bs}, ws ≠ [] → (∀ w, w ∈ ws → c ∉ w) → spl c (joinS c ws) = ws
  | [], h, _ => absurd rfl h
  | [w], _, h => by rw [joinS]; exact spl_word (h w (List.mem_cons_self ..))
  | w :: x :: ws, _, h => by
    rw [joinS, spl_app _ (h w (List.mem_cons_self ..)), spl_joinS (by simp) (fun v hv => h v (List.mem_cons_of_mem _ hv))]
theorem idx_at {c : UInt8} : ∀ (l r : Bs), c ∉ l → Lib.index (l ++ c :: r) [c] = l.length
  | [], r, _ => by rw [List.nil_append, Lib.index]; simp [List.isPrefixOf]
  | b :: l, r, h => by
    rw [List.cons_append, idx_cons _ _ _ (fun e => h (by rw [e]; exact List.mem_cons_self ..)), idx_at l r (fun e => h (List.mem_cons_of_mem _ e)), if_neg]
    · simp
    · intro e
      have := beq_iff_eq.1 e
      omega
theorem cut_at {c : UInt8} {l : Bs} (r : Bs) (h : c ∉ l) : Lib.cut (l ++ c :: r) [c] = (l, r, true) := by
  unfold Lib.cut
  rw [idx_at l r h, if_pos (by omega)]
  simp
theorem dec_chars (u : Nat) : ∀ x, x ∈ Lib.decDigits u → 48 ≤ x.toNat ∧ x.toNat ≤ 57 := by
  induction u using Nat.strongRecOn with
  | _ u ih =>
    intro x hx
    by_cases c : u < 10
    · rw [dec_s c, List.mem_singleton] at hx
      rw [hx, dg_nat c]
      omega
    · rw [dec_b c, List.mem_append, List.mem_singleton] at hx
      rcases hx with hx | hx
      · exact ih (u / 10) (by omega) x hx
      · rw [hx, dg_nat (by omega)]
        omega
theorem itoa_chars (v : Int) : ∀ x, x ∈ Lib.itoa v → x.toNat = 45 ∨ 48 ≤ x.toNat ∧ x.toNat ≤ 57 := by
  intro x hx
  by_cases h : v < 0
  · rw [itoa_neg h, List.mem_cons] at hx
    rcases hx with hx | hx
    · rw [hx]; exact Or.inl rfl
    · exact Or.inr (dec_chars _ x hx)
  · rw [itoa_pos (by omega)] at hx
    exact Or.inr (dec_chars _ x hx)
theorem itoa_no {v : Int} {c : UInt8} (h : c.toNat = 32 ∨ c.toNat = 47) : c ∉ Lib.itoa v := fun e => by
  have := itoa_chars v c e
  omega
/-- a word of a test -/
def wordT (a r : Int) : Bs := Lib.itoa a ++ 47 :: Lib.itoa r
theorem wordT_no (a r : Int) : (32 : UInt8) ∉ wordT a r := by
  unfold wordT
  rw [List.mem_append, List.mem_cons]
  rintro (h | h | h)
  · exact itoa_no (Or.inl rfl) h
  · exact absurd h (by decide)
  · exact itoa_no (Or.inl rfl) h
theorem cut_word (a r : Int) : Lib.cut (wordT a r) [47] = (Lib.itoa a, Lib.itoa r, true) := cut_at _ (itoa_no (Or.inr rfl))
def textT (l : List (Int × Int)) : Bs := joinS 32 (l.map fun x => wordT x.1 x.2)
theorem spl_text {l : List (Int × Int)} (h : l ≠ []) : Lib.split (textT l) [32] = l.map fun x => wordT x.1 x.2 := by
  rw [split_spl]
  unfold textT
  refine spl_joinS (by simpa using h) fun w hw => ?_
  obtain ⟨x, _, rfl⟩ := List.mem_map.1 hw
  exact wordT_no _ _
/-- the reference's digits of a small number -/
def digH (n : Int) : Bs := if n < 0 then [45, 49] else if 9 < n then [UInt8.ofNat (48 + (n / 10).toNat), UInt8.ofNat (48 + (n % 10).toNat)] else [UInt8.ofNat (48 + n.toNat)]
theorem digH_itoa {n : Int} (h1 : -1 ≤ n) (h2 : n ≤ 99) : digH n = Lib.itoa n := by
  unfold digH
  by_cases h : n < 0
  · rw [if_pos h, itoa_neg h]
    have : n = -1 := by omega
    subst this
    rw [dec_s (by decide)]
    rfl
  · rw [if_neg h, itoa_pos (by omega)]
    by_cases c : 9 < n
    · rw [if_pos c, dec_b (by omega), dec_s (by omega)]
      have e1 : (n / 10).toNat = n.toNat / 10 := by omega
      have e2 : (n % 10).toNat = n.toNat % 10 := by omega
      rw [e1, e2]; rfl
    · rw [if_neg c, dec_s (by omega)]
/-- few bytes -/
theorem itoa_short {n : Int} (h1 : -1 ≤ n) (h2 : n ≤ 99) : (Lib.itoa n).length ≤ 2 := by
  rw [← digH_itoa h1 h2]
  unfold digH
  split
  · simp
  · split <;> simp
end Go.Lx
