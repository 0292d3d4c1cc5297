/-
  CONTRACT of sheaveref37.digits.
  Conditions: those that each theorem names.
-/
import Derived.Test.YtfcimilimojfoaaDoorSb8
namespace Go.Proofs.YtfcimilimojfoaaDoor
open Go.RowKit Go.Sv Go.Lx
theorem dec_le : ∀ (k n : Nat), n < 10 ^ (k + 1) → (Lib.decDigits n).length ≤ k + 1
  | 0, n, h => by
    have h : n < 10 := by simpa using h
    rw [dec_s h]
    simp
  | k + 1, n, h => by
    by_cases c : n < 10
    · rw [dec_s c]; simp
    · rw [dec_b c, List.length_append, List.length_singleton]
      have := dec_le k (n / 10) (by rw [Nat.div_lt_iff_lt_mul (by decide), ← Nat.pow_succ]; exact h)
      omega
theorem dec_20 {n : Nat} (h : n ≤ 9223372036854775807) : (Lib.decDigits n).length ≤ 1000 := Nat.le_trans (dec_le 19 n (by omega)) (by decide)
theorem enc_digit (d : Nat) (h : d < 10) : Utf8.encode (48 + (d : Int)) = bS [UInt8.ofNat (48 + d)] := by
  match d, h with
  | 0, _ => rfl
  | 1, _ => rfl
  | 2, _ => rfl
  | 3, _ => rfl
  | 4, _ => rfl
  | 5, _ => rfl
  | 6, _ => rfl
  | 7, _ => rfl
  | 8, _ => rfl
  | 9, _ => rfl
set_option maxHeartbeats 2000000 in
set_option maxRecDepth 100000 in
theorem digits_any : ∀ (n : Nat), n ≤ 9223372036854775807 → ∀ w : World, Calls Tryd.prog 65 #[.int .i64 (n : Int)] w fun e w' => e = .returned (.string (bS (Lib.decDigits n))) ∧ w' = w := by
  intro n
  induction n using Nat.strongRecOn with
  | _ n ih =>
    intro hn w
    by_cases h : n < 10
    · have h1 : (n : Int) < 10 := by omega
      have he := enc_digit n h
      have hd := dec_s h
      obtain ⟨c, hc⟩ : ∃ c, UInt8.ofNat (48 + n) = c := ⟨_, rfl⟩
      rw [hc] at he hd
      replace hd := Lib.hid hd
      clear hc ih
      go_enter Tryd.func65, Tryd.ntmps65
      go_wp2
      go_ret
      exact ⟨by rw [hd.out]; rfl, rfl⟩
    · have h1 : ¬ (n : Int) < 10 := by omega
      have h2 : (n : Int).tdiv 10 = ((n / 10 : Nat) : Int) := by
        rw [Int.tdiv_eq_ediv_of_nonneg (by omega)]; simp
      have h3 : (n : Int).tmod 10 = ((n % 10 : Nat) : Int) := by
        rw [Int.tmod_eq_emod_of_nonneg (by omega)]; simp
      obtain ⟨d, hd⟩ : ∃ d, n % 10 = d := ⟨_, rfl⟩
      obtain ⟨m, hm⟩ : ∃ m, n / 10 = m := ⟨_, rfl⟩
      have hd10 : d < 10 := by omega
      rw [hd] at h3
      rw [hm] at h2
      have he := enc_digit d hd10
      have hB := Lib.hid (show Lib.decDigits n = Lib.decDigits m ++ [UInt8.ofNat (48 + d)] by rw [← hm, ← hd]; exact dec_b h)
      have H := Lib.hid (ih m (by omega) (by omega) w)
      have hmb : m ≤ 922337203685477580 := by omega
      obtain ⟨c, hc⟩ : ∃ c, UInt8.ofNat (48 + d) = c := ⟨_, rfl⟩
      rw [hc] at he hB
      have hlen := dec_20 (n := m) (by omega)
      obtain ⟨l, hl⟩ : ∃ l, Lib.decDigits m = l := ⟨_, rfl⟩
      rw [hl] at H hB hlen
      replace hl := Lib.hid hl
      replace hd := Lib.hid hd
      replace hm := Lib.hid hm
      clear ih hc
      go_enter Tryd.func65, Tryd.ntmps65
      go_wp2_with fail
      with_reducible refine H.out.mono ?_
      rintro e w' ⟨rfl, rfl⟩
      go_wp2
      refine bodyPost_ret (v := .string (bS l ++ bS [c])) (by simp [results, Tryd.results65, go_sem]) rfl ?_
      exact ⟨by rw [hB.out, ← bS_app], rfl⟩
end Go.Proofs.YtfcimilimojfoaaDoor
