/-
  PLAIN LAWS on floor(n a / b), and the contracts of the reference's Next, Count and Sticky.
  Conditions: those that each theorem names.
-/
import Derived.Test.YtcdckemablkniaaF
namespace Go.Proofs.Ytcdckemablkniaa
open Go.RowKit Go.Sv

/-! ### plain laws -/
theorem step01 (x a b : Int) (h0 : 0 ≤ a) (h1 : a ≤ b) (hb : 0 < b) : x / b ≤ (x + a) / b ∧ (x + a) / b ≤ x / b + 1 := by
  constructor
  · exact Int.ediv_le_ediv hb (by omega)
  · have h2 : (x + a) / b ≤ (x + b) / b := Int.ediv_le_ediv hb (by omega)
    have h3 : (x + b) / b = x / b + 1 := by
      have := Int.add_mul_ediv_right x 1 (show b ≠ 0 by omega)
      rwa [Int.one_mul] at this
    omega
theorem cnt_eq (a b : Int) (h0 : 0 ≤ a) (h1 : a ≤ b) (hb : 0 < b) (n : Nat) : cnt a b n = (n : Int) * a / b := by
  induction n with
  | zero => simp [cnt]
  | succ n ih =>
    have hs := step01 ((n : Int) * a) a b h0 h1 hb
    have e : ((n + 1 : Nat) : Int) * a = (n : Int) * a + a := by
      rw [Int.natCast_succ, Int.add_mul, Int.one_mul]
    rw [cnt, ih, e]
    have e2 : ((n : Int) + 1) * a = (n : Int) * a + a := by rw [Int.add_mul, Int.one_mul]
    unfold goes
    rw [e2]
    by_cases hlt : (n : Int) * a / b < ((n : Int) * a + a) / b
    · rw [decide_eq_true hlt, if_pos rfl]; omega
    · rw [decide_eq_false hlt, if_neg (by simp)]; omega
theorem period (n a b : Int) (hb : 0 < b) : n / b * a + (n % b) * a / b = n * a / b := by
  have e : n * a = (n % b) * a + b * (n / b * a) := by
    have h : n = n % b + b * (n / b) := (Int.emod_add_mul_ediv n b).symm
    calc n * a = (n % b + b * (n / b)) * a := by rw [← h]
      _ = (n % b) * a + b * (n / b * a) := by rw [Int.add_mul, Int.mul_assoc]
  rw [e, Int.add_mul_ediv_left _ _ (by omega)]
  omega
theorem period2 (k a b : Int) (hb : 0 < b) : (k + b) * a / b = k * a / b + a := by
  have e : (k + b) * a = k * a + b * a := by rw [Int.add_mul]
  rw [e, Int.add_mul_ediv_left _ _ (by omega)]

theorem rnext_ok (a b k : Int) (w : World) (h : okN a b k) :
    Calls Try.prog 12 #[.int .i64 a, .int .i64 b, .int .i64 k] w fun e w' => e = .returned (.tuple #[.bool (goes a b k), .int .i64 0]) ∧ Drawn w w' := by
  obtain ⟨⟨h1, h2, h3, h4⟩, h5, h6⟩ := id h
  have h := Lib.hid h
  go_enter Try.func12, Try.ntmps12
  go_wp2_with (first
    | (go_at_call 27; refine (rnumber_ok _ _ _ _ (by exact h.out)).mono ?_; rintro e w' ⟨rfl, rfl⟩)
    | (go_at_call 28; refine (rgoes _ _ _ _ h1 h2 h3 h4 h5 h6).mono ?_; rintro e w1 ⟨rfl, hd⟩))
  go_ret2
  exact ⟨rfl, hd⟩
theorem rnext_bad (a b k : Int) (w : World) (h : ¬ okN a b k) :
    Calls Try.prog 12 #[.int .i64 a, .int .i64 b, .int .i64 k] w fun e w' => e = .returned (.tuple #[.bool false, .int .i64 7]) ∧ w = w' := by
  have h := Lib.hid h
  go_enter Try.func12, Try.ntmps12
  go_wp2_with (go_at_call 27; refine (rnumber_bad _ _ _ _ (by exact h.out)).mono ?_; rintro e w' ⟨rfl, rfl⟩)
  go_ret2
  exact ⟨rfl, rfl⟩
theorem rcount_ok (a b n : Int) (w : World) (h : okN a b n) :
    Calls Try.prog 16 #[.int .i64 a, .int .i64 b, .int .i64 n] w fun e w' => e = .returned (.tuple #[.int .i64 (n * a / b), .int .i64 0]) ∧ Drawn w w' := by
  obtain ⟨⟨h1, h2, h3, h4⟩, h5, h6⟩ := id h
  have p1 : 0 ≤ n % b := Int.emod_nonneg _ (by omega)
  have p2 : n % b < b := Int.emod_lt_of_pos _ (by omega)
  obtain ⟨r, hr⟩ := Int.eq_ofNat_of_zero_le p1
  have b1 := mul_bd a n h1 (by omega) h5 (by omega)
  have E := period n a b (by omega)
  have E2 := cnt_eq a b h1 h2 (by omega) r
  rw [hr, ← E2] at E
  have d1 : 0 ≤ n / b := Int.ediv_nonneg h5 (by omega)
  have d2 : n / b ≤ n := Int.ediv_le_self _ h5
  have b2 := mul_bd a (n / b) h1 (by omega) d1 (by omega)
  have b3 := cnt_bd a b r
  have i1 : IntKind.i64.wrap (n / b * a) = n / b * a := IntWalk.i64_in _ (by omega)
  have i2 : IntKind.i64.wrap (n / b * a + cnt a b r) = n / b * a + cnt a b r := IntWalk.i64_in _ (by omega)
  have hrb : r ≤ 1000000000000 := by omega
  have h := Lib.hid h
  replace E := Lib.hid E
  replace hr := Lib.hid hr
  clear E2 p1 p2
  go_enter Try.func16, Try.ntmps16
  go_wp2_with (go_at_call 27; refine (rnumber_ok _ _ _ _ (by exact h.out)).mono ?_; rintro e w' ⟨rfl, rfl⟩)
  go_quiet ((go_at_call 29; rw [hr.out]; exact quiet_d (rcounted _ _ _ _ h1 h2 h3 h4 hrb)))
  go_wp2
  go_ret2
  exact ⟨ret_2 (val_i E.out) rfl, Drawn.of _⟩
theorem rcount_bad (a b n : Int) (w : World) (h : ¬ okN a b n) :
    Calls Try.prog 16 #[.int .i64 a, .int .i64 b, .int .i64 n] w fun e w' => e = .returned (.tuple #[.int .i64 0, .int .i64 7]) ∧ w = w' := by
  have h := Lib.hid h
  go_enter Try.func16, Try.ntmps16
  go_wp2_with (go_at_call 27; refine (rnumber_bad _ _ _ _ (by exact h.out)).mono ?_; rintro e w' ⟨rfl, rfl⟩)
  go_ret2
  exact ⟨rfl, rfl⟩

theorem psticky_bad (a b u : Int) (w : World) (h : ¬ (0 ≤ a ∧ a ≤ b ∧ 1 ≤ b ∧ b ≤ 10000)) :
    Calls Try.prog 19 #[.int .i64 a, .int .i64 b, .int .u64 u] w fun e w' => e = .returned (.tuple #[.bool false, .int .i64 7]) ∧ w = w' := by
  have h := Lib.hid h
  go_enter Try.func19, Try.ntmps19
  go_wp2_with (go_at_call 13; refine (pvalid_bad _ _ _ (by exact h.out)).mono ?_; rintro e w' ⟨rfl, rfl⟩)
  go_ret2
  exact ⟨rfl, rfl⟩
theorem rsticky_ok (a b u : Int) (w : World) (h : 0 ≤ a ∧ a ≤ b ∧ 1 ≤ b ∧ b ≤ 10000) (hu : 0 ≤ u ∧ u ≤ 18446744073709551615) :
    Calls Try.prog 20 #[.int .i64 a, .int .i64 b, .int .u64 u] w fun e w' => e = .returned (.tuple #[.bool (decide (u % b < a)), .int .i64 0]) ∧ Drawn w w' := by
  obtain ⟨h1, h2, h3, h4⟩ := id h
  obtain ⟨hu1, hu2⟩ := hu
  have h := Lib.hid h
  go_enter Try.func20, Try.ntmps20
  go_wp2_with (go_at_call 14; refine (rvalid_ok _ _ _ (by exact h.out)).mono ?_; rintro e w' ⟨rfl, rfl⟩)
  go_ret2
  exact ⟨rfl, Drawn.refl _⟩
theorem rsticky_bad (a b u : Int) (w : World) (h : ¬ (0 ≤ a ∧ a ≤ b ∧ 1 ≤ b ∧ b ≤ 10000)) :
    Calls Try.prog 20 #[.int .i64 a, .int .i64 b, .int .u64 u] w fun e w' => e = .returned (.tuple #[.bool false, .int .i64 7]) ∧ w = w' := by
  have h := Lib.hid h
  go_enter Try.func20, Try.ntmps20
  go_wp2_with (go_at_call 14; refine (rvalid_bad _ _ _ (by exact h.out)).mono ?_; rintro e w' ⟨rfl, rfl⟩)
  go_ret2
  exact ⟨rfl, rfl⟩
end Go.Proofs.Ytcdckemablkniaa
