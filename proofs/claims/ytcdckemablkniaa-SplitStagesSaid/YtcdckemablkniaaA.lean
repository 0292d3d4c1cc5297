/-
  CONTRACTS of split.Valid, split.number, split.Next and of their references: what each call returns, the world unchanged but for draws.
  Conditions: those that each theorem names.
-/
import Derived.Test.YtcdckemablkniaaProg
import Derived.Test.YtcdckemablkniaaLib
namespace Go.Proofs.Ytcdckemablkniaa
open Go.RowKit Go.Sv

/-- a share -/
def okS (a b : Int) : Bool := decide (0 ≤ a ∧ a ≤ b ∧ 1 ≤ b ∧ b ≤ 10000)
theorem okS_iff {a b : Int} : okS a b = true ↔ 0 ≤ a ∧ a ≤ b ∧ 1 ≤ b ∧ b ≤ 10000 := by unfold okS; simp
theorem okS_no {a b : Int} : okS a b = false ↔ ¬ (0 ≤ a ∧ a ≤ b ∧ 1 ≤ b ∧ b ≤ 10000) := by unfold okS; simp

theorem pvalid_ok (a b : Int) (w : World) (h : 0 ≤ a ∧ a ≤ b ∧ 1 ≤ b ∧ b ≤ 10000) :
    Calls Try.prog 13 #[.int .i64 a, .int .i64 b] w fun e w' => e = .returned (.int .i64 0) ∧ w = w' := by
  obtain ⟨h1, h2, h3, h4⟩ := h
  go_enter Try.func13, Try.ntmps13
  go_wp2
  go_ret
  exact ⟨rfl, rfl⟩

theorem pvalid_bad (a b : Int) (w : World) (h : ¬ (0 ≤ a ∧ a ≤ b ∧ 1 ≤ b ∧ b ≤ 10000)) :
    Calls Try.prog 13 #[.int .i64 a, .int .i64 b] w fun e w' => e = .returned (.int .i64 7) ∧ w = w' := by
  by_cases h1 : a < 0
  · go_enter Try.func13, Try.ntmps13
    go_wp2
    go_ret
    exact ⟨rfl, rfl⟩
  by_cases h2 : b < a
  · go_enter Try.func13, Try.ntmps13
    go_wp2
    go_ret
    exact ⟨rfl, rfl⟩
  by_cases h3 : b < 1
  · go_enter Try.func13, Try.ntmps13
    go_wp2
    go_ret
    exact ⟨rfl, rfl⟩
  have h4 : 10000 < b := by omega
  clear h
  go_enter Try.func13, Try.ntmps13
  go_wp2
  go_ret
  exact ⟨rfl, rfl⟩
end Go.Proofs.Ytcdckemablkniaa
namespace Go.Proofs.Ytcdckemablkniaa
open Go.RowKit Go.Sv
theorem mul_bd (a k : Int) (h1 : 0 ≤ a) (h2 : a ≤ 10000) (h3 : 0 ≤ k) (h4 : k ≤ 1000000000001) : 0 ≤ k * a ∧ k * a ≤ 10000000000010000 := by
  constructor
  · exact Int.mul_nonneg h3 h1
  · calc k * a ≤ 1000000000001 * a := Int.mul_le_mul_of_nonneg_right h4 h1
      _ ≤ 10000000000010000 := by omega

/-- request k goes to the next version -/
def goes (a b k : Int) : Bool := decide (k * a / b < (k + 1) * a / b)

theorem rvalid_ok (a b : Int) (w : World) (h : 0 ≤ a ∧ a ≤ b ∧ 1 ≤ b ∧ b ≤ 10000) :
    Calls Try.prog 14 #[.int .i64 a, .int .i64 b] w fun e w' => e = .returned (.int .i64 0) ∧ w = w' := by
  obtain ⟨h1, h2, h3, h4⟩ := h
  go_enter Try.func14, Try.ntmps14
  go_wp2
  go_ret
  exact ⟨rfl, rfl⟩

theorem rvalid_bad (a b : Int) (w : World) (h : ¬ (0 ≤ a ∧ a ≤ b ∧ 1 ≤ b ∧ b ≤ 10000)) :
    Calls Try.prog 14 #[.int .i64 a, .int .i64 b] w fun e w' => e = .returned (.int .i64 7) ∧ w = w' := by
  by_cases h3 : b < 1
  · go_enter Try.func14, Try.ntmps14
    go_wp2
    go_ret
    exact ⟨rfl, rfl⟩
  by_cases h4 : 10000 < b
  · go_enter Try.func14, Try.ntmps14
    go_wp2
    go_ret
    exact ⟨rfl, rfl⟩
  by_cases h1 : a < 0
  · go_enter Try.func14, Try.ntmps14
    go_wp2
    go_ret
    exact ⟨rfl, rfl⟩
  have h2 : b < a := by omega
  clear h
  go_enter Try.func14, Try.ntmps14
  go_wp2
  go_ret
  exact ⟨rfl, rfl⟩

/-- a share and a number of requests -/
def okN (a b n : Int) : Prop := (0 ≤ a ∧ a ≤ b ∧ 1 ≤ b ∧ b ≤ 10000) ∧ 0 ≤ n ∧ n ≤ 1000000000000

theorem pnumber_ok (a b n : Int) (w : World) (h : okN a b n) :
    Calls Try.prog 26 #[.int .i64 a, .int .i64 b, .int .i64 n] w fun e w' => e = .returned (.int .i64 0) ∧ w = w' := by
  obtain ⟨hs, h5, h6⟩ := h
  have hs := Lib.hid hs
  go_enter Try.func26, Try.ntmps26
  go_wp2_with (go_at_call 13; refine (pvalid_ok _ _ _ (by exact hs.out)).mono ?_; rintro e w' ⟨rfl, rfl⟩)
  go_ret
  exact ⟨rfl, rfl⟩

theorem pnumber_bad (a b n : Int) (w : World) (h : ¬ okN a b n) :
    Calls Try.prog 26 #[.int .i64 a, .int .i64 b, .int .i64 n] w fun e w' => e = .returned (.int .i64 7) ∧ w = w' := by
  unfold okN at h
  by_cases h5 : n < 0
  · clear h
    go_enter Try.func26, Try.ntmps26
    go_wp2
    go_ret
    exact ⟨rfl, rfl⟩
  by_cases h6 : 1000000000000 < n
  · clear h
    go_enter Try.func26, Try.ntmps26
    go_wp2
    go_ret
    exact ⟨rfl, rfl⟩
  have hs : Hid (¬ (0 ≤ a ∧ a ≤ b ∧ 1 ≤ b ∧ b ≤ 10000)) := Lib.hid (fun hs => h ⟨hs, by omega, by omega⟩)
  clear h
  go_enter Try.func26, Try.ntmps26
  go_wp2_with (go_at_call 13; refine (pvalid_bad _ _ _ (by exact hs.out)).mono ?_; rintro e w' ⟨rfl, rfl⟩)
  go_ret
  exact ⟨rfl, rfl⟩

theorem rnumber_ok (a b n : Int) (w : World) (h : okN a b n) :
    Calls Try.prog 27 #[.int .i64 a, .int .i64 b, .int .i64 n] w fun e w' => e = .returned (.int .i64 0) ∧ w = w' := by
  obtain ⟨hs, h5, h6⟩ := h
  have hs := Lib.hid hs
  go_enter Try.func27, Try.ntmps27
  go_wp2_with (go_at_call 14; refine (rvalid_ok _ _ _ (by exact hs.out)).mono ?_; rintro e w' ⟨rfl, rfl⟩)
  go_ret
  exact ⟨rfl, rfl⟩

theorem rnumber_bad (a b n : Int) (w : World) (h : ¬ okN a b n) :
    Calls Try.prog 27 #[.int .i64 a, .int .i64 b, .int .i64 n] w fun e w' => e = .returned (.int .i64 7) ∧ w = w' := by
  unfold okN at h
  by_cases hs : (0 ≤ a ∧ a ≤ b ∧ 1 ≤ b ∧ b ≤ 10000)
  · have hs := Lib.hid hs
    by_cases h5 : n < 0
    · clear h
      go_enter Try.func27, Try.ntmps27
      go_wp2_with (go_at_call 14; refine (rvalid_ok _ _ _ (by exact hs.out)).mono ?_; rintro e w' ⟨rfl, rfl⟩)
      go_ret
      exact ⟨rfl, rfl⟩
    have h6 : 1000000000000 < n := by
      have := hs.out
      omega
    clear h
    go_enter Try.func27, Try.ntmps27
    go_wp2_with (go_at_call 14; refine (rvalid_ok _ _ _ (by exact hs.out)).mono ?_; rintro e w' ⟨rfl, rfl⟩)
    go_ret
    exact ⟨rfl, rfl⟩
  have hs := Lib.hid hs
  clear h
  go_enter Try.func27, Try.ntmps27
  go_wp2_with (go_at_call 14; refine (rvalid_bad _ _ _ (by exact hs.out)).mono ?_; rintro e w' ⟨rfl, rfl⟩)
  go_ret
  exact ⟨rfl, rfl⟩

theorem pnext_ok (a b k : Int) (w : World) (h : okN a b k) :
    Calls Try.prog 11 #[.int .i64 a, .int .i64 b, .int .i64 k] w fun e w' => e = .returned (.tuple #[.bool (goes a b k), .int .i64 0]) ∧ Drawn w w' := by
  obtain ⟨⟨h1, h2, h3, h4⟩, h5, h6⟩ := id h
  have b1 := mul_bd a k h1 (by omega) h5 (by omega)
  have b2 := mul_bd a (k + 1) h1 (by omega) (by omega) (by omega)
  have h := Lib.hid h
  go_enter Try.func11, Try.ntmps11
  go_wp2_with (go_at_call 26; refine (pnumber_ok _ _ _ _ (by exact h.out)).mono ?_; rintro e w' ⟨rfl, rfl⟩)
  go_quiet (fail)
  go_wp2
  go_ret2
  exact ⟨rfl, Drawn.of _⟩

theorem pnext_bad (a b k : Int) (w : World) (h : ¬ okN a b k) :
    Calls Try.prog 11 #[.int .i64 a, .int .i64 b, .int .i64 k] w fun e w' => e = .returned (.tuple #[.bool false, .int .i64 7]) ∧ w = w' := by
  have h := Lib.hid h
  go_enter Try.func11, Try.ntmps11
  go_wp2_with (go_at_call 26; refine (pnumber_bad _ _ _ _ (by exact h.out)).mono ?_; rintro e w' ⟨rfl, rfl⟩)
  go_ret2
  exact ⟨rfl, rfl⟩

theorem rgoes (a b k : Int) (w : World) (h1 : 0 ≤ a) (h2 : a ≤ b) (h3 : 1 ≤ b) (h4 : b ≤ 10000) (h5 : 0 ≤ k) (h6 : k ≤ 1000000000000) :
    Calls Try.prog 28 #[.int .i64 a, .int .i64 b, .int .i64 k] w fun e w' => e = .returned (.bool (goes a b k)) ∧ Drawn w w' := by
  have b1 := mul_bd a k h1 (by omega) h5 (by omega)
  have b2 := mul_bd a (k + 1) h1 (by omega) (by omega) (by omega)
  go_enter Try.func28, Try.ntmps28
  go_wp2
  go_quiet (fail)
  go_wp2
  go_ret
  exact ⟨rfl, Drawn.of _⟩
end Go.Proofs.Ytcdckemablkniaa
