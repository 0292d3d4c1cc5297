/-
  CONTRACTS of split.Count, split.Sticky and of the reference's counting loop.
  Conditions: those that each theorem names.
-/
import Derived.Test.YtcdckemablkniaaA
namespace Go.Proofs.Ytcdckemablkniaa
open Go.RowKit Go.Sv

theorem pcount_ok (a b k : Int) (w : World) (h : okN a b k) :
    Calls Try.prog 15 #[.int .i64 a, .int .i64 b, .int .i64 k] w fun e w' => e = .returned (.tuple #[.int .i64 (k * a / b), .int .i64 0]) ∧ w = w' := by
  obtain ⟨⟨h1, h2, h3, h4⟩, h5, h6⟩ := id h
  have b1 := mul_bd a k h1 (by omega) h5 (by omega)
  have h := Lib.hid h
  go_enter Try.func15, Try.ntmps15
  go_wp2_with (go_at_call 26; refine (pnumber_ok _ _ _ _ (by exact h.out)).mono ?_; rintro e w' ⟨rfl, rfl⟩)
  go_ret2
  exact ⟨rfl, rfl⟩

theorem pcount_bad (a b k : Int) (w : World) (h : ¬ okN a b k) :
    Calls Try.prog 15 #[.int .i64 a, .int .i64 b, .int .i64 k] w fun e w' => e = .returned (.tuple #[.int .i64 0, .int .i64 7]) ∧ w = w' := by
  have h := Lib.hid h
  go_enter Try.func15, Try.ntmps15
  go_wp2_with (go_at_call 26; refine (pnumber_bad _ _ _ _ (by exact h.out)).mono ?_; rintro e w' ⟨rfl, rfl⟩)
  go_ret2
  exact ⟨rfl, rfl⟩

theorem psticky_ok (a b u : Int) (w : World) (h : 0 ≤ a ∧ a ≤ b ∧ 1 ≤ b ∧ b ≤ 10000) (hu : 0 ≤ u ∧ u ≤ 18446744073709551615) :
    Calls Try.prog 19 #[.int .i64 a, .int .i64 b, .int .u64 u] w fun e w' => e = .returned (.tuple #[.bool (decide (u % b < a)), .int .i64 0]) ∧ Drawn w w' := by
  obtain ⟨h1, h2, h3, h4⟩ := id h
  obtain ⟨hu1, hu2⟩ := hu
  have h := Lib.hid h
  go_enter Try.func19, Try.ntmps19
  go_wp2_with (go_at_call 13; refine (pvalid_ok _ _ _ (by exact h.out)).mono ?_; rintro e w' ⟨rfl, rfl⟩)
  go_ret2
  exact ⟨rfl, Drawn.refl _⟩

/-- how many of the first n go -/
def cnt (a b : Int) : Nat → Int
  | 0 => 0
  | n + 1 => cnt a b n + (if goes a b n then 1 else 0)
theorem cnt_bd (a b : Int) (n : Nat) : 0 ≤ cnt a b n ∧ cnt a b n ≤ n := by
  induction n with
  | zero => simp [cnt]
  | succ n ih =>
    simp only [cnt]
    split <;> omega

theorem rcounted (a b : Int) (n : Nat) (w : World) (h1 : 0 ≤ a) (h2 : a ≤ b) (h3 : 1 ≤ b) (h4 : b ≤ 10000) (h6 : n ≤ 1000000000000) :
    Calls Try.prog 29 #[.int .i64 a, .int .i64 b, .int .i64 n] w fun e w' => e = .returned (.int .i64 (cnt a b n)) ∧ Drawn w w' := by
  go_enter Try.func29, Try.ntmps29
  go_wp2
  go_loopw [7, 8] (fun c i wr => ∃ k : Nat, k ≤ n ∧ i = .int .i64 k ∧ c = .int .i64 (cnt a b k) ∧ Drawn w wr) (fun _ i _ => n - (intOf i).toNat)
  case atStart => exact ⟨0, Nat.zero_le _, rfl, rfl, Drawn.refl _⟩
  case round =>
    obtain ⟨k, hk, rfl, rfl, hdr⟩ := hrel
    have hb := cnt_bd a b k
    by_cases hlt : k < n
    · cases hg : goes a b k
      all_goals
        have HS : Hid (cnt a b (k + 1) = cnt a b k + if goes a b k then 1 else 0) := rfl
        have HG := Lib.hid hg
        clear hg
        go_wp2_with (go_at_call 28; refine (rgoes _ _ _ _ h1 h2 h3 h4 (by omega) (by omega)).mono ?_; rintro e w' ⟨rfl, hdr'⟩; rw [HG.out])
        go_roundw
        case rel => exact ⟨k + 1, by omega, by go_num, by rw [HS.out, HG.out]; simp, hdr.trans hdr'⟩
        case measure => simp [intOf]; omega
    · have : k = n := by omega
      subst this
      go_wp2
      go_ret
      exact ⟨rfl, hdr⟩
end Go.Proofs.Ytcdckemablkniaa
