/-
  THE WALKS of the laws SplitNext, SplitCount, SplitPeriod, SplitSticky: each returns true and changes nothing that was there.
  Conditions: those that each theorem names.
-/
import Derived.Test.YtcdckemablkniaaG
namespace Go.Proofs.Ytcdckemablkniaa
open Go.RowKit Go.Sv

/-- the share lies in a new block -/
theorem awake_box (w : World) (a b : Int) : Calls Try.prog 10 #[] (w.alloc (.cells #[.int .i64 a, .int .i64 b] 23)) fun e w' => e = .returned (.bool true) ∧
    (Below w.heap.size w w' ∧ w.heap.size < w'.heap.size) ∧ w'.cell? ⟨w.heap.size, 0, none⟩ = some (.int .i64 a) ∧ w'.cell? ⟨w.heap.size, 1, none⟩ = some (.int .i64 b) :=
  (awake_any _).mono fun e w' ⟨he, hb⟩ => by
    have hs := hb.size
    have hlt : (⟨w.heap.size, 0, none⟩ : Addr).block < (w.alloc (.cells #[.int .i64 a, .int .i64 b] 23)).heap.size := by simp
    refine ⟨he, ⟨below_of ((Below.refl _ _).alloc (Nat.le_refl _) _) (by simp) hb, by simp at hs; omega⟩, ?_, ?_⟩
    · rw [hb.cell (p := ⟨w.heap.size, 0, none⟩) hlt, World.cell?_alloc_new]; rfl
    · rw [hb.cell (p := ⟨w.heap.size, 1, none⟩) hlt, World.cell?_alloc_new]; rfl

theorem law_next (a b k : Int) (w : World) : Calls Try.prog 3 #[.agg #[.int .i64 a, .int .i64 b], .int .i64 k] w fun e w' => e = .returned (.bool true) ∧ Below w.heap.size w w' := by
  by_cases hN : okN a b k
  · have hS := Lib.hid hN.1
    replace hN := Lib.hid hN
    go_enter Try.func3, Try.ntmps3
    go_wp2_with (first
      | (go_at_call 10; refine (awake_box w a b).mono ?_; rintro e w1 ⟨rfl, hb1, c1, c2⟩)
      | (go_at_call 11; refine (pnext_ok _ _ _ _ (by exact hN.out)).mono ?_; rintro e w2 ⟨rfl, hd2⟩; have c3 := (hd2.cell _).trans c1; have c4 := (hd2.cell _).trans c2)
      | (go_at_call 12; refine (rnext_ok _ _ _ _ (by exact hN.out)).mono ?_; rintro e w3 ⟨rfl, hd3⟩; have c5 := (hd3.cell _).trans c3; have c6 := (hd3.cell _).trans c4))
    go_quiet ((first | (go_at_call 13; exact quiet_l (pvalid_ok _ _ _ (by exact hS.out))) | (go_at_call 14; exact quiet_l (rvalid_ok _ _ _ (by exact hS.out)))))
    go_wp2
    go_ret
    exact ⟨by simp, ((hb1.1.drawn hd2).drawn hd3).drawn (Drawn.of _)⟩
  · by_cases hS : 0 ≤ a ∧ a ≤ b ∧ 1 ≤ b ∧ b ≤ 10000
    · replace hS := Lib.hid hS
      replace hN := Lib.hid hN
      go_enter Try.func3, Try.ntmps3
      go_wp2_with (first
        | (go_at_call 10; refine (awake_box w a b).mono ?_; rintro e w1 ⟨rfl, hb1, c1, c2⟩)
        | (go_at_call 11; refine (pnext_bad _ _ _ _ (by exact hN.out)).mono ?_; rintro e w2 ⟨rfl, rfl⟩)
        | (go_at_call 12; refine (rnext_bad _ _ _ _ (by exact hN.out)).mono ?_; rintro e w3 ⟨rfl, rfl⟩))
      go_quiet ((first | (go_at_call 13; exact quiet_l (pvalid_ok _ _ _ (by exact hS.out))) | (go_at_call 14; exact quiet_l (rvalid_ok _ _ _ (by exact hS.out)))))
      go_wp2
      go_ret
      exact ⟨by simp, hb1.1.drawn (Drawn.of _)⟩
    · replace hS := Lib.hid hS
      replace hN := Lib.hid hN
      go_enter Try.func3, Try.ntmps3
      go_wp2_with (first
        | (go_at_call 10; refine (awake_box w a b).mono ?_; rintro e w1 ⟨rfl, hb1, c1, c2⟩)
        | (go_at_call 11; refine (pnext_bad _ _ _ _ (by exact hN.out)).mono ?_; rintro e w2 ⟨rfl, rfl⟩)
        | (go_at_call 12; refine (rnext_bad _ _ _ _ (by exact hN.out)).mono ?_; rintro e w3 ⟨rfl, rfl⟩))
      go_quiet ((first | (go_at_call 13; exact quiet_l (pvalid_bad _ _ _ (by exact hS.out))) | (go_at_call 14; exact quiet_l (rvalid_bad _ _ _ (by exact hS.out)))))
      go_wp2
      go_ret
      exact ⟨by simp, hb1.1.drawn (Drawn.of _)⟩

theorem law_count (a b n : Int) (w : World) : Calls Try.prog 4 #[.agg #[.int .i64 a, .int .i64 b], .int .i64 n] w fun e w' => e = .returned (.bool true) ∧ Below w.heap.size w w' := by
  by_cases hN : okN a b n
  · obtain ⟨⟨h1, h2, h3, h4⟩, h5, h6⟩ := id hN
    have b1 := mul_bd a n h1 (by omega) h5 (by omega)
    replace hN := Lib.hid hN
    go_enter Try.func4, Try.ntmps4
    go_wp2_with (first
      | (go_at_call 10; refine (awake_box w a b).mono ?_; rintro e w1 ⟨rfl, hb1, c1, c2⟩)
      | (go_at_call 15; refine (pcount_ok _ _ _ _ (by exact hN.out)).mono ?_; rintro e w2 ⟨rfl, rfl⟩)
      | (go_at_call 16; refine (rcount_ok _ _ _ _ (by exact hN.out)).mono ?_; rintro e w3 ⟨rfl, hd3⟩; have c5 := (hd3.cell _).trans c1; have c6 := (hd3.cell _).trans c2))
    go_ret
    exact ⟨by simp, hb1.1.drawn hd3⟩
  · replace hN := Lib.hid hN
    go_enter Try.func4, Try.ntmps4
    go_wp2_with (first
      | (go_at_call 10; refine (awake_box w a b).mono ?_; rintro e w1 ⟨rfl, hb1, c1, c2⟩)
      | (go_at_call 15; refine (pcount_bad _ _ _ _ (by exact hN.out)).mono ?_; rintro e w2 ⟨rfl, rfl⟩)
      | (go_at_call 16; refine (rcount_bad _ _ _ _ (by exact hN.out)).mono ?_; rintro e w3 ⟨rfl, rfl⟩))
    go_ret
    exact ⟨by simp, hb1.1⟩

theorem law_period (a b k : Int) (w : World) (hw : -9223372036854775808 ≤ k) : Calls Try.prog 5 #[.agg #[.int .i64 a, .int .i64 b], .int .i64 k] w fun e w' => e = .returned (.bool true) ∧ Below w.heap.size w w' := by
  by_cases hS : 0 ≤ a ∧ a ≤ b ∧ 1 ≤ b ∧ b ≤ 10000
  · obtain ⟨h1, h2, h3, h4⟩ := id hS
    replace hS := Lib.hid hS
    by_cases k1 : k < 0
    · go_enter Try.func5, Try.ntmps5
      go_wp2_with fail
      refine (awake_box w a b).mono ?_
      rintro e w1 ⟨rfl, hb1, c1, c2⟩
      go_wp2_with fail
      refine (rvalid_ok _ _ _ (by exact hS.out)).mono ?_
      rintro e w2 ⟨rfl, rfl⟩
      go_wp2_with fail
      refine (awake_any _).mono ?_
      rintro e w3 ⟨rfl, hb3⟩
      go_wp2
      go_ret
      exact ⟨rfl, below_of hb1.1 (Nat.le_of_lt hb1.2) hb3⟩
    by_cases k2 : 1000000000000 - b < k
    · go_enter Try.func5, Try.ntmps5
      go_wp2_with fail
      refine (awake_box w a b).mono ?_
      rintro e w1 ⟨rfl, hb1, c1, c2⟩
      go_wp2_with fail
      refine (rvalid_ok _ _ _ (by exact hS.out)).mono ?_
      rintro e w2 ⟨rfl, rfl⟩
      go_wp2_with fail
      refine (awake_any _).mono ?_
      rintro e w3 ⟨rfl, hb3⟩
      go_wp2
      go_ret
      exact ⟨rfl, below_of hb1.1 (Nat.le_of_lt hb1.2) hb3⟩
    have b1 := mul_bd a k h1 (by omega) (by omega) (by omega)
    have hp := period2 k a b (by omega)
    have q1 : 0 ≤ k * a / b := Int.ediv_nonneg b1.1 (by omega)
    have q2 : k * a / b ≤ k * a := Int.ediv_le_self _ b1.1
    have n1 : Hid (okN a b k) := Lib.hid ⟨hS.out, by omega, by omega⟩
    have n2 : Hid (okN a b (k + b)) := Lib.hid ⟨hS.out, by omega, by omega⟩
    replace hp := Lib.hid hp
    go_enter Try.func5, Try.ntmps5
    go_wp2_with fail
    refine (awake_box w a b).mono ?_
    rintro e w1 ⟨rfl, hb1, c1, c2⟩
    go_wp2_with fail
    refine (rvalid_ok _ _ _ (by exact hS.out)).mono ?_
    rintro e w2 ⟨rfl, rfl⟩
    go_wp2_with fail
    refine (pcount_ok _ _ _ _ (by exact n1.out)).mono ?_
    rintro e w2 ⟨rfl, rfl⟩
    go_wp2_with fail
    refine (pcount_ok _ _ _ _ (by exact n2.out)).mono ?_
    rintro e w2 ⟨rfl, rfl⟩
    rw [hp.out]
    have e1 : (k * a / b + a - k * a / b == a) = true := by rw [beq_iff_eq]; omega
    go_wp2
    go_ret
    refine ⟨?_, hb1.1⟩
    first | rfl | (apply ret_b; simp; omega)
  · replace hS := Lib.hid hS
    go_enter Try.func5, Try.ntmps5
    go_wp2_with fail
    refine (awake_box w a b).mono ?_
    rintro e w1 ⟨rfl, hb1, c1, c2⟩
    go_wp2_with fail
    refine (rvalid_bad _ _ _ (by exact hS.out)).mono ?_
    rintro e w2 ⟨rfl, rfl⟩
    go_wp2_with fail
    refine (awake_any _).mono ?_
    rintro e w3 ⟨rfl, hb3⟩
    go_wp2
    go_ret
    exact ⟨rfl, below_of hb1.1 (Nat.le_of_lt hb1.2) hb3⟩

theorem law_sticky (a b u m : Int) (w : World) (hu : 0 ≤ u ∧ u ≤ 18446744073709551615) : Calls Try.prog 7 #[.agg #[.int .i64 a, .int .i64 b], .int .u64 u, .int .i64 m] w fun e w' => e = .returned (.bool true) ∧ Below w.heap.size w w' := by
  by_cases hS : 0 ≤ a ∧ a ≤ b ∧ 1 ≤ b ∧ b ≤ 10000
  · obtain ⟨h1, h2, h3, h4⟩ := id hS
    replace hS := Lib.hid hS
    by_cases k1 : m < 0
    · go_enter Try.func7, Try.ntmps7
      go_wp2_with (first
        | (go_at_call 10; refine (awake_box w a b).mono ?_; rintro e w1 ⟨rfl, hb1, c1, c2⟩)
        | (go_at_call 19; refine (psticky_ok _ _ _ _ (by exact hS.out) hu).mono ?_; rintro e w2 ⟨rfl, hd2⟩; have c3 := (hd2.cell _).trans c1; have c4 := (hd2.cell _).trans c2)
        | (go_at_call 20; refine (rsticky_ok _ _ _ _ (by exact hS.out) hu).mono ?_; rintro e w3 ⟨rfl, hd3⟩; have c5 := (hd3.cell _).trans c3; have c6 := (hd3.cell _).trans c4))
      go_ret
      exact ⟨rfl, (hb1.1.drawn hd2).drawn hd3⟩
    by_cases k2 : b - a < m
    · go_enter Try.func7, Try.ntmps7
      go_wp2_with (first
        | (go_at_call 10; refine (awake_box w a b).mono ?_; rintro e w1 ⟨rfl, hb1, c1, c2⟩)
        | (go_at_call 19; refine (psticky_ok _ _ _ _ (by exact hS.out) hu).mono ?_; rintro e w2 ⟨rfl, hd2⟩; have c3 := (hd2.cell _).trans c1; have c4 := (hd2.cell _).trans c2)
        | (go_at_call 20; refine (rsticky_ok _ _ _ _ (by exact hS.out) hu).mono ?_; rintro e w3 ⟨rfl, hd3⟩; have c5 := (hd3.cell _).trans c3; have c6 := (hd3.cell _).trans c4))
      go_ret
      exact ⟨rfl, (hb1.1.drawn hd2).drawn hd3⟩
    have hS2 : Hid (0 ≤ a + m ∧ a + m ≤ b ∧ 1 ≤ b ∧ b ≤ 10000) := Lib.hid (by omega)
    by_cases hlt : u % b < a
    · have hlt2 : u % b < a + m := by omega
      have e1 := Lib.hid (decide_eq_true hlt)
      have e2 := Lib.hid (decide_eq_true hlt2)
      clear hlt hlt2
      go_enter Try.func7, Try.ntmps7
      go_wp2_with fail
      refine (awake_box w a b).mono ?_
      rintro e w1 ⟨rfl, hb1, c1, c2⟩
      go_wp2_with fail
      refine (psticky_ok _ _ _ _ (by exact hS.out) hu).mono ?_
      rintro e w2 ⟨rfl, hd2⟩
      rw [e1.out]
      have c3 := (hd2.cell _).trans c1
      have c4 := (hd2.cell _).trans c2
      go_wp2_with fail
      refine (rsticky_ok _ _ _ _ (by exact hS.out) hu).mono ?_
      rintro e w3 ⟨rfl, hd3⟩
      rw [e1.out]
      have c5 := (hd3.cell _).trans c3
      have c6 := (hd3.cell _).trans c4
      go_wp2_with fail
      refine (psticky_ok _ _ _ _ (by exact hS2.out) hu).mono ?_
      rintro e w4 ⟨rfl, hd4⟩
      rw [e2.out]
      go_wp2
      go_ret
      exact ⟨rfl, ((hb1.1.drawn hd2).drawn hd3).drawn hd4⟩
    · have e1 := Lib.hid (decide_eq_false hlt)
      clear hlt
      go_enter Try.func7, Try.ntmps7
      go_wp2_with fail
      refine (awake_box w a b).mono ?_
      rintro e w1 ⟨rfl, hb1, c1, c2⟩
      go_wp2_with fail
      refine (psticky_ok _ _ _ _ (by exact hS.out) hu).mono ?_
      rintro e w2 ⟨rfl, hd2⟩
      rw [e1.out]
      have c3 := (hd2.cell _).trans c1
      have c4 := (hd2.cell _).trans c2
      go_wp2_with fail
      refine (rsticky_ok _ _ _ _ (by exact hS.out) hu).mono ?_
      rintro e w3 ⟨rfl, hd3⟩
      rw [e1.out]
      have c5 := (hd3.cell _).trans c3
      have c6 := (hd3.cell _).trans c4
      go_wp2_with fail
      refine (psticky_ok _ _ _ _ (by exact hS2.out) hu).mono ?_
      rintro e w4 ⟨rfl, hd4⟩
      go_wp2
      go_ret
      exact ⟨rfl, ((hb1.1.drawn hd2).drawn hd3).drawn hd4⟩
  · replace hS := Lib.hid hS
    go_enter Try.func7, Try.ntmps7
    go_wp2_with (first
      | (go_at_call 10; refine (awake_box w a b).mono ?_; rintro e w1 ⟨rfl, hb1, c1, c2⟩)
      | (go_at_call 19; refine (psticky_bad _ _ _ _ (by exact hS.out)).mono ?_; rintro e w2 ⟨rfl, rfl⟩)
      | (go_at_call 20; refine (rsticky_bad _ _ _ _ (by exact hS.out)).mono ?_; rintro e w3 ⟨rfl, rfl⟩))
    go_ret
    exact ⟨rfl, hb1.1⟩
end Go.Proofs.Ytcdckemablkniaa
