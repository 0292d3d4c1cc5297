/-
  THE LAW sheavetop.TopShares: it returns true.
  Conditions: none but the arguments' form.
-/
import Derived.Test.YtickckehhfdoeaaTopO
namespace Go.Proofs.Ytickckehhfdoeaa
open Go.RowKit Go.Sv
theorem share_bd {a b k : Int} (h : okSp a b) (h0 : 0 ≤ k) : 0 ≤ k * a / b ∧ k * a / b ≤ k ∧ (k * a / b) * b ≤ k * a ∧ k * a < (k * a / b) * b + b := by
  obtain ⟨h1, h2, h3, -⟩ := h
  have hb : 0 < b := by omega
  refine ⟨Int.ediv_nonneg (Int.mul_nonneg h0 h1) (by omega), ?_, Int.ediv_mul_le _ (by omega), ?_⟩
  · apply Int.ediv_le_of_le_mul hb
    exact Int.mul_le_mul_of_nonneg_left h2 h0
  · have := Int.lt_ediv_add_one_mul_self (k * a) hb
    rw [Int.add_mul, Int.one_mul] at this
    exact this
theorem share_law {a b k n x y : Int} (h : okSp a b) (h0 : 0 ≤ k) (h1 : k ≤ 500000000000) (h2 : 0 ≤ n) (h3 : n ≤ 500000000000) (hx : k * a / b = x) (hy : (k + n) * a / b = y) :
    0 ≤ x ∧ x ≤ 1000000000000 ∧ 0 ≤ y ∧ y ≤ 1000000000000 ∧ 0 ≤ n * a ∧ n * a ≤ 10000000000010000 ∧ -20000000000010000 ≤ (y - x) * b ∧ (y - x) * b ≤ 20000000000010000 ∧ (y - x) * b - n * a < b ∧ -b < (y - x) * b - n * a := by
  obtain ⟨x0, x1, x2, x3⟩ := share_bd h h0
  obtain ⟨y0, y1, y2, y3⟩ := share_bd (k := k + n) h (by omega)
  rw [hx] at x0 x1 x2 x3
  rw [hy] at y0 y1 y2 y3
  obtain ⟨g1, g2, g3, g4⟩ := h
  have bn := mul_bd a n g1 (by omega) h2 (by omega)
  rw [Int.add_mul] at y2 y3
  rw [Int.sub_mul]
  refine ⟨x0, by omega, y0, by omega, bn.1, bn.2, ?_, ?_, ?_, ?_⟩ <;> omega

set_option maxHeartbeats 2000000 in
set_option maxRecDepth 100000 in
theorem shares_any (a b k n : Int) (w : World) :
    Calls Try.prog 3 #[.int .i64 a, .int .i64 b, .agg #[.int .i64 k, .int .i64 n]] w (fun e w' => e = .returned (.bool true) ∧ Below w.heap.size w w') := by
  have S := (Fm.init w).box 22 [.int .i64 k, .int .i64 n]
  obtain ⟨W, hW, S⟩ : ∃ W, w.alloc (.cells #[.int .i64 k, .int .i64 n] 22) = W ∧ Fm w W _ _ := ⟨_, rfl, S⟩
  obtain ⟨⟨r2, f2, r20, r21, -⟩, -⟩ := S.facts
  have hb : Hid (Below w.heap.size w W) := Lib.hid S.bel
  clear S
  have HA := Lib.hid (fun W => awake_any W)
  go_enter Try.func3, Try.ntmps3
  go_wp2_with fail
  clear hW
  have HB := Lib.hid hb.out.size
  go_region_held3 (fun w' => w'.cell? ⟨w.heap.size, 0, none⟩ = some (.int .i64 k) ∧ w'.cell? ⟨w.heap.size, 1, none⟩ = some (.int .i64 n)) (go_keep) (fail)
  go_wp2_with fail
  with_reducible refine (HA.out _).mono ?_
  rintro e w2 ⟨rfl, hb2⟩
  have hc2 : Hid (Below w.heap.size w w2) := Lib.hid (hb.out.trans (Below.mono ((Below.refl _ _).drew.trans hb2) hb.out.size))
  clear hb2 HB hb r20 r21 f2 r2
  by_cases hok : okSp a b
  rotate_left
  · have HV := Lib.hid (fun W => svld_bad a b W hok)
    clear hok
    go_wp2_with fail
    with_reducible refine (HV.out _).mono ?_
    rintro e w4 ⟨rfl, rfl⟩
    go_wp2_with fail
    with_reducible refine (HA.out _).mono ?_
    rintro e w3 ⟨rfl, hb3⟩
    go_wp2
    go_ret
    exact ⟨rfl, hc2.out.trans (hb3.mono hc2.out.size)⟩
  have HV := Lib.hid (fun W => svld_ok a b W hok)
  replace hok := Lib.hid hok
  by_cases h1 : k < 0
  · clear hok
    go_wp2_with fail
    with_reducible refine (HV.out _).mono ?_
    rintro e w4 ⟨rfl, rfl⟩
    go_wp2_with fail
    with_reducible refine (HA.out _).mono ?_
    rintro e w3 ⟨rfl, hb3⟩
    go_wp2
    go_ret
    exact ⟨rfl, hc2.out.trans (hb3.mono hc2.out.size)⟩
  by_cases h2 : n < 0
  · clear hok
    go_wp2_with fail
    with_reducible refine (HV.out _).mono ?_
    rintro e w4 ⟨rfl, rfl⟩
    go_wp2_with fail
    with_reducible refine (HA.out _).mono ?_
    rintro e w3 ⟨rfl, hb3⟩
    go_wp2
    go_ret
    exact ⟨rfl, hc2.out.trans (hb3.mono hc2.out.size)⟩
  by_cases h3 : 500000000000 < k
  · clear hok
    go_wp2_with fail
    with_reducible refine (HV.out _).mono ?_
    rintro e w4 ⟨rfl, rfl⟩
    go_wp2_with fail
    with_reducible refine (HA.out _).mono ?_
    rintro e w3 ⟨rfl, hb3⟩
    go_wp2
    go_ret
    exact ⟨rfl, hc2.out.trans (hb3.mono hc2.out.size)⟩
  by_cases h4 : 500000000000 < n
  · clear hok
    go_wp2_with fail
    with_reducible refine (HV.out _).mono ?_
    rintro e w4 ⟨rfl, rfl⟩
    go_wp2_with fail
    with_reducible refine (HA.out _).mono ?_
    rintro e w3 ⟨rfl, hb3⟩
    go_wp2
    go_ret
    exact ⟨rfl, hc2.out.trans (hb3.mono hc2.out.size)⟩
  obtain ⟨x, hx⟩ : ∃ x, k * a / b = x := ⟨_, rfl⟩
  obtain ⟨y, hy⟩ : ∃ y, (k + n) * a / b = y := ⟨_, rfl⟩
  have HX := Lib.hid (fun W => scnt_ok a b k W hok.out (by omega) (by omega))
  have HY := Lib.hid (fun W => scnt_ok a b (k + n) W hok.out (by omega) (by omega))
  obtain ⟨x0, x1, y0, y1, n0, n1, m0, m1, d0, d1⟩ := share_law hok.out (by omega) (by omega) (by omega) (by omega) hx hy
  rw [hx] at HX
  rw [hy] at HY
  have hbb : 1 ≤ b ∧ b ≤ 10000 := ⟨hok.out.2.2.1, hok.out.2.2.2⟩
  obtain ⟨g1, g2⟩ := hbb
  clear hx hy
  go_wp2_with fail
  with_reducible refine (HV.out _).mono ?_
  rintro e w4 ⟨rfl, rfl⟩
  go_wp2_with fail
  with_reducible refine (HX.out _).mono ?_
  rintro e w4 ⟨rfl, rfl⟩
  go_wp2_with fail
  with_reducible refine (HY.out _).mono ?_
  rintro e w4 ⟨rfl, rfl⟩
  go_wp2
  go_ret
  exact ⟨rfl, hc2.out⟩
end Go.Proofs.Ytickckehhfdoeaa
