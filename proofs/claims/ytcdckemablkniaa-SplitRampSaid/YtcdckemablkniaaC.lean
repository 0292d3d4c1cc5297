/-
  CONTRACT of split.Ramp over a slice of stages in memory.
  Conditions: those that each theorem names.
-/
import Derived.Test.YtcdckemablkniaaB
namespace Go.Proofs.Ytcdckemablkniaa
open Go.RowKit Go.Sv

abbrev Stg := List (Int × Int × Int)
def sN (l : Stg) (k : Nat) : Int := (l.getD k (0, 0, 0)).1
def sD (l : Stg) (k : Nat) : Int := (l.getD k (0, 0, 0)).2.1
def sR (l : Stg) (k : Nat) : Int := (l.getD k (0, 0, 0)).2.2

/-- a slice of stages that lies in memory -/
def Stages (w : World) (B : Nat) (A : Option Addr) (l : Stg) : Prop :=
  0 < l.length → ∃ b off, A = some ⟨b, off, none⟩ ∧ b < B ∧ ∀ k, k < l.length →
    w.cell? ⟨b, off + k * 3, none⟩ = some (.int .i64 (sN l k)) ∧ w.cell? ⟨b, off + k * 3 + 1, none⟩ = some (.int .i64 (sD l k)) ∧ w.cell? ⟨b, off + k * 3 + 2, none⟩ = some (.int .i64 (sR l k))

def bad1 (l : Stg) (k : Nat) : Bool := !okS (sN l k) (sD l k) || decide (sR l k < 1) || decide (1000000000000 < sR l k)
def bad2 (l : Stg) (k : Nat) : Bool := decide (0 < k) && decide (sN l k * sD l (k - 1) < sN l (k - 1) * sD l k)
def rampGo (l : Stg) (k : Nat) : Nat → Int
  | 0 => 0
  | f + 1 => if bad1 l k then 7 else if bad2 l k then 1 else rampGo l (k + 1) f
def rampE (l : Stg) : Int := if l.length = 0 then 10 else if 20 < l.length then 3 else rampGo l 0 l.length

theorem okS_bd {a b : Int} (h : okS a b = true) : 0 ≤ a ∧ a ≤ b ∧ 1 ≤ b ∧ b ≤ 10000 := okS_iff.1 h
theorem mul_bd2 {a b : Int} (h1 : 0 ≤ a) (h2 : a ≤ 10000) (h3 : 0 ≤ b) (h4 : b ≤ 10000) : 0 ≤ a * b ∧ a * b ≤ 100000000 := by
  constructor
  · exact Int.mul_nonneg h1 h3
  · calc a * b ≤ 10000 * b := Int.mul_le_mul_of_nonneg_right h2 h3
      _ ≤ 100000000 := by omega

theorem pvalid_any (a b : Int) (w : World) : Calls Try.prog 13 #[.int .i64 a, .int .i64 b] w fun e w' => e = .returned (.int .i64 (if okS a b then 0 else 7)) ∧ w = w' := by
  by_cases h : okS a b = true
  · rw [if_pos h]; exact pvalid_ok a b w (okS_iff.1 h)
  · rw [if_neg h]; exact pvalid_bad a b w (okS_no.1 (by simpa using h))
theorem rvalid_any (a b : Int) (w : World) : Calls Try.prog 14 #[.int .i64 a, .int .i64 b] w fun e w' => e = .returned (.int .i64 (if okS a b then 0 else 7)) ∧ w = w' := by
  by_cases h : okS a b = true
  · rw [if_pos h]; exact rvalid_ok a b w (okS_iff.1 h)
  · rw [if_neg h]; exact rvalid_bad a b w (okS_no.1 (by simpa using h))

theorem rampGo_b1 {l : Stg} {k : Nat} (hk : k < l.length) (h : bad1 l k = true) : rampGo l k (l.length - k) = 7 := by
  obtain ⟨f, hf⟩ : ∃ f, l.length - k = f + 1 := ⟨l.length - k - 1, by omega⟩
  rw [hf, rampGo, if_pos h]
theorem rampGo_b2 {l : Stg} {k : Nat} (hk : k < l.length) (h : bad1 l k = false) (h2 : bad2 l k = true) : rampGo l k (l.length - k) = 1 := by
  obtain ⟨f, hf⟩ : ∃ f, l.length - k = f + 1 := ⟨l.length - k - 1, by omega⟩
  rw [hf, rampGo, if_neg (by simp [h]), if_pos h2]
theorem rampGo_next {l : Stg} {k : Nat} (hk : k < l.length) (h : bad1 l k = false) (h2 : bad2 l k = false) : rampGo l k (l.length - k) = rampGo l (k + 1) (l.length - (k + 1)) := by
  obtain ⟨f, hf⟩ : ∃ f, l.length - k = f + 1 := ⟨l.length - k - 1, by omega⟩
  have e : l.length - (k + 1) = f := by omega
  rw [hf, rampGo, if_neg (by simp [h]), if_neg (by simp [h2]), e]

set_option maxHeartbeats 2000000 in
theorem pramp_go (A : Option Addr) (c : Nat) (l : Stg) (w : World) (hl : Stages w w.heap.size A l) (h1 : 0 < l.length) (h2 : l.length ≤ 20) :
    Calls Try.prog 21 #[.slice A l.length c] w fun e w' => e = .returned (.int .i64 (rampGo l 0 l.length)) ∧ Below w.heap.size w w' := by
  obtain ⟨b, off, rfl, hb, hc⟩ := hl h1
  replace hl := Lib.hid hl
  have z1 : ((l.length : Int) == 0) = false := by rw [beq_eq_false_iff_ne]; omega
  have z2 : decide ((20 : Int) < (l.length : Int)) = false := by simp; omega
  go_enter Try.func21, Try.ntmps21
  go_wp2
  go_loopw [13] (fun i wr => ∃ k : Nat, k ≤ l.length ∧ i = .int .i64 k ∧ (∀ j, j < k → okS (sN l j) (sD l j) = true) ∧ rampGo l 0 l.length = rampGo l k (l.length - k) ∧ Below w.heap.size w wr) (fun i _ => l.length - (intOf i).toNat)
  case atStart => exact ⟨0, Nat.zero_le _, rfl, fun j hj => by omega, rfl, Below.refl _ _⟩
  case round =>
    obtain ⟨k, hk, rfl, hok, hr, hbel⟩ := hrel
    replace hok := Lib.hid hok
    replace hr := Lib.hid hr
    by_cases hlt : k < l.length
    · obtain ⟨c1, c2, c3⟩ := hc k hlt
      have d1 := (hbel.cell (p := ⟨b, off + k * 3, none⟩) hb).trans c1
      have d2 := (hbel.cell (p := ⟨b, off + k * 3 + 1, none⟩) hb).trans c2
      have d3 := (hbel.cell (p := ⟨b, off + k * 3 + 2, none⟩) hb).trans c3
      clear c1 c2 c3
      have hbs := hbel.size
      have hbw : b < wr.heap.size := by omega
      have hbw2 : ¬ b = wr.heap.size := by omega
      by_cases g1 : okS (sN l k) (sD l k) = true
      · have G1 := Lib.hid g1
        obtain ⟨q1, q2, q3, q4⟩ := okS_bd g1
        clear g1
        by_cases g2 : sR l k < 1
        · have E : Hid (rampGo l 0 l.length = 7) := Lib.hid (hr.out.trans (rampGo_b1 hlt (by simp [bad1, g2])))
          replace hc := Lib.hid hc
          go_wp2_with (go_at_call 13; refine (pvalid_ok _ _ _ (by omega)).mono ?_; rintro e w' ⟨rfl, rfl⟩)
          go_ret
          exact ⟨ret_i E.out.symm, hbel.alloc hbs _⟩
        by_cases g3 : 1000000000000 < sR l k
        · have E : Hid (rampGo l 0 l.length = 7) := Lib.hid (hr.out.trans (rampGo_b1 hlt (by simp [bad1, g3])))
          replace hc := Lib.hid hc
          go_wp2_with (go_at_call 13; refine (pvalid_ok _ _ _ (by omega)).mono ?_; rintro e w' ⟨rfl, rfl⟩)
          go_ret
          exact ⟨ret_i E.out.symm, hbel.alloc hbs _⟩
        have B1 : Hid (bad1 l k = false) := Lib.hid (by simp [bad1, G1.out, g2, g3])
        by_cases hk0 : 0 < k
        · obtain ⟨p1, p2, p3, p4⟩ := okS_bd (hok.out (k - 1) (by omega))
          obtain ⟨c1, c2, c3⟩ := hc (k - 1) (by omega)
          have e1 := (hbel.cell (p := ⟨b, off + (k - 1) * 3, none⟩) hb).trans c1
          have e2 := (hbel.cell (p := ⟨b, off + (k - 1) * 3 + 1, none⟩) hb).trans c2
          clear c1 c2 c3
          have m1 := mul_bd2 q1 (by omega) (by omega : 0 ≤ sD l (k - 1)) p4
          have m2 := mul_bd2 p1 (by omega) (by omega : 0 ≤ sD l k) q4
          replace hc := Lib.hid hc
          have i1 : IntKind.i64.wrap ((k : Int) - 1) = (k : Int) - 1 := IntWalk.i64_in _ (by omega)
          have i2 : ((k : Int) - 1).toNat = k - 1 := by omega
          have i3 : (0 : Int) ≤ (k : Int) - 1 := by omega
          have i4 : (k : Int) - 1 < (l.length : Int) := by omega
          have i3b : (1 : Int) ≤ (k : Int) := by omega
          have i5 : IntKind.i64.wrap (sN l k * sD l (k - 1)) = sN l k * sD l (k - 1) := IntWalk.i64_in _ (by omega)
          have i6 : IntKind.i64.wrap (sN l (k - 1) * sD l k) = sN l (k - 1) * sD l k := IntWalk.i64_in _ (by omega)
          by_cases g4 : sN l k * sD l (k - 1) < sN l (k - 1) * sD l k
          · have E : Hid (rampGo l 0 l.length = 1) := Lib.hid (hr.out.trans (rampGo_b2 hlt B1.out (by simp [bad2, hk0, g4])))
            have hd : decide (0 < (k : Int)) = true := by simpa using hk0
            go_wp2_with (go_at_call 13; refine (pvalid_ok _ _ _ (by omega)).mono ?_; rintro e w' ⟨rfl, rfl⟩)
            go_quiet (fail)
            go_wp2
            go_ret
            exact ⟨ret_i E.out.symm, below_drewN (hbel.alloc hbs _) _⟩
          · have E : Hid (rampGo l 0 l.length = rampGo l (k + 1) (l.length - (k + 1))) := Lib.hid (hr.out.trans (rampGo_next hlt B1.out (by simp [bad2, g4])))
            have hd : decide (0 < (k : Int)) = true := by simpa using hk0
            go_wp2_with (go_at_call 13; refine (pvalid_ok _ _ _ (by omega)).mono ?_; rintro e w' ⟨rfl, rfl⟩)
            go_quiet (fail)
            go_wp2
            go_roundw
            case rel => exact ⟨k + 1, by omega, by go_num, fun j hj => by (rcases Nat.lt_succ_iff_lt_or_eq.1 hj with h | h; exact hok.out j h; rw [h]; exact G1.out), E.out, below_drewN (hbel.alloc hbs _) _⟩
            case measure => simp [intOf]; omega
        · have hd : decide (0 < (k : Int)) = false := by simp; omega
          have E : Hid (rampGo l 0 l.length = rampGo l (k + 1) (l.length - (k + 1))) := Lib.hid (hr.out.trans (rampGo_next hlt B1.out (by simp [bad2, hk0])))
          replace hc := Lib.hid hc
          go_wp2_with (go_at_call 13; refine (pvalid_ok _ _ _ (by omega)).mono ?_; rintro e w' ⟨rfl, rfl⟩)
          go_quiet (fail)
          go_wp2
          go_roundw
          case rel => exact ⟨k + 1, by omega, by go_num, fun j hj => by (rcases Nat.lt_succ_iff_lt_or_eq.1 hj with h | h; exact hok.out j h; rw [h]; exact G1.out), E.out, below_drewN (hbel.alloc hbs _) _⟩
          case measure => simp [intOf]; omega
      · have g1' : okS (sN l k) (sD l k) = false := by simpa using g1
        have E : Hid (rampGo l 0 l.length = 7) := Lib.hid (hr.out.trans (rampGo_b1 hlt (by simp [bad1, g1'])))
        have G1 := Lib.hid (okS_no.1 g1')
        clear g1 g1'
        replace hc := Lib.hid hc
        go_wp2_with (go_at_call 13; refine (pvalid_bad _ _ _ (by exact G1.out)).mono ?_; rintro e w' ⟨rfl, rfl⟩)
        go_ret
        exact ⟨ret_i E.out.symm, hbel.alloc hbs _⟩
    · obtain rfl : k = l.length := by omega
      have E : Hid (rampGo l 0 l.length = 0) := Lib.hid (hr.out.trans (by rw [Nat.sub_self]; rfl))
      replace hc := Lib.hid hc
      go_wp2
      go_ret
      exact ⟨ret_i E.out.symm, hbel⟩
end Go.Proofs.Ytcdckemablkniaa
