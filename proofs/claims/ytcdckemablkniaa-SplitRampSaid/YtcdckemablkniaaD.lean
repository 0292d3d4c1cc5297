/-
  CONTRACTS of the reference's Ramp and of split.At.
  Conditions: those that each theorem names.
-/
import Derived.Test.YtcdckemablkniaaC
namespace Go.Proofs.Ytcdckemablkniaa
open Go.RowKit Go.Sv

set_option maxHeartbeats 2000000 in
theorem rramp_go (A : Option Addr) (c : Nat) (l : Stg) (w : World) (hl : Stages w w.heap.size A l) (h1 : 0 < l.length) (h2 : l.length ≤ 20) :
    Calls Try.prog 17 #[.slice A l.length c] w fun e w' => e = .returned (.int .i64 (rampGo l 0 l.length)) ∧ Drawn w w' := by
  obtain ⟨b, off, rfl, hb, hc⟩ := hl h1
  replace hl := Lib.hid hl
  have z1 : ((l.length : Int) == 0) = false := by rw [beq_eq_false_iff_ne]; omega
  have z2 : decide ((20 : Int) < (l.length : Int)) = false := by simp; omega
  go_enter Try.func17, Try.ntmps17
  go_wp2
  go_loopw [3] (fun i wr => ∃ k : Nat, k ≤ l.length ∧ i = .int .i64 k ∧ (∀ j, j < k → okS (sN l j) (sD l j) = true) ∧ rampGo l 0 l.length = rampGo l k (l.length - k) ∧ Drawn w wr) (fun i _ => l.length - (intOf i).toNat)
  case atStart => exact ⟨0, Nat.zero_le _, rfl, fun j hj => by omega, rfl, Drawn.refl _⟩
  case round =>
    obtain ⟨k, hk, rfl, hok, hr, hbel⟩ := hrel
    replace hok := Lib.hid hok
    replace hr := Lib.hid hr
    by_cases hlt : k < l.length
    · obtain ⟨c1, c2, c3⟩ := hc k hlt
      have d1 := (hbel.cell ⟨b, off + k * 3, none⟩).trans c1
      have d2 := (hbel.cell ⟨b, off + k * 3 + 1, none⟩).trans c2
      have d3 := (hbel.cell ⟨b, off + k * 3 + 2, none⟩).trans c3
      clear c1 c2 c3
      replace hbel := Lib.hid hbel
      have j1 : (k : Int) < (l.length : Int) := by omega
      by_cases g1 : okS (sN l k) (sD l k) = true
      · have G1 := Lib.hid g1
        obtain ⟨q1, q2, q3, q4⟩ := okS_bd g1
        clear g1
        by_cases g2 : sR l k < 1
        · have E : Hid (rampGo l 0 l.length = 7) := Lib.hid (hr.out.trans (rampGo_b1 hlt (by simp [bad1, g2])))
          replace hc := Lib.hid hc
          go_wp2_with fail
          go_quiet ((go_at_call 14; exact quiet_l (rvalid_ok _ _ _ (by omega))))
          go_wp2
          go_ret
          exact ⟨ret_i E.out.symm, by repeat (first | exact hbel.out | apply Drawn.drewN)⟩
        by_cases g3 : 1000000000000 < sR l k
        · have E : Hid (rampGo l 0 l.length = 7) := Lib.hid (hr.out.trans (rampGo_b1 hlt (by simp [bad1, g3])))
          replace hc := Lib.hid hc
          have g2' : decide (sR l k < 1) = false := by simpa using g2
          go_wp2_with fail
          go_quiet ((go_at_call 14; exact quiet_l (rvalid_ok _ _ _ (by omega))))
          go_wp2
          go_ret
          exact ⟨ret_i E.out.symm, by repeat (first | exact hbel.out | apply Drawn.drewN)⟩
        have B1 : Hid (bad1 l k = false) := Lib.hid (by simp [bad1, G1.out, g2, g3])
        have g2' : decide (sR l k < 1) = false := by simpa using g2
        have g3' : decide (1000000000000 < sR l k) = false := by simpa using g3
        by_cases hk0 : 0 < k
        · obtain ⟨p1, p2, p3, p4⟩ := okS_bd (hok.out (k - 1) (by omega))
          obtain ⟨c1, c2, c3⟩ := hc (k - 1) (by omega)
          have e1 := (hbel.out.cell ⟨b, off + (k - 1) * 3, none⟩).trans c1
          have e2 := (hbel.out.cell ⟨b, off + (k - 1) * 3 + 1, none⟩).trans c2
          clear c1 c2 c3
          have m1 := mul_bd2 q1 (by omega) (by omega : 0 ≤ sD l (k - 1)) p4
          have m2 := mul_bd2 p1 (by omega) (by omega : 0 ≤ sD l k) q4
          replace hc := Lib.hid hc
          have i1 : IntKind.i64.wrap ((k : Int) - 1) = (k : Int) - 1 := IntWalk.i64_in _ (by omega)
          have i2 : ((k : Int) - 1).toNat = k - 1 := by omega
          have i3 : (0 : Int) ≤ (k : Int) - 1 := by omega
          have i4 : (k : Int) - 1 < (l.length : Int) := by omega
          have i3b : (1 : Int) ≤ (k : Int) := by omega
          have i5 : IntKind.i64.wrap (sN l k * sD l (k - 1)) = sN l k * sD l (k - 1) := IntWalk.i64_in _ (by omega)
          have i6 : IntKind.i64.wrap (sN l (k - 1) * sD l k) = sN l (k - 1) * sD l k := IntWalk.i64_in _ (by omega)
          have hd : decide (0 < (k : Int)) = true := by simpa using hk0
          by_cases g4 : sN l k * sD l (k - 1) < sN l (k - 1) * sD l k
          · have E : Hid (rampGo l 0 l.length = 1) := Lib.hid (hr.out.trans (rampGo_b2 hlt B1.out (by simp [bad2, hk0, g4])))
            go_wp2_with fail
            go_quiet ((go_at_call 14; exact quiet_l (rvalid_ok _ _ _ (by omega))))
            go_wp2
            go_quiet (fail)
            go_wp2
            go_ret
            exact ⟨ret_i E.out.symm, by repeat (first | exact hbel.out | apply Drawn.drewN)⟩
          · have E : Hid (rampGo l 0 l.length = rampGo l (k + 1) (l.length - (k + 1))) := Lib.hid (hr.out.trans (rampGo_next hlt B1.out (by simp [bad2, g4])))
            go_wp2_with fail
            go_quiet ((go_at_call 14; exact quiet_l (rvalid_ok _ _ _ (by omega))))
            go_wp2
            go_quiet (fail)
            go_wp2
            go_roundw
            case rel => exact ⟨k + 1, by omega, by go_num, fun j hj => by (rcases Nat.lt_succ_iff_lt_or_eq.1 hj with h | h; exact hok.out j h; rw [h]; exact G1.out), E.out, by repeat (first | exact hbel.out | apply Drawn.drewN)⟩
            case measure => simp [intOf]; omega
        · have hd : decide (0 < (k : Int)) = false := by simp; omega
          have E : Hid (rampGo l 0 l.length = rampGo l (k + 1) (l.length - (k + 1))) := Lib.hid (hr.out.trans (rampGo_next hlt B1.out (by simp [bad2, hk0])))
          replace hc := Lib.hid hc
          go_wp2_with fail
          go_quiet ((go_at_call 14; exact quiet_l (rvalid_ok _ _ _ (by omega))))
          go_wp2
          go_quiet (fail)
          go_wp2
          go_roundw
          case rel => exact ⟨k + 1, by omega, by go_num, fun j hj => by (rcases Nat.lt_succ_iff_lt_or_eq.1 hj with h | h; exact hok.out j h; rw [h]; exact G1.out), E.out, by repeat (first | exact hbel.out | apply Drawn.drewN)⟩
          case measure => simp [intOf]; omega
      · have g1' : okS (sN l k) (sD l k) = false := by simpa using g1
        have E : Hid (rampGo l 0 l.length = 7) := Lib.hid (hr.out.trans (rampGo_b1 hlt (by simp [bad1, g1'])))
        have G1 := Lib.hid (okS_no.1 g1')
        clear g1 g1'
        replace hc := Lib.hid hc
        go_wp2_with fail
        go_quiet ((go_at_call 14; exact quiet_l (rvalid_bad _ _ _ (by exact G1.out))))
        go_wp2
        go_ret
        exact ⟨ret_i E.out.symm, by repeat (first | exact hbel.out | apply Drawn.drewN)⟩
    · obtain rfl : k = l.length := by omega
      have E : Hid (rampGo l 0 l.length = 0) := Lib.hid (hr.out.trans (by rw [Nat.sub_self]; rfl))
      replace hc := Lib.hid hc
      go_wp2
      go_ret
      exact ⟨ret_i E.out.symm, hbel⟩

theorem rampE_0 {l : Stg} (h : l.length = 0) : rampE l = 10 := by unfold rampE; rw [if_pos h]
theorem rampE_20 {l : Stg} (h : 20 < l.length) : rampE l = 3 := by unfold rampE; rw [if_neg (by omega), if_pos h]
theorem rampE_go {l : Stg} (h1 : 0 < l.length) (h2 : l.length ≤ 20) : rampE l = rampGo l 0 l.length := by unfold rampE; rw [if_neg (by omega), if_neg (by omega)]

theorem pramp_any (A : Option Addr) (c : Nat) (l : Stg) (w : World) (hl : Stages w w.heap.size A l) :
    Calls Try.prog 21 #[.slice A l.length c] w fun e w' => e = .returned (.int .i64 (rampE l)) ∧ Below w.heap.size w w' := by
  by_cases h1 : l.length = 0
  · have E := Lib.hid (rampE_0 h1)
    have z1 : ((l.length : Int) == 0) = true := by rw [beq_iff_eq]; omega
    clear h1 hl
    go_enter Try.func21, Try.ntmps21
    go_wp2
    go_ret
    exact ⟨ret_i E.out.symm, Below.refl _ _⟩
  by_cases h2 : 20 < l.length
  · have E := Lib.hid (rampE_20 h2)
    have z1 : ((l.length : Int) == 0) = false := by rw [beq_eq_false_iff_ne]; omega
    have z2 : decide ((20 : Int) < (l.length : Int)) = true := by simp; omega
    clear h1 hl
    go_enter Try.func21, Try.ntmps21
    go_wp2
    go_ret
    exact ⟨ret_i E.out.symm, Below.refl _ _⟩
  · rw [rampE_go (by omega) (by omega)]
    exact pramp_go A c l w hl (by omega) (by omega)

theorem rramp_any (A : Option Addr) (c : Nat) (l : Stg) (w : World) (hl : Stages w w.heap.size A l) :
    Calls Try.prog 17 #[.slice A l.length c] w fun e w' => e = .returned (.int .i64 (rampE l)) ∧ Drawn w w' := by
  by_cases h1 : l.length = 0
  · have E := Lib.hid (rampE_0 h1)
    have z1 : ((l.length : Int) == 0) = true := by rw [beq_iff_eq]; omega
    clear h1 hl
    go_enter Try.func17, Try.ntmps17
    go_wp2
    go_ret
    exact ⟨ret_i E.out.symm, Drawn.refl _⟩
  by_cases h2 : 20 < l.length
  · have E := Lib.hid (rampE_20 h2)
    have z1 : ((l.length : Int) == 0) = false := by rw [beq_eq_false_iff_ne]; omega
    have z2 : decide ((20 : Int) < (l.length : Int)) = true := by simp; omega
    clear h1 hl
    go_enter Try.func17, Try.ntmps17
    go_wp2
    go_ret
    exact ⟨ret_i E.out.symm, Drawn.refl _⟩
  · rw [rampE_go (by omega) (by omega)]
    exact rramp_go A c l w hl (by omega) (by omega)

theorem bad1_ok {l : Stg} {k : Nat} (h : bad1 l k = false) : (0 ≤ sN l k ∧ sN l k ≤ sD l k ∧ 1 ≤ sD l k ∧ sD l k ≤ 10000) ∧ 1 ≤ sR l k ∧ sR l k ≤ 1000000000000 := by
  simp only [bad1, Bool.or_eq_false_iff, Bool.not_eq_false', decide_eq_false_iff_not] at h
  exact ⟨okS_bd h.1.1, by omega, by omega⟩
theorem rampGo_all {l : Stg} : ∀ (f k : Nat), rampGo l k f = 0 → ∀ j, k ≤ j → j < k + f → bad1 l j = false
  | 0, k, _, j, h1, h2 => by omega
  | f + 1, k, h, j, h1, h2 => by
    rw [rampGo] at h
    by_cases b : bad1 l k = true
    · rw [if_pos b] at h; omega
    rw [if_neg b] at h
    by_cases b2 : bad2 l k = true
    · rw [if_pos b2] at h; omega
    rw [if_neg b2] at h
    by_cases e : j = k
    · rw [e]; simpa using b
    · exact rampGo_all f (k + 1) h j (by omega) (by omega)
theorem rampE_all {l : Stg} (h : rampE l = 0) : 0 < l.length ∧ l.length ≤ 20 ∧ ∀ j, j < l.length → (0 ≤ sN l j ∧ sN l j ≤ sD l j ∧ 1 ≤ sD l j ∧ sD l j ≤ 10000) ∧ 1 ≤ sR l j ∧ sR l j ≤ 1000000000000 := by
  unfold rampE at h
  split at h
  · omega
  split at h
  · omega
  · exact ⟨by omega, by omega, fun j hj => bad1_ok (rampGo_all _ _ h j (by omega) (by omega))⟩

/-- the stage of a request, and its number there -/
def locG (l : Stg) (i : Nat) (k : Int) : Nat → Nat × Int
  | 0 => (i, k)
  | f + 1 => if i + 1 < l.length ∧ sR l i ≤ k then locG l (i + 1) (k - sR l i) f else (i, k)
def atR (l : Stg) (k : Int) : Int × Bool × Int :=
  if rampE l = 0 then (if 0 ≤ k ∧ k ≤ 1000000000000 then (((locG l 0 k l.length).1 : Int), goes (sN l (locG l 0 k l.length).1) (sD l (locG l 0 k l.length).1) (locG l 0 k l.length).2, 0) else (0, false, 7)) else (0, false, rampE l)
theorem locG_stop {l : Stg} {i f : Nat} {k : Int} (h : ¬ (i + 1 < l.length ∧ sR l i ≤ k)) : locG l i k f = (i, k) := by
  cases f with
  | zero => rfl
  | succ f => rw [locG, if_neg h]
theorem locG_go {l : Stg} {i : Nat} {k : Int} (h1 : i + 1 < l.length) (h2 : sR l i ≤ k) : locG l i k (l.length - i) = locG l (i + 1) (k - sR l i) (l.length - (i + 1)) := by
  obtain ⟨f, hf⟩ : ∃ f, l.length - i = f + 1 := ⟨l.length - i - 1, by omega⟩
  have e : l.length - (i + 1) = f := by omega
  rw [hf, locG, if_pos ⟨h1, h2⟩, e]

def atV (l : Stg) (k : Int) : Value := .tuple #[.int .i64 (atR l k).1, .bool (atR l k).2.1, .int .i64 (atR l k).2.2]

set_option maxHeartbeats 2000000 in
theorem pat_any (A : Option Addr) (c : Nat) (l : Stg) (k : Int) (w : World) (hl : Stages w w.heap.size A l) :
    Calls Try.prog 18 #[.slice A l.length c, .int .i64 k] w fun e w' => e = .returned (atV l k) ∧ Below w.heap.size w w' := by
  by_cases hE : rampE l = 0
  · obtain ⟨n1, n2, hall⟩ := rampE_all hE
    replace hE := Lib.hid hE
    by_cases hk : 0 ≤ k ∧ k ≤ 1000000000000
    · have E : Hid (atR l k = (((locG l 0 k l.length).1 : Int), goes (sN l (locG l 0 k l.length).1) (sD l (locG l 0 k l.length).1) (locG l 0 k l.length).2, 0)) := Lib.hid (by unfold atR; rw [if_pos hE.out, if_pos hk])
      obtain ⟨k1, k2⟩ := hk
      obtain ⟨b, off, rfl, hb, hc⟩ := id (hl n1)
      have hl := Lib.hid hl
      replace hall := Lib.hid hall
      replace hc := Lib.hid hc
      have y1 : decide (k < 0) = false := by simp; omega
      have y2 : decide (1000000000000 < k) = false := by simp; omega
      go_enter Try.func18, Try.ntmps18
      go_wp2_with (go_at_call 21; refine (pramp_any _ _ _ _ (by exact hl.out)).mono ?_; rintro e w1 ⟨rfl, hb1⟩; rw [hE.out])
      go_loopw [1, 8] (fun kv i wr => ∃ (j : Nat) (q : Int), j < l.length ∧ i = .int .i64 j ∧ kv = .int .i64 q ∧ 0 ≤ q ∧ q ≤ 1000000000000 ∧ locG l 0 k l.length = locG l j q (l.length - j) ∧ Drawn w1 wr) (fun _ i _ => l.length - (intOf i).toNat)
      case atStart => exact ⟨0, k, n1, rfl, rfl, k1, k2, rfl, Drawn.refl _⟩
      case round =>
        obtain ⟨j, q, hj, rfl, rfl, q1, q2, hloc, hdr⟩ := hrel
        replace hb1 := Below.drawn hb1 hdr
        replace hdr := Lib.hid hdr
        replace hloc := Lib.hid hloc
        obtain ⟨⟨a1, a2, a3, a4⟩, a5, a6⟩ := hall.out j hj
        obtain ⟨c1, c2, c3⟩ := hc.out j hj
        have d1 := (hb1.cell (p := ⟨b, off + j * 3, none⟩) hb).trans c1
        have d2 := (hb1.cell (p := ⟨b, off + j * 3 + 1, none⟩) hb).trans c2
        have d3 := (hb1.cell (p := ⟨b, off + j * 3 + 2, none⟩) hb).trans c3
        clear c1 c2 c3
        by_cases hgo : j + 1 < l.length ∧ sR l j ≤ q
        · obtain ⟨g1, g2⟩ := hgo
          have E2 := Lib.hid (hloc.out.trans (locG_go g1 g2))
          have x1 : decide ((j : Int) < (l.length : Int) - 1) = true := by simp; omega
          go_wp2
          go_roundw
          case rel => exact ⟨j + 1, _, g1, by go_num, rfl, by omega, by omega, E2.out, hdr.out⟩
          case measure => simp [intOf]; omega
        · have E2 := Lib.hid (hloc.out.trans (locG_stop hgo))
          have hokn : Hid (okN (sN l j) (sD l j) q) := Lib.hid ⟨⟨a1, a2, a3, a4⟩, q1, q2⟩
          have jj : (j : Int) < (l.length : Int) := by omega
          by_cases g1 : j + 1 < l.length
          · have g2 : ¬ sR l j ≤ q := fun h => hgo ⟨g1, h⟩
            clear hgo
            have x1 : decide ((j : Int) < (l.length : Int) - 1) = true := by simp; omega
            go_wp2_with fail
            go_quiet ((go_at_call 11; exact quiet_d (pnext_ok _ _ _ _ (by exact hokn.out))))
            go_wp2
            go_ret3
            refine ⟨?_, below_drewN hb1 _⟩
            unfold atV
            rw [E.out, E2.out]
            rfl
          · clear hgo
            have x1 : decide ((j : Int) < (l.length : Int) - 1) = false := by simp; omega
            go_wp2_with fail
            go_quiet ((go_at_call 11; exact quiet_d (pnext_ok _ _ _ _ (by exact hokn.out))))
            go_wp2
            go_ret3
            refine ⟨?_, below_drewN hb1 _⟩
            unfold atV
            rw [E.out, E2.out]
            rfl
    · have E : Hid (atV l k = .tuple #[.int .i64 0, .bool false, .int .i64 7]) := Lib.hid (by unfold atV atR; rw [if_pos hE.out, if_neg hk])
      have hl := Lib.hid hl
      replace hall := Lib.hid hall
      by_cases y : k < 0
      · clear hk
        go_enter Try.func18, Try.ntmps18
        go_wp2_with (go_at_call 21; refine (pramp_any _ _ _ _ (by exact hl.out)).mono ?_; rintro e w1 ⟨rfl, hb1⟩; rw [hE.out])
        go_ret3
        exact ⟨by rw [E.out]; rfl, hb1⟩
      · have y2 : 1000000000000 < k := by omega
        clear hk
        go_enter Try.func18, Try.ntmps18
        go_wp2_with (go_at_call 21; refine (pramp_any _ _ _ _ (by exact hl.out)).mono ?_; rintro e w1 ⟨rfl, hb1⟩; rw [hE.out])
        go_ret3
        exact ⟨by rw [E.out]; rfl, hb1⟩
  · have E : Hid (atV l k = .tuple #[.int .i64 0, .bool false, .int .i64 (rampE l)]) := Lib.hid (by unfold atV atR; rw [if_neg hE])
    have hl := Lib.hid hl
    have hE : (rampE l != 0) = true := by simpa using hE
    go_enter Try.func18, Try.ntmps18
    go_wp2_with (go_at_call 21; refine (pramp_any _ _ _ _ (by exact hl.out)).mono ?_; rintro e w1 ⟨rfl, hb1⟩)
    go_ret3
    exact ⟨by rw [E.out]; rfl, hb1⟩
end Go.Proofs.Ytcdckemablkniaa
