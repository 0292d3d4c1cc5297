/-
  THE WALKS of the laws SplitRamp and SplitAt, and the contract of the reference's At.
  Conditions: those that each theorem names.
-/
import Derived.Test.YtcdckemablkniaaG
namespace Go.Proofs.Ytcdckemablkniaa
open Go.RowKit Go.Sv

set_option maxHeartbeats 2000000 in
theorem rat_any (A : Option Addr) (c : Nat) (l : Stg) (k : Int) (w : World) (hl : Stages w w.heap.size A l) :
    Calls Try.prog 23 #[.slice A l.length c, .int .i64 k] w fun e w' => e = .returned (atV l k) ∧ Drawn w w' := by
  by_cases hE : rampE l = 0
  · obtain ⟨n1, n2, hall⟩ := rampE_all hE
    replace hE := Lib.hid hE
    by_cases hk : 0 ≤ k ∧ k ≤ 1000000000000
    · have E : Hid (atR l k = (((locG l 0 k l.length).1 : Int), goes (sN l (locG l 0 k l.length).1) (sD l (locG l 0 k l.length).1) (locG l 0 k l.length).2, 0)) := Lib.hid (by unfold atR; rw [if_pos hE.out, if_pos hk])
      obtain ⟨k1, k2⟩ := hk
      obtain ⟨b, off, rfl, hb, hc⟩ := id (hl n1)
      replace hl := Lib.hid hl
      replace hall := Lib.hid hall
      replace hc := Lib.hid hc
      have y1 : decide (k < 0) = false := by simp; omega
      have y2 : decide (1000000000000 < k) = false := by simp; omega
      go_enter Try.func23, Try.ntmps23
      go_wp2_with (go_at_call 17; refine (rramp_any _ _ _ _ (by exact hl.out)).mono ?_; rintro e w1 ⟨rfl, hb1⟩; rw [hE.out])
      go_loopw [1, 8] (fun kv i wr => ∃ (j : Nat) (q : Int), j < l.length ∧ i = .int .i64 j ∧ kv = .int .i64 q ∧ 0 ≤ q ∧ q ≤ 1000000000000 ∧ locG l 0 k l.length = locG l j q (l.length - j) ∧ Drawn w1 wr) (fun _ i _ => l.length - (intOf i).toNat)
      case atStart => exact ⟨0, k, n1, rfl, rfl, k1, k2, rfl, Drawn.refl _⟩
      case round =>
        obtain ⟨j, q, hj, rfl, rfl, q1, q2, hloc, hdr⟩ := hrel
        replace hb1 := Drawn.trans hb1 hdr
        replace hdr := Lib.hid hdr
        replace hloc := Lib.hid hloc
        obtain ⟨⟨a1, a2, a3, a4⟩, a5, a6⟩ := hall.out j hj
        obtain ⟨c1, c2, c3⟩ := hc.out j hj
        have d1 := (hb1.cell ⟨b, off + j * 3, none⟩).trans c1
        have d2 := (hb1.cell ⟨b, off + j * 3 + 1, none⟩).trans c2
        have d3 := (hb1.cell ⟨b, off + j * 3 + 2, none⟩).trans c3
        clear c1 c2 c3
        replace hb1 := Lib.hid hb1
        by_cases hgo : j + 1 < l.length ∧ sR l j ≤ q
        · obtain ⟨g1, g2⟩ := hgo
          have E2 := Lib.hid (hloc.out.trans (locG_go g1 g2))
          have x1 : decide ((j : Int) < (l.length : Int) - 1) = true := by simp; omega
          go_wp2
          go_roundw
          case rel => exact ⟨j + 1, _, g1, by go_num, rfl, by omega, by omega, E2.out, hdr.out⟩
          case measure => simp [intOf]; omega
        · have E2 := Lib.hid (hloc.out.trans (locG_stop hgo))
          have jj : (j : Int) < (l.length : Int) := by omega
          by_cases g1 : j + 1 < l.length
          · have g2 : ¬ sR l j ≤ q := fun h => hgo ⟨g1, h⟩
            clear hgo
            have x1 : decide ((j : Int) < (l.length : Int) - 1) = true := by simp; omega
            go_wp2_with fail
            go_quiet ((go_at_call 28; exact quiet_d (rgoes _ _ _ _ a1 a2 a3 a4 q1 q2)))
            go_wp2
            go_ret3
            refine ⟨?_, hb1.out.drewN _⟩
            unfold atV
            rw [E.out, E2.out]
            rfl
          · clear hgo
            have x1 : decide ((j : Int) < (l.length : Int) - 1) = false := by simp; omega
            go_wp2_with fail
            go_quiet ((go_at_call 28; exact quiet_d (rgoes _ _ _ _ a1 a2 a3 a4 q1 q2)))
            go_wp2
            go_ret3
            refine ⟨?_, hb1.out.drewN _⟩
            unfold atV
            rw [E.out, E2.out]
            rfl
    · have E : Hid (atV l k = .tuple #[.int .i64 0, .bool false, .int .i64 7]) := Lib.hid (by unfold atV atR; rw [if_pos hE.out, if_neg hk])
      replace hl := Lib.hid hl
      replace hall := Lib.hid hall
      by_cases y : k < 0
      · clear hk
        go_enter Try.func23, Try.ntmps23
        go_wp2_with (go_at_call 17; refine (rramp_any _ _ _ _ (by exact hl.out)).mono ?_; rintro e w1 ⟨rfl, hb1⟩; rw [hE.out])
        go_ret3
        exact ⟨by rw [E.out]; rfl, hb1⟩
      · have y2 : 1000000000000 < k := by omega
        clear hk
        go_enter Try.func23, Try.ntmps23
        go_wp2_with (go_at_call 17; refine (rramp_any _ _ _ _ (by exact hl.out)).mono ?_; rintro e w1 ⟨rfl, hb1⟩; rw [hE.out])
        go_ret3
        exact ⟨by rw [E.out]; rfl, hb1⟩
  · have E : Hid (atV l k = .tuple #[.int .i64 0, .bool false, .int .i64 (rampE l)]) := Lib.hid (by unfold atV atR; rw [if_neg hE])
    replace hl := Lib.hid hl
    have hE : (rampE l != 0) = true := by simpa using hE
    go_enter Try.func23, Try.ntmps23
    go_wp2_with (go_at_call 17; refine (rramp_any _ _ _ _ (by exact hl.out)).mono ?_; rintro e w1 ⟨rfl, hb1⟩)
    go_ret3
    exact ⟨by rw [E.out]; rfl, hb1⟩

/-! ### stages, as rows of three cells -/
def sV (l : Stg) (k i : Nat) : Value := .int .i64 (match i with | 0 => sN l k | 1 => sD l k | _ => sR l k)
theorem stages_arr {w : World} {B : Nat} {A : Option Addr} {l : Stg} (h : ArrN w B 3 A l.length (sV l)) : Stages w B A l := fun hn => by
  obtain ⟨b, off, e, hb, hc⟩ := h hn
  exact ⟨b, off, e, hb, fun k hk => ⟨by have := hc k hk 0 (by omega); simpa [sV] using this, by have := hc k hk 1 (by omega); simpa [sV] using this, by have := hc k hk 2 (by omega); simpa [sV] using this⟩⟩
theorem arr_stages {w : World} {B : Nat} {A : Option Addr} {l : Stg} (h : Stages w B A l) : ArrN w B 3 A l.length (sV l) := fun hn => by
  obtain ⟨b, off, e, hb, hc⟩ := h hn
  refine ⟨b, off, e, hb, fun k hk i hi => ?_⟩
  obtain ⟨c0, c1, c2⟩ := hc k hk
  match i, hi with
  | 0, _ => exact c0
  | 1, _ => exact c1
  | 2, _ => exact c2
theorem Stages.below {w w' : World} {B : Nat} {A : Option Addr} {l : Stg} (h : Stages w B A l) (hb : Below B w w') : Stages w' B A l := stages_arr ((arr_stages h).below hb)
theorem Stages.more {w : World} {B B' : Nat} {A : Option Addr} {l : Stg} (h : Stages w B A l) (hB : B ≤ B') : Stages w B' A l := stages_arr ((arr_stages h).more hB)

theorem law_ramp (A : Option Addr) (c : Nat) (l : Stg) (w : World) (hl : Stages w w.heap.size A l) (hA : A = none → l.length = 0 ∧ c = 0) (hm : l.length ≤ 9223372036854775807) :
    Calls Try.prog 8 #[.slice A l.length c] w fun e w' => e = .returned (.bool true) ∧ Below w.heap.size w w' := by
  by_cases h25 : 25 < l.length
  · replace hl := Lib.hid hl
    replace hA := Lib.hid hA
    go_enter Try.func8, Try.ntmps8
    go_wp2_with fail
    refine (awake_any _).mono ?_
    rintro e w1 ⟨rfl, hb1⟩
    go_wp2_with fail
    refine (awake_any _).mono ?_
    rintro e w2 ⟨rfl, hb2⟩
    go_wp2
    go_ret
    exact ⟨rfl, below_of hb1 hb1.size hb2⟩
  · replace hl := Lib.hid hl
    replace hA := Lib.hid hA
    go_enter Try.func8, Try.ntmps8
    go_wp2_with fail
    refine (awake_any _).mono ?_
    rintro e w1 ⟨rfl, hb1⟩
    have hl1 := Lib.hid ((hl.out.below hb1).more hb1.size)
    go_wp2_with fail
    refine (clone_any A l.length c (sV l) (fun k i => rfl) w1 (arr_stages hl1.out) hA.out (by omega)).mono ?_
    rintro e w2 ⟨v, rfl, A2, c2, rfl, _, harr, hb2⟩
    have hl2 := Lib.hid (stages_arr harr)
    have hl3 := Lib.hid ((hl1.out.below hb2).more hb2.size)
    have hb12 := below_of hb1 hb1.size hb2
    clear hb1 hb2 harr hl1
    go_wp2_with fail
    refine (pramp_any _ _ _ _ hl2.out).mono ?_
    rintro e w3 ⟨rfl, hb3⟩
    have hl4 := Lib.hid ((hl3.out.below hb3).more hb3.size)
    have hb13 := below_of hb12 hb12.size hb3
    clear hb3 hb12 hl3
    go_wp2_with fail
    refine (rramp_any _ _ _ _ hl4.out).mono ?_
    rintro e w4 ⟨rfl, hd4⟩
    go_wp2
    go_ret
    exact ⟨by simp, hb13.drawn hd4⟩

theorem law_at (A : Option Addr) (c : Nat) (l : Stg) (k : Int) (w : World) (hl : Stages w w.heap.size A l) (hA : A = none → l.length = 0 ∧ c = 0) (hm : l.length ≤ 9223372036854775807) :
    Calls Try.prog 9 #[.slice A l.length c, .int .i64 k] w fun e w' => e = .returned (.bool true) ∧ Below w.heap.size w w' := by
  by_cases h25 : 25 < l.length
  · replace hl := Lib.hid hl
    replace hA := Lib.hid hA
    go_enter Try.func9, Try.ntmps9
    go_wp2_with fail
    refine (awake_any _).mono ?_
    rintro e w1 ⟨rfl, hb1⟩
    go_wp2_with fail
    refine (awake_any _).mono ?_
    rintro e w2 ⟨rfl, hb2⟩
    go_wp2
    go_ret
    exact ⟨rfl, below_of hb1 hb1.size hb2⟩
  · replace hl := Lib.hid hl
    replace hA := Lib.hid hA
    go_enter Try.func9, Try.ntmps9
    go_wp2_with fail
    refine (awake_any _).mono ?_
    rintro e w1 ⟨rfl, hb1⟩
    have hl1 := Lib.hid ((hl.out.below hb1).more hb1.size)
    go_wp2_with fail
    refine (clone_any A l.length c (sV l) (fun k i => rfl) w1 (arr_stages hl1.out) hA.out (by omega)).mono ?_
    rintro e w2 ⟨v, rfl, A2, c2, rfl, _, harr, hb2⟩
    have hl2 := Lib.hid (stages_arr harr)
    have hl3 := Lib.hid ((hl1.out.below hb2).more hb2.size)
    have hb12 := below_of hb1 hb1.size hb2
    clear hb1 hb2 harr hl1
    go_wp2_with fail
    refine (pat_any _ _ _ _ _ hl2.out).mono ?_
    rintro e w3 ⟨rfl, hb3⟩
    have hl4 := Lib.hid ((hl3.out.below hb3).more hb3.size)
    have hb13 := below_of hb12 hb12.size hb3
    clear hb3 hb12 hl3
    unfold atV
    go_wp2_with fail
    refine (rat_any _ _ _ _ _ hl4.out).mono ?_
    rintro e w4 ⟨rfl, hd4⟩
    unfold atV
    go_wp2
    go_ret
    exact ⟨by simp, hb13.drawn hd4⟩
end Go.Proofs.Ytcdckemablkniaa
