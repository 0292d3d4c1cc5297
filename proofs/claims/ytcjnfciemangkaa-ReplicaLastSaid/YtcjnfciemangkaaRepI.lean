/-
  THE LAWS ReplicaPower and ReplicaOf, walked: each returns true.
  Conditions: those that each theorem names.
-/
import Derived.Test.YtcjnfciemangkaaRepH
namespace Go.Proofs.Ytcjnfciemangkaa
open Go.RowKit Go.Sv

theorem law_power (A : Option Addr) (c : Nat) (l : List Rep) (i : Int) (up : Bool) (w : World) (ha : RReps w w.heap.size A l) (hA : A = none → l.length = 0 ∧ c = 0) (hn : l.length ≤ 9223372036854775807) :
    Calls Try.prog 5 #[.slice A l.length c, .int .i64 i, .bool up] w fun e w' => e = .returned (.bool true) ∧ Below w.heap.size w w' := by
  replace hA := Lib.hid hA
  replace ha := Lib.hid ha
  go_enter Try.func5, Try.ntmps5
  go_wp2_with fail
  refine (awake_any w).mono ?_
  rintro e w1 ⟨rfl, hb1⟩
  by_cases g : l.length ≤ 30
  · have ha1 := Lib.hid (RReps.to ha.out hb1)
    go_wp2_with fail
    refine (cloneR_any A c l w1 ha1.out hA.out (by omega)).mono ?_
    rintro e w2 ⟨v, rfl, A2, c2, rfl, hown, hb2⟩
    have hA2 := Lib.hid (own_nil hown)
    have ha2 := Lib.hid (own_reps hown)
    have hb12 := below_of hb1 hb1.size hb2
    clear hown
    go_wp2_with fail
    refine (power_any A2 c2 l i up w2 ((ArrN.more ha2.out (Nat.le_refl _))) hA2.out (by omega)).mono ?_
    rintro e w3 ⟨v, rfl, A3, c3, rfl, hA3, hl3, hb3⟩
    replace hA3 := Lib.hid hA3
    replace hl3 := Lib.hid hl3
    have hb13 := below_of hb12 hb12.size hb3
    have ha3 := Lib.hid (RReps.to ha.out hb13)
    go_wp2_with fail
    refine (rpower_any A c l i up w3 ha3.out hA.out (by omega)).mono ?_
    rintro e w4 ⟨v, rfl, A4, c4, rfl, hA4, hl4, hb4⟩
    replace hA4 := Lib.hid hA4
    replace hl4 := Lib.hid hl4
    have hb14 := below_of hb13 hb13.size hb4
    have hl34 := Lib.hid (RReps.to hl3.out hb4)
    have hlen : (powerL l i up).length ≤ 1000000 := by
      unfold powerL; split <;> simp <;> omega
    go_wp2_with fail
    refine (sameR_any A3 A4 c3 c4 (powerL l i up) (powerL l i up) w4 w4.heap.size hl34.out hl4.out hlen hlen).mono ?_
    rintro e w5 ⟨rfl, hd5⟩
    have hfin := Lib.hid (Below.drawn hb14 hd5)
    have hdd : decide (powerL l i up = powerL l i up) = true := decide_eq_true rfl
    rw [hdd]
    go_wp2
    go_ret
    exact ⟨rfl, hfin.out⟩
  · have g' : 30 < l.length := by omega
    clear g
    go_wp2_with fail
    refine (awake_any w1).mono ?_
    rintro e w2 ⟨rfl, hb2⟩
    have hfin := Lib.hid (below_of hb1 hb1.size hb2)
    go_wp2
    go_ret
    exact ⟨rfl, hfin.out⟩

theorem law_of (A : Option Addr) (c : Nat) (l : List Rep) (s v : Int) (w : World) (ha : RReps w w.heap.size A l) (hn : l.length ≤ 9223372036854775807) :
    Calls Try.prog 9 #[.slice A l.length c, .int .i64 s, .int .i64 v] w fun e w' => e = .returned (.bool true) ∧ Below w.heap.size w w' := by
  replace ha := Lib.hid ha
  go_enter Try.func9, Try.ntmps9
  go_wp2_with fail
  refine (awake_any w).mono ?_
  rintro e w1 ⟨rfl, hb1⟩
  by_cases g : l.length ≤ 30
  · have ha1 := Lib.hid (RReps.to ha.out hb1)
    go_wp2_with fail
    refine (of_any A c l s w1 ha1.out (by omega)).mono ?_
    rintro e w2 ⟨v2, rfl, A2, c2, rfl, _, hl2, hb2⟩
    replace hl2 := Lib.hid hl2
    have hb12 := below_of hb1 hb1.size hb2
    have ha2 := Lib.hid (RReps.to ha.out hb12)
    go_wp2_with fail
    refine (rof_any A c l s w2 ha2.out (by omega)).mono ?_
    rintro e w3 ⟨v3, rfl, A3, c3, rfl, _, hl3, hb3⟩
    replace hl3 := Lib.hid hl3
    have hb13 := below_of hb12 hb12.size hb3
    have hl23 := Lib.hid ((Arr.below hl2.out hb3).more hb3.size)
    have hlen := selTo_len (ofSel l s) l.length
    go_wp2_with fail
    refine (equalI_any A2 A3 c2 c3 _ _ w3 w3.heap.size hl23.out hl3.out (by omega) (by omega)).mono ?_
    rintro e w4 ⟨rfl, hd4⟩
    have hdd : decide (selTo (ofSel l s) l.length = selTo (ofSel l s) l.length) = true := decide_eq_true rfl
    rw [hdd]
    have hb14 := Below.drawn hb13 hd4
    have ha4 := Lib.hid (RReps.to ha.out hb14)
    clear hlen hdd
    go_wp2_with fail
    refine (str_any A c l s v w4 ha4.out (by omega)).mono ?_
    rintro e w5 ⟨v5, rfl, A5, c5, rfl, _, hl5, hb5⟩
    replace hl5 := Lib.hid hl5
    have hb15 := below_of hb14 hb14.size hb5
    have ha5 := Lib.hid (RReps.to ha.out hb15)
    go_wp2_with fail
    refine (rstr_any A c l s v w5 ha5.out (by omega)).mono ?_
    rintro e w6 ⟨v6, rfl, A6, c6, rfl, _, hl6, hb6⟩
    replace hl6 := Lib.hid hl6
    have hb16 := below_of hb15 hb15.size hb6
    have hl56 := Lib.hid ((Arr.below hl5.out hb6).more hb6.size)
    have hlen := selTo_len (strSel l s v) l.length
    go_wp2_with fail
    refine (equalI_any A5 A6 c5 c6 _ _ w6 w6.heap.size hl56.out hl6.out (by omega) (by omega)).mono ?_
    rintro e w7 ⟨rfl, hd7⟩
    have hdd : decide (selTo (strSel l s v) l.length = selTo (strSel l s v) l.length) = true := decide_eq_true rfl
    rw [hdd]
    have hb17 := Below.drawn hb16 hd7
    have ha7 := Lib.hid (RReps.to ha.out hb17)
    clear hlen hdd
    go_wp2_with fail
    refine (vers_any A c l s w7 ha7.out (by omega)).mono ?_
    rintro e w8 ⟨rfl, hb8⟩
    have hb18 := below_of hb17 hb17.size hb8
    have ha8 := Lib.hid (RReps.to ha.out hb18)
    go_wp2_with fail
    refine (rvers_any A c l s w8 ha8.out (by omega)).mono ?_
    rintro e w9 ⟨rfl, hb9⟩
    have hfin := Lib.hid (below_of hb18 hb18.size hb9)
    have z9 : (verTo l s l.length == verTo l s l.length) = true := beq_self_eq_true _
    go_wp2
    go_ret
    exact ⟨rfl, hfin.out⟩
  · have g' : 30 < l.length := by omega
    clear g
    go_wp2_with fail
    refine (awake_any w1).mono ?_
    rintro e w2 ⟨rfl, hb2⟩
    have hfin := Lib.hid (below_of hb1 hb1.size hb2)
    go_wp2
    go_ret
    exact ⟨rfl, hfin.out⟩
end Go.Proofs.Ytcjnfciemangkaa
