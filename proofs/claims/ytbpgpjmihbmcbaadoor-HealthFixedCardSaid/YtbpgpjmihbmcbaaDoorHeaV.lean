/-
  CONTRACT of the law HealthFixed: it returns true.
  Conditions: those that each theorem names.
-/
import Derived.Test.YtbpgpjmihbmcbaaDoorHeaK
import Derived.Test.YtbpgpjmihbmcbaaDoorHeaU
namespace Go.Proofs.YtbpgpjmihbmcbaaDoor
open Go.RowKit Go.Sv

theorem fixV_bd (n c : Int) : TBd (fixV n c) := by
  unfold fixV
  split
  · rename_i h
    unfold fixE at h
    split at h
    · omega
    · obtain ⟨L1, L2⟩ := fixT_len (n := n.toNat) c (by omega)
      exact ⟨by rw [L1]; omega, by rw [L2]; omega⟩
  · exact ⟨by decide, by decide⟩

set_option maxHeartbeats 4000000 in
theorem law_fixed (n c b : Int) (w : World) (ht : Tab w) (b0 : 0 ≤ b) (b1 : b < 65536) :
    Calls Tryd.prog 3 #[.int .i64 n, .int .i64 c, .int .u16 b] w fun e w' => e = .returned (.bool true) ∧ Below w.heap.size w w' := by
  have hA := Lib.hid (awake_any w ht)
  have H1 := Lib.hid (fun w' => fixed_any n c w')
  have H2 := Lib.hid (fun w' => rfixed_any n c w')
  have HS := Lib.hid (fun q r w' h h' => same_any (fixV n c) (fixV n c) q r w' h h' (fixV_bd n c) (fixV_bd n c))
  clear ht
  go_enter Tryd.func3, Tryd.ntmps3
  go_wp2_with fail
  refine hA.out.mono ?_
  rintro e w1 ⟨rfl, hb1⟩
  have hc1 := Lib.hid hb1
  clear hb1
  go_wp2_with fail
  refine (H1.out _).mono ?_
  rintro e w2 ⟨_, rfl, q2, rfl, hr2, hb2⟩
  have hbx2 : Below w2.heap.size w2 (w2.alloc (.cells #[.slice q2.a0 (fixV n c).acc.length q2.c0, .slice q2.a1 (fixV n c).rej.length q2.c1] 26)) := (Below.refl _ _).alloc (Nat.le_refl _) _
  have hc2 := Lib.hid (below_of (below_of hc1.out hc1.out.size hb2) (by have := hc1.out.size; have := hb2.size; omega) hbx2)
  have R2 := Lib.hid (hr2.to hbx2)
  have B2 := Lib.hid (TBox.new (w := w2) (e := 26) (t := fixV n c) (q := q2))
  clear hbx2 hb2 hr2
  go_wp2_with fail
  refine (H2.out _).mono ?_
  rintro e w3 ⟨_, rfl, q3, rfl, hr3, hb3⟩
  have hbx3 : Below w3.heap.size w3 (w3.alloc (.cells #[.slice q3.a0 (fixV n c).acc.length q3.c0, .slice q3.a1 (fixV n c).rej.length q3.c1] 26)) := (Below.refl _ _).alloc (Nat.le_refl _) _
  have hc3 := Lib.hid (below_of (below_of hc2.out hc2.out.size hb3) (by have := hc2.out.size; have := hb3.size; omega) hbx3)
  have R3 := Lib.hid (hr3.to hbx3)
  have R2' := Lib.hid ((R2.out.to hb3).to hbx3)
  have B3 := Lib.hid (TBox.new (w := w3) (e := 26) (t := fixV n c) (q := q3))
  have B2' := Lib.hid ((B2.out.to hb3).to hbx3)
  clear hbx3 hb3 hr3
  obtain ⟨z2, u0, u1⟩ := B2'.out
  obtain ⟨z3, u2, u3⟩ := B3.out
  go_wp2_with fail
  refine (HS.out q2 q3 _ R2'.out R3.out).mono ?_
  rintro e w4 ⟨rfl, hb4⟩
  have hc4 := Lib.hid (below_of hc3.out hc3.out.size hb4)
  have R4 := Lib.hid (R2'.out.to hb4)
  have R4' := Lib.hid (R3.out.to hb4)
  clear z2 z3 u0 u1 u2 u3
  obtain ⟨z2, u0, u1⟩ := B2'.out.to hb4
  obtain ⟨z3, u2, u3⟩ := B3.out.to hb4
  clear hb4
  by_cases g : fixE n c = 0 ∧ n ≤ 12
  case neg =>
    by_cases gz : fixE n c = 0
    · have d12 : decide ((12 : Int) < n) = true := decide_eq_true (by omega)
      have ev : (fixE n c != 0) = false := by rw [bne_eq_false_iff_eq]; exact gz
      clear g gz
      go_wp2_with fail
      refine (HS.out q2 q3 _ R4.out R4'.out).mono ?_
      rintro e w5 ⟨rfl, hb5⟩
      have hc5 := Lib.hid (below_of hc4.out hc4.out.size hb5)
      clear z2 z3 u0 u1 u2 u3 hb5
      go_wp2
      go_ret
      exact ⟨by simp, hc5.out⟩
    · have ev : (fixE n c != 0) = true := by rw [bne_iff_ne]; exact gz
      clear g gz
      go_wp2_with fail
      refine (HS.out q2 q3 _ R4.out R4'.out).mono ?_
      rintro e w5 ⟨rfl, hb5⟩
      have hc5 := Lib.hid (below_of hc4.out hc4.out.size hb5)
      clear z2 z3 u0 u1 u2 u3 hb5
      go_wp2
      go_ret
      exact ⟨by simp, hc5.out⟩
  have d12 : decide ((12 : Int) < n) = false := by rw [decide_eq_false_iff_not]; omega
  have ev : (fixE n c != 0) = false := by rw [bne_eq_false_iff_eq]; exact g.1
  obtain ⟨gz, gn⟩ := g
  have hcond : ¬ (n < 1 ∨ 64 < n ∨ c < -1 ∨ n < c) := by
    intro hh
    unfold fixE at gz
    rw [if_pos hh] at gz
    omega
  obtain ⟨k, rfl⟩ : ∃ k : Nat, n = k := ⟨n.toNat, by omega⟩
  have efix : fixV (k : Int) c = fixT k c := by unfold fixV; rw [if_pos gz]; rfl
  have hv := vld_validE (fixT_vld (n := k) (c := c) (by omega) (by omega) (by omega) (by omega))
  have hdec := Lib.hid (decR_fix (n := k) (c := c) (outc b k) (by omega) (by omega) (by omega) (by omega) (outc_len b k))
  have HD := Lib.hid (fun A cc w' h ha => decide_any (fixV (k : Int) c) q2 A (outc b k) cc w' h (fixV_bd _ c) ha (by rw [outc_len]; omega))
  rw [efix, hv] at HD
  have k12 : k ≤ 12 := by omega
  clear gz gn hcond H1 H2 HS hA
  go_wp2_with fail
  refine (outcomes_any k b (by omega) b0 w4).mono ?_
  rintro e w5 ⟨_, rfl, A, cc, rfl, _, har, hb5⟩
  have hc5 := Lib.hid (below_of hc4.out hc4.out.size hb5)
  have R5 := Lib.hid (R4.out.to hb5)
  rw [efix] at R5
  have B5 := Lib.hid ((TBox.mk z2 u0 u1 : TBox _ _ (fixV (k : Int) c) q2).to hb5)
  clear z2 z3 u0 u1 u2 u3 hb5
  have hl : (outc b k).length = k := outc_len b k
  rw [hl] at har
  have hD' := Lib.hid (HD.out A cc)
  rw [hl] at hD' ⊢
  replace har := Lib.hid har
  clear hl HD
  go_wp2_with fail
  go_loopw [12, 14, 63] (fun f _ i wr => ∃ j : Nat, j ≤ k ∧ i = .int .i64 j ∧ f = .int .i64 (failsTo (outc b k) j) ∧ Drawn w5 wr) (fun _ _ i _ => k - (intOf i).toNat)
  case atStart => exact ⟨0, Nat.zero_le _, rfl, rfl, Drawn.refl _⟩
  case round =>
    obtain ⟨j, hj, rfl, rfl, hd⟩ := hrel
    by_cases hlt : j < k
    · obtain ⟨ab, o, rfl, hb, hc⟩ := har.out (by omega)
      have d := (hd.cell ⟨ab, o + j, none⟩).trans (hc j hlt)
      clear hc
      unfold bv at d
      have d1 : decide ((j : Int) < (k : Int)) = true := decide_eq_true (by omega)
      have bb := failsTo_bd (outc b k) j
      have E : failsTo (outc b k) (j + 1) = failsTo (outc b k) j + bi (gb (outc b k) j) := rfl
      replace hd := Lib.hid hd
      cases hg : gb (outc b k) j
      · rw [hg] at d E
        have E' : Hid (failsTo (outc b k) (j + 1) = failsTo (outc b k) j) := Lib.hid (by rw [E, bi_f]; omega)
        clear E hg
        go_wp2
        go_roundw
        case rel => exact ⟨j + 1, by omega, by go_num, val_i E'.out.symm, hd.out⟩
        case measure => simp [intOf]; omega
      · rw [hg] at d E
        have E' : Hid (failsTo (outc b k) (j + 1) = failsTo (outc b k) j + 1) := Lib.hid (by rw [E, bi_t])
        clear E hg
        go_wp2
        go_roundw
        case rel => exact ⟨j + 1, by omega, by go_num, val_i E'.out.symm, hd.out⟩
        case measure => simp [intOf]; omega
    · obtain rfl : j = k := by omega
      have d1 : decide ((j : Int) < (j : Int)) = false := by rw [decide_eq_false_iff_not]; omega
      have hB := hd.below (B := w5.heap.size)
      have hcd := Lib.hid (below_of hc5.out hc5.out.size hB)
      have hard := (har.out.drawn hd).more (B' := wr.heap.size) (by rw [hd.size]; exact Nat.le_refl _)
      have C := Lib.hid (hD'.out wr (R5.out.to hB) hard)
      rw [hdec.out] at C
      obtain ⟨z2, u0, u1⟩ := B5.out.to hB
      rw [efix] at u0 u1
      replace hd := Lib.hid hd
      clear hB hard
      by_cases cf : failsTo (outc b j) j ≤ c
      · have e1 : decide (failsTo (outc b j) j ≤ c) = true := decide_eq_true cf
        rw [if_pos cf] at C
        clear cf
        go_wp2_with fail
        refine C.out.mono ?_
        rintro e w6 ⟨rfl, hb6⟩
        have hc6 := Lib.hid (below_of hcd.out hcd.out.size hb6)
        clear hb6
        go_wp2
        go_ret
        exact ⟨by simp, hc6.out⟩
      · have e1 : decide (failsTo (outc b j) j ≤ c) = false := decide_eq_false cf
        rw [if_neg cf] at C
        clear cf
        go_wp2_with fail
        refine C.out.mono ?_
        rintro e w6 ⟨rfl, hb6⟩
        have hc6 := Lib.hid (below_of hcd.out hcd.out.size hb6)
        clear hb6
        go_wp2
        go_ret
        exact ⟨by simp, hc6.out⟩
end Go.Proofs.YtbpgpjmihbmcbaaDoor
