/-
  CONTRACT of the reference's Valid: the error of a mix.
  Conditions: those that the theorem names.
-/
import Derived.Test.YtickckehhfdoeaaSb3
namespace Go.Proofs.Ytickckehhfdoeaa
open Go.RowKit Go.Sv
set_option maxHeartbeats 4000000 in
set_option maxRecDepth 100000 in
theorem rvalidM_any (p : Prob) (q : ProbP) (m : Mx) (qm : MixP) (w : World) (hp : RProb w w.heap.size p q) (hbd : PBd p) (hm : RMix w w.heap.size m qm) (hmb : MBd m qm) :
    Calls Try.prog 94 #[probV p q, mixV m qm] w fun e w' => e = .returned (.int .i64 (mixE p m)) ∧ Below w.heap.size w w' := by
  obtain ⟨qa0, qc0, qa1, qc1, qa2, qc2, qa3, qc3⟩ := q
  obtain ⟨ma0, mc0, ma1, mc1, ma2, mc2⟩ := qm
  obtain ⟨W, hW, S⟩ := pm_boxes p ⟨qa0, qc0, qa1, qc1, qa2, qc2, qa3, qc3⟩ m ⟨ma0, mc0, ma1, mc1, ma2, mc2⟩ w
  dsimp only at hW S
  have HP := Lib.hid (rvalidProblem_any p ⟨qa0, qc0, qa1, qc1, qa2, qc2, qa3, qc3⟩ W (hp.to S.bel) hbd)
  replace S := Lib.hid S
  by_cases he : probE p = 0
  case neg =>
    have E := Lib.hid (mixE_p (m := m) he)
    have i1 : (probE p != 0) = true := bne_iff_ne.2 he
    obtain ⟨z, hz⟩ : ∃ z, probE p = z := ⟨_, rfl⟩
    rw [hz] at i1 HP E
    clear he hz
    obtain ⟨⟨y1, f1, y10, y11, y12, -⟩, ⟨y2, f2, y20, y21, y22, y23, -⟩, -⟩ := S.out.facts
    go_enter Try.func94, Try.ntmps94
    go_wp2_with fail
    clear hW y1 f1 y10 y11 y12 y2 f2 y20 y21 y22 y23
    refine HP.out.mono ?_
    rintro e w1 ⟨rfl, hb1⟩
    replace S := Lib.hid (S.out.call hb1)
    clear hb1
    go_wp2
    go_ret
    exact ⟨ret_i E.out.symm, S.out.bel⟩
  rw [he] at HP
  by_cases g1 : m.base.length = p.vs.length
  case neg =>
    have E := Lib.hid (mixE_6 he (Or.inl g1))
    have i1 := bneI g1
    clear g1
    obtain ⟨⟨y1, f1, y10, y11, y12, -⟩, ⟨y2, f2, y20, y21, y22, y23, -⟩, -⟩ := S.out.facts
    go_enter Try.func94, Try.ntmps94
    go_wp2_with fail
    clear hW y1 f1 y10 y11 y12 y2 f2 y20 y21 y22 y23
    refine HP.out.mono ?_
    rintro e w1 ⟨rfl, hb1⟩
    replace S := Lib.hid (S.out.call hb1)
    clear hb1
    obtain ⟨⟨y1, f1, y10, y11, y12, -⟩, ⟨y2, f2, y20, y21, y22, y23, -⟩, -⟩ := S.out.facts
    go_wp2
    go_ret
    exact ⟨ret_i E.out.symm, S.out.bel⟩
  have i1 := bneI0 g1
  by_cases g2 : m.next.length = p.vs.length
  case neg =>
    have E := Lib.hid (mixE_6 he (Or.inr (Or.inl g2)))
    have i2 := bneI g2
    clear g2 g1
    obtain ⟨⟨y1, f1, y10, y11, y12, -⟩, ⟨y2, f2, y20, y21, y22, y23, -⟩, -⟩ := S.out.facts
    go_enter Try.func94, Try.ntmps94
    go_wp2_with fail
    clear hW y1 f1 y10 y11 y12 y2 f2 y20 y21 y22 y23
    refine HP.out.mono ?_
    rintro e w1 ⟨rfl, hb1⟩
    replace S := Lib.hid (S.out.call hb1)
    clear hb1
    obtain ⟨⟨y1, f1, y10, y11, y12, -⟩, ⟨y2, f2, y20, y21, y22, y23, -⟩, -⟩ := S.out.facts
    go_wp2
    go_ret
    exact ⟨ret_i E.out.symm, S.out.bel⟩
  have i2 := bneI0 g2
  by_cases g3 : m.held.length = p.tabs.length
  case neg =>
    have E := Lib.hid (mixE_6 he (Or.inr (Or.inr g3)))
    have i3 := bneI g3
    clear g3 g2 g1
    obtain ⟨⟨y1, f1, y10, y11, y12, -⟩, ⟨y2, f2, y20, y21, y22, y23, -⟩, -⟩ := S.out.facts
    go_enter Try.func94, Try.ntmps94
    go_wp2_with fail
    clear hW y1 f1 y10 y11 y12 y2 f2 y20 y21 y22 y23
    refine HP.out.mono ?_
    rintro e w1 ⟨rfl, hb1⟩
    replace S := Lib.hid (S.out.call hb1)
    clear hb1
    obtain ⟨⟨y1, f1, y10, y11, y12, -⟩, ⟨y2, f2, y20, y21, y22, y23, -⟩, -⟩ := S.out.facts
    go_wp2
    go_ret
    exact ⟨ret_i E.out.symm, S.out.bel⟩
  have i3 := bneI0 g3
  have ML : Hid (MLen p m) := Lib.hid ⟨he, g1, g2, g3⟩
  replace hp := Lib.hid hp
  replace hm := Lib.hid hm
  clear g1 g2 g3
  have hn := hbd.b0
  have hn3 := hbd.b3
  replace he := Lib.hid he
  obtain ⟨⟨y1, f1, y10, y11, y12, -⟩, ⟨y2, f2, y20, y21, y22, y23, -⟩, -⟩ := S.out.facts
  go_enter Try.func94, Try.ntmps94
  go_wp2_with fail
  clear hW y1 f1 y10 y11 y12 y2 f2 y20 y21 y22 y23
  refine HP.out.mono ?_
  rintro e w1 ⟨rfl, hb1⟩
  replace S := Lib.hid (S.out.call hb1)
  clear hb1 HP
  obtain ⟨⟨y1, f1, y10, y11, y12, -⟩, ⟨y2, f2, y20, y21, y22, y23, -⟩, -⟩ := S.out.facts
  go_wp2
  clear i1 i2 i3
  go_loopw [7] (fun i wr => ∃ k : Nat, k ≤ p.vs.length ∧ i = .int .i64 k ∧ (∀ j, j < k → svcE p m j = 0) ∧ Drawn w1 wr) (fun i _ => p.vs.length - (intOf i).toNat)
  case atStart => exact ⟨0, Nat.zero_le _, rfl, fun j hj => by omega, Drawn.refl _⟩
  case round =>
    obtain ⟨k, hk, rfl, hall, hdr⟩ := hrel
    replace hall := Lib.hid hall
    have T := Lib.hid (S.out.call hdr.below)
    clear y1 f1 y10 y11 y12 y2 f2 y20 y21 y22 y23
    obtain ⟨⟨y1, f1, y10, y11, y12, -⟩, ⟨y2, f2, y20, y21, y22, y23, -⟩, -⟩ := T.out.facts
    by_cases hlt : k < p.vs.length
    · have hmr := hm.out.below T.out.bel
      have hpr := hp.out.below T.out.bel
      obtain ⟨b0, o0, e0, hb0, hc0⟩ := hmr.r0 (by have := ML.out.lb; omega)
      obtain ⟨b1, o1, e1, hb1, hc1⟩ := hmr.r1 (by have := ML.out.ln; omega)
      obtain ⟨b2, o2, e2, hb2, hc2⟩ := hpr.r0 (by omega)
      have d0 := hc0 k (by have := ML.out.lb; omega)
      have d1 := hc1 k (by have := ML.out.ln; omega)
      have d2 := hc2 k hlt
      unfold iv at d0 d1 d2
      dsimp only at e0 e1 e2
      subst e0 e1 e2
      have j1 : (k : Int) < (m.base.length : Int) := by have := ML.out.lb; omega
      have j2 : (k : Int) < (m.next.length : Int) := by have := ML.out.ln; omega
      have j3 : k < m.base.length := by omega
      have j4 : k < m.next.length := by omega
      have h7 := Lib.hid (fun h => (⟨mixE_s ML.out hlt hall.out (by rw [svcE_7 h]; decide), svcE_7 h⟩ : mixE p m = svcE p m k ∧ svcE p m k = 7))
      have h1 := Lib.hid (fun h h2 => (⟨mixE_s ML.out hlt hall.out (by rw [svcE_1 h h2]; decide), svcE_1 h h2⟩ : mixE p m = svcE p m k ∧ svcE p m k = 1))
      have h0 : Hid (svcE p m k = 0 → ∀ j, j < k + 1 → svcE p m j = 0) := Lib.hid fun h j hj => by
        rcases Nat.lt_succ_iff_lt_or_eq.1 hj with h' | h'
        · exact hall.out j h'
        · rw [h']; exact h
      have h00 := Lib.hid (fun h h2 => h0.out (svcE_0 (p := p) (m := m) (i := k) h h2))
      obtain ⟨x, hx⟩ : ∃ x, gi m.base k = x := ⟨_, rfl⟩
      obtain ⟨z, hz⟩ : ∃ z, gi m.next k = z := ⟨_, rfl⟩
      obtain ⟨n, hn'⟩ : ∃ n, gi p.vs k = n := ⟨_, rfl⟩
      rw [hx] at d0 h7 h1 h00
      rw [hz] at d1 h7 h1 h00
      rw [hn'] at d2 h7 h1 h00
      clear hc0 hc1 hc2 hmr hpr hx hz hn' h0
      have hF := Lib.hid T.out.bel
      by_cases c1 : x < 0
      · have E := Lib.hid (h7.out (Or.inl c1))
        have k1 : decide (x < 0) = true := decide_eq_true c1
        clear c1
        go_wp2_with fail
        go_big_quiet (fail)
        go_wp2
        go_ret
        exact ⟨ret_i (E.out.1.trans E.out.2).symm, hF.out.drawn ((Drawn.refl _).drewN _)⟩
      have k1 : decide (x < 0) = false := decide_eq_false c1
      by_cases c2 : n ≤ x
      · have E := Lib.hid (h7.out (Or.inr (Or.inl c2)))
        have k2 : decide (n ≤ x) = true := decide_eq_true c2
        clear c1 c2
        go_wp2_with fail
        go_big_quiet (fail)
        go_wp2
        go_ret
        exact ⟨ret_i (E.out.1.trans E.out.2).symm, hF.out.drawn ((Drawn.refl _).drewN _)⟩
      have k2 : decide (n ≤ x) = false := decide_eq_false c2
      by_cases c3 : z < -1
      · have E := Lib.hid (h7.out (Or.inr (Or.inr (Or.inl c3))))
        have k3 : decide (z < -1) = true := decide_eq_true c3
        clear c1 c2 c3
        go_wp2_with fail
        go_big_quiet (fail)
        go_wp2
        go_ret
        exact ⟨ret_i (E.out.1.trans E.out.2).symm, hF.out.drawn ((Drawn.refl _).drewN _)⟩
      have k3 : decide (z < -1) = false := decide_eq_false c3
      by_cases c4 : n ≤ z
      · have E := Lib.hid (h7.out (Or.inr (Or.inr (Or.inr c4))))
        have k4 : decide (n ≤ z) = true := decide_eq_true c4
        clear c1 c2 c3 c4
        go_wp2_with fail
        go_big_quiet (fail)
        go_wp2
        go_ret
        exact ⟨ret_i (E.out.1.trans E.out.2).symm, hF.out.drawn ((Drawn.refl _).drewN _)⟩
      have k4 : decide (n ≤ z) = false := decide_eq_false c4
      have c5 : ¬ (x < 0 ∨ n ≤ x ∨ z < -1 ∨ n ≤ z) := by omega
      clear c1 c2 c3 c4
      by_cases c6 : x = z
      · have E := Lib.hid (h1.out c5 c6)
        have k5 : (x == z) = true := beq_iff_eq.2 c6
        clear c5 c6 h7 h1 h00
        go_wp2_with fail
        go_big_quiet (fail)
        go_wp2_with fail
        go_big_quiet (fail)
        go_wp2
        go_ret
        exact ⟨ret_i (E.out.1.trans E.out.2).symm, hF.out.drawn (((Drawn.refl _).drewN _).drewN _)⟩
      · have E := Lib.hid (h00.out c5 c6)
        have k5 : (x == z) = false := beq_eq_false_iff_ne.2 c6
        clear c5 c6 h7 h1 h00
        go_wp2_with fail
        go_big_quiet (fail)
        go_wp2_with fail
        go_big_quiet (fail)
        go_wp2
        go_roundw
        case rel => exact ⟨k + 1, by omega, by go_num, E.out, hdr.drewN _⟩
        case measure => simp [intOf]; omega
    · obtain rfl : k = p.vs.length := by omega
      rename World => wo
      have hsv := Lib.hid hall.out
      have hTo := Lib.hid (T.out)
      clear hlt hall hdr S
      go_wp2
      clear y1 f1 y10 y11 y12 y2 f2 y20 y21 y22 y23 T
      go_loopw [8] (fun i wr => ∃ k : Nat, k ≤ p.tabs.length ∧ i = .int .i64 k ∧ (∀ j, j < k → tblE p m j = 0) ∧ Below wo.heap.size wo wr) (fun i _ => p.tabs.length - (intOf i).toNat)
      case atStart => exact ⟨0, Nat.zero_le _, rfl, fun j hj => by omega, Below.refl _ _⟩
      case round =>
        obtain ⟨k, hk, rfl, hall, hbel⟩ := hrel
        have hB := hbel.size
        have T := hTo.out.call hbel
        by_cases hlt : k < p.tabs.length
        · have hmr := hm.out.below T.bel
          have hpr := hp.out.below T.bel
          have hsz := T.bel.size
          obtain ⟨qt, hq1, hq2⟩ := hpr.r3
          obtain ⟨b3, o3, e3, hb3, hc3⟩ := hq1 (by omega)
          obtain ⟨sr0, sr1⟩ := tab_src he.out hlt
          obtain ⟨vv0, vv1⟩ := vs_le he.out (i := (tab p.tabs k).src.toNat) (by omega)
          obtain ⟨b2, o2, e2, hb2, hc2⟩ := hpr.r0 (by omega)
          obtain ⟨b1, o1, e1, hb1, hc1⟩ := hmr.r2 (by have := ML.out.lh; omega)
          have d2 := hc2 (tab p.tabs k).src.toNat (by omega)
          have d1 := hc1 k (by have := ML.out.lh; omega)
          unfold iv at d2
          unfold u8v at d1
          dsimp only at e1 e2 e3
          obtain ⟨t0, t1, t2, t3, t4, t5⟩ := tab_cells (hc3 k hlt)
          have hh8 := hmb.h8 k (by have := ML.out.lh; omega)
          have hHI : gi m.held k = ((hd m k : Nat) : Int) := by unfold hd; omega
          have hH : hd m k < 256 := by unfold hd; omega
          obtain ⟨u0, u1, u2, u3, u4⟩ := svcE_in (hsv.out (tab p.tabs k).src.toNat (by omega))
          have hR8 : run m (tab p.tabs k).src.toNat < 256 := by
            unfold run
            refine Nat.or_lt_two_pow (n := 8) (pow8 (by omega)) ?_
            split
            · exact pow8 (by omega)
            · decide
          have hst := fun h => tblE_st (p := p) (m := m) (i := k) h hh8 hR8 (by omega)
          have hns := fun h => tblE_ns (p := p) (m := m) (i := k) h
          have HR := Lib.hid (fun W h => rrun_any m ⟨ma0, mc0, ma1, mc1, ma2, mc2⟩ (tab p.tabs k).src.toNat W h (by have := ML.out.lb; omega) (by have := ML.out.ln; omega) u0 (by omega) u2 (by omega))
          have HS := Lib.hid (fun W => rstored_any (tab p.tabs k) (qt k) W)
          have hbad := Lib.hid (fun h => mixE_t (k := k) ML.out hsv.out hlt hall h)
          have h0 : Hid (tblE p m k = 0 → ∀ j, j < k + 1 → tblE p m j = 0) := Lib.hid fun h j hj => by
            rcases Nat.lt_succ_iff_lt_or_eq.1 hj with h' | h'
            · exact hall j h'
            · rw [h']; exact h
          rw [hHI] at d1 hns
          obtain ⟨s, hs⟩ : ∃ s : Nat, (tab p.tabs k).src.toNat = s := ⟨_, rfl⟩
          have hsi : (tab p.tabs k).src = (s : Int) := by omega
          rw [hs] at HR hst hR8 d2 vv0 vv1
          unfold tabV at HS
          rw [hsi] at t1 HS
          have js : (s : Int) < (p.vs.length : Int) := by omega
          have js' : s < p.vs.length := by omega
          have jk : (k : Int) < (p.tabs.length : Int) := by omega
          have jh : (k : Int) < (m.held.length : Int) := by have := ML.out.lh; omega
          have jh' : k < m.held.length := by omega
          subst e1 e2 e3
          obtain ⟨W2, (hW2 : wr.alloc (.cells #[.int .i64 (tab p.tabs k).kind, .int .i64 s, .int .i64 (tab p.tabs k).dst, .bool (tab p.tabs k).aware, .slice (qt k).okA (tab p.tabs k).ok.length (qt k).okC, .slice (qt k).rwA (tab p.tabs k).rw.length (qt k).rwC] 47) = W2), U, hWW⟩ := fm_boxE T 47 [.int .i64 (tab p.tabs k).kind, .int .i64 s, .int .i64 (tab p.tabs k).dst, .bool (tab p.tabs k).aware, .slice (qt k).okA (tab p.tabs k).ok.length (qt k).okC, .slice (qt k).rwA (tab p.tabs k).rw.length (qt k).rwC]
          have hmW := Lib.hid (hm.out.to U.bel)
          have dd1 := (hWW.cell (p := ⟨b1, o1 + k, none⟩) (by show b1 < _; omega)).trans d1
          have dd2 := (hWW.cell (p := ⟨b2, o2 + s, none⟩) (by show b2 < _; omega)).trans d2
          have hb1w : b1 < W2.heap.size := by have := U.bel.size; omega
          have hb2w : b2 < W2.heap.size := by have := U.bel.size; omega
          have hb3w : b3 < wr.heap.size := by omega
          clear hc1 hc2 hc3 hq1 hq2 hpr hmr
          obtain ⟨⟨x1, g1, x10, x11, x12, x13, x14, x15, -⟩, ⟨y1, f1, y10, y11, y12, -⟩, ⟨y2, f2, y20, y21, y22, y23, -⟩, -⟩ := U.facts
          obtain ⟨-, ⟨v1, h1, v10, v11, v12, -⟩, ⟨v2, h2, v20, v21, v22, v23, -⟩, -⟩ := U.facts
          obtain ⟨⟨r1, l1, r10, r11, r12, -⟩, ⟨r2, l2, r20, r21, r22, r23, -⟩, -⟩ := T.facts
          replace U := Lib.hid U
          obtain ⟨H, hHH⟩ : ∃ H, hd m k = H := ⟨_, rfl⟩
          rw [hHH] at dd1 d1 hns hst hH
          obtain ⟨R, hR⟩ : ∃ R, run m s = R := ⟨_, rfl⟩
          rw [hR] at HR hst hR8
          obtain ⟨v, hv⟩ : ∃ v, gi p.vs s = v := ⟨_, rfl⟩
          rw [hv] at dd2 hst vv0 vv1
          obtain ⟨M, hM⟩ : ∃ M, 2 ^ v.toNat - 1 = M := ⟨_, rfl⟩
          have hp2 : 2 ^ v.toNat ≤ 2 ^ 6 := Nat.pow_le_pow_right (by decide) (by omega)
          have hp1 : 1 ≤ 2 ^ v.toNat := Nat.one_le_two_pow
          have hM8 : M < 256 := by omega
          have ws := shl8' (x := v) (by omega) (by omega)
          have e1 : ((2 ^ v.toNat : Nat) : Int) = (M : Int) + 1 := by omega
          rw [e1] at ws
          have j8 : v ≤ 8 := by omega
          have w2' : IntKind.u8.wrap ((M : Int) + 1 - 1) = (M : Int) := by rw [show ((M : Int) + 1 - 1) = (M : Int) by omega]; exact back8 hM8
          have w3' : IntKind.u8.wrap (M : Int) = (M : Int) := back8 hM8
          have n1 := bits_andNot8 (a := R) (b := H) hR8 hH
          have n2 := bits_andNot8 (a := H) (b := M) hH hM8
          rw [hM] at hst
          obtain ⟨D1, hD1⟩ : ∃ D, ((diff R H : Nat) : Int) = D := ⟨_, rfl⟩
          obtain ⟨D2, hD2⟩ : ∃ D, ((diff H M : Nat) : Int) = D := ⟨_, rfl⟩
          rw [hD1] at n1 hst
          rw [hD2] at n2 hst
          have hst' : Hid (∀ kd, stB (tab p.tabs k).kind = kd → ∃ bad : Bool, tblE p m k = (if bad = true then 1 else 0) ∧ bad = (if kd = true then ((D2 != 0) || (D1 != 0)) else ((H : Int) != 0))) := Lib.hid fun kd hkd => by
            cases kd with
            | true =>
              refine ⟨_, ?_, rfl⟩
              rw [hst hkd, if_pos rfl]
              cases (D1 != 0) <;> cases (D2 != 0) <;> rfl
            | false =>
              refine ⟨_, ?_, rfl⟩
              rw [hns hkd]; rfl
          obtain ⟨kd, hkd⟩ : ∃ kd, stB (tab p.tabs k).kind = kd := ⟨_, rfl⟩
          rw [hkd] at HS
          obtain ⟨bad, hbt, hbv⟩ := hst'.out kd hkd
          have hU2 := U
          clear hst hst' hns hHI hHH hM hp2 hp1 e1 hv hR hD1 hD2 hkd
          have hX := Lib.hid (fun x : GrowX W2 => calm_b (HR.out _ (hmW.out.to (grow_is W2 x))))
          have hY := Lib.hid (fun x : GrowX W2 => calm_b (HS.out (grow W2 x)))
          cases bad with
          | true =>
            have E := Lib.hid (hbad.out (by rw [hbt]; decide))
            replace hbt := Lib.hid hbt
            clear hbad h0
            cases kd with
            | true =>
              cases z2 : (D2 != 0) with
              | true =>
                clear hbv
                go_wp2_with fail
                clear hW2
                refine wp_region_calm (by kernel_rfl) (by kernel_rfl) ?_
                repeat (go_big_quiet_step (first | (go_at_call 30; with_reducible exact hY.out _) | (go_at_call 31; with_reducible exact hX.out _)))
                refine wpQuiet_nil ?_
                intro w4 hw4
                have hb4 := grow_below hw4
                clear hw4 hX hY
                replace U := Lib.hid (U.out.call hb4)
                have hFF := Lib.hid (hbel.trans ((hWW.trans (hb4.mono hWW.size)).mono hB))
                clear hb4 dd1 dd2 x1 g1 x10 x11 x12 x13 x14 x15 v1 h1 v10 v11 v12 v2 h2 v20 v21 v22 v23 y1 f1 y10 y11 y12 y2 f2 y20 y21 y22 y23 r1 l1 r10 r11 r12 r2 l2 r20 r21 r22 r23
                obtain ⟨⟨x1, g1, x10, x11, x12, x13, x14, x15, -⟩, ⟨y1, f1, y10, y11, y12, -⟩, ⟨y2, f2, y20, y21, y22, y23, -⟩, -⟩ := U.out.facts
                go_wp2
                go_ret
                exact ⟨ret_i (E.out.trans hbt.out).symm, U.out.bel⟩
              | false =>
                rw [z2] at hbv
                have z1 : (D1 != 0) = true := by cases hq : (D1 != 0) with | true => rfl | false => rw [hq] at hbv; cases hbv
                clear hbv
                go_wp2_with fail
                clear hW2
                refine wp_region_calm (by kernel_rfl) (by kernel_rfl) ?_
                repeat (go_big_quiet_step (first | (go_at_call 30; with_reducible exact hY.out _) | (go_at_call 31; with_reducible exact hX.out _)))
                refine wpQuiet_nil ?_
                intro w4 hw4
                have hb4 := grow_below hw4
                clear hw4 hX hY
                replace U := Lib.hid (U.out.call hb4)
                have hFF := Lib.hid (hbel.trans ((hWW.trans (hb4.mono hWW.size)).mono hB))
                clear hb4 dd1 dd2 x1 g1 x10 x11 x12 x13 x14 x15 v1 h1 v10 v11 v12 v2 h2 v20 v21 v22 v23 y1 f1 y10 y11 y12 y2 f2 y20 y21 y22 y23 r1 l1 r10 r11 r12 r2 l2 r20 r21 r22 r23
                obtain ⟨⟨x1, g1, x10, x11, x12, x13, x14, x15, -⟩, ⟨y1, f1, y10, y11, y12, -⟩, ⟨y2, f2, y20, y21, y22, y23, -⟩, -⟩ := U.out.facts
                go_wp2
                go_ret
                exact ⟨ret_i (E.out.trans hbt.out).symm, U.out.bel⟩
            | false =>
              have z2 : ((H : Int) != 0) = true := by cases hq : ((H : Int) != 0) with | true => rfl | false => rw [hq] at hbv; cases hbv
              clear hbv
              go_wp2_with fail
              clear hW2
              refine wp_region_calm (by kernel_rfl) (by kernel_rfl) ?_
              repeat (go_big_quiet_step (first | (go_at_call 30; with_reducible exact hY.out _) | (go_at_call 31; with_reducible exact hX.out _)))
              refine wpQuiet_nil ?_
              intro w4 hw4
              have hb4 := grow_below hw4
              clear hw4 hX hY
              replace U := Lib.hid (U.out.call hb4)
              have hFF := Lib.hid (hbel.trans ((hWW.trans (hb4.mono hWW.size)).mono hB))
              clear hb4 dd1 dd2 x1 g1 x10 x11 x12 x13 x14 x15 v1 h1 v10 v11 v12 v2 h2 v20 v21 v22 v23 y1 f1 y10 y11 y12 y2 f2 y20 y21 y22 y23 r1 l1 r10 r11 r12 r2 l2 r20 r21 r22 r23
              obtain ⟨⟨x1, g1, x10, x11, x12, x13, x14, x15, -⟩, ⟨y1, f1, y10, y11, y12, -⟩, ⟨y2, f2, y20, y21, y22, y23, -⟩, -⟩ := U.out.facts
              go_wp2
              go_ret
              exact ⟨ret_i (E.out.trans hbt.out).symm, U.out.bel⟩
          | false =>
            have E := Lib.hid (h0.out hbt)
            clear hbad h0 hbt
            cases kd with
            | true =>
              cases z2 : (D2 != 0) with
              | true => rw [z2] at hbv; cases hbv
              | false =>
                rw [z2] at hbv
                have z1 : (D1 != 0) = false := by cases hq : (D1 != 0) with | false => rfl | true => rw [hq] at hbv; cases hbv
                clear hbv
                go_wp2_with fail
                clear hW2
                refine wp_region_calm (by kernel_rfl) (by kernel_rfl) ?_
                repeat (go_big_quiet_step (first | (go_at_call 30; with_reducible exact hY.out _) | (go_at_call 31; with_reducible exact hX.out _)))
                refine wpQuiet_nil ?_
                intro w4 hw4
                have hb4 := grow_below hw4
                clear hw4 hX hY
                replace U := Lib.hid (U.out.call hb4)
                have hFF := Lib.hid (hbel.trans ((hWW.trans (hb4.mono hWW.size)).mono hB))
                clear hb4 dd1 dd2 x1 g1 x10 x11 x12 x13 x14 x15 v1 h1 v10 v11 v12 v2 h2 v20 v21 v22 v23 y1 f1 y10 y11 y12 y2 f2 y20 y21 y22 y23 r1 l1 r10 r11 r12 r2 l2 r20 r21 r22 r23
                obtain ⟨⟨x1, g1, x10, x11, x12, x13, x14, x15, -⟩, ⟨y1, f1, y10, y11, y12, -⟩, ⟨y2, f2, y20, y21, y22, y23, -⟩, -⟩ := U.out.facts
                go_wp2
                go_roundw
                case rel => exact ⟨k + 1, by omega, by go_num, E.out, hFF.out⟩
                case measure => simp [intOf]; omega
            | false =>
              have z2 : ((H : Int) != 0) = false := by cases hq : ((H : Int) != 0) with | false => rfl | true => rw [hq] at hbv; cases hbv
              clear hbv
              go_wp2_with fail
              clear hW2
              refine wp_region_calm (by kernel_rfl) (by kernel_rfl) ?_
              repeat (go_big_quiet_step (first | (go_at_call 30; with_reducible exact hY.out _) | (go_at_call 31; with_reducible exact hX.out _)))
              refine wpQuiet_nil ?_
              intro w4 hw4
              have hb4 := grow_below hw4
              clear hw4 hX hY
              replace U := Lib.hid (U.out.call hb4)
              have hFF := Lib.hid (hbel.trans ((hWW.trans (hb4.mono hWW.size)).mono hB))
              clear hb4 dd1 dd2 x1 g1 x10 x11 x12 x13 x14 x15 v1 h1 v10 v11 v12 v2 h2 v20 v21 v22 v23 y1 f1 y10 y11 y12 y2 f2 y20 y21 y22 y23 r1 l1 r10 r11 r12 r2 l2 r20 r21 r22 r23
              obtain ⟨⟨x1, g1, x10, x11, x12, x13, x14, x15, -⟩, ⟨y1, f1, y10, y11, y12, -⟩, ⟨y2, f2, y20, y21, y22, y23, -⟩, -⟩ := U.out.facts
              go_wp2
              go_roundw
              case rel => exact ⟨k + 1, by omega, by go_num, E.out, hFF.out⟩
              case measure => simp [intOf]; omega
        · obtain rfl : k = p.tabs.length := by omega
          have E := Lib.hid (mixE_0 ML.out hsv.out hall)
          have hF := Lib.hid T.bel
          obtain ⟨⟨r1, l1, r10, r11, r12, -⟩, ⟨r2, l2, r20, r21, r22, r23, -⟩, -⟩ := T.facts
          clear hall T hbel hlt
          go_wp2
          go_ret
          exact ⟨ret_i E.out.symm, hF.out⟩
end Go.Proofs.Ytickckehhfdoeaa
