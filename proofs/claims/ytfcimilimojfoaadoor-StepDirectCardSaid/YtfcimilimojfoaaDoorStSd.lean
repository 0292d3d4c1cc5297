/-
  LAW StepDirect.
  Conditions: those that each theorem names.
-/
import Derived.Test.YtfcimilimojfoaaDoorSq1
import Derived.Deep.CutBlock
import Derived.Deep.RegionHeld3
import Derived.Deep.DeepCutAuto
namespace Go.Proofs.YtfcimilimojfoaaDoor
open Go.RowKit Go.Sv
theorem own_iv {w : World} {B : Nat} {A : Option Addr} {c : Nat} {l : List Int} (h : w.ownsRow B 3 1 (.slice A l.length c) l.length (rowM l.length (iv l))) : Arr w w.heap.size A l.length (iv l) := by
  obtain ⟨A', c', hv, _, _, ha⟩ := own_arr h (fun k hk => rowM_get hk)
  injection hv with h1; rw [h1]; exact ha
set_option maxHeartbeats 4000000 in
set_option maxRecDepth 100000 in
theorem direct_n (d : Dra) (q : ProbP) (dm : DMx) (r : MixP) (A0 : Option Addr) (c0 : Nat) (tg : List Int) (w : World) (hd : RDra w w.heap.size d q) (hbd : DBd d) (_he : RDmx w w.heap.size dm r) (_heb : MDBd dm) (hl : Arr w w.heap.size A0 tg.length (iv tg)) (hl0 : A0 = none → tg.length = 0 ∧ c0 = 0) (_hlm : tg.length ≤ 9223372036854775807) (h : ¬ (d.vs.length ≤ 3 ∧ d.lk.length ≤ 4)) :
    Calls Tryd.prog 6 #[caseV d q dm r, .slice A0 tg.length c0] w fun e w' => e = .returned (.bool true) ∧ Below w.heap.size w w' := by
  obtain ⟨W, hW, S⟩ := bx_c d q dm r w
  have HO := Lib.hid (lof_no d q dm r W ((hd.below S.bel).more S.bel.size) hbd h)
  have hR := Lib.hid ((InR.mk hl).to S.bel)
  clear hl
  obtain ⟨qa0, qc0, qa1, qc1, qa2, qc2, qa3, qc3⟩ := q
  obtain ⟨ra0, rc0, ra1, rc1, ra2, rc2⟩ := r
  dsimp only at HO hW S ⊢
  have SW := Lib.hid S
  clear S hd hbd _he _heb h
  replace hl0 := Lib.hid hl0
  obtain ⟨⟨za_0, fa_0, ca_0_0, ca_0_1, ca_0_2, ca_0_3, ca_0_4, ca_0_5, ca_0_6, -⟩, -⟩ := SW.out.facts
  go_enter Tryd.func6, Tryd.ntmps6
  go_wp2_with fail
  clear hW
  with_reducible refine HO.out.mono ?_
  rintro e' w1 ⟨_, rfl, hb1, rfl⟩
  clear za_0 fa_0 ca_0_0 ca_0_1 ca_0_2 ca_0_3 ca_0_4 ca_0_5 ca_0_6
  have S1 := Lib.hid (SW.out.call hb1)
  clear SW hb1 HO
  obtain ⟨⟨za_1, fa_1, ca_1_0, ca_1_1, ca_1_2, ca_1_3, ca_1_4, ca_1_5, ca_1_6, -⟩, -⟩ := S1.out.facts
  go_upto_region 2 with fail
  obtain ⟨W2, hW2, S2, hb2⟩ := fm_zz S1.out
  rw [hW2]
  clear hW2 hb2 S1
  replace S2 := Lib.hid S2
  clear za_1 fa_1 ca_1_0 ca_1_1 ca_1_2 ca_1_3 ca_1_4 ca_1_5 ca_1_6
  obtain ⟨⟨za_2, fa_2, ca_2_0, ca_2_1, ca_2_2, -⟩, ⟨zb_2, fb_2, cb_2_0, cb_2_1, cb_2_2, cb_2_3, -⟩, ⟨zc_2, fc_2, cc_2_0, cc_2_1, cc_2_2, cc_2_3, cc_2_4, cc_2_5, cc_2_6, -⟩, -⟩ := S2.out.facts
  have H3 := Lib.hid (awake_any W2)
  go_wp2_with fail
  with_reducible refine H3.out.mono ?_
  rintro e' w3 ⟨rfl, hb3⟩
  clear za_2 fa_2 ca_2_0 ca_2_1 ca_2_2 zb_2 fb_2 cb_2_0 cb_2_1 cb_2_2 cb_2_3 zc_2 fc_2 cc_2_0 cc_2_1 cc_2_2 cc_2_3 cc_2_4 cc_2_5 cc_2_6
  clear H3
  have S3 := Lib.hid (S2.out.call hb3)
  clear S2
  clear hb3
  obtain ⟨⟨za_3, fa_3, ca_3_0, ca_3_1, ca_3_2, -⟩, ⟨zb_3, fb_3, cb_3_0, cb_3_1, cb_3_2, cb_3_3, -⟩, ⟨zc_3, fc_3, cc_3_0, cc_3_1, cc_3_2, cc_3_3, cc_3_4, cc_3_5, cc_3_6, -⟩, -⟩ := S3.out.facts
  have H4 := Lib.hid (awake_any w3)
  go_wp2_with fail
  with_reducible refine H4.out.mono ?_
  rintro e' w4 ⟨rfl, hb4⟩
  clear za_3 fa_3 ca_3_0 ca_3_1 ca_3_2 zb_3 fb_3 cb_3_0 cb_3_1 cb_3_2 cb_3_3 zc_3 fc_3 cc_3_0 cc_3_1 cc_3_2 cc_3_3 cc_3_4 cc_3_5 cc_3_6
  clear H4
  have S4 := Lib.hid (S3.out.call hb4)
  clear S3
  clear hb4
  obtain ⟨⟨za_4, fa_4, ca_4_0, ca_4_1, ca_4_2, -⟩, ⟨zb_4, fb_4, cb_4_0, cb_4_1, cb_4_2, cb_4_3, -⟩, ⟨zc_4, fc_4, cc_4_0, cc_4_1, cc_4_2, cc_4_3, cc_4_4, cc_4_5, cc_4_6, -⟩, -⟩ := S4.out.facts
  go_wp2
  go_ret
  exact ⟨rfl, S4.out.bel⟩
set_option maxHeartbeats 4000000 in
set_option maxRecDepth 100000 in
theorem direct_y (d : Dra) (q : ProbP) (dm : DMx) (r : MixP) (A0 : Option Addr) (c0 : Nat) (tg : List Int) (w : World) (hd : RDra w w.heap.size d q) (hbd : DBd d) (he : RDmx w w.heap.size dm r) (heb : MDBd dm) (hl : Arr w w.heap.size A0 tg.length (iv tg)) (hl0 : A0 = none → tg.length = 0 ∧ c0 = 0) (_hlm : tg.length ≤ 9223372036854775807) (h : d.vs.length ≤ 3 ∧ d.lk.length ≤ 4) :
    Calls Tryd.prog 6 #[caseV d q dm r, .slice A0 tg.length c0] w fun e w' => e = .returned (.bool true) ∧ Below w.heap.size w w' := by
  obtain ⟨W, hW, S⟩ := bx_c d q dm r w
  have HO := Lib.hid (lofY d q dm r W ((hd.below S.bel).more S.bel.size) hbd ((he.below S.bel).more S.bel.size) heb h)
  have hR := Lib.hid ((InR.mk hl).to S.bel)
  clear hl
  obtain ⟨qa0, qc0, qa1, qc1, qa2, qc2, qa3, qc3⟩ := q
  obtain ⟨ra0, rc0, ra1, rc1, ra2, rc2⟩ := r
  dsimp only at HO hW S ⊢
  have SW := Lib.hid S
  clear S hd hbd he heb h
  replace hl0 := Lib.hid hl0
  obtain ⟨⟨za_0, fa_0, ca_0_0, ca_0_1, ca_0_2, ca_0_3, ca_0_4, ca_0_5, ca_0_6, -⟩, -⟩ := SW.out.facts
  go_enter Tryd.func6, Tryd.ntmps6
  go_wp2_with fail
  clear hW
  with_reducible refine HO.out.mono ?_
  rintro e' w1 ⟨_, rfl, hb1, P, M, ⟨y0, v0, y1, v1, y2, v2, y3, v3⟩, F, ⟨x0, u0, x1, u1, x2, u2⟩, rfl, hF, hP, hA⟩
  clear za_0 fa_0 ca_0_0 ca_0_1 ca_0_2 ca_0_3 ca_0_4 ca_0_5 ca_0_6
  replace hF := Lib.hid hF
  have S1 := Lib.hid (SW.out.call hb1)
  replace hR := Lib.hid (hR.out.to hb1)
  obtain ⟨W2, hW2, S2, hb2⟩ := fm_pm S1.out P ⟨y0, v0, y1, v1, y2, v2, y3, v3⟩ M ⟨x0, u0, x1, u1, x2, u2⟩
  dsimp only at hW2 S2
  replace hP := Lib.hid (hP.to hb2)
  replace hA := Lib.hid (hA.to hb2)
  replace hR := Lib.hid (hR.out.to hb2)
  replace S2 := Lib.hid S2
  clear S1 SW hb1 hb2 HO
  obtain ⟨⟨za_1, fa_1, ca_1_0, ca_1_1, ca_1_2, -⟩, ⟨zb_1, fb_1, cb_1_0, cb_1_1, cb_1_2, cb_1_3, -⟩, ⟨zc_1, fc_1, cc_1_0, cc_1_1, cc_1_2, cc_1_3, cc_1_4, cc_1_5, cc_1_6, -⟩, -⟩ := S2.out.facts
  have H3 := Lib.hid (awake_any W2)
  go_wp2_with fail
  with_reducible refine H3.out.mono ?_
  rintro e' w3 ⟨rfl, hb3⟩
  clear za_1 fa_1 ca_1_0 ca_1_1 ca_1_2 zb_1 fb_1 cb_1_0 cb_1_1 cb_1_2 cb_1_3 zc_1 fc_1 cc_1_0 cc_1_1 cc_1_2 cc_1_3 cc_1_4 cc_1_5 cc_1_6
  clear H3
  have S3 := Lib.hid (S2.out.call hb3)
  clear S2
  replace hP := Lib.hid (hP.out.to hb3)
  replace hA := Lib.hid (hA.out.to hb3)
  replace hR := Lib.hid (hR.out.to hb3)
  clear hb3
  clear hW2
  obtain ⟨⟨za_2, fa_2, ca_2_0, ca_2_1, ca_2_2, -⟩, ⟨zb_2, fb_2, cb_2_0, cb_2_1, cb_2_2, cb_2_3, -⟩, ⟨zc_2, fc_2, cc_2_0, cc_2_1, cc_2_2, cc_2_3, cc_2_4, cc_2_5, cc_2_6, -⟩, -⟩ := S3.out.facts
  cases hgt : decide ((8 : Int) < (tg.length : Int)) with
  | true =>
    have H4 := Lib.hid (awake_any w3)
    go_wp2_with fail
    with_reducible refine H4.out.mono ?_
    rintro e' w4 ⟨rfl, hb4⟩
    clear za_2 fa_2 ca_2_0 ca_2_1 ca_2_2 zb_2 fb_2 cb_2_0 cb_2_1 cb_2_2 cb_2_3 zc_2 fc_2 cc_2_0 cc_2_1 cc_2_2 cc_2_3 cc_2_4 cc_2_5 cc_2_6
    clear H4
    have S4 := Lib.hid (S3.out.call hb4)
    clear S3
    replace hP := Lib.hid (hP.out.to hb4)
    replace hA := Lib.hid (hA.out.to hb4)
    replace hR := Lib.hid (hR.out.to hb4)
    clear hb4
    obtain ⟨⟨za_3, fa_3, ca_3_0, ca_3_1, ca_3_2, -⟩, ⟨zb_3, fb_3, cb_3_0, cb_3_1, cb_3_2, cb_3_3, -⟩, ⟨zc_3, fc_3, cc_3_0, cc_3_1, cc_3_2, cc_3_3, cc_3_4, cc_3_5, cc_3_6, -⟩, -⟩ := S4.out.facts
    go_wp2
    go_ret
    exact ⟨rfl, S4.out.bel⟩
  | false =>
    have hle : tg.length ≤ 8 := by have := of_decide_eq_false hgt; omega
    replace hle := Lib.hid hle
    have hbd := Lib.hid (((Drawn.refl w3).drew).below (B := w3.heap.size))
    have Sd := Lib.hid (S3.out.call hbd.out)
    replace hbd := hbd.out
    have hPd := Lib.hid (hP.out.to hbd)
    have hAd := Lib.hid (hA.out.to hbd)
    have hRd := Lib.hid (hR.out.to hbd)
    clear hbd hP hA hR
    have hP := hPd
    clear hPd
    have hA := hAd
    clear hAd
    have hR := hRd
    clear hRd
    clear S3
    have H4 := Lib.hid (cloneI_any A0 c0 tg.length (iv tg) w3.drew hR.out.arr hl0.out (fun k _ => rfl) (by have := hle.out; omega))
    go_wp2_with fail
    go_region_held3 (fun w' => w'.cell? ⟨w1.heap.size, 0, none⟩ = some (.slice y0 P.vs.length v0) ∧ w'.cell? ⟨w1.heap.size, 1, none⟩ = some (.slice y1 P.now.length v1) ∧ w'.cell? ⟨w1.heap.size, 2, none⟩ = some (.slice y2 P.tgt.length v2) ∧ w'.cell? ⟨w1.heap.size, 3, none⟩ = some (.slice y3 P.tabs.length v3) ∧ w'.cell? ⟨w1.heap.size + 1, 0, none⟩ = some (.slice x0 M.base.length u0) ∧ w'.cell? ⟨w1.heap.size + 1, 1, none⟩ = some (.slice x1 M.next.length u1) ∧ w'.cell? ⟨w1.heap.size + 1, 2, none⟩ = some (.slice x2 M.held.length u2)) (go_keep)
      (first
        | ((with_reducible refine H4.out.mono ?_)
           rintro e' w4 ⟨_, rfl, A1, c1, rfl, hO, hb4⟩
           clear za_2 fa_2 ca_2_0 ca_2_1 ca_2_2 zb_2 fb_2 cb_2_0 cb_2_1 cb_2_2 cb_2_3 zc_2 fc_2 cc_2_0 cc_2_1 cc_2_2 cc_2_3 cc_2_4 cc_2_5 cc_2_6
           have S4 := Lib.hid (Sd.out.call hb4)
           replace hP := Lib.hid (hP.out.to hb4)
           replace hA := Lib.hid (hA.out.to hb4)
           replace hR := Lib.hid (hR.out.to hb4)
           clear hb4 H4 Sd
           replace hO := Lib.hid (own_iv hO)
           have H5 := Lib.hid (Direct_any P ⟨y0, v0, y1, v1, y2, v2, y3, v3⟩ M ⟨x0, u0, x1, u1, x2, u2⟩ A1 c1 tg w4 hP.out.prob hF.out.bd hA.out.mix (hA.out.bd hF.out.h8) hO.out (by have := hle.out; omega))
           obtain ⟨⟨za_3, fa_3, ca_3_0, ca_3_1, ca_3_2, -⟩, ⟨zb_3, fb_3, cb_3_0, cb_3_1, cb_3_2, cb_3_3, -⟩, ⟨zc_3, fc_3, cc_3_0, cc_3_1, cc_3_2, cc_3_3, cc_3_4, cc_3_5, cc_3_6, -⟩, -⟩ := S4.out.facts)
        | ((with_reducible refine H5.out.mono ?_)
           rintro e' w5 ⟨_, rfl, hb5, A2, c2, rfl, hD⟩
           clear za_3 fa_3 ca_3_0 ca_3_1 ca_3_2 zb_3 fb_3 cb_3_0 cb_3_1 cb_3_2 cb_3_3 zc_3 fc_3 cc_3_0 cc_3_1 cc_3_2 cc_3_3 cc_3_4 cc_3_5 cc_3_6
           have S5 := Lib.hid (S4.out.call hb5)
           replace hP := Lib.hid (hP.out.to hb5)
           replace hA := Lib.hid (hA.out.to hb5)
           replace hR := Lib.hid (hR.out.to hb5)
           replace hD := Lib.hid (SpO.mk hD)
           clear hb5 H5 S4
           obtain ⟨⟨za_4, fa_4, ca_4_0, ca_4_1, ca_4_2, -⟩, ⟨zb_4, fb_4, cb_4_0, cb_4_1, cb_4_2, cb_4_3, -⟩, ⟨zc_4, fc_4, cc_4_0, cc_4_1, cc_4_2, cc_4_3, cc_4_4, cc_4_5, cc_4_6, -⟩, -⟩ := S5.out.facts))
    all_goals
      have hLn := Lib.hid (diL_len P M tg)
      have hRun := Lib.hid (fun h => dir_run (tg := tg) hF.out.ok h)
      obtain ⟨L, hL⟩ : ∃ L, diL P M tg = L := ⟨_, rfl⟩
      obtain ⟨er, her⟩ : ∃ er, diE P M tg = er := ⟨_, rfl⟩
      rw [her] at hRun ⊢
      rw [hL] at hD hLn ⊢
      replace hL := Lib.hid hL
      replace her := Lib.hid her
      have H6 := Lib.hid (rDirect_any P ⟨y0, v0, y1, v1, y2, v2, y3, v3⟩ M ⟨x0, u0, x1, u1, x2, u2⟩ A0 c0 tg w5 hP.out.prob hF.out.bd hA.out.mix (hA.out.bd hF.out.h8) hR.out.arr (by have := hle.out; omega))
      go_wp2_with fail
      with_reducible refine H6.out.mono ?_
      rintro e' w6 ⟨_, rfl, hb6, A3, c3, rfl, hD2⟩
      clear za_4 fa_4 ca_4_0 ca_4_1 ca_4_2 zb_4 fb_4 cb_4_0 cb_4_1 cb_4_2 cb_4_3 zc_4 fc_4 cc_4_0 cc_4_1 cc_4_2 cc_4_3 cc_4_4 cc_4_5 cc_4_6
      clear H6
      have S6 := Lib.hid (S5.out.call hb6)
      clear S5
      replace hP := Lib.hid (hP.out.to hb6)
      replace hA := Lib.hid (hA.out.to hb6)
      replace hR := Lib.hid (hR.out.to hb6)
      replace hD := Lib.hid (hD.out.to hb6)
      rw [hL.out] at hD2 ⊢
      rw [her.out]
      replace hD2 := Lib.hid (SpO.mk hD2)
      clear hb6
      obtain ⟨⟨za_5, fa_5, ca_5_0, ca_5_1, ca_5_2, -⟩, ⟨zb_5, fb_5, cb_5_0, cb_5_1, cb_5_2, cb_5_3, -⟩, ⟨zc_5, fc_5, cc_5_0, cc_5_1, cc_5_2, cc_5_3, cc_5_4, cc_5_5, cc_5_6, -⟩, -⟩ := S6.out.facts
      have H7 := Lib.hid (calls_true (rsame_any A2 A3 c2 c3 L L w6 w6.heap.size hD.out.arr hD2.out.arr (by have := hLn.out; have := hle.out; omega) (by have := hLn.out; have := hle.out; omega)) (decide_eq_true rfl))
      go_wp2_with fail
      with_reducible refine H7.out.mono ?_
      rintro e' w7 ⟨rfl, hb7⟩
      clear za_5 fa_5 ca_5_0 ca_5_1 ca_5_2 zb_5 fb_5 cb_5_0 cb_5_1 cb_5_2 cb_5_3 zc_5 fc_5 cc_5_0 cc_5_1 cc_5_2 cc_5_3 cc_5_4 cc_5_5 cc_5_6
      clear H7
      have S7 := Lib.hid (S6.out.call hb7)
      clear S6
      replace hP := Lib.hid (hP.out.to hb7)
      replace hA := Lib.hid (hA.out.to hb7)
      replace hR := Lib.hid (hR.out.to hb7)
      replace hD := Lib.hid (hD.out.to hb7)
      replace hD2 := Lib.hid (hD2.out.to hb7)
      clear hb7
      obtain ⟨⟨za_6, fa_6, ca_6_0, ca_6_1, ca_6_2, -⟩, ⟨zb_6, fb_6, cb_6_0, cb_6_1, cb_6_2, cb_6_3, -⟩, ⟨zc_6, fc_6, cc_6_0, cc_6_1, cc_6_2, cc_6_3, cc_6_4, cc_6_5, cc_6_6, -⟩, -⟩ := S7.out.facts
      cases h0 : (er != 0) with
      | true =>
        have H8 := Lib.hid (calls_true (rsame_any A2 A3 c2 c3 L L w7 w7.heap.size hD.out.arr hD2.out.arr (by have := hLn.out; have := hle.out; omega) (by have := hLn.out; have := hle.out; omega)) (decide_eq_true rfl))
        go_wp2_with fail
        with_reducible refine H8.out.mono ?_
        rintro e' w8 ⟨rfl, hb8⟩
        clear za_6 fa_6 ca_6_0 ca_6_1 ca_6_2 zb_6 fb_6 cb_6_0 cb_6_1 cb_6_2 cb_6_3 zc_6 fc_6 cc_6_0 cc_6_1 cc_6_2 cc_6_3 cc_6_4 cc_6_5 cc_6_6
        clear H8
        have S8 := Lib.hid (S7.out.call hb8)
        clear S7
        replace hP := Lib.hid (hP.out.to hb8)
        replace hA := Lib.hid (hA.out.to hb8)
        replace hR := Lib.hid (hR.out.to hb8)
        replace hD := Lib.hid (hD.out.to hb8)
        replace hD2 := Lib.hid (hD2.out.to hb8)
        clear hb8
        obtain ⟨⟨za_7, fa_7, ca_7_0, ca_7_1, ca_7_2, -⟩, ⟨zb_7, fb_7, cb_7_0, cb_7_1, cb_7_2, cb_7_3, -⟩, ⟨zc_7, fc_7, cc_7_0, cc_7_1, cc_7_2, cc_7_3, cc_7_4, cc_7_5, cc_7_6, -⟩, -⟩ := S8.out.facts
        go_wp2
        go_ret
        exact ⟨rfl, S8.out.bel⟩
      | false =>
        have hDF := Lib.hid (hRun.out (by simpa using h0))
        clear hRun
        have H8 := Lib.hid (Run_any P ⟨y0, v0, y1, v1, y2, v2, y3, v3⟩ M ⟨x0, u0, x1, u1, x2, u2⟩ A2 c2 L w7 hP.out.prob hF.out.bd hA.out.mix (hA.out.bd hF.out.h8) hD.out.arr (by have := hLn.out; have := hle.out; omega))
        go_wp2_with fail
        with_reducible refine H8.out.mono ?_
        rintro e' w8 ⟨_, rfl, hb8, A4, c4, Q4, rfl, hM⟩
        clear za_6 fa_6 ca_6_0 ca_6_1 ca_6_2 zb_6 fb_6 cb_6_0 cb_6_1 cb_6_2 cb_6_3 zc_6 fc_6 cc_6_0 cc_6_1 cc_6_2 cc_6_3 cc_6_4 cc_6_5 cc_6_6
        clear H8
        have S8 := Lib.hid (S7.out.call hb8)
        clear S7
        replace hP := Lib.hid (hP.out.to hb8)
        replace hA := Lib.hid (hA.out.to hb8)
        replace hR := Lib.hid (hR.out.to hb8)
        replace hD := Lib.hid (hD.out.to hb8)
        replace hD2 := Lib.hid (hD2.out.to hb8)
        replace hM := Lib.hid (MxO.of hb8 hM)
        clear hb8
        have f1 := hDF.out.e
        have f2 := hDF.out.n
        have f3 := hDF.out.l
        have f4 := hDF.out.b
        have f5 := hDF.out.x
        have f6 := hDF.out.xl
        rw [hL.out] at f1 f2 f3 f4 f5 f6
        rw [f1, f2]
        clear f1 f2
        obtain ⟨ms, hms⟩ : ∃ ms, rnL P M L = ms := ⟨_, rfl⟩
        rw [hms] at hM f3 f4 f5 f6 ⊢
        have hk : L.length < ms.length := by omega
        obtain ⟨bM, oM, e4, hbM, hcM⟩ := hM.out.arr (by omega)
        subst e4
        obtain ⟨d0, d1, d2⟩ := mx_cells (hcM L.length hk)
        have hB0 := Lib.hid (hM.out.mix hk)
        obtain ⟨x, hx⟩ : ∃ x, mxAt ms L.length = x := ⟨_, rfl⟩
        obtain ⟨⟨na0, nc0, na1, nc1, na2, nc2⟩, hq⟩ : ∃ y, Q4 L.length = y := ⟨_, rfl⟩
        rw [hx, hq] at hB0
        rw [hx, hq] at d0 d1 d2
        rw [hx] at f4 f5 f6
        dsimp only at d0 d1 d2
        have jl : ((ms.length : Int) != (L.length : Int) + 1) = false := by rw [bne_eq_false_iff_eq]; omega
        have jk : (L.length : Int) < (ms.length : Int) := by omega
        have hb := hB0.out.r0
        rw [f4] at hb d0
        have hE := Lib.hid (eqI_any na0 A0 nc0 c0 tg w8 (by have := hb; dsimp only at this; exact this) hR.out.arr (by have := hle.out; omega))
        replace f3 := Lib.hid f3
        replace f4 := Lib.hid f4
        replace f5 := Lib.hid f5
        replace f6 := Lib.hid f6
        replace hms := Lib.hid hms
        replace hx := Lib.hid hx
        replace hq := Lib.hid hq
        clear hb hcM hk
        have hnb : L.length ≤ 16 := by have := hLn.out; have := hle.out; omega
        obtain ⟨nL, hnL⟩ : ∃ nL, L.length = nL := ⟨_, rfl⟩
        rw [hnL] at d0 d1 d2 jl jk hnb ⊢
        replace hnL := Lib.hid hnL
        obtain ⟨⟨za_7, fa_7, ca_7_0, ca_7_1, ca_7_2, -⟩, ⟨zb_7, fb_7, cb_7_0, cb_7_1, cb_7_2, cb_7_3, -⟩, ⟨zc_7, fc_7, cc_7_0, cc_7_1, cc_7_2, cc_7_3, cc_7_4, cc_7_5, cc_7_6, -⟩, -⟩ := S8.out.facts
        have H9 := Lib.hid (hE.out)
        go_wp2_with fail
        with_reducible refine H9.out.mono ?_
        rintro e' w9 ⟨rfl, hb9⟩
        clear za_7 fa_7 ca_7_0 ca_7_1 ca_7_2 zb_7 fb_7 cb_7_0 cb_7_1 cb_7_2 cb_7_3 zc_7 fc_7 cc_7_0 cc_7_1 cc_7_2 cc_7_3 cc_7_4 cc_7_5 cc_7_6
        clear H9
        have S9 := Lib.hid (S8.out.call hb9)
        clear S8
        replace hP := Lib.hid (hP.out.to hb9)
        replace hA := Lib.hid (hA.out.to hb9)
        replace hR := Lib.hid (hR.out.to hb9)
        replace hD := Lib.hid (hD.out.to hb9)
        replace hD2 := Lib.hid (hD2.out.to hb9)
        replace hM := Lib.hid (hM.out.to hb9)
        replace hB0 := Lib.hid (hB0.out.to hb9)
        have e1 := (hb9.cell (p := ⟨bM, oM + nL * 3 + 1, none⟩) hbM).trans d1
        replace hbM := Nat.lt_of_lt_of_le hbM hb9.size
        clear hb9
        obtain ⟨⟨za_8, fa_8, ca_8_0, ca_8_1, ca_8_2, -⟩, ⟨zb_8, fb_8, cb_8_0, cb_8_1, cb_8_2, cb_8_3, -⟩, ⟨zc_8, fc_8, cc_8_0, cc_8_1, cc_8_2, cc_8_3, cc_8_4, cc_8_5, cc_8_6, -⟩, -⟩ := S9.out.facts
        clear d0 d1 d2 hE jl
        have hNx := Lib.hid (hB0.out.r1)
        have hxb : x.next.length ≤ 6 := by rw [f6.out]; exact (prob_small hF.out.pr).1
        go_wp2
        go_loop [110] (fun s110 => ∃ k : Nat, s110 = .int .i64 k ∧ k ≤ x.next.length) (fun s110 => x.next.length - (intOf s110).toNat)
        case atStart => exact ⟨0, rfl, Nat.zero_le _⟩
        case round =>
          obtain ⟨k, rfl, hk2⟩ := hrel
          by_cases hlt : k < x.next.length
          · obtain ⟨b, o, e5, -, hc⟩ := hNx.out (by omega)
            have g := hc k hlt
            (try dsimp only at e5)
            subst e5
            unfold iv at g
            rw [f5.out k (by rw [← f6.out]; exact hlt)] at g
            have jx : (k : Int) < (x.next.length : Int) := by omega
            clear hc
            go_wp2
            go_round
            case rel => exact ⟨k + 1, by go_num, by omega⟩
            case measure => simp [intOf]; omega
          · obtain rfl : k = x.next.length := by omega
            clear hlt
            go_wp2
            go_ret
            exact ⟨rfl, S9.out.bel⟩
theorem law_direct (d : Dra) (q : ProbP) (dm : DMx) (r : MixP) (A0 : Option Addr) (c0 : Nat) (tg : List Int) (w : World) (hd : RDra w w.heap.size d q) (hbd : DBd d) (he : RDmx w w.heap.size dm r) (heb : MDBd dm) (hl : Arr w w.heap.size A0 tg.length (iv tg)) (hl0 : A0 = none → tg.length = 0 ∧ c0 = 0) (_hlm : tg.length ≤ 9223372036854775807) :
    Calls Tryd.prog 6 #[caseV d q dm r, .slice A0 tg.length c0] w fun e w' => e = .returned (.bool true) ∧ Below w.heap.size w w' := by
  by_cases h : d.vs.length ≤ 3 ∧ d.lk.length ≤ 4
  · exact direct_y d q dm r A0 c0 tg w hd hbd he heb hl hl0 _hlm h
  · exact direct_n d q dm r A0 c0 tg w hd hbd he heb hl hl0 _hlm h
end Go.Proofs.YtfcimilimojfoaaDoor
