/-
  LAW StepEnabled.
  Conditions: those that each theorem names.
-/
import Derived.Test.YtfcimilimojfoaaDoorSq1
import Derived.Deep.CutBlock
import Derived.Deep.DeepCutAuto
namespace Go.Proofs.YtfcimilimojfoaaDoor
open Go.RowKit Go.Sv
set_option maxHeartbeats 4000000 in
set_option maxRecDepth 100000 in
theorem enabled_n (d : Dra) (q : ProbP) (dm : DMx) (r : MixP) (w : World) (hd : RDra w w.heap.size d q) (hbd : DBd d) (_he : RDmx w w.heap.size dm r) (_heb : MDBd dm) (h : ¬ (d.vs.length ≤ 3 ∧ d.lk.length ≤ 4)) :
    Calls Tryd.prog 3 #[caseV d q dm r] w fun e w' => e = .returned (.bool true) ∧ Below w.heap.size w w' := by
  obtain ⟨W, hW, S⟩ := bx_c d q dm r w
  have HO := Lib.hid (lof_no d q dm r W ((hd.below S.bel).more S.bel.size) hbd h)
  obtain ⟨qa0, qc0, qa1, qc1, qa2, qc2, qa3, qc3⟩ := q
  obtain ⟨ra0, rc0, ra1, rc1, ra2, rc2⟩ := r
  dsimp only at HO hW S ⊢
  have SW := Lib.hid S
  clear S hd hbd _he _heb h
  obtain ⟨⟨za_0, fa_0, ca_0_0, ca_0_1, ca_0_2, ca_0_3, ca_0_4, ca_0_5, ca_0_6, -⟩, -⟩ := SW.out.facts
  go_enter Tryd.func3, Tryd.ntmps3
  go_wp2_with fail
  clear hW
  with_reducible refine HO.out.mono ?_
  rintro e' w1 ⟨_, rfl, hb1, rfl⟩
  clear za_0 fa_0 ca_0_0 ca_0_1 ca_0_2 ca_0_3 ca_0_4 ca_0_5 ca_0_6
  have S1 := Lib.hid (SW.out.call hb1)
  clear SW hb1 HO
  obtain ⟨⟨za_1, fa_1, ca_1_0, ca_1_1, ca_1_2, ca_1_3, ca_1_4, ca_1_5, ca_1_6, -⟩, -⟩ := S1.out.facts
  go_upto_region 2 with fail
  obtain ⟨W2, hW2, S2, hb2⟩ := fm_zz S1.out
  rw [hW2]
  clear hW2 hb2 S1
  replace S2 := Lib.hid S2
  clear za_1 fa_1 ca_1_0 ca_1_1 ca_1_2 ca_1_3 ca_1_4 ca_1_5 ca_1_6
  obtain ⟨⟨za_2, fa_2, ca_2_0, ca_2_1, ca_2_2, -⟩, ⟨zb_2, fb_2, cb_2_0, cb_2_1, cb_2_2, cb_2_3, -⟩, ⟨zc_2, fc_2, cc_2_0, cc_2_1, cc_2_2, cc_2_3, cc_2_4, cc_2_5, cc_2_6, -⟩, -⟩ := S2.out.facts
  have H3 := Lib.hid (awake_any W2)
  go_wp2_with fail
  with_reducible refine H3.out.mono ?_
  rintro e' w3 ⟨rfl, hb3⟩
  clear za_2 fa_2 ca_2_0 ca_2_1 ca_2_2 zb_2 fb_2 cb_2_0 cb_2_1 cb_2_2 cb_2_3 zc_2 fc_2 cc_2_0 cc_2_1 cc_2_2 cc_2_3 cc_2_4 cc_2_5 cc_2_6
  clear H3
  have S3 := Lib.hid (S2.out.call hb3)
  clear S2
  clear hb3
  obtain ⟨⟨za_3, fa_3, ca_3_0, ca_3_1, ca_3_2, -⟩, ⟨zb_3, fb_3, cb_3_0, cb_3_1, cb_3_2, cb_3_3, -⟩, ⟨zc_3, fc_3, cc_3_0, cc_3_1, cc_3_2, cc_3_3, cc_3_4, cc_3_5, cc_3_6, -⟩, -⟩ := S3.out.facts
  have H4 := Lib.hid (awake_any w3)
  go_wp2_with fail
  with_reducible refine H4.out.mono ?_
  rintro e' w4 ⟨rfl, hb4⟩
  clear za_3 fa_3 ca_3_0 ca_3_1 ca_3_2 zb_3 fb_3 cb_3_0 cb_3_1 cb_3_2 cb_3_3 zc_3 fc_3 cc_3_0 cc_3_1 cc_3_2 cc_3_3 cc_3_4 cc_3_5 cc_3_6
  clear H4
  have S4 := Lib.hid (S3.out.call hb4)
  clear S3
  clear hb4
  obtain ⟨⟨za_4, fa_4, ca_4_0, ca_4_1, ca_4_2, -⟩, ⟨zb_4, fb_4, cb_4_0, cb_4_1, cb_4_2, cb_4_3, -⟩, ⟨zc_4, fc_4, cc_4_0, cc_4_1, cc_4_2, cc_4_3, cc_4_4, cc_4_5, cc_4_6, -⟩, -⟩ := S4.out.facts
  go_wp2
  go_ret
  exact ⟨rfl, S4.out.bel⟩
set_option maxHeartbeats 4000000 in
set_option maxRecDepth 100000 in
theorem enabled_y (d : Dra) (q : ProbP) (dm : DMx) (r : MixP) (w : World) (hd : RDra w w.heap.size d q) (hbd : DBd d) (he : RDmx w w.heap.size dm r) (heb : MDBd dm) (h : d.vs.length ≤ 3 ∧ d.lk.length ≤ 4) :
    Calls Tryd.prog 3 #[caseV d q dm r] w fun e w' => e = .returned (.bool true) ∧ Below w.heap.size w w' := by
  obtain ⟨W, hW, S⟩ := bx_c d q dm r w
  have HO := Lib.hid (lofY d q dm r W ((hd.below S.bel).more S.bel.size) hbd ((he.below S.bel).more S.bel.size) heb h)
  obtain ⟨qa0, qc0, qa1, qc1, qa2, qc2, qa3, qc3⟩ := q
  obtain ⟨ra0, rc0, ra1, rc1, ra2, rc2⟩ := r
  dsimp only at HO hW S ⊢
  have SW := Lib.hid S
  clear S hd hbd he heb h
  obtain ⟨⟨za_0, fa_0, ca_0_0, ca_0_1, ca_0_2, ca_0_3, ca_0_4, ca_0_5, ca_0_6, -⟩, -⟩ := SW.out.facts
  go_enter Tryd.func3, Tryd.ntmps3
  go_wp2_with fail
  clear hW
  with_reducible refine HO.out.mono ?_
  rintro e' w1 ⟨_, rfl, hb1, P, M, ⟨y0, v0, y1, v1, y2, v2, y3, v3⟩, F, ⟨x0, u0, x1, u1, x2, u2⟩, rfl, hF, hP, hA⟩
  clear za_0 fa_0 ca_0_0 ca_0_1 ca_0_2 ca_0_3 ca_0_4 ca_0_5 ca_0_6
  replace hF := Lib.hid hF
  have S1 := Lib.hid (SW.out.call hb1)
  obtain ⟨W2, hW2, S2, hb2⟩ := fm_pm S1.out P ⟨y0, v0, y1, v1, y2, v2, y3, v3⟩ M ⟨x0, u0, x1, u1, x2, u2⟩
  dsimp only at hW2 S2
  replace hP := Lib.hid (hP.to hb2)
  replace hA := Lib.hid (hA.to hb2)
  replace S2 := Lib.hid S2
  clear S1 SW hb1 hb2 HO
  obtain ⟨⟨za_1, fa_1, ca_1_0, ca_1_1, ca_1_2, -⟩, ⟨zb_1, fb_1, cb_1_0, cb_1_1, cb_1_2, cb_1_3, -⟩, ⟨zc_1, fc_1, cc_1_0, cc_1_1, cc_1_2, cc_1_3, cc_1_4, cc_1_5, cc_1_6, -⟩, -⟩ := S2.out.facts
  have H3 := Lib.hid (awake_any W2)
  go_wp2_with fail
  with_reducible refine H3.out.mono ?_
  rintro e' w3 ⟨rfl, hb3⟩
  clear za_1 fa_1 ca_1_0 ca_1_1 ca_1_2 zb_1 fb_1 cb_1_0 cb_1_1 cb_1_2 cb_1_3 zc_1 fc_1 cc_1_0 cc_1_1 cc_1_2 cc_1_3 cc_1_4 cc_1_5 cc_1_6
  clear H3
  have S3 := Lib.hid (S2.out.call hb3)
  clear S2
  replace hP := Lib.hid (hP.out.to hb3)
  replace hA := Lib.hid (hA.out.to hb3)
  clear hb3
  clear hW2
  obtain ⟨⟨za_2, fa_2, ca_2_0, ca_2_1, ca_2_2, -⟩, ⟨zb_2, fb_2, cb_2_0, cb_2_1, cb_2_2, cb_2_3, -⟩, ⟨zc_2, fc_2, cc_2_0, cc_2_1, cc_2_2, cc_2_3, cc_2_4, cc_2_5, cc_2_6, -⟩, -⟩ := S3.out.facts
  have H4 := Lib.hid (Enabled_any P ⟨y0, v0, y1, v1, y2, v2, y3, v3⟩ M ⟨x0, u0, x1, u1, x2, u2⟩ w3 hP.out.prob hF.out.bd hA.out.mix (hA.out.bd hF.out.h8))
  go_wp2_with fail
  with_reducible refine H4.out.mono ?_
  rintro e' w4 ⟨_, rfl, hb4, A1, c1, rfl, hO⟩
  clear za_2 fa_2 ca_2_0 ca_2_1 ca_2_2 zb_2 fb_2 cb_2_0 cb_2_1 cb_2_2 cb_2_3 zc_2 fc_2 cc_2_0 cc_2_1 cc_2_2 cc_2_3 cc_2_4 cc_2_5 cc_2_6
  clear H4
  have S4 := Lib.hid (S3.out.call hb4)
  clear S3
  replace hP := Lib.hid (hP.out.to hb4)
  replace hA := Lib.hid (hA.out.to hb4)
  clear hb4
  have hEl := Lib.hid (enL_len hF.out)
  have he0 : enE P M = 0 := hF.out.e0
  rw [he0]
  clear he0
  obtain ⟨L, hL⟩ : ∃ L, enL P M = L := ⟨_, rfl⟩
  rw [hL] at hO hEl ⊢
  replace hL := Lib.hid hL
  replace hO := Lib.hid (SpO.mk hO)
  obtain ⟨⟨za_3, fa_3, ca_3_0, ca_3_1, ca_3_2, -⟩, ⟨zb_3, fb_3, cb_3_0, cb_3_1, cb_3_2, cb_3_3, -⟩, ⟨zc_3, fc_3, cc_3_0, cc_3_1, cc_3_2, cc_3_3, cc_3_4, cc_3_5, cc_3_6, -⟩, -⟩ := S4.out.facts
  have H5 := Lib.hid (rsteps_en P ⟨y0, v0, y1, v1, y2, v2, y3, v3⟩ M ⟨x0, u0, x1, u1, x2, u2⟩ w4 hP.out.prob hA.out.mix (hA.out.bd hF.out.h8) hF.out)
  go_wp2_with fail
  with_reducible refine H5.out.mono ?_
  rintro e' w5 ⟨_, rfl, hb5, A2, c2, rfl, hO2⟩
  clear za_3 fa_3 ca_3_0 ca_3_1 ca_3_2 zb_3 fb_3 cb_3_0 cb_3_1 cb_3_2 cb_3_3 zc_3 fc_3 cc_3_0 cc_3_1 cc_3_2 cc_3_3 cc_3_4 cc_3_5 cc_3_6
  clear H5
  have S5 := Lib.hid (S4.out.call hb5)
  clear S4
  replace hP := Lib.hid (hP.out.to hb5)
  replace hA := Lib.hid (hA.out.to hb5)
  replace hO := Lib.hid (hO.out.to hb5)
  clear hb5
  rw [hL.out] at hO2 ⊢
  replace hO2 := Lib.hid (SpO.mk hO2)
  obtain ⟨⟨za_4, fa_4, ca_4_0, ca_4_1, ca_4_2, -⟩, ⟨zb_4, fb_4, cb_4_0, cb_4_1, cb_4_2, cb_4_3, -⟩, ⟨zc_4, fc_4, cc_4_0, cc_4_1, cc_4_2, cc_4_3, cc_4_4, cc_4_5, cc_4_6, -⟩, -⟩ := S5.out.facts
  have H6 := Lib.hid (calls_true (rsame_any A1 A2 c1 c2 L L w5 w5.heap.size hO.out.arr hO2.out.arr (by have := hEl.out; omega) (by have := hEl.out; omega)) (decide_eq_true rfl))
  go_wp2_with fail
  with_reducible refine H6.out.mono ?_
  rintro e' w6 ⟨rfl, hb6⟩
  clear za_4 fa_4 ca_4_0 ca_4_1 ca_4_2 zb_4 fb_4 cb_4_0 cb_4_1 cb_4_2 cb_4_3 zc_4 fc_4 cc_4_0 cc_4_1 cc_4_2 cc_4_3 cc_4_4 cc_4_5 cc_4_6
  clear H6
  have S6 := Lib.hid (S5.out.call hb6)
  clear S5
  replace hP := Lib.hid (hP.out.to hb6)
  replace hA := Lib.hid (hA.out.to hb6)
  replace hO := Lib.hid (hO.out.to hb6)
  replace hO2 := Lib.hid (hO2.out.to hb6)
  clear hb6
  obtain ⟨⟨za_5, fa_5, ca_5_0, ca_5_1, ca_5_2, -⟩, ⟨zb_5, fb_5, cb_5_0, cb_5_1, cb_5_2, cb_5_3, -⟩, ⟨zc_5, fc_5, cc_5_0, cc_5_1, cc_5_2, cc_5_3, cc_5_4, cc_5_5, cc_5_6, -⟩, -⟩ := S6.out.facts
  go_wp2
  go_ret
  exact ⟨rfl, S6.out.bel⟩
theorem law_enabled (d : Dra) (q : ProbP) (dm : DMx) (r : MixP) (w : World) (hd : RDra w w.heap.size d q) (hbd : DBd d) (he : RDmx w w.heap.size dm r) (heb : MDBd dm) :
    Calls Tryd.prog 3 #[caseV d q dm r] w fun e w' => e = .returned (.bool true) ∧ Below w.heap.size w w' := by
  by_cases h : d.vs.length ≤ 3 ∧ d.lk.length ≤ 4
  · exact enabled_y d q dm r w hd hbd he heb h
  · exact enabled_n d q dm r w hd hbd he heb h
end Go.Proofs.YtfcimilimojfoaaDoor
