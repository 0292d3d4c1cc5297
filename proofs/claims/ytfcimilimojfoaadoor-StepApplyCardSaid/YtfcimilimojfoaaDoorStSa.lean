/-
  LAW StepApply.
  Conditions: those that each theorem names.
-/
import Derived.Test.YtfcimilimojfoaaDoorSq1
import Derived.Deep.CutBlock
import Derived.Deep.DeepCutAuto
namespace Go.Proofs.YtfcimilimojfoaaDoor
open Go.RowKit Go.Sv
theorem apv_ok {p : Prob} {m : Mx} {s : Sp} (h : CasF p m) (h0 : ApE p m s = 0) : mixE p (ApM p m s) = 0 ∧ H8 (ApM p m s) := by
  unfold ApE at h0
  rw [if_pos h.e0] at h0
  unfold ApM
  rw [if_pos h.e0]
  exact ⟨mixE_ok.2 (apM_mok h.ok h0), apM_h8 h.ok h.h8 h0⟩
set_option maxHeartbeats 4000000 in
set_option maxRecDepth 100000 in
theorem apply_n (d : Dra) (q : ProbP) (dm : DMx) (r : MixP) (s : Sp) (w : World) (hd : RDra w w.heap.size d q) (hbd : DBd d) (_he : RDmx w w.heap.size dm r) (_heb : MDBd dm) (h : ¬ (d.vs.length ≤ 3 ∧ d.lk.length ≤ 4)) :
    Calls Tryd.prog 5 #[caseV d q dm r, stepV s] w fun e w' => e = .returned (.bool true) ∧ Below w.heap.size w w' := by
  obtain ⟨W, hW, S⟩ := bx_cs d q dm r s w
  have HO := Lib.hid (lof_no d q dm r W ((hd.below S.bel).more S.bel.size) hbd h)
  obtain ⟨qa0, qc0, qa1, qc1, qa2, qc2, qa3, qc3⟩ := q
  obtain ⟨ra0, rc0, ra1, rc1, ra2, rc2⟩ := r
  obtain ⟨kd, ix, v⟩ := s
  dsimp only at HO hW S ⊢
  have SW := Lib.hid S
  clear S hd hbd _he _heb h
  obtain ⟨⟨za_0, fa_0, ca_0_0, ca_0_1, ca_0_2, -⟩, ⟨zb_0, fb_0, cb_0_0, cb_0_1, cb_0_2, cb_0_3, cb_0_4, cb_0_5, cb_0_6, -⟩, -⟩ := SW.out.facts
  go_enter Tryd.func5, Tryd.ntmps5
  go_wp2_with fail
  clear hW
  with_reducible refine HO.out.mono ?_
  rintro e' w1 ⟨_, rfl, hb1, rfl⟩
  clear za_0 fa_0 ca_0_0 ca_0_1 ca_0_2 zb_0 fb_0 cb_0_0 cb_0_1 cb_0_2 cb_0_3 cb_0_4 cb_0_5 cb_0_6
  have S1 := Lib.hid (SW.out.call hb1)
  clear SW hb1 HO
  obtain ⟨⟨za_1, fa_1, ca_1_0, ca_1_1, ca_1_2, -⟩, ⟨zb_1, fb_1, cb_1_0, cb_1_1, cb_1_2, cb_1_3, cb_1_4, cb_1_5, cb_1_6, -⟩, -⟩ := S1.out.facts
  go_upto_region 2 with fail
  obtain ⟨W2, hW2, S2, hb2⟩ := fm_zz S1.out
  rw [hW2]
  clear hW2 hb2 S1
  replace S2 := Lib.hid S2
  clear za_1 fa_1 ca_1_0 ca_1_1 ca_1_2 zb_1 fb_1 cb_1_0 cb_1_1 cb_1_2 cb_1_3 cb_1_4 cb_1_5 cb_1_6
  obtain ⟨⟨za_2, fa_2, ca_2_0, ca_2_1, ca_2_2, -⟩, ⟨zb_2, fb_2, cb_2_0, cb_2_1, cb_2_2, cb_2_3, -⟩, ⟨zc_2, fc_2, cc_2_0, cc_2_1, cc_2_2, -⟩, ⟨zd_2, fd_2, cd_2_0, cd_2_1, cd_2_2, cd_2_3, cd_2_4, cd_2_5, cd_2_6, -⟩, -⟩ := S2.out.facts
  have H3 := Lib.hid (awake_any W2)
  go_wp2_with fail
  with_reducible refine H3.out.mono ?_
  rintro e' w3 ⟨rfl, hb3⟩
  clear za_2 fa_2 ca_2_0 ca_2_1 ca_2_2 zb_2 fb_2 cb_2_0 cb_2_1 cb_2_2 cb_2_3 zc_2 fc_2 cc_2_0 cc_2_1 cc_2_2 zd_2 fd_2 cd_2_0 cd_2_1 cd_2_2 cd_2_3 cd_2_4 cd_2_5 cd_2_6
  clear H3
  have S3 := Lib.hid (S2.out.call hb3)
  clear S2
  clear hb3
  obtain ⟨⟨za_3, fa_3, ca_3_0, ca_3_1, ca_3_2, -⟩, ⟨zb_3, fb_3, cb_3_0, cb_3_1, cb_3_2, cb_3_3, -⟩, ⟨zc_3, fc_3, cc_3_0, cc_3_1, cc_3_2, -⟩, ⟨zd_3, fd_3, cd_3_0, cd_3_1, cd_3_2, cd_3_3, cd_3_4, cd_3_5, cd_3_6, -⟩, -⟩ := S3.out.facts
  have H4 := Lib.hid (awake_any w3)
  go_wp2_with fail
  with_reducible refine H4.out.mono ?_
  rintro e' w4 ⟨rfl, hb4⟩
  clear za_3 fa_3 ca_3_0 ca_3_1 ca_3_2 zb_3 fb_3 cb_3_0 cb_3_1 cb_3_2 cb_3_3 zc_3 fc_3 cc_3_0 cc_3_1 cc_3_2 zd_3 fd_3 cd_3_0 cd_3_1 cd_3_2 cd_3_3 cd_3_4 cd_3_5 cd_3_6
  clear H4
  have S4 := Lib.hid (S3.out.call hb4)
  clear S3
  clear hb4
  obtain ⟨⟨za_4, fa_4, ca_4_0, ca_4_1, ca_4_2, -⟩, ⟨zb_4, fb_4, cb_4_0, cb_4_1, cb_4_2, cb_4_3, -⟩, ⟨zc_4, fc_4, cc_4_0, cc_4_1, cc_4_2, -⟩, ⟨zd_4, fd_4, cd_4_0, cd_4_1, cd_4_2, cd_4_3, cd_4_4, cd_4_5, cd_4_6, -⟩, -⟩ := S4.out.facts
  go_wp2
  go_ret
  exact ⟨rfl, S4.out.bel⟩
set_option maxHeartbeats 4000000 in
set_option maxRecDepth 100000 in
theorem apply_y (d : Dra) (q : ProbP) (dm : DMx) (r : MixP) (s : Sp) (w : World) (hd : RDra w w.heap.size d q) (hbd : DBd d) (he : RDmx w w.heap.size dm r) (heb : MDBd dm) (h : d.vs.length ≤ 3 ∧ d.lk.length ≤ 4) :
    Calls Tryd.prog 5 #[caseV d q dm r, stepV s] w fun e w' => e = .returned (.bool true) ∧ Below w.heap.size w w' := by
  obtain ⟨W, hW, S⟩ := bx_cs d q dm r s w
  have HO := Lib.hid (lofY d q dm r W ((hd.below S.bel).more S.bel.size) hbd ((he.below S.bel).more S.bel.size) heb h)
  obtain ⟨qa0, qc0, qa1, qc1, qa2, qc2, qa3, qc3⟩ := q
  obtain ⟨ra0, rc0, ra1, rc1, ra2, rc2⟩ := r
  obtain ⟨kd, ix, v⟩ := s
  dsimp only at HO hW S ⊢
  have SW := Lib.hid S
  clear S hd hbd he heb h
  obtain ⟨⟨za_0, fa_0, ca_0_0, ca_0_1, ca_0_2, -⟩, ⟨zb_0, fb_0, cb_0_0, cb_0_1, cb_0_2, cb_0_3, cb_0_4, cb_0_5, cb_0_6, -⟩, -⟩ := SW.out.facts
  go_enter Tryd.func5, Tryd.ntmps5
  go_wp2_with fail
  clear hW
  with_reducible refine HO.out.mono ?_
  rintro e' w1 ⟨_, rfl, hb1, P, M, ⟨y0, v0, y1, v1, y2, v2, y3, v3⟩, F, ⟨x0, u0, x1, u1, x2, u2⟩, rfl, hF, hP, hA⟩
  clear za_0 fa_0 ca_0_0 ca_0_1 ca_0_2 zb_0 fb_0 cb_0_0 cb_0_1 cb_0_2 cb_0_3 cb_0_4 cb_0_5 cb_0_6
  replace hF := Lib.hid hF
  have S1 := Lib.hid (SW.out.call hb1)
  obtain ⟨W2, hW2, S2, hb2⟩ := fm_pm S1.out P ⟨y0, v0, y1, v1, y2, v2, y3, v3⟩ M ⟨x0, u0, x1, u1, x2, u2⟩
  dsimp only at hW2 S2
  replace hP := Lib.hid (hP.to hb2)
  replace hA := Lib.hid (hA.to hb2)
  replace S2 := Lib.hid S2
  clear S1 SW hb1 hb2 HO
  obtain ⟨⟨za_1, fa_1, ca_1_0, ca_1_1, ca_1_2, -⟩, ⟨zb_1, fb_1, cb_1_0, cb_1_1, cb_1_2, cb_1_3, -⟩, ⟨zc_1, fc_1, cc_1_0, cc_1_1, cc_1_2, -⟩, ⟨zd_1, fd_1, cd_1_0, cd_1_1, cd_1_2, cd_1_3, cd_1_4, cd_1_5, cd_1_6, -⟩, -⟩ := S2.out.facts
  have H3 := Lib.hid (awake_any W2)
  go_wp2_with fail
  with_reducible refine H3.out.mono ?_
  rintro e' w3 ⟨rfl, hb3⟩
  clear za_1 fa_1 ca_1_0 ca_1_1 ca_1_2 zb_1 fb_1 cb_1_0 cb_1_1 cb_1_2 cb_1_3 zc_1 fc_1 cc_1_0 cc_1_1 cc_1_2 zd_1 fd_1 cd_1_0 cd_1_1 cd_1_2 cd_1_3 cd_1_4 cd_1_5 cd_1_6
  clear H3
  have S3 := Lib.hid (S2.out.call hb3)
  clear S2
  replace hP := Lib.hid (hP.out.to hb3)
  replace hA := Lib.hid (hA.out.to hb3)
  clear hb3
  clear hW2
  obtain ⟨⟨za_2, fa_2, ca_2_0, ca_2_1, ca_2_2, -⟩, ⟨zb_2, fb_2, cb_2_0, cb_2_1, cb_2_2, cb_2_3, -⟩, ⟨zc_2, fc_2, cc_2_0, cc_2_1, cc_2_2, -⟩, ⟨zd_2, fd_2, cd_2_0, cd_2_1, cd_2_2, cd_2_3, cd_2_4, cd_2_5, cd_2_6, -⟩, -⟩ := S3.out.facts
  have H4 := Lib.hid (Apply_any P ⟨y0, v0, y1, v1, y2, v2, y3, v3⟩ M ⟨x0, u0, x1, u1, x2, u2⟩ ⟨kd, ix, v⟩ w3 hP.out.prob hF.out.bd hA.out.mix (hA.out.bd hF.out.h8))
  go_wp2_with fail
  with_reducible refine H4.out.mono ?_
  rintro e' w4 ⟨_, rfl, hb4, ⟨a0, b0, a1, b1, a2, b2⟩, rfl, hX⟩
  clear za_2 fa_2 ca_2_0 ca_2_1 ca_2_2 zb_2 fb_2 cb_2_0 cb_2_1 cb_2_2 cb_2_3 zc_2 fc_2 cc_2_0 cc_2_1 cc_2_2 zd_2 fd_2 cd_2_0 cd_2_1 cd_2_2 cd_2_3 cd_2_4 cd_2_5 cd_2_6
  clear H4
  have S4 := Lib.hid (S3.out.call hb4)
  clear S3
  replace hP := Lib.hid (hP.out.to hb4)
  replace hA := Lib.hid (hA.out.to hb4)
  clear hb4
  have hms := Lib.hid (msm_ap (s := ⟨kd, ix, v⟩) hF.out)
  have hvl := Lib.hid (apv_ok (s := ⟨kd, ix, v⟩) hF.out)
  obtain ⟨X, hXe⟩ : ∃ X, ApM P M ⟨kd, ix, v⟩ = X := ⟨_, rfl⟩
  obtain ⟨er, her⟩ : ∃ er, ApE P M ⟨kd, ix, v⟩ = er := ⟨_, rfl⟩
  rw [her, hXe] at hvl
  rw [hXe] at hX hms ⊢
  rw [her]
  replace hX := Lib.hid hX
  replace hXe := Lib.hid hXe
  replace her := Lib.hid her
  obtain ⟨W5, hW5, S5, hb5⟩ := fm_boxE S4.out 36 [.slice a0 X.base.length b0, .slice a1 X.next.length b1, .slice a2 X.held.length b2]
  clear S4
  replace S5 := Lib.hid S5
  replace hP := Lib.hid (hP.out.to hb5)
  replace hA := Lib.hid (hA.out.to hb5)
  replace hX := Lib.hid (hX.out.to hb5)
  clear hb5
  obtain ⟨⟨za_3, fa_3, ca_3_0, ca_3_1, ca_3_2, -⟩, ⟨zb_3, fb_3, cb_3_0, cb_3_1, cb_3_2, -⟩, ⟨zc_3, fc_3, cc_3_0, cc_3_1, cc_3_2, cc_3_3, -⟩, ⟨zd_3, fd_3, cd_3_0, cd_3_1, cd_3_2, -⟩, ⟨ze_3, fe_3, ce_3_0, ce_3_1, ce_3_2, ce_3_3, ce_3_4, ce_3_5, ce_3_6, -⟩, -⟩ := S5.out.facts
  have H6 := Lib.hid (rapply_any P ⟨y0, v0, y1, v1, y2, v2, y3, v3⟩ M ⟨x0, u0, x1, u1, x2, u2⟩ ⟨kd, ix, v⟩ W5 hP.out.prob hF.out.bd hA.out.mix (hA.out.bd hF.out.h8))
  go_wp2_with fail
  with_reducible refine H6.out.mono ?_
  rintro e' w6 ⟨_, rfl, hb6, ⟨i0, j0, i1, j1, i2, j2⟩, rfl, hY⟩
  clear za_3 fa_3 ca_3_0 ca_3_1 ca_3_2 zb_3 fb_3 cb_3_0 cb_3_1 cb_3_2 zc_3 fc_3 cc_3_0 cc_3_1 cc_3_2 cc_3_3 zd_3 fd_3 cd_3_0 cd_3_1 cd_3_2 ze_3 fe_3 ce_3_0 ce_3_1 ce_3_2 ce_3_3 ce_3_4 ce_3_5 ce_3_6
  clear H6
  have S6 := Lib.hid (S5.out.call hb6)
  clear S5
  replace hP := Lib.hid (hP.out.to hb6)
  replace hA := Lib.hid (hA.out.to hb6)
  replace hX := Lib.hid (hX.out.to hb6)
  clear hb6
  clear hW5
  rw [hXe.out] at hY ⊢
  rw [her.out]
  replace hY := Lib.hid hY
  obtain ⟨W7, hW7, S7, hb7⟩ := fm_boxE S6.out 36 [.slice i0 X.base.length j0, .slice i1 X.next.length j1, .slice i2 X.held.length j2]
  clear S6
  replace S7 := Lib.hid S7
  replace hP := Lib.hid (hP.out.to hb7)
  replace hA := Lib.hid (hA.out.to hb7)
  replace hX := Lib.hid (hX.out.to hb7)
  replace hY := Lib.hid (hY.out.to hb7)
  clear hb7
  obtain ⟨⟨za_4, fa_4, ca_4_0, ca_4_1, ca_4_2, -⟩, ⟨zb_4, fb_4, cb_4_0, cb_4_1, cb_4_2, -⟩, ⟨zc_4, fc_4, cc_4_0, cc_4_1, cc_4_2, -⟩, ⟨zd_4, fd_4, cd_4_0, cd_4_1, cd_4_2, cd_4_3, -⟩, ⟨ze_4, fe_4, ce_4_0, ce_4_1, ce_4_2, -⟩, ⟨zf_4, ff_4, cf_4_0, cf_4_1, cf_4_2, cf_4_3, cf_4_4, cf_4_5, cf_4_6, -⟩, -⟩ := S7.out.facts
  have H8 := Lib.hid (calls_true (requal_any X X ⟨a0, b0, a1, b1, a2, b2⟩ ⟨i0, j0, i1, j1, i2, j2⟩ W7 hX.out.mix hY.out.mix hms.out hms.out) (decide_eq_true rfl))
  go_wp2_with fail
  with_reducible refine H8.out.mono ?_
  rintro e' w8 ⟨rfl, hb8⟩
  clear za_4 fa_4 ca_4_0 ca_4_1 ca_4_2 zb_4 fb_4 cb_4_0 cb_4_1 cb_4_2 zc_4 fc_4 cc_4_0 cc_4_1 cc_4_2 zd_4 fd_4 cd_4_0 cd_4_1 cd_4_2 cd_4_3 ze_4 fe_4 ce_4_0 ce_4_1 ce_4_2 zf_4 ff_4 cf_4_0 cf_4_1 cf_4_2 cf_4_3 cf_4_4 cf_4_5 cf_4_6
  clear H8
  have S8 := Lib.hid (S7.out.call hb8)
  clear S7
  replace hP := Lib.hid (hP.out.to hb8)
  replace hA := Lib.hid (hA.out.to hb8)
  replace hX := Lib.hid (hX.out.to hb8)
  replace hY := Lib.hid (hY.out.to hb8)
  clear hb8
  clear hW7
  obtain ⟨⟨za_5, fa_5, ca_5_0, ca_5_1, ca_5_2, -⟩, ⟨zb_5, fb_5, cb_5_0, cb_5_1, cb_5_2, -⟩, ⟨zc_5, fc_5, cc_5_0, cc_5_1, cc_5_2, -⟩, ⟨zd_5, fd_5, cd_5_0, cd_5_1, cd_5_2, cd_5_3, -⟩, ⟨ze_5, fe_5, ce_5_0, ce_5_1, ce_5_2, -⟩, ⟨zf_5, ff_5, cf_5_0, cf_5_1, cf_5_2, cf_5_3, cf_5_4, cf_5_5, cf_5_6, -⟩, -⟩ := S8.out.facts
  cases h0 : (er != 0) with
  | true =>
    go_wp2
    go_ret
    exact ⟨rfl, S8.out.bel⟩
  | false =>
    replace hvl := Lib.hid (hvl.out (by simpa using h0))
    have H9 := Lib.hid (rvalidM_any P ⟨y0, v0, y1, v1, y2, v2, y3, v3⟩ X ⟨a0, b0, a1, b1, a2, b2⟩ w8 hP.out.prob hF.out.bd hX.out.mix (hX.out.bd hvl.out.2))
    go_wp2_with fail
    with_reducible refine H9.out.mono ?_
    rintro e' w9 ⟨rfl, hb9⟩
    clear za_5 fa_5 ca_5_0 ca_5_1 ca_5_2 zb_5 fb_5 cb_5_0 cb_5_1 cb_5_2 zc_5 fc_5 cc_5_0 cc_5_1 cc_5_2 zd_5 fd_5 cd_5_0 cd_5_1 cd_5_2 cd_5_3 ze_5 fe_5 ce_5_0 ce_5_1 ce_5_2 zf_5 ff_5 cf_5_0 cf_5_1 cf_5_2 cf_5_3 cf_5_4 cf_5_5 cf_5_6
    clear H9
    have S9 := Lib.hid (S8.out.call hb9)
    clear S8
    replace hP := Lib.hid (hP.out.to hb9)
    replace hA := Lib.hid (hA.out.to hb9)
    replace hX := Lib.hid (hX.out.to hb9)
    replace hY := Lib.hid (hY.out.to hb9)
    clear hb9
    rw [hvl.out.1]
    obtain ⟨⟨za_6, fa_6, ca_6_0, ca_6_1, ca_6_2, -⟩, ⟨zb_6, fb_6, cb_6_0, cb_6_1, cb_6_2, -⟩, ⟨zc_6, fc_6, cc_6_0, cc_6_1, cc_6_2, -⟩, ⟨zd_6, fd_6, cd_6_0, cd_6_1, cd_6_2, cd_6_3, -⟩, ⟨ze_6, fe_6, ce_6_0, ce_6_1, ce_6_2, -⟩, ⟨zf_6, ff_6, cf_6_0, cf_6_1, cf_6_2, cf_6_3, cf_6_4, cf_6_5, cf_6_6, -⟩, -⟩ := S9.out.facts
    go_wp2
    go_ret
    exact ⟨rfl, S9.out.bel⟩
theorem law_apply (d : Dra) (q : ProbP) (dm : DMx) (r : MixP) (s : Sp) (w : World) (hd : RDra w w.heap.size d q) (hbd : DBd d) (he : RDmx w w.heap.size dm r) (heb : MDBd dm) :
    Calls Tryd.prog 5 #[caseV d q dm r, stepV s] w fun e w' => e = .returned (.bool true) ∧ Below w.heap.size w w' := by
  by_cases h : d.vs.length ≤ 3 ∧ d.lk.length ≤ 4
  · exact apply_y d q dm r s w hd hbd he heb h
  · exact apply_n d q dm r s w hd hbd he heb h
end Go.Proofs.YtfcimilimojfoaaDoor
