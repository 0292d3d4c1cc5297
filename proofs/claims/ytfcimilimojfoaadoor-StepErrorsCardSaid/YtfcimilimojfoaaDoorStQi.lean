/-
  CONTRACTS of both texts' Commute.
  Conditions: those that each theorem names.
-/
import Derived.Test.YtfcimilimojfoaaDoorSq1
import Derived.Test.YtfcimilimojfoaaDoorSq2
import Derived.Deep.CutBlock
import Derived.Deep.DeepCutAuto
namespace Go.Sv
open Go.RowKit
noncomputable def cmE (p : Prob) (m : Mx) (s t : Sp) : Int := if mixE p m = 0 then (if appE p m s = 0 then appE p m t else appE p m s) else mixE p m
open Classical in
noncomputable def cmB (p : Prob) (m : Mx) (s t : Sp) : Bool := decide (mixE p m = 0 ∧ appE p m s = 0 ∧ appE p m t = 0 ∧ appE p (apM p m s) t = 0 ∧ appE p (apM p m t) s = 0 ∧ apM p (apM p m s) t = apM p (apM p m t) s)
theorem cm_bad {p : Prob} {m : Mx} {s t : Sp} (h : mixE p m ≠ 0) : cmB p m s t = false ∧ cmE p m s t = mixE p m := by
  unfold cmB cmE
  exact ⟨decide_eq_false fun e => h e.1, if_neg h⟩
theorem cm_1 {p : Prob} {m : Mx} {s t : Sp} (h : mixE p m = 0) (h1 : appE p m s ≠ 0) : cmB p m s t = false ∧ cmE p m s t = appE p m s := by
  unfold cmB cmE
  exact ⟨decide_eq_false fun e => h1 e.2.1, by rw [if_pos h, if_neg h1]⟩
theorem cm_2 {p : Prob} {m : Mx} {s t : Sp} (h : mixE p m = 0) (h1 : appE p m s = 0) (h2 : appE p m t ≠ 0) : cmB p m s t = false ∧ cmE p m s t = appE p m t := by
  unfold cmB cmE
  exact ⟨decide_eq_false fun e => h2 e.2.2.1, by rw [if_pos h, if_pos h1]⟩
theorem cm_3 {p : Prob} {m : Mx} {s t : Sp} (h : mixE p m = 0) (h1 : appE p m s = 0) (h2 : appE p m t = 0) (h3 : appE p (apM p m s) t ≠ 0 ∨ appE p (apM p m t) s ≠ 0) : cmB p m s t = false ∧ cmE p m s t = 0 := by
  unfold cmB cmE
  exact ⟨decide_eq_false fun e => h3.elim (fun g => g e.2.2.2.1) (fun g => g e.2.2.2.2.1), by rw [if_pos h, if_pos h1, h2]⟩
theorem cm_4 {p : Prob} {m : Mx} {s t : Sp} (h : mixE p m = 0) (h1 : appE p m s = 0) (h2 : appE p m t = 0) (h3 : appE p (apM p m s) t = 0) (h4 : appE p (apM p m t) s = 0) : cmB p m s t = decide (apM p (apM p m s) t = apM p (apM p m t) s) ∧ cmE p m s t = 0 := by
  unfold cmB cmE
  refine ⟨?_, by rw [if_pos h, if_pos h1, h2]⟩
  rw [Bool.eq_iff_iff, decide_eq_true_eq, decide_eq_true_eq]
  exact ⟨fun e => e.2.2.2.2.2, fun e => ⟨h, h1, h2, h3, h4, e⟩⟩
/-- possible steps of different services commute -/
theorem cm_svc {p : Prob} {m : Mx} {s t : Sp} (h : MOk p m) (he : cmE p m s t = 0) (hb : cmB p m s t = false) : svc p s = svc p t := by
  have h0 := mixE_ok.2 h
  have h1 : appE p m s = 0 := by
    by_cases c : appE p m s = 0
    · exact c
    · rw [(cm_1 h0 c).2] at he; exact absurd he c
  have h2 : appE p m t = 0 := by
    by_cases c : appE p m t = 0
    · exact c
    · rw [(cm_2 h0 h1 c).2] at he; exact absurd he c
  apply Classical.byContradiction
  intro hne
  obtain ⟨a1, a2, x, a3⟩ := appE_ok.1 h1
  obtain ⟨b1, b2, y, b3⟩ := appE_ok.1 h2
  obtain ⟨z, c1, c2⟩ := commute h a1 b1 a2 b2 a3 b3 hne
  have e1 := apM_ok a1 a2 a3
  have e2 := apM_ok b1 b2 b3
  have h3 : appE p (apM p m s) t = 0 := by rw [e1]; exact appE_ok.2 ⟨b1, b2, z, c1⟩
  have h4 : appE p (apM p m t) s = 0 := by rw [e2]; exact appE_ok.2 ⟨a1, a2, z, c2⟩
  have := (cm_4 h0 h1 h2 h3 h4).1
  rw [hb, e1, e2, apM_ok b1 b2 c1, apM_ok a1 a2 c2] at this
  simp at this
end Go.Sv
namespace Go.Proofs.YtfcimilimojfoaaDoor
open Go.RowKit Go.Sv
theorem apply_run (p : Prob) (q : ProbP) (m : Mx) (qm : MixP) (s : Sp) (w : World) (hp : RProb w w.heap.size p q) (hbd : PBd p) (hm : RMix w w.heap.size m qm) (hmb : MBd m qm) (hok : MOk p m) :
    Calls Tryd.prog 21 #[probV p q, mixV m qm, stepV s] w (Ret (ApR w (apM p m s) (appE p m s))) := by
  have h := Apply_any p q m qm s w hp hbd hm hmb
  unfold ApM ApE at h
  rw [if_pos (mixE_ok.2 hok), if_pos (mixE_ok.2 hok)] at h
  exact h
theorem bx_pmss (p : Prob) (q : ProbP) (m : Mx) (r : MixP) (s t : Sp) (w : World) : ∃ W, (((w.alloc (.cells #[.slice q.a0 p.vs.length q.c0, .slice q.a1 p.now.length q.c1, .slice q.a2 p.tgt.length q.c2, .slice q.a3 p.tabs.length q.c3] 33)).alloc (.cells #[.slice r.a0 m.base.length r.c0, .slice r.a1 m.next.length r.c1, .slice r.a2 m.held.length r.c2] 36)).alloc
      (.cells #[.int .i64 s.kind, .int .i64 s.ix, .int .i64 s.ver] 52)).alloc (.cells #[.int .i64 t.kind, .int .i64 t.ix, .int .i64 t.ver] 52) = W ∧
    Fm w W [⟨w.heap.size + 1 + 1 + 1, 52, [.int .i64 t.kind, .int .i64 t.ix, .int .i64 t.ver]⟩, ⟨w.heap.size + 1 + 1, 52, [.int .i64 s.kind, .int .i64 s.ix, .int .i64 s.ver]⟩, ⟨w.heap.size + 1, 36, [.slice r.a0 m.base.length r.c0, .slice r.a1 m.next.length r.c1, .slice r.a2 m.held.length r.c2]⟩, ⟨w.heap.size, 33, [.slice q.a0 p.vs.length q.c0, .slice q.a1 p.now.length q.c1, .slice q.a2 p.tgt.length q.c2, .slice q.a3 p.tabs.length q.c3]⟩] [] :=
  ⟨_, rfl, (((Fm.init w).box 33 _).box' 36 [.slice r.a0 m.base.length r.c0, .slice r.a1 m.next.length r.c1, .slice r.a2 m.held.length r.c2] (K := w.heap.size + 1) (by simp)).box' 52 [.int .i64 s.kind, .int .i64 s.ix, .int .i64 s.ver] (K := w.heap.size + 1 + 1) (by simp) |>.box' 52 [.int .i64 t.kind, .int .i64 t.ix, .int .i64 t.ver] (K := w.heap.size + 1 + 1 + 1) (by simp)⟩
structure RPr (w : World) (p : Prob) (q : ProbP) : Prop where
  r : RProb w w.heap.size p q
theorem RPr.to {w w' : World} {p : Prob} {q : ProbP} (h : RPr w p q) (hb : Below w.heap.size w w') : RPr w' p q := ⟨h.r.to hb⟩
structure RMx (w : World) (m : Mx) (q : MixP) : Prop where
  r : RMix w w.heap.size m q
theorem RMx.to {w w' : World} {m : Mx} {q : MixP} (h : RMx w m q) (hb : Below w.heap.size w w') : RMx w' m q := ⟨h.r.to hb⟩
set_option maxHeartbeats 4000000 in
set_option maxRecDepth 100000 in
theorem commute_any (P : Prob) (q : ProbP) (M : Mx) (r : MixP) (s t : Sp) (w : World) (hp : RProb w w.heap.size P q) (hm : RMix w w.heap.size M r) (hmb : MBd M r) (hF : CasF P M) :
    Calls Tryd.prog 33 #[probV P q, mixV M r, stepV s, stepV t] w fun e w' => e = .returned (.tuple #[.bool (cmB P M s t), .int .i64 (cmE P M s t)]) ∧ Below w.heap.size w w' := by
  obtain ⟨W, hW, S⟩ := bx_pmss P q M r s t w
  have hP := Lib.hid (RPr.mk (hp.to S.bel))
  have hA := Lib.hid (RMx.mk (hm.to S.bel))
  replace hmb := Lib.hid hmb
  replace hF := Lib.hid hF
  have e0 := Lib.hid hF.out.e0
  obtain ⟨y0, v0, y1, v1, y2, v2, y3, v3⟩ := q
  obtain ⟨x0, u0, x1, u1, x2, u2⟩ := r
  obtain ⟨ka, ia, va⟩ := s
  obtain ⟨kb, ib, vb⟩ := t
  dsimp only at hW S hmb ⊢
  have SW := Lib.hid S
  clear S hp hm
  obtain ⟨⟨za_0, fa_0, ca_0_0, ca_0_1, ca_0_2, -⟩, ⟨zb_0, fb_0, cb_0_0, cb_0_1, cb_0_2, -⟩, ⟨zc_0, fc_0, cc_0_0, cc_0_1, cc_0_2, -⟩, ⟨zd_0, fd_0, cd_0_0, cd_0_1, cd_0_2, cd_0_3, -⟩, -⟩ := SW.out.facts
  go_enter Tryd.func33, Tryd.ntmps33
  have H1 := Lib.hid (apply_run P ⟨y0, v0, y1, v1, y2, v2, y3, v3⟩ M ⟨x0, u0, x1, u1, x2, u2⟩ ⟨ka, ia, va⟩ W hP.out.r hF.out.bd hA.out.r hmb.out hF.out.ok)
  go_wp2_with fail
  with_reducible refine H1.out.mono ?_
  rintro e' w1 ⟨_, rfl, hb1, ⟨a0, b0, a1, b1, a2, b2⟩, rfl, hX⟩
  clear za_0 fa_0 ca_0_0 ca_0_1 ca_0_2 zb_0 fb_0 cb_0_0 cb_0_1 cb_0_2 zc_0 fc_0 cc_0_0 cc_0_1 cc_0_2 zd_0 fd_0 cd_0_0 cd_0_1 cd_0_2 cd_0_3
  clear H1
  have S1 := Lib.hid (SW.out.call hb1)
  clear SW
  replace hP := Lib.hid (hP.out.to hb1)
  replace hA := Lib.hid (hA.out.to hb1)
  clear hb1
  clear hW
  obtain ⟨X, hXe⟩ : ∃ X, apM P M ⟨ka, ia, va⟩ = X := ⟨_, rfl⟩
  obtain ⟨er1, h1⟩ : ∃ e, appE P M ⟨ka, ia, va⟩ = e := ⟨_, rfl⟩
  rw [hXe] at hX ⊢
  rw [h1]
  replace hX := Lib.hid hX
  replace hXe := Lib.hid hXe
  replace h1 := Lib.hid h1
  obtain ⟨W2, hW2, S2, hb2⟩ := fm_boxE S1.out 36 [.slice a0 X.base.length b0, .slice a1 X.next.length b1, .slice a2 X.held.length b2]
  clear S1
  replace S2 := Lib.hid S2
  replace hP := Lib.hid (hP.out.to hb2)
  replace hA := Lib.hid (hA.out.to hb2)
  replace hX := Lib.hid (hX.out.to hb2)
  clear hb2
  obtain ⟨⟨za_1, fa_1, ca_1_0, ca_1_1, ca_1_2, -⟩, ⟨zb_1, fb_1, cb_1_0, cb_1_1, cb_1_2, -⟩, ⟨zc_1, fc_1, cc_1_0, cc_1_1, cc_1_2, -⟩, ⟨zd_1, fd_1, cd_1_0, cd_1_1, cd_1_2, -⟩, ⟨ze_1, fe_1, ce_1_0, ce_1_1, ce_1_2, ce_1_3, -⟩, -⟩ := S2.out.facts
  cases g1 : (er1 != 0) with
  | true =>
    have n1 := Lib.hid (cm_1 (t := ⟨kb, ib, vb⟩) e0.out (by rw [h1.out]; simpa using g1))
    go_wp2
    refine bodyPost_ret (v := .tuple #[.bool false, .int .i64 er1]) (by simp [results, Tryd.results33, go_sem]) rfl ?_
    exact ⟨by rw [((show cmB P M ⟨ka, ia, va⟩ ⟨kb, ib, vb⟩ = false ∧ cmE P M ⟨ka, ia, va⟩ ⟨kb, ib, vb⟩ = er1 from ⟨n1.out.1, n1.out.2.trans h1.out⟩)).1, ((show cmB P M ⟨ka, ia, va⟩ ⟨kb, ib, vb⟩ = false ∧ cmE P M ⟨ka, ia, va⟩ ⟨kb, ib, vb⟩ = er1 from ⟨n1.out.1, n1.out.2.trans h1.out⟩)).2], S2.out.bel⟩
  | false =>
    have z1 := Lib.hid (show appE P M ⟨ka, ia, va⟩ = 0 by rw [h1.out]; simpa using g1)
    have hXo := Lib.hid (hXe.out ▸ apM_mok hF.out.ok z1.out)
    have hX8 := Lib.hid (hXe.out ▸ apM_h8 hF.out.ok hF.out.h8 z1.out)
    have H3 := Lib.hid (apply_any P ⟨y0, v0, y1, v1, y2, v2, y3, v3⟩ M ⟨x0, u0, x1, u1, x2, u2⟩ ⟨kb, ib, vb⟩ W2 hP.out.r hF.out.bd hA.out.r hmb.out hF.out.ok)
    go_wp2_with fail
    with_reducible refine H3.out.mono ?_
    rintro e' w3 ⟨_, rfl, hb3, ⟨d0, f0, d1, f1, d2, f2⟩, rfl, hY⟩
    clear za_1 fa_1 ca_1_0 ca_1_1 ca_1_2 zb_1 fb_1 cb_1_0 cb_1_1 cb_1_2 zc_1 fc_1 cc_1_0 cc_1_1 cc_1_2 zd_1 fd_1 cd_1_0 cd_1_1 cd_1_2 ze_1 fe_1 ce_1_0 ce_1_1 ce_1_2 ce_1_3
    clear H3
    have S3 := Lib.hid (S2.out.call hb3)
    clear S2
    replace hP := Lib.hid (hP.out.to hb3)
    replace hA := Lib.hid (hA.out.to hb3)
    replace hX := Lib.hid (hX.out.to hb3)
    clear hb3
    clear hW2
    obtain ⟨Y, hYe⟩ : ∃ X, apM P M ⟨kb, ib, vb⟩ = X := ⟨_, rfl⟩
    obtain ⟨er2, h2⟩ : ∃ e, appE P M ⟨kb, ib, vb⟩ = e := ⟨_, rfl⟩
    rw [hYe] at hY ⊢
    rw [h2]
    replace hY := Lib.hid hY
    replace hYe := Lib.hid hYe
    replace h2 := Lib.hid h2
    obtain ⟨W4, hW4, S4, hb4⟩ := fm_boxE S3.out 36 [.slice d0 Y.base.length f0, .slice d1 Y.next.length f1, .slice d2 Y.held.length f2]
    clear S3
    replace S4 := Lib.hid S4
    replace hP := Lib.hid (hP.out.to hb4)
    replace hA := Lib.hid (hA.out.to hb4)
    replace hX := Lib.hid (hX.out.to hb4)
    replace hY := Lib.hid (hY.out.to hb4)
    clear hb4
    obtain ⟨⟨za_2, fa_2, ca_2_0, ca_2_1, ca_2_2, -⟩, ⟨zb_2, fb_2, cb_2_0, cb_2_1, cb_2_2, -⟩, ⟨zc_2, fc_2, cc_2_0, cc_2_1, cc_2_2, -⟩, ⟨zd_2, fd_2, cd_2_0, cd_2_1, cd_2_2, -⟩, ⟨ze_2, fe_2, ce_2_0, ce_2_1, ce_2_2, -⟩, ⟨zf_2, ff_2, cf_2_0, cf_2_1, cf_2_2, cf_2_3, -⟩, -⟩ := S4.out.facts
    cases g2 : (er2 != 0) with
    | true =>
      have n2 := Lib.hid (cm_2 (t := ⟨kb, ib, vb⟩) e0.out z1.out (by rw [h2.out]; simpa using g2))
      go_wp2
      refine bodyPost_ret (v := .tuple #[.bool false, .int .i64 er2]) (by simp [results, Tryd.results33, go_sem]) rfl ?_
      exact ⟨by rw [((show cmB P M ⟨ka, ia, va⟩ ⟨kb, ib, vb⟩ = false ∧ cmE P M ⟨ka, ia, va⟩ ⟨kb, ib, vb⟩ = er2 from ⟨n2.out.1, n2.out.2.trans h2.out⟩)).1, ((show cmB P M ⟨ka, ia, va⟩ ⟨kb, ib, vb⟩ = false ∧ cmE P M ⟨ka, ia, va⟩ ⟨kb, ib, vb⟩ = er2 from ⟨n2.out.1, n2.out.2.trans h2.out⟩)).2], S4.out.bel⟩
    | false =>
      have z2 := Lib.hid (show appE P M ⟨kb, ib, vb⟩ = 0 by rw [h2.out]; simpa using g2)
      have hYo := Lib.hid (hYe.out ▸ apM_mok hF.out.ok z2.out)
      have hY8 := Lib.hid (hYe.out ▸ apM_h8 hF.out.ok hF.out.h8 z2.out)
      have H5 := Lib.hid (apply_any P ⟨y0, v0, y1, v1, y2, v2, y3, v3⟩ X ⟨a0, b0, a1, b1, a2, b2⟩ ⟨kb, ib, vb⟩ W4 hP.out.r hF.out.bd hX.out.mix (hX.out.bd hX8.out) hXo.out)
      go_wp2_with fail
      with_reducible refine H5.out.mono ?_
      rintro e' w5 ⟨_, rfl, hb5, ⟨g0, j0, g1, j1, g2, j2⟩, rfl, hU⟩
      clear za_2 fa_2 ca_2_0 ca_2_1 ca_2_2 zb_2 fb_2 cb_2_0 cb_2_1 cb_2_2 zc_2 fc_2 cc_2_0 cc_2_1 cc_2_2 zd_2 fd_2 cd_2_0 cd_2_1 cd_2_2 ze_2 fe_2 ce_2_0 ce_2_1 ce_2_2 zf_2 ff_2 cf_2_0 cf_2_1 cf_2_2 cf_2_3
      clear H5
      have S5 := Lib.hid (S4.out.call hb5)
      clear S4
      replace hP := Lib.hid (hP.out.to hb5)
      replace hA := Lib.hid (hA.out.to hb5)
      replace hX := Lib.hid (hX.out.to hb5)
      replace hY := Lib.hid (hY.out.to hb5)
      clear hb5
      clear hW4
      obtain ⟨U, hUe⟩ : ∃ Z, apM P X ⟨kb, ib, vb⟩ = Z := ⟨_, rfl⟩
      obtain ⟨er3, h3⟩ : ∃ e, appE P X ⟨kb, ib, vb⟩ = e := ⟨_, rfl⟩
      rw [hUe] at hU ⊢
      rw [h3]
      replace hU := Lib.hid hU
      replace hUe := Lib.hid hUe
      replace h3 := Lib.hid h3
      obtain ⟨W6, hW6, S6, hb6⟩ := fm_boxE S5.out 36 [.slice g0 U.base.length j0, .slice g1 U.next.length j1, .slice g2 U.held.length j2]
      clear S5
      replace S6 := Lib.hid S6
      replace hP := Lib.hid (hP.out.to hb6)
      replace hA := Lib.hid (hA.out.to hb6)
      replace hX := Lib.hid (hX.out.to hb6)
      replace hY := Lib.hid (hY.out.to hb6)
      replace hU := Lib.hid (hU.out.to hb6)
      clear hb6
      obtain ⟨⟨za_3, fa_3, ca_3_0, ca_3_1, ca_3_2, -⟩, ⟨zb_3, fb_3, cb_3_0, cb_3_1, cb_3_2, -⟩, ⟨zc_3, fc_3, cc_3_0, cc_3_1, cc_3_2, -⟩, ⟨zd_3, fd_3, cd_3_0, cd_3_1, cd_3_2, -⟩, ⟨ze_3, fe_3, ce_3_0, ce_3_1, ce_3_2, -⟩, ⟨zf_3, ff_3, cf_3_0, cf_3_1, cf_3_2, -⟩, ⟨zg_3, fg_3, cg_3_0, cg_3_1, cg_3_2, cg_3_3, -⟩, -⟩ := S6.out.facts
      have H7 := Lib.hid (apply_any P ⟨y0, v0, y1, v1, y2, v2, y3, v3⟩ Y ⟨d0, f0, d1, f1, d2, f2⟩ ⟨ka, ia, va⟩ W6 hP.out.r hF.out.bd hY.out.mix (hY.out.bd hY8.out) hYo.out)
      go_wp2_with fail
      with_reducible refine H7.out.mono ?_
      rintro e' w7 ⟨_, rfl, hb7, ⟨m0, n0, m1, n1, m2, n2⟩, rfl, hV⟩
      clear za_3 fa_3 ca_3_0 ca_3_1 ca_3_2 zb_3 fb_3 cb_3_0 cb_3_1 cb_3_2 zc_3 fc_3 cc_3_0 cc_3_1 cc_3_2 zd_3 fd_3 cd_3_0 cd_3_1 cd_3_2 ze_3 fe_3 ce_3_0 ce_3_1 ce_3_2 zf_3 ff_3 cf_3_0 cf_3_1 cf_3_2 zg_3 fg_3 cg_3_0 cg_3_1 cg_3_2 cg_3_3
      clear H7
      have S7 := Lib.hid (S6.out.call hb7)
      clear S6
      replace hP := Lib.hid (hP.out.to hb7)
      replace hA := Lib.hid (hA.out.to hb7)
      replace hX := Lib.hid (hX.out.to hb7)
      replace hY := Lib.hid (hY.out.to hb7)
      replace hU := Lib.hid (hU.out.to hb7)
      clear hb7
      clear hW6
      obtain ⟨V, hVe⟩ : ∃ Z, apM P Y ⟨ka, ia, va⟩ = Z := ⟨_, rfl⟩
      obtain ⟨er4, h4⟩ : ∃ e, appE P Y ⟨ka, ia, va⟩ = e := ⟨_, rfl⟩
      rw [hVe] at hV ⊢
      rw [h4]
      replace hV := Lib.hid hV
      replace hVe := Lib.hid hVe
      replace h4 := Lib.hid h4
      obtain ⟨W8, hW8, S8, hb8⟩ := fm_boxE S7.out 36 [.slice m0 V.base.length n0, .slice m1 V.next.length n1, .slice m2 V.held.length n2]
      clear S7
      replace S8 := Lib.hid S8
      replace hP := Lib.hid (hP.out.to hb8)
      replace hA := Lib.hid (hA.out.to hb8)
      replace hX := Lib.hid (hX.out.to hb8)
      replace hY := Lib.hid (hY.out.to hb8)
      replace hU := Lib.hid (hU.out.to hb8)
      replace hV := Lib.hid (hV.out.to hb8)
      clear hb8
      obtain ⟨⟨za_4, fa_4, ca_4_0, ca_4_1, ca_4_2, -⟩, ⟨zb_4, fb_4, cb_4_0, cb_4_1, cb_4_2, -⟩, ⟨zc_4, fc_4, cc_4_0, cc_4_1, cc_4_2, -⟩, ⟨zd_4, fd_4, cd_4_0, cd_4_1, cd_4_2, -⟩, ⟨ze_4, fe_4, ce_4_0, ce_4_1, ce_4_2, -⟩, ⟨zf_4, ff_4, cf_4_0, cf_4_1, cf_4_2, -⟩, ⟨zg_4, fg_4, cg_4_0, cg_4_1, cg_4_2, -⟩, ⟨zh_4, fh_4, ch_4_0, ch_4_1, ch_4_2, ch_4_3, -⟩, -⟩ := S8.out.facts
      cases g3 : (er3 == 0) with
      | false =>
        have n3 := Lib.hid (cm_3 e0.out z1.out z2.out (Or.inl (by rw [hXe.out, h3.out]; simpa using g3)))
        go_wp2
        refine bodyPost_ret (v := .tuple #[.bool false, .int .i64 0]) (by simp [results, Tryd.results33, go_sem]) rfl ?_
        exact ⟨by rw [(n3.out).1, (n3.out).2], S8.out.bel⟩
      | true =>
        cases g4 : (er4 == 0) with
        | false =>
          have n4 := Lib.hid (cm_3 e0.out z1.out z2.out (Or.inr (by rw [hYe.out, h4.out]; simpa using g4)))
          go_wp2
          refine bodyPost_ret (v := .tuple #[.bool false, .int .i64 0]) (by simp [results, Tryd.results33, go_sem]) rfl ?_
          exact ⟨by rw [(n4.out).1, (n4.out).2], S8.out.bel⟩
        | true =>
          have z3 := Lib.hid (show appE P X ⟨kb, ib, vb⟩ = 0 by rw [h3.out]; simpa using g3)
          have z4 := Lib.hid (show appE P Y ⟨ka, ia, va⟩ = 0 by rw [h4.out]; simpa using g4)
          have hUs : Hid (MSm U) := Lib.hid (hUe.out ▸ msm_of (apM_mok hXo.out z3.out) (apM_h8 hXo.out hX8.out z3.out))
          have hVs : Hid (MSm V) := Lib.hid (hVe.out ▸ msm_of (apM_mok hYo.out z4.out) (apM_h8 hYo.out hY8.out z4.out))
          have n5 := Lib.hid (cm_4 e0.out z1.out z2.out (by rw [hXe.out]; exact z3.out) (by rw [hYe.out]; exact z4.out))
          rw [hXe.out, hYe.out, hUe.out, hVe.out] at n5
          obtain ⟨bb, hbb⟩ : ∃ bb, decide (U = V) = bb := ⟨_, rfl⟩
          rw [hbb] at n5
          have H9 := Lib.hid (compare_any U V ⟨g0, j0, g1, j1, g2, j2⟩ ⟨m0, n0, m1, n1, m2, n2⟩ W8 hU.out.mix hV.out.mix hUs.out hVs.out)
          go_wp2_with fail
          with_reducible refine H9.out.mono ?_
          rintro e' w9 ⟨z, rfl, hz, hb9⟩
          clear za_4 fa_4 ca_4_0 ca_4_1 ca_4_2 zb_4 fb_4 cb_4_0 cb_4_1 cb_4_2 zc_4 fc_4 cc_4_0 cc_4_1 cc_4_2 zd_4 fd_4 cd_4_0 cd_4_1 cd_4_2 ze_4 fe_4 ce_4_0 ce_4_1 ce_4_2 zf_4 ff_4 cf_4_0 cf_4_1 cf_4_2 zg_4 fg_4 cg_4_0 cg_4_1 cg_4_2 zh_4 fh_4 ch_4_0 ch_4_1 ch_4_2 ch_4_3
          clear H9
          have S9 := Lib.hid (S8.out.call hb9)
          clear S8
          replace hP := Lib.hid (hP.out.to hb9)
          replace hA := Lib.hid (hA.out.to hb9)
          replace hX := Lib.hid (hX.out.to hb9)
          replace hY := Lib.hid (hY.out.to hb9)
          replace hU := Lib.hid (hU.out.to hb9)
          replace hV := Lib.hid (hV.out.to hb9)
          clear hb9
          clear hW8
          rw [hbb] at hz
          replace hz := Lib.hid hz
          replace hbb := Lib.hid hbb
          obtain ⟨⟨za_5, fa_5, ca_5_0, ca_5_1, ca_5_2, -⟩, ⟨zb_5, fb_5, cb_5_0, cb_5_1, cb_5_2, -⟩, ⟨zc_5, fc_5, cc_5_0, cc_5_1, cc_5_2, -⟩, ⟨zd_5, fd_5, cd_5_0, cd_5_1, cd_5_2, -⟩, ⟨ze_5, fe_5, ce_5_0, ce_5_1, ce_5_2, -⟩, ⟨zf_5, ff_5, cf_5_0, cf_5_1, cf_5_2, -⟩, ⟨zg_5, fg_5, cg_5_0, cg_5_1, cg_5_2, -⟩, ⟨zh_5, fh_5, ch_5_0, ch_5_1, ch_5_2, ch_5_3, -⟩, -⟩ := S9.out.facts
          cases bb with
          | true =>
            have hz2 : (z == 0) = true := hz.out
            go_wp2
            refine bodyPost_ret (v := .tuple #[.bool true, .int .i64 0]) (by simp [results, Tryd.results33, go_sem]) rfl ?_
            exact ⟨by rw [(n5.out).1, (n5.out).2], S9.out.bel⟩
          | false =>
            have hz2 : (z == 0) = false := hz.out
            go_wp2
            refine bodyPost_ret (v := .tuple #[.bool false, .int .i64 0]) (by simp [results, Tryd.results33, go_sem]) rfl ?_
            exact ⟨by rw [(n5.out).1, (n5.out).2], S9.out.bel⟩
set_option maxHeartbeats 4000000 in
set_option maxRecDepth 100000 in
theorem rcommute_any (P : Prob) (q : ProbP) (M : Mx) (r : MixP) (s t : Sp) (w : World) (hp : RProb w w.heap.size P q) (hm : RMix w w.heap.size M r) (hmb : MBd M r) (hF : CasF P M) :
    Calls Tryd.prog 34 #[probV P q, mixV M r, stepV s, stepV t] w fun e w' => e = .returned (.tuple #[.bool (cmB P M s t), .int .i64 (cmE P M s t)]) ∧ Below w.heap.size w w' := by
  obtain ⟨W, hW, S⟩ := bx_pmss P q M r s t w
  have hP := Lib.hid (RPr.mk (hp.to S.bel))
  have hA := Lib.hid (RMx.mk (hm.to S.bel))
  replace hmb := Lib.hid hmb
  replace hF := Lib.hid hF
  have e0 := Lib.hid hF.out.e0
  obtain ⟨y0, v0, y1, v1, y2, v2, y3, v3⟩ := q
  obtain ⟨x0, u0, x1, u1, x2, u2⟩ := r
  obtain ⟨ka, ia, va⟩ := s
  obtain ⟨kb, ib, vb⟩ := t
  dsimp only at hW S hmb ⊢
  have SW := Lib.hid S
  clear S hp hm
  obtain ⟨⟨za_0, fa_0, ca_0_0, ca_0_1, ca_0_2, -⟩, ⟨zb_0, fb_0, cb_0_0, cb_0_1, cb_0_2, -⟩, ⟨zc_0, fc_0, cc_0_0, cc_0_1, cc_0_2, -⟩, ⟨zd_0, fd_0, cd_0_0, cd_0_1, cd_0_2, cd_0_3, -⟩, -⟩ := SW.out.facts
  go_enter Tryd.func34, Tryd.ntmps34
  have H1 := Lib.hid (rapply_run P ⟨y0, v0, y1, v1, y2, v2, y3, v3⟩ M ⟨x0, u0, x1, u1, x2, u2⟩ ⟨ka, ia, va⟩ W hP.out.r hF.out.bd hA.out.r hmb.out hF.out.ok)
  go_wp2_with fail
  with_reducible refine H1.out.mono ?_
  rintro e' w1 ⟨_, rfl, hb1, ⟨a0, b0, a1, b1, a2, b2⟩, rfl, hX⟩
  clear za_0 fa_0 ca_0_0 ca_0_1 ca_0_2 zb_0 fb_0 cb_0_0 cb_0_1 cb_0_2 zc_0 fc_0 cc_0_0 cc_0_1 cc_0_2 zd_0 fd_0 cd_0_0 cd_0_1 cd_0_2 cd_0_3
  clear H1
  have S1 := Lib.hid (SW.out.call hb1)
  clear SW
  replace hP := Lib.hid (hP.out.to hb1)
  replace hA := Lib.hid (hA.out.to hb1)
  clear hb1
  clear hW
  obtain ⟨X, hXe⟩ : ∃ X, apM P M ⟨ka, ia, va⟩ = X := ⟨_, rfl⟩
  obtain ⟨er1, h1⟩ : ∃ e, appE P M ⟨ka, ia, va⟩ = e := ⟨_, rfl⟩
  rw [hXe] at hX ⊢
  rw [h1]
  replace hX := Lib.hid hX
  replace hXe := Lib.hid hXe
  replace h1 := Lib.hid h1
  obtain ⟨W2, hW2, S2, hb2⟩ := fm_boxE S1.out 36 [.slice a0 X.base.length b0, .slice a1 X.next.length b1, .slice a2 X.held.length b2]
  clear S1
  replace S2 := Lib.hid S2
  replace hP := Lib.hid (hP.out.to hb2)
  replace hA := Lib.hid (hA.out.to hb2)
  replace hX := Lib.hid (hX.out.to hb2)
  clear hb2
  obtain ⟨⟨za_1, fa_1, ca_1_0, ca_1_1, ca_1_2, -⟩, ⟨zb_1, fb_1, cb_1_0, cb_1_1, cb_1_2, -⟩, ⟨zc_1, fc_1, cc_1_0, cc_1_1, cc_1_2, -⟩, ⟨zd_1, fd_1, cd_1_0, cd_1_1, cd_1_2, -⟩, ⟨ze_1, fe_1, ce_1_0, ce_1_1, ce_1_2, ce_1_3, -⟩, -⟩ := S2.out.facts
  cases g1 : (er1 != 0) with
  | true =>
    have n1 := Lib.hid (cm_1 (t := ⟨kb, ib, vb⟩) e0.out (by rw [h1.out]; simpa using g1))
    go_wp2
    refine bodyPost_ret (v := .tuple #[.bool false, .int .i64 er1]) (by simp [results, Tryd.results34, go_sem]) rfl ?_
    exact ⟨by rw [((show cmB P M ⟨ka, ia, va⟩ ⟨kb, ib, vb⟩ = false ∧ cmE P M ⟨ka, ia, va⟩ ⟨kb, ib, vb⟩ = er1 from ⟨n1.out.1, n1.out.2.trans h1.out⟩)).1, ((show cmB P M ⟨ka, ia, va⟩ ⟨kb, ib, vb⟩ = false ∧ cmE P M ⟨ka, ia, va⟩ ⟨kb, ib, vb⟩ = er1 from ⟨n1.out.1, n1.out.2.trans h1.out⟩)).2], S2.out.bel⟩
  | false =>
    have z1 := Lib.hid (show appE P M ⟨ka, ia, va⟩ = 0 by rw [h1.out]; simpa using g1)
    have hXo := Lib.hid (hXe.out ▸ apM_mok hF.out.ok z1.out)
    have hX8 := Lib.hid (hXe.out ▸ apM_h8 hF.out.ok hF.out.h8 z1.out)
    have H3 := Lib.hid (rapply_run P ⟨y0, v0, y1, v1, y2, v2, y3, v3⟩ M ⟨x0, u0, x1, u1, x2, u2⟩ ⟨kb, ib, vb⟩ W2 hP.out.r hF.out.bd hA.out.r hmb.out hF.out.ok)
    go_wp2_with fail
    with_reducible refine H3.out.mono ?_
    rintro e' w3 ⟨_, rfl, hb3, ⟨d0, f0, d1, f1, d2, f2⟩, rfl, hY⟩
    clear za_1 fa_1 ca_1_0 ca_1_1 ca_1_2 zb_1 fb_1 cb_1_0 cb_1_1 cb_1_2 zc_1 fc_1 cc_1_0 cc_1_1 cc_1_2 zd_1 fd_1 cd_1_0 cd_1_1 cd_1_2 ze_1 fe_1 ce_1_0 ce_1_1 ce_1_2 ce_1_3
    clear H3
    have S3 := Lib.hid (S2.out.call hb3)
    clear S2
    replace hP := Lib.hid (hP.out.to hb3)
    replace hA := Lib.hid (hA.out.to hb3)
    replace hX := Lib.hid (hX.out.to hb3)
    clear hb3
    clear hW2
    obtain ⟨Y, hYe⟩ : ∃ X, apM P M ⟨kb, ib, vb⟩ = X := ⟨_, rfl⟩
    obtain ⟨er2, h2⟩ : ∃ e, appE P M ⟨kb, ib, vb⟩ = e := ⟨_, rfl⟩
    rw [hYe] at hY ⊢
    rw [h2]
    replace hY := Lib.hid hY
    replace hYe := Lib.hid hYe
    replace h2 := Lib.hid h2
    obtain ⟨W4, hW4, S4, hb4⟩ := fm_boxE S3.out 36 [.slice d0 Y.base.length f0, .slice d1 Y.next.length f1, .slice d2 Y.held.length f2]
    clear S3
    replace S4 := Lib.hid S4
    replace hP := Lib.hid (hP.out.to hb4)
    replace hA := Lib.hid (hA.out.to hb4)
    replace hX := Lib.hid (hX.out.to hb4)
    replace hY := Lib.hid (hY.out.to hb4)
    clear hb4
    obtain ⟨⟨za_2, fa_2, ca_2_0, ca_2_1, ca_2_2, -⟩, ⟨zb_2, fb_2, cb_2_0, cb_2_1, cb_2_2, -⟩, ⟨zc_2, fc_2, cc_2_0, cc_2_1, cc_2_2, -⟩, ⟨zd_2, fd_2, cd_2_0, cd_2_1, cd_2_2, -⟩, ⟨ze_2, fe_2, ce_2_0, ce_2_1, ce_2_2, -⟩, ⟨zf_2, ff_2, cf_2_0, cf_2_1, cf_2_2, cf_2_3, -⟩, -⟩ := S4.out.facts
    cases g2 : (er2 != 0) with
    | true =>
      have n2 := Lib.hid (cm_2 (t := ⟨kb, ib, vb⟩) e0.out z1.out (by rw [h2.out]; simpa using g2))
      go_wp2
      refine bodyPost_ret (v := .tuple #[.bool false, .int .i64 er2]) (by simp [results, Tryd.results34, go_sem]) rfl ?_
      exact ⟨by rw [((show cmB P M ⟨ka, ia, va⟩ ⟨kb, ib, vb⟩ = false ∧ cmE P M ⟨ka, ia, va⟩ ⟨kb, ib, vb⟩ = er2 from ⟨n2.out.1, n2.out.2.trans h2.out⟩)).1, ((show cmB P M ⟨ka, ia, va⟩ ⟨kb, ib, vb⟩ = false ∧ cmE P M ⟨ka, ia, va⟩ ⟨kb, ib, vb⟩ = er2 from ⟨n2.out.1, n2.out.2.trans h2.out⟩)).2], S4.out.bel⟩
    | false =>
      have z2 := Lib.hid (show appE P M ⟨kb, ib, vb⟩ = 0 by rw [h2.out]; simpa using g2)
      have hYo := Lib.hid (hYe.out ▸ apM_mok hF.out.ok z2.out)
      have hY8 := Lib.hid (hYe.out ▸ apM_h8 hF.out.ok hF.out.h8 z2.out)
      have H5 := Lib.hid (rapply_run P ⟨y0, v0, y1, v1, y2, v2, y3, v3⟩ X ⟨a0, b0, a1, b1, a2, b2⟩ ⟨kb, ib, vb⟩ W4 hP.out.r hF.out.bd hX.out.mix (hX.out.bd hX8.out) hXo.out)
      go_wp2_with fail
      with_reducible refine H5.out.mono ?_
      rintro e' w5 ⟨_, rfl, hb5, ⟨g0, j0, g1, j1, g2, j2⟩, rfl, hU⟩
      clear za_2 fa_2 ca_2_0 ca_2_1 ca_2_2 zb_2 fb_2 cb_2_0 cb_2_1 cb_2_2 zc_2 fc_2 cc_2_0 cc_2_1 cc_2_2 zd_2 fd_2 cd_2_0 cd_2_1 cd_2_2 ze_2 fe_2 ce_2_0 ce_2_1 ce_2_2 zf_2 ff_2 cf_2_0 cf_2_1 cf_2_2 cf_2_3
      clear H5
      have S5 := Lib.hid (S4.out.call hb5)
      clear S4
      replace hP := Lib.hid (hP.out.to hb5)
      replace hA := Lib.hid (hA.out.to hb5)
      replace hX := Lib.hid (hX.out.to hb5)
      replace hY := Lib.hid (hY.out.to hb5)
      clear hb5
      clear hW4
      obtain ⟨U, hUe⟩ : ∃ Z, apM P X ⟨kb, ib, vb⟩ = Z := ⟨_, rfl⟩
      obtain ⟨er3, h3⟩ : ∃ e, appE P X ⟨kb, ib, vb⟩ = e := ⟨_, rfl⟩
      rw [hUe] at hU ⊢
      rw [h3]
      replace hU := Lib.hid hU
      replace hUe := Lib.hid hUe
      replace h3 := Lib.hid h3
      obtain ⟨W6, hW6, S6, hb6⟩ := fm_boxE S5.out 36 [.slice g0 U.base.length j0, .slice g1 U.next.length j1, .slice g2 U.held.length j2]
      clear S5
      replace S6 := Lib.hid S6
      replace hP := Lib.hid (hP.out.to hb6)
      replace hA := Lib.hid (hA.out.to hb6)
      replace hX := Lib.hid (hX.out.to hb6)
      replace hY := Lib.hid (hY.out.to hb6)
      replace hU := Lib.hid (hU.out.to hb6)
      clear hb6
      obtain ⟨⟨za_3, fa_3, ca_3_0, ca_3_1, ca_3_2, -⟩, ⟨zb_3, fb_3, cb_3_0, cb_3_1, cb_3_2, -⟩, ⟨zc_3, fc_3, cc_3_0, cc_3_1, cc_3_2, -⟩, ⟨zd_3, fd_3, cd_3_0, cd_3_1, cd_3_2, -⟩, ⟨ze_3, fe_3, ce_3_0, ce_3_1, ce_3_2, -⟩, ⟨zf_3, ff_3, cf_3_0, cf_3_1, cf_3_2, -⟩, ⟨zg_3, fg_3, cg_3_0, cg_3_1, cg_3_2, cg_3_3, -⟩, -⟩ := S6.out.facts
      have H7 := Lib.hid (rapply_run P ⟨y0, v0, y1, v1, y2, v2, y3, v3⟩ Y ⟨d0, f0, d1, f1, d2, f2⟩ ⟨ka, ia, va⟩ W6 hP.out.r hF.out.bd hY.out.mix (hY.out.bd hY8.out) hYo.out)
      go_wp2_with fail
      with_reducible refine H7.out.mono ?_
      rintro e' w7 ⟨_, rfl, hb7, ⟨m0, n0, m1, n1, m2, n2⟩, rfl, hV⟩
      clear za_3 fa_3 ca_3_0 ca_3_1 ca_3_2 zb_3 fb_3 cb_3_0 cb_3_1 cb_3_2 zc_3 fc_3 cc_3_0 cc_3_1 cc_3_2 zd_3 fd_3 cd_3_0 cd_3_1 cd_3_2 ze_3 fe_3 ce_3_0 ce_3_1 ce_3_2 zf_3 ff_3 cf_3_0 cf_3_1 cf_3_2 zg_3 fg_3 cg_3_0 cg_3_1 cg_3_2 cg_3_3
      clear H7
      have S7 := Lib.hid (S6.out.call hb7)
      clear S6
      replace hP := Lib.hid (hP.out.to hb7)
      replace hA := Lib.hid (hA.out.to hb7)
      replace hX := Lib.hid (hX.out.to hb7)
      replace hY := Lib.hid (hY.out.to hb7)
      replace hU := Lib.hid (hU.out.to hb7)
      clear hb7
      clear hW6
      obtain ⟨V, hVe⟩ : ∃ Z, apM P Y ⟨ka, ia, va⟩ = Z := ⟨_, rfl⟩
      obtain ⟨er4, h4⟩ : ∃ e, appE P Y ⟨ka, ia, va⟩ = e := ⟨_, rfl⟩
      rw [hVe] at hV ⊢
      rw [h4]
      replace hV := Lib.hid hV
      replace hVe := Lib.hid hVe
      replace h4 := Lib.hid h4
      obtain ⟨W8, hW8, S8, hb8⟩ := fm_boxE S7.out 36 [.slice m0 V.base.length n0, .slice m1 V.next.length n1, .slice m2 V.held.length n2]
      clear S7
      replace S8 := Lib.hid S8
      replace hP := Lib.hid (hP.out.to hb8)
      replace hA := Lib.hid (hA.out.to hb8)
      replace hX := Lib.hid (hX.out.to hb8)
      replace hY := Lib.hid (hY.out.to hb8)
      replace hU := Lib.hid (hU.out.to hb8)
      replace hV := Lib.hid (hV.out.to hb8)
      clear hb8
      obtain ⟨⟨za_4, fa_4, ca_4_0, ca_4_1, ca_4_2, -⟩, ⟨zb_4, fb_4, cb_4_0, cb_4_1, cb_4_2, -⟩, ⟨zc_4, fc_4, cc_4_0, cc_4_1, cc_4_2, -⟩, ⟨zd_4, fd_4, cd_4_0, cd_4_1, cd_4_2, -⟩, ⟨ze_4, fe_4, ce_4_0, ce_4_1, ce_4_2, -⟩, ⟨zf_4, ff_4, cf_4_0, cf_4_1, cf_4_2, -⟩, ⟨zg_4, fg_4, cg_4_0, cg_4_1, cg_4_2, -⟩, ⟨zh_4, fh_4, ch_4_0, ch_4_1, ch_4_2, ch_4_3, -⟩, -⟩ := S8.out.facts
      cases g3 : (er3 == 0) with
      | false =>
        have n3 := Lib.hid (cm_3 e0.out z1.out z2.out (Or.inl (by rw [hXe.out, h3.out]; simpa using g3)))
        go_wp2
        refine bodyPost_ret (v := .tuple #[.bool false, .int .i64 0]) (by simp [results, Tryd.results34, go_sem]) rfl ?_
        exact ⟨by rw [(n3.out).1, (n3.out).2], S8.out.bel⟩
      | true =>
        cases g4 : (er4 == 0) with
        | false =>
          have n4 := Lib.hid (cm_3 e0.out z1.out z2.out (Or.inr (by rw [hYe.out, h4.out]; simpa using g4)))
          go_wp2
          refine bodyPost_ret (v := .tuple #[.bool false, .int .i64 0]) (by simp [results, Tryd.results34, go_sem]) rfl ?_
          exact ⟨by rw [(n4.out).1, (n4.out).2], S8.out.bel⟩
        | true =>
          have z3 := Lib.hid (show appE P X ⟨kb, ib, vb⟩ = 0 by rw [h3.out]; simpa using g3)
          have z4 := Lib.hid (show appE P Y ⟨ka, ia, va⟩ = 0 by rw [h4.out]; simpa using g4)
          have hUs : Hid (MSm U) := Lib.hid (hUe.out ▸ msm_of (apM_mok hXo.out z3.out) (apM_h8 hXo.out hX8.out z3.out))
          have hVs : Hid (MSm V) := Lib.hid (hVe.out ▸ msm_of (apM_mok hYo.out z4.out) (apM_h8 hYo.out hY8.out z4.out))
          have n5 := Lib.hid (cm_4 e0.out z1.out z2.out (by rw [hXe.out]; exact z3.out) (by rw [hYe.out]; exact z4.out))
          rw [hXe.out, hYe.out, hUe.out, hVe.out] at n5
          obtain ⟨bb, hbb⟩ : ∃ bb, decide (U = V) = bb := ⟨_, rfl⟩
          rw [hbb] at n5
          have H9 := Lib.hid (requal_any U V ⟨g0, j0, g1, j1, g2, j2⟩ ⟨m0, n0, m1, n1, m2, n2⟩ W8 hU.out.mix hV.out.mix hUs.out hVs.out)
          go_wp2_with fail
          with_reducible refine H9.out.mono ?_
          rintro e' w9 ⟨rfl, hb9⟩
          clear za_4 fa_4 ca_4_0 ca_4_1 ca_4_2 zb_4 fb_4 cb_4_0 cb_4_1 cb_4_2 zc_4 fc_4 cc_4_0 cc_4_1 cc_4_2 zd_4 fd_4 cd_4_0 cd_4_1 cd_4_2 ze_4 fe_4 ce_4_0 ce_4_1 ce_4_2 zf_4 ff_4 cf_4_0 cf_4_1 cf_4_2 zg_4 fg_4 cg_4_0 cg_4_1 cg_4_2 zh_4 fh_4 ch_4_0 ch_4_1 ch_4_2 ch_4_3
          clear H9
          have S9 := Lib.hid (S8.out.call hb9)
          clear S8
          replace hP := Lib.hid (hP.out.to hb9)
          replace hA := Lib.hid (hA.out.to hb9)
          replace hX := Lib.hid (hX.out.to hb9)
          replace hY := Lib.hid (hY.out.to hb9)
          replace hU := Lib.hid (hU.out.to hb9)
          replace hV := Lib.hid (hV.out.to hb9)
          clear hb9
          clear hW8
          rw [hbb]
          replace hbb := Lib.hid hbb
          obtain ⟨⟨za_5, fa_5, ca_5_0, ca_5_1, ca_5_2, -⟩, ⟨zb_5, fb_5, cb_5_0, cb_5_1, cb_5_2, -⟩, ⟨zc_5, fc_5, cc_5_0, cc_5_1, cc_5_2, -⟩, ⟨zd_5, fd_5, cd_5_0, cd_5_1, cd_5_2, -⟩, ⟨ze_5, fe_5, ce_5_0, ce_5_1, ce_5_2, -⟩, ⟨zf_5, ff_5, cf_5_0, cf_5_1, cf_5_2, -⟩, ⟨zg_5, fg_5, cg_5_0, cg_5_1, cg_5_2, -⟩, ⟨zh_5, fh_5, ch_5_0, ch_5_1, ch_5_2, ch_5_3, -⟩, -⟩ := S9.out.facts
          go_wp2
          refine bodyPost_ret (v := .tuple #[.bool bb, .int .i64 0]) (by simp [results, Tryd.results34, go_sem]) rfl ?_
          exact ⟨by rw [(n5.out).1, (n5.out).2], S9.out.bel⟩
end Go.Proofs.YtfcimilimojfoaaDoor
