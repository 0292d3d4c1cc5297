/-
  LAW StepCommute.
  Conditions: those that each theorem names.
-/
import Derived.Test.YtfcimilimojfoaaDoorStQi
import Derived.Deep.CutBlock
import Derived.Deep.RegionHeld3
import Derived.Deep.DeepCutAuto
namespace Go.Proofs.YtfcimilimojfoaaDoor
open Go.RowKit Go.Sv
theorem cm_poss {p : Prob} {m : Mx} {s t : Sp} (h : MOk p m) (he : cmE p m s t = 0) : (spB s = true ∧ existsB p s = true) ∧ (spB t = true ∧ existsB p t = true) := by
  have h0 := mixE_ok.2 h
  have h1 : appE p m s = 0 := by
    by_cases c : appE p m s = 0
    · exact c
    · rw [(cm_1 h0 c).2] at he; exact absurd he c
  have h2 : appE p m t = 0 := by
    by_cases c : appE p m t = 0
    · exact c
    · rw [(cm_2 h0 h1 c).2] at he; exact absurd he c
  obtain ⟨a1, a2, _⟩ := appE_ok.1 h1
  obtain ⟨b1, b2, _⟩ := appE_ok.1 h2
  exact ⟨⟨a1, a2⟩, ⟨b1, b2⟩⟩
theorem bx_ps (p : Prob) (q : ProbP) (s : Sp) (w : World) : ∃ W, (w.alloc (.cells #[.slice q.a0 p.vs.length q.c0, .slice q.a1 p.now.length q.c1, .slice q.a2 p.tgt.length q.c2, .slice q.a3 p.tabs.length q.c3] 33)).alloc (.cells #[.int .i64 s.kind, .int .i64 s.ix, .int .i64 s.ver] 52) = W ∧
    Fm w W [⟨w.heap.size + 1, 52, [.int .i64 s.kind, .int .i64 s.ix, .int .i64 s.ver]⟩, ⟨w.heap.size, 33, [.slice q.a0 p.vs.length q.c0, .slice q.a1 p.now.length q.c1, .slice q.a2 p.tgt.length q.c2, .slice q.a3 p.tabs.length q.c3]⟩] [] :=
  ⟨_, rfl, ((Fm.init w).box 33 _).box' 52 [.int .i64 s.kind, .int .i64 s.ix, .int .i64 s.ver] (K := w.heap.size + 1) (by simp)⟩
set_option maxHeartbeats 2000000 in
set_option maxRecDepth 100000 in
theorem service_any (p : Prob) (q : ProbP) (s : Sp) (w : World) (hp : RProb w w.heap.size p q) (hbd : PBd p) (hs : spB s = true) (he : existsB p s = true) :
    Calls Tryd.prog 35 #[probV p q, stepV s] w fun e w' => e = .returned (.int .i64 (svc p s)) ∧ Below w.heap.size w w' := by
  obtain ⟨W, hW, S⟩ := bx_ps p q s w
  have hpW := Lib.hid (hp.to S.bel)
  have hb3 := hbd.b3
  obtain ⟨qa0, qc0, qa1, qc1, qa2, qc2, qa3, qc3⟩ := q
  obtain ⟨kd, ix, v⟩ := s
  have hix : 0 ≤ ix := by unfold spB at hs; have := of_decide_eq_true hs; dsimp only at this; omega
  dsimp only at hW S ⊢
  obtain ⟨⟨r1, f1, r10, r11, r12, -⟩, ⟨r2, f2, r20, r21, r22, r23, -⟩, -⟩ := S.facts
  have SW := Lib.hid S
  clear S hp hbd hs
  unfold svc
  dsimp only
  cases h3 : (kd == 3) with
  | true =>
    have e3 : kd = 3 := by simpa using h3
    rw [if_pos e3]
    subst e3
    unfold existsB at he
    rw [if_pos rfl] at he
    have hlt : ix < p.tabs.length := of_decide_eq_true he
    obtain ⟨i, rfl⟩ : ∃ i : Nat, ix = (i : Int) := ⟨ix.toNat, by omega⟩
    have hi : i < p.tabs.length := by omega
    obtain ⟨F, hr, hm⟩ := hpW.out.r3
    obtain ⟨b, off, e4, hb, hc⟩ := hr (by omega)
    have c1 := hc i hi 1 (by decide)
    dsimp only at e4
    subst e4
    have c1' : W.cell? ⟨b, off + i * 6 + 1, none⟩ = some (.int .i64 (tab p.tabs i).src) := c1
    have jk : (i : Int) < (p.tabs.length : Int) := by omega
    obtain ⟨z, hz⟩ : ∃ z, (tab p.tabs i).src = z := ⟨_, rfl⟩
    have hz2 : (tab p.tabs ((i : Int).toNat)).src = z := by rw [Int.toNat_natCast]; exact hz
    rw [hz2]
    rw [hz] at c1'
    replace hz := Lib.hid hz
    clear c1 hc hr hm hz2 he hlt
    go_enter Tryd.func35, Tryd.ntmps35
    go_wp2
    go_ret
    exact ⟨rfl, SW.out.bel⟩
  | false =>
    have e3 : ¬ kd = 3 := by simpa using h3
    rw [if_neg e3]
    clear e3 he
    go_enter Tryd.func35, Tryd.ntmps35
    go_wp2
    go_ret
    exact ⟨rfl, SW.out.bel⟩
theorem bx_c2 (d : Dra) (q : ProbP) (e : DMx) (r : MixP) (s t : Sp) (w : World) : ∃ W, (w.alloc (.cells #[.slice q.a0 d.vs.length q.c0, .slice q.a1 d.now.length q.c1, .slice q.a2 d.tgt.length q.c2, .slice q.a3 d.lk.length q.c3,
    .slice r.a0 e.base.length r.c0, .slice r.a1 e.next.length r.c1, .slice r.a2 e.held.length r.c2] 29)).alloc (.cells #[.int .i64 s.kind, .int .i64 s.ix, .int .i64 s.ver, .int .i64 t.kind, .int .i64 t.ix, .int .i64 t.ver] 75) = W ∧
    Fm w W [⟨w.heap.size + 1, 75, [.int .i64 s.kind, .int .i64 s.ix, .int .i64 s.ver, .int .i64 t.kind, .int .i64 t.ix, .int .i64 t.ver]⟩, ⟨w.heap.size, 29, [.slice q.a0 d.vs.length q.c0, .slice q.a1 d.now.length q.c1, .slice q.a2 d.tgt.length q.c2, .slice q.a3 d.lk.length q.c3, .slice r.a0 e.base.length r.c0, .slice r.a1 e.next.length r.c1, .slice r.a2 e.held.length r.c2]⟩] [] :=
  ⟨_, rfl, ((Fm.init w).box 29 _).box' 75 [.int .i64 s.kind, .int .i64 s.ix, .int .i64 s.ver, .int .i64 t.kind, .int .i64 t.ix, .int .i64 t.ver] (K := w.heap.size + 1) (by simp)⟩
abbrev twoV (s t : Sp) : Value := .agg #[.int .i64 s.kind, .int .i64 s.ix, .int .i64 s.ver, .int .i64 t.kind, .int .i64 t.ix, .int .i64 t.ver]
set_option maxHeartbeats 4000000 in
set_option maxRecDepth 100000 in
theorem commute_n (d : Dra) (q : ProbP) (dm : DMx) (r : MixP) (s t : Sp) (w : World) (hd : RDra w w.heap.size d q) (hbd : DBd d) (_he : RDmx w w.heap.size dm r) (_heb : MDBd dm) (h : ¬ (d.vs.length ≤ 3 ∧ d.lk.length ≤ 4)) :
    Calls Tryd.prog 9 #[caseV d q dm r, twoV s t] w fun e w' => e = .returned (.bool true) ∧ Below w.heap.size w w' := by
  obtain ⟨W, hW, S⟩ := bx_c2 d q dm r s t w
  have HO := Lib.hid (lof_no d q dm r W ((hd.below S.bel).more S.bel.size) hbd h)
  obtain ⟨ka, ia, va⟩ := s
  obtain ⟨kb, ib, vb⟩ := t
  obtain ⟨qa0, qc0, qa1, qc1, qa2, qc2, qa3, qc3⟩ := q
  obtain ⟨ra0, rc0, ra1, rc1, ra2, rc2⟩ := r
  dsimp only at HO hW S ⊢
  have SW := Lib.hid S
  clear S hd hbd _he _heb h
  obtain ⟨⟨za_0, fa_0, ca_0_0, ca_0_1, ca_0_2, ca_0_3, ca_0_4, ca_0_5, -⟩, ⟨zb_0, fb_0, cb_0_0, cb_0_1, cb_0_2, cb_0_3, cb_0_4, cb_0_5, cb_0_6, -⟩, -⟩ := SW.out.facts
  go_enter Tryd.func9, Tryd.ntmps9
  go_wp2_with fail
  clear hW
  with_reducible refine HO.out.mono ?_
  rintro e' w1 ⟨_, rfl, hb1, rfl⟩
  clear za_0 fa_0 ca_0_0 ca_0_1 ca_0_2 ca_0_3 ca_0_4 ca_0_5 zb_0 fb_0 cb_0_0 cb_0_1 cb_0_2 cb_0_3 cb_0_4 cb_0_5 cb_0_6
  have S1 := Lib.hid (SW.out.call hb1)
  clear SW hb1 HO
  obtain ⟨⟨za_1, fa_1, ca_1_0, ca_1_1, ca_1_2, ca_1_3, ca_1_4, ca_1_5, -⟩, ⟨zb_1, fb_1, cb_1_0, cb_1_1, cb_1_2, cb_1_3, cb_1_4, cb_1_5, cb_1_6, -⟩, -⟩ := S1.out.facts
  go_upto_region 2 with fail
  obtain ⟨W2, hW2, S2, hb2⟩ := fm_zz S1.out
  rw [hW2]
  clear hW2 hb2 S1
  replace S2 := Lib.hid S2
  clear za_1 fa_1 ca_1_0 ca_1_1 ca_1_2 ca_1_3 ca_1_4 ca_1_5 zb_1 fb_1 cb_1_0 cb_1_1 cb_1_2 cb_1_3 cb_1_4 cb_1_5 cb_1_6
  obtain ⟨⟨za_2, fa_2, ca_2_0, ca_2_1, ca_2_2, -⟩, ⟨zb_2, fb_2, cb_2_0, cb_2_1, cb_2_2, cb_2_3, -⟩, ⟨zc_2, fc_2, cc_2_0, cc_2_1, cc_2_2, cc_2_3, cc_2_4, cc_2_5, -⟩, ⟨zd_2, fd_2, cd_2_0, cd_2_1, cd_2_2, cd_2_3, cd_2_4, cd_2_5, cd_2_6, -⟩, -⟩ := S2.out.facts
  have H3 := Lib.hid (awake_any W2)
  go_wp2_with fail
  with_reducible refine H3.out.mono ?_
  rintro e' w3 ⟨rfl, hb3⟩
  clear za_2 fa_2 ca_2_0 ca_2_1 ca_2_2 zb_2 fb_2 cb_2_0 cb_2_1 cb_2_2 cb_2_3 zc_2 fc_2 cc_2_0 cc_2_1 cc_2_2 cc_2_3 cc_2_4 cc_2_5 zd_2 fd_2 cd_2_0 cd_2_1 cd_2_2 cd_2_3 cd_2_4 cd_2_5 cd_2_6
  clear H3
  have S3 := Lib.hid (S2.out.call hb3)
  clear S2
  clear hb3
  obtain ⟨⟨za_3, fa_3, ca_3_0, ca_3_1, ca_3_2, -⟩, ⟨zb_3, fb_3, cb_3_0, cb_3_1, cb_3_2, cb_3_3, -⟩, ⟨zc_3, fc_3, cc_3_0, cc_3_1, cc_3_2, cc_3_3, cc_3_4, cc_3_5, -⟩, ⟨zd_3, fd_3, cd_3_0, cd_3_1, cd_3_2, cd_3_3, cd_3_4, cd_3_5, cd_3_6, -⟩, -⟩ := S3.out.facts
  have H4 := Lib.hid (awake_any w3)
  go_wp2_with fail
  with_reducible refine H4.out.mono ?_
  rintro e' w4 ⟨rfl, hb4⟩
  clear za_3 fa_3 ca_3_0 ca_3_1 ca_3_2 zb_3 fb_3 cb_3_0 cb_3_1 cb_3_2 cb_3_3 zc_3 fc_3 cc_3_0 cc_3_1 cc_3_2 cc_3_3 cc_3_4 cc_3_5 zd_3 fd_3 cd_3_0 cd_3_1 cd_3_2 cd_3_3 cd_3_4 cd_3_5 cd_3_6
  clear H4
  have S4 := Lib.hid (S3.out.call hb4)
  clear S3
  clear hb4
  obtain ⟨⟨za_4, fa_4, ca_4_0, ca_4_1, ca_4_2, -⟩, ⟨zb_4, fb_4, cb_4_0, cb_4_1, cb_4_2, cb_4_3, -⟩, ⟨zc_4, fc_4, cc_4_0, cc_4_1, cc_4_2, cc_4_3, cc_4_4, cc_4_5, -⟩, ⟨zd_4, fd_4, cd_4_0, cd_4_1, cd_4_2, cd_4_3, cd_4_4, cd_4_5, cd_4_6, -⟩, -⟩ := S4.out.facts
  go_wp2
  go_ret
  exact ⟨rfl, S4.out.bel⟩
set_option maxHeartbeats 4000000 in
set_option maxRecDepth 100000 in
theorem commute_y (d : Dra) (q : ProbP) (dm : DMx) (r : MixP) (s t : Sp) (w : World) (hd : RDra w w.heap.size d q) (hbd : DBd d) (he : RDmx w w.heap.size dm r) (heb : MDBd dm) (h : d.vs.length ≤ 3 ∧ d.lk.length ≤ 4) :
    Calls Tryd.prog 9 #[caseV d q dm r, twoV s t] w fun e w' => e = .returned (.bool true) ∧ Below w.heap.size w w' := by
  obtain ⟨W, hW, S⟩ := bx_c2 d q dm r s t w
  have HO := Lib.hid (lofY d q dm r W ((hd.below S.bel).more S.bel.size) hbd ((he.below S.bel).more S.bel.size) heb h)
  obtain ⟨ka, ia, va⟩ := s
  obtain ⟨kb, ib, vb⟩ := t
  obtain ⟨qa0, qc0, qa1, qc1, qa2, qc2, qa3, qc3⟩ := q
  obtain ⟨ra0, rc0, ra1, rc1, ra2, rc2⟩ := r
  dsimp only at HO hW S ⊢
  have SW := Lib.hid S
  clear S hd hbd he heb h
  obtain ⟨⟨za_0, fa_0, ca_0_0, ca_0_1, ca_0_2, ca_0_3, ca_0_4, ca_0_5, -⟩, ⟨zb_0, fb_0, cb_0_0, cb_0_1, cb_0_2, cb_0_3, cb_0_4, cb_0_5, cb_0_6, -⟩, -⟩ := SW.out.facts
  go_enter Tryd.func9, Tryd.ntmps9
  go_wp2_with fail
  clear hW
  with_reducible refine HO.out.mono ?_
  rintro e' w1 ⟨_, rfl, hb1, P, M, ⟨y0, v0, y1, v1, y2, v2, y3, v3⟩, F, ⟨x0, u0, x1, u1, x2, u2⟩, rfl, hF, hP, hA⟩
  clear za_0 fa_0 ca_0_0 ca_0_1 ca_0_2 ca_0_3 ca_0_4 ca_0_5 zb_0 fb_0 cb_0_0 cb_0_1 cb_0_2 cb_0_3 cb_0_4 cb_0_5 cb_0_6
  replace hF := Lib.hid hF
  have S1 := Lib.hid (SW.out.call hb1)
  obtain ⟨W2, hW2, S2, hb2⟩ := fm_pm S1.out P ⟨y0, v0, y1, v1, y2, v2, y3, v3⟩ M ⟨x0, u0, x1, u1, x2, u2⟩
  dsimp only at hW2 S2
  replace hP := Lib.hid (hP.to hb2)
  replace hA := Lib.hid (hA.to hb2)
  replace S2 := Lib.hid S2
  clear S1 SW hb1 hb2 HO
  obtain ⟨⟨za_1, fa_1, ca_1_0, ca_1_1, ca_1_2, -⟩, ⟨zb_1, fb_1, cb_1_0, cb_1_1, cb_1_2, cb_1_3, -⟩, ⟨zc_1, fc_1, cc_1_0, cc_1_1, cc_1_2, cc_1_3, cc_1_4, cc_1_5, -⟩, ⟨zd_1, fd_1, cd_1_0, cd_1_1, cd_1_2, cd_1_3, cd_1_4, cd_1_5, cd_1_6, -⟩, -⟩ := S2.out.facts
  have H3 := Lib.hid (awake_any W2)
  go_wp2_with fail
  with_reducible refine H3.out.mono ?_
  rintro e' w3 ⟨rfl, hb3⟩
  clear za_1 fa_1 ca_1_0 ca_1_1 ca_1_2 zb_1 fb_1 cb_1_0 cb_1_1 cb_1_2 cb_1_3 zc_1 fc_1 cc_1_0 cc_1_1 cc_1_2 cc_1_3 cc_1_4 cc_1_5 zd_1 fd_1 cd_1_0 cd_1_1 cd_1_2 cd_1_3 cd_1_4 cd_1_5 cd_1_6
  clear H3
  have S3 := Lib.hid (S2.out.call hb3)
  clear S2
  replace hP := Lib.hid (hP.out.to hb3)
  replace hA := Lib.hid (hA.out.to hb3)
  clear hb3
  clear hW2
  obtain ⟨⟨za_2, fa_2, ca_2_0, ca_2_1, ca_2_2, -⟩, ⟨zb_2, fb_2, cb_2_0, cb_2_1, cb_2_2, cb_2_3, -⟩, ⟨zc_2, fc_2, cc_2_0, cc_2_1, cc_2_2, cc_2_3, cc_2_4, cc_2_5, -⟩, ⟨zd_2, fd_2, cd_2_0, cd_2_1, cd_2_2, cd_2_3, cd_2_4, cd_2_5, cd_2_6, -⟩, -⟩ := S3.out.facts
  have H4 := Lib.hid (commute_any P ⟨y0, v0, y1, v1, y2, v2, y3, v3⟩ M ⟨x0, u0, x1, u1, x2, u2⟩ ⟨ka, ia, va⟩ ⟨kb, ib, vb⟩ w3 hP.out.prob hA.out.mix (hA.out.bd hF.out.h8) hF.out)
  go_wp2_with fail
  with_reducible refine H4.out.mono ?_
  rintro e' w4 ⟨rfl, hb4⟩
  clear za_2 fa_2 ca_2_0 ca_2_1 ca_2_2 zb_2 fb_2 cb_2_0 cb_2_1 cb_2_2 cb_2_3 zc_2 fc_2 cc_2_0 cc_2_1 cc_2_2 cc_2_3 cc_2_4 cc_2_5 zd_2 fd_2 cd_2_0 cd_2_1 cd_2_2 cd_2_3 cd_2_4 cd_2_5 cd_2_6
  clear H4
  have S4 := Lib.hid (S3.out.call hb4)
  clear S3
  replace hP := Lib.hid (hP.out.to hb4)
  replace hA := Lib.hid (hA.out.to hb4)
  clear hb4
  have hSv := Lib.hid (fun h => cm_svc (s := ⟨ka, ia, va⟩) (t := ⟨kb, ib, vb⟩) hF.out.ok h)
  have hPo := Lib.hid (fun h => cm_poss (s := ⟨ka, ia, va⟩) (t := ⟨kb, ib, vb⟩) hF.out.ok h)
  obtain ⟨bb, hbb⟩ : ∃ b, cmB P M ⟨ka, ia, va⟩ ⟨kb, ib, vb⟩ = b := ⟨_, rfl⟩
  obtain ⟨ee, hee⟩ : ∃ b, cmE P M ⟨ka, ia, va⟩ ⟨kb, ib, vb⟩ = b := ⟨_, rfl⟩
  rw [hbb, hee] at hSv ⊢
  rw [hee] at hPo
  replace hbb := Lib.hid hbb
  replace hee := Lib.hid hee
  obtain ⟨⟨za_3, fa_3, ca_3_0, ca_3_1, ca_3_2, -⟩, ⟨zb_3, fb_3, cb_3_0, cb_3_1, cb_3_2, cb_3_3, -⟩, ⟨zc_3, fc_3, cc_3_0, cc_3_1, cc_3_2, cc_3_3, cc_3_4, cc_3_5, -⟩, ⟨zd_3, fd_3, cd_3_0, cd_3_1, cd_3_2, cd_3_3, cd_3_4, cd_3_5, cd_3_6, -⟩, -⟩ := S4.out.facts
  have H5 := Lib.hid (rcommute_any P ⟨y0, v0, y1, v1, y2, v2, y3, v3⟩ M ⟨x0, u0, x1, u1, x2, u2⟩ ⟨ka, ia, va⟩ ⟨kb, ib, vb⟩ w4 hP.out.prob hA.out.mix (hA.out.bd hF.out.h8) hF.out)
  go_wp2_with fail
  with_reducible refine H5.out.mono ?_
  rintro e' w5 ⟨rfl, hb5⟩
  clear za_3 fa_3 ca_3_0 ca_3_1 ca_3_2 zb_3 fb_3 cb_3_0 cb_3_1 cb_3_2 cb_3_3 zc_3 fc_3 cc_3_0 cc_3_1 cc_3_2 cc_3_3 cc_3_4 cc_3_5 zd_3 fd_3 cd_3_0 cd_3_1 cd_3_2 cd_3_3 cd_3_4 cd_3_5 cd_3_6
  clear H5
  have S5 := Lib.hid (S4.out.call hb5)
  clear S4
  replace hP := Lib.hid (hP.out.to hb5)
  replace hA := Lib.hid (hA.out.to hb5)
  clear hb5
  rw [hbb.out, hee.out]
  obtain ⟨⟨za_4, fa_4, ca_4_0, ca_4_1, ca_4_2, -⟩, ⟨zb_4, fb_4, cb_4_0, cb_4_1, cb_4_2, cb_4_3, -⟩, ⟨zc_4, fc_4, cc_4_0, cc_4_1, cc_4_2, cc_4_3, cc_4_4, cc_4_5, -⟩, ⟨zd_4, fd_4, cd_4_0, cd_4_1, cd_4_2, cd_4_3, cd_4_4, cd_4_5, cd_4_6, -⟩, -⟩ := S5.out.facts
  have hbe : (bb != bb) = false := by cases bb <;> rfl
  have hbe2 : (bb == bb) = true := by cases bb <;> rfl
  cases h0 : (ee != 0) with
  | true =>
    cases bb
    all_goals
      go_wp2
      go_ret
      exact ⟨rfl, S5.out.bel⟩
  | false =>
    have z0 : ee = 0 := by simpa using h0
    cases bb with
    | true =>
      go_wp2_with fail
      go_quiet (fail)
      go_wp2
      go_ret
      exact ⟨rfl, S5.out.bel.drawn ((Drawn.refl _).drewN _)⟩
    | false =>
      have hsv := Lib.hid (hSv.out z0 rfl)
      have hpo := Lib.hid (hPo.out z0)
      have hbd := Lib.hid (((Drawn.refl w5).drew).below (B := w5.heap.size))
      have Sd := Lib.hid (S5.out.call hbd.out)
      have hPd := Lib.hid (hP.out.to hbd.out)
      obtain ⟨z, hz⟩ : ∃ z, svc P ⟨ka, ia, va⟩ = z := ⟨_, rfl⟩
      have G1 := Lib.hid (fun W2 hp => service_any P ⟨y0, v0, y1, v1, y2, v2, y3, v3⟩ ⟨ka, ia, va⟩ W2 hp hF.out.bd hpo.out.1.1 hpo.out.1.2)
      have G2 := Lib.hid (fun W2 hp => service_any P ⟨y0, v0, y1, v1, y2, v2, y3, v3⟩ ⟨kb, ib, vb⟩ W2 hp hF.out.bd hpo.out.2.1 hpo.out.2.2)
      rw [hz] at G1
      rw [← hsv.out, hz] at G2
      dsimp only [probV, stepV] at G1 G2
      replace hz := Lib.hid hz
      replace z0 := Lib.hid z0
      clear hbd
      go_wp2_with fail
      go_region_held3 (fun w' => w'.cell? ⟨w1.heap.size, 0, none⟩ = some (.slice y0 P.vs.length v0) ∧ w'.cell? ⟨w1.heap.size, 1, none⟩ = some (.slice y1 P.now.length v1) ∧ w'.cell? ⟨w1.heap.size, 2, none⟩ = some (.slice y2 P.tgt.length v2) ∧ w'.cell? ⟨w1.heap.size, 3, none⟩ = some (.slice y3 P.tabs.length v3) ∧ w'.cell? ⟨w.heap.size + 1, 0, none⟩ = some (.int .i64 ka) ∧ w'.cell? ⟨w.heap.size + 1, 1, none⟩ = some (.int .i64 ia) ∧ w'.cell? ⟨w.heap.size + 1, 2, none⟩ = some (.int .i64 va) ∧ w'.cell? ⟨w.heap.size + 1, 3, none⟩ = some (.int .i64 kb) ∧ w'.cell? ⟨w.heap.size + 1, 4, none⟩ = some (.int .i64 ib) ∧ w'.cell? ⟨w.heap.size + 1, 5, none⟩ = some (.int .i64 vb)) (go_keep)
        (first
        | ((with_reducible refine (G1.out w5.drew hPd.out.prob).mono ?_)
           rintro e' w5 ⟨rfl, hb5⟩
           clear za_4 fa_4 ca_4_0 ca_4_1 ca_4_2 zb_4 fb_4 cb_4_0 cb_4_1 cb_4_2 cb_4_3 zc_4 fc_4 cc_4_0 cc_4_1 cc_4_2 cc_4_3 cc_4_4 cc_4_5 zd_4 fd_4 cd_4_0 cd_4_1 cd_4_2 cd_4_3 cd_4_4 cd_4_5 cd_4_6
           have S5 := Lib.hid (Sd.out.call hb5)
           have hP5 := Lib.hid (hPd.out.to hb5)
           clear hb5
           obtain ⟨⟨za_X, fa_X, ca_X_0, ca_X_1, ca_X_2, -⟩, ⟨zb_X, fb_X, cb_X_0, cb_X_1, cb_X_2, cb_X_3, -⟩, ⟨zc_X, fc_X, cc_X_0, cc_X_1, cc_X_2, cc_X_3, cc_X_4, cc_X_5, -⟩, ⟨zd_X, fd_X, cd_X_0, cd_X_1, cd_X_2, cd_X_3, cd_X_4, cd_X_5, cd_X_6, -⟩, -⟩ := S5.out.facts)
        | ((with_reducible refine (G2.out w5.drew hPd.out.prob).mono ?_)
           rintro e' w5 ⟨rfl, hb5⟩
           clear za_4 fa_4 ca_4_0 ca_4_1 ca_4_2 zb_4 fb_4 cb_4_0 cb_4_1 cb_4_2 cb_4_3 zc_4 fc_4 cc_4_0 cc_4_1 cc_4_2 cc_4_3 cc_4_4 cc_4_5 zd_4 fd_4 cd_4_0 cd_4_1 cd_4_2 cd_4_3 cd_4_4 cd_4_5 cd_4_6
           have S5 := Lib.hid (Sd.out.call hb5)
           have hP5 := Lib.hid (hPd.out.to hb5)
           clear hb5
           obtain ⟨⟨za_X, fa_X, ca_X_0, ca_X_1, ca_X_2, -⟩, ⟨zb_X, fb_X, cb_X_0, cb_X_1, cb_X_2, cb_X_3, -⟩, ⟨zc_X, fc_X, cc_X_0, cc_X_1, cc_X_2, cc_X_3, cc_X_4, cc_X_5, -⟩, ⟨zd_X, fd_X, cd_X_0, cd_X_1, cd_X_2, cd_X_3, cd_X_4, cd_X_5, cd_X_6, -⟩, -⟩ := S5.out.facts)
        | ((with_reducible refine (G1.out w5 hP5.out.prob).mono ?_)
           rintro e' w6 ⟨rfl, hb6⟩
           clear za_X fa_X ca_X_0 ca_X_1 ca_X_2 zb_X fb_X cb_X_0 cb_X_1 cb_X_2 cb_X_3 zc_X fc_X cc_X_0 cc_X_1 cc_X_2 cc_X_3 cc_X_4 cc_X_5 zd_X fd_X cd_X_0 cd_X_1 cd_X_2 cd_X_3 cd_X_4 cd_X_5 cd_X_6
           have S6 := Lib.hid (S5.out.call hb6)
           clear hb6
           obtain ⟨⟨za_Y, fa_Y, ca_Y_0, ca_Y_1, ca_Y_2, -⟩, ⟨zb_Y, fb_Y, cb_Y_0, cb_Y_1, cb_Y_2, cb_Y_3, -⟩, ⟨zc_Y, fc_Y, cc_Y_0, cc_Y_1, cc_Y_2, cc_Y_3, cc_Y_4, cc_Y_5, -⟩, ⟨zd_Y, fd_Y, cd_Y_0, cd_Y_1, cd_Y_2, cd_Y_3, cd_Y_4, cd_Y_5, cd_Y_6, -⟩, -⟩ := S6.out.facts)
        | ((with_reducible refine (G2.out w5 hP5.out.prob).mono ?_)
           rintro e' w6 ⟨rfl, hb6⟩
           clear za_X fa_X ca_X_0 ca_X_1 ca_X_2 zb_X fb_X cb_X_0 cb_X_1 cb_X_2 cb_X_3 zc_X fc_X cc_X_0 cc_X_1 cc_X_2 cc_X_3 cc_X_4 cc_X_5 zd_X fd_X cd_X_0 cd_X_1 cd_X_2 cd_X_3 cd_X_4 cd_X_5 cd_X_6
           have S6 := Lib.hid (S5.out.call hb6)
           clear hb6
           obtain ⟨⟨za_Y, fa_Y, ca_Y_0, ca_Y_1, ca_Y_2, -⟩, ⟨zb_Y, fb_Y, cb_Y_0, cb_Y_1, cb_Y_2, cb_Y_3, -⟩, ⟨zc_Y, fc_Y, cc_Y_0, cc_Y_1, cc_Y_2, cc_Y_3, cc_Y_4, cc_Y_5, -⟩, ⟨zd_Y, fd_Y, cd_Y_0, cd_Y_1, cd_Y_2, cd_Y_3, cd_Y_4, cd_Y_5, cd_Y_6, -⟩, -⟩ := S6.out.facts))
      all_goals
        go_wp2
        go_ret
        exact ⟨rfl, S6.out.bel⟩
theorem law_commute (d : Dra) (q : ProbP) (dm : DMx) (r : MixP) (s t : Sp) (w : World) (hd : RDra w w.heap.size d q) (hbd : DBd d) (he : RDmx w w.heap.size dm r) (heb : MDBd dm) :
    Calls Tryd.prog 9 #[caseV d q dm r, twoV s t] w fun e w' => e = .returned (.bool true) ∧ Below w.heap.size w w' := by
  by_cases h : d.vs.length ≤ 3 ∧ d.lk.length ≤ 4
  · exact commute_y d q dm r s t w hd hbd he heb h
  · exact commute_n d q dm r s t w hd hbd he heb h
end Go.Proofs.YtfcimilimojfoaaDoor
