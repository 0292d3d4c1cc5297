/-
  LAW StepErrors.
  Conditions: those that each theorem names.
-/
import Derived.Test.YtfcimilimojfoaaDoorStQi
import Derived.Test.YtfcimilimojfoaaDoorFleetF
import Derived.Deep.CutBlock
import Derived.Deep.RegionHeld3
import Derived.Deep.DeepCutAuto
namespace Go.Proofs.YtfcimilimojfoaaDoor
open Go.RowKit Go.Sv
set_option maxHeartbeats 2000000 in
set_option maxRecDepth 100000 in
theorem few36_any (m : Mx) (q : MixP) (w : World) (hmb : MBd m q) :
    Calls Tryd.prog 32 #[mixV m q] w (Ret (BoolR w)) := by
  have hB := Lib.hid ((Below.refl w.heap.size w).alloc (Nat.le_refl _) (.cells #[.slice q.a0 m.base.length q.c0, .slice q.a1 m.next.length q.c1, .slice q.a2 m.held.length q.c2] 36))
  obtain ⟨a0, c0, a1, c1, a2, c2⟩ := q
  dsimp only at hB ⊢
  have l0 := hmb.l0
  have l1 := hmb.l1
  have l2 := hmb.l2
  clear hmb
  by_cases g1 : (m.base.length : Int) ≤ 8
  · by_cases g2 : (m.next.length : Int) ≤ 8
    · by_cases g3 : (m.held.length : Int) ≤ 14
      · go_enter Tryd.func32, Tryd.ntmps32
        go_wp2
        go_ret
        exact Ret.mk (BoolR.mk hB.out)
      · go_enter Tryd.func32, Tryd.ntmps32
        go_wp2
        go_ret
        exact Ret.mk (BoolR.mk hB.out)
    · go_enter Tryd.func32, Tryd.ntmps32
      go_wp2
      go_ret
      exact Ret.mk (BoolR.mk hB.out)
  · go_enter Tryd.func32, Tryd.ntmps32
    go_wp2
    go_ret
    exact Ret.mk (BoolR.mk hB.out)
theorem nil_mix (w : World) : RMix w w.heap.size mx0 ⟨none, 0, none, 0, none, 0⟩ := (ao_nil w w.heap.size).mix
theorem nil_int (w : World) : Arr w w.heap.size none ([] : List Int).length (iv []) := fun h => by simp at h
theorem nilE {f : FuncId} {a : Value} {w : World} {Q : Ending → World → Prop} (h : Calls Tryd.prog f #[a, mixV mx0 ⟨none, 0, none, 0, none, 0⟩] w Q) : Calls Tryd.prog f #[a, .agg #[.slice none 0 0, .slice none 0 0, .slice none 0 0]] w Q := h
theorem nilD {f : FuncId} {a b : Value} {w : World} {Q : Ending → World → Prop} (h : Calls Tryd.prog f #[a, b, .slice none ([] : List Int).length 0] w Q) : Calls Tryd.prog f #[a, b, .slice none 0 0] w Q := h
set_option maxHeartbeats 4000000 in
set_option maxRecDepth 100000 in
theorem commute_bad (P : Prob) (q : ProbP) (M : Mx) (r : MixP) (s t : Sp) (w : World) (hp : RProb w w.heap.size P q) (hbd : PBd P) (hm : RMix w w.heap.size M r) (hmb : MBd M r) (h : mixE P M ≠ 0) :
    Calls Tryd.prog 33 #[probV P q, mixV M r, stepV s, stepV t] w fun e w' => e = .returned (.tuple #[.bool false, .int .i64 (mixE P M)]) ∧ Below w.heap.size w w' := by
  obtain ⟨W, hW, S⟩ := bx_pmss P q M r s t w
  have hP := Lib.hid (RPr.mk (hp.to S.bel))
  have hA := Lib.hid (RMx.mk (hm.to S.bel))
  replace hmb := Lib.hid hmb
  replace hbd := Lib.hid hbd
  have hE : ApE P M s = mixE P M := if_neg h
  have hX : ApM P M s = mx0 := if_neg h
  obtain ⟨er, her⟩ : ∃ er, mixE P M = er := ⟨_, rfl⟩
  rw [her] at h hE ⊢
  have hne : (er != 0) = true := by simpa using h
  clear h her
  obtain ⟨y0, v0, y1, v1, y2, v2, y3, v3⟩ := q
  obtain ⟨x0, u0, x1, u1, x2, u2⟩ := r
  obtain ⟨ka, ia, va⟩ := s
  obtain ⟨kb, ib, vb⟩ := t
  dsimp only at hW S hmb ⊢
  have SW := Lib.hid S
  clear S hp hm
  replace hE := Lib.hid hE
  replace hX := Lib.hid hX
  obtain ⟨⟨za_0, fa_0, ca_0_0, ca_0_1, ca_0_2, -⟩, ⟨zb_0, fb_0, cb_0_0, cb_0_1, cb_0_2, -⟩, ⟨zc_0, fc_0, cc_0_0, cc_0_1, cc_0_2, -⟩, ⟨zd_0, fd_0, cd_0_0, cd_0_1, cd_0_2, cd_0_3, -⟩, -⟩ := SW.out.facts
  go_enter Tryd.func33, Tryd.ntmps33
  have H1 := Lib.hid (Apply_any P ⟨y0, v0, y1, v1, y2, v2, y3, v3⟩ M ⟨x0, u0, x1, u1, x2, u2⟩ ⟨ka, ia, va⟩ W hP.out.r hbd.out hA.out.r hmb.out)
  go_wp2_with fail
  with_reducible refine H1.out.mono ?_
  rintro e' w1 ⟨_, rfl, hb1, ⟨a0, b0, a1, b1, a2, b2⟩, rfl, hZ⟩
  clear za_0 fa_0 ca_0_0 ca_0_1 ca_0_2 zb_0 fb_0 cb_0_0 cb_0_1 cb_0_2 zc_0 fc_0 cc_0_0 cc_0_1 cc_0_2 zd_0 fd_0 cd_0_0 cd_0_1 cd_0_2 cd_0_3
  clear H1
  have S1 := Lib.hid (SW.out.call hb1)
  clear SW
  replace hP := Lib.hid (hP.out.to hb1)
  replace hA := Lib.hid (hA.out.to hb1)
  clear hb1
  clear hW hZ
  rw [hE.out, hX.out]
  obtain ⟨W2, hW2, S2, hb2⟩ := fm_boxE S1.out 36 [.slice a0 mx0.base.length b0, .slice a1 mx0.next.length b1, .slice a2 mx0.held.length b2]
  clear S1
  replace S2 := Lib.hid S2
  replace hP := Lib.hid (hP.out.to hb2)
  replace hA := Lib.hid (hA.out.to hb2)
  clear hb2
  obtain ⟨⟨za_1, fa_1, ca_1_0, ca_1_1, ca_1_2, -⟩, ⟨zb_1, fb_1, cb_1_0, cb_1_1, cb_1_2, -⟩, ⟨zc_1, fc_1, cc_1_0, cc_1_1, cc_1_2, -⟩, ⟨zd_1, fd_1, cd_1_0, cd_1_1, cd_1_2, -⟩, ⟨ze_1, fe_1, ce_1_0, ce_1_1, ce_1_2, ce_1_3, -⟩, -⟩ := S2.out.facts
  go_wp2
  refine bodyPost_ret (v := .tuple #[.bool false, .int .i64 er]) (by simp [results, Tryd.results33, go_sem]) rfl ?_
  exact ⟨rfl, S2.out.bel⟩
set_option maxHeartbeats 8000000 in
set_option maxRecDepth 100000 in
theorem law_errors (P : Prob) (q : ProbP) (M : Mx) (r : MixP) (A0 : Option Addr) (c0 : Nat) (l : List Sp) (w : World) (hp : RProb w w.heap.size P q) (hbd : PBd P) (hm : RMix w w.heap.size M r) (hmb : MBd M r) (hl : ArrN w w.heap.size 3 A0 l.length (spF l)) (hl0 : A0 = none → l.length = 0 ∧ c0 = 0) (hlm : l.length ≤ 9223372036854775807) :
    Calls Tryd.prog 8 #[probV P q, mixV M r, .slice A0 l.length c0] w fun e w' => e = .returned (.bool true) ∧ Below w.heap.size w w' := by
  obtain ⟨W, hW, S⟩ := pm_boxes P q M r w
  have hP := Lib.hid (RPr.mk (hp.to S.bel))
  have hA := Lib.hid (RMx.mk (hm.to S.bel))
  have hR := Lib.hid ((SpR.mk hl).to S.bel)
  replace hmb := Lib.hid hmb
  replace hbd := Lib.hid hbd
  replace hl0 := Lib.hid hl0
  obtain ⟨y0, v0, y1, v1, y2, v2, y3, v3⟩ := q
  obtain ⟨x0, u0, x1, u1, x2, u2⟩ := r
  dsimp only at hW S hmb ⊢
  have SW := Lib.hid S
  clear S hp hm hl
  obtain ⟨⟨za_0, fa_0, ca_0_0, ca_0_1, ca_0_2, -⟩, ⟨zb_0, fb_0, cb_0_0, cb_0_1, cb_0_2, cb_0_3, -⟩, -⟩ := SW.out.facts
  go_enter Tryd.func8, Tryd.ntmps8
  have H1 := Lib.hid (awake_any W)
  go_wp2_with fail
  with_reducible refine H1.out.mono ?_
  rintro e' w1 ⟨rfl, hb1⟩
  clear za_0 fa_0 ca_0_0 ca_0_1 ca_0_2 zb_0 fb_0 cb_0_0 cb_0_1 cb_0_2 cb_0_3
  clear H1
  have S1 := Lib.hid (SW.out.call hb1)
  clear SW
  replace hP := Lib.hid (hP.out.to hb1)
  replace hA := Lib.hid (hA.out.to hb1)
  replace hR := Lib.hid (hR.out.to hb1)
  clear hb1
  clear hW
  obtain ⟨⟨za_1, fa_1, ca_1_0, ca_1_1, ca_1_2, -⟩, ⟨zb_1, fb_1, cb_1_0, cb_1_1, cb_1_2, cb_1_3, -⟩, -⟩ := S1.out.facts
  have H2 := Lib.hid (few35_any P ⟨y0, v0, y1, v1, y2, v2, y3, v3⟩ w1 hP.out.r hbd.out)
  go_wp2_with fail
  with_reducible refine H2.out.mono ?_
  rintro e' w2 ⟨_, rfl, fb, rfl, hb2⟩
  clear za_1 fa_1 ca_1_0 ca_1_1 ca_1_2 zb_1 fb_1 cb_1_0 cb_1_1 cb_1_2 cb_1_3
  clear H2
  have S2 := Lib.hid (S1.out.call hb2)
  clear S1
  replace hP := Lib.hid (hP.out.to hb2)
  replace hA := Lib.hid (hA.out.to hb2)
  replace hR := Lib.hid (hR.out.to hb2)
  clear hb2
  obtain ⟨⟨za_2, fa_2, ca_2_0, ca_2_1, ca_2_2, -⟩, ⟨zb_2, fb_2, cb_2_0, cb_2_1, cb_2_2, cb_2_3, -⟩, -⟩ := S2.out.facts
  cases fb with
  | false =>
    have H3 := Lib.hid (awake_any w2)
    go_wp2_with fail
    with_reducible refine H3.out.mono ?_
    rintro e' w3 ⟨rfl, hb3⟩
    clear za_2 fa_2 ca_2_0 ca_2_1 ca_2_2 zb_2 fb_2 cb_2_0 cb_2_1 cb_2_2 cb_2_3
    clear H3
    have S3 := Lib.hid (S2.out.call hb3)
    clear S2
    replace hP := Lib.hid (hP.out.to hb3)
    replace hA := Lib.hid (hA.out.to hb3)
    replace hR := Lib.hid (hR.out.to hb3)
    clear hb3
    obtain ⟨⟨za_3, fa_3, ca_3_0, ca_3_1, ca_3_2, -⟩, ⟨zb_3, fb_3, cb_3_0, cb_3_1, cb_3_2, cb_3_3, -⟩, -⟩ := S3.out.facts
    go_wp2
    go_ret
    exact ⟨rfl, S3.out.bel⟩
  | true =>
    have H3 := Lib.hid (few36_any M ⟨x0, u0, x1, u1, x2, u2⟩ w2 hmb.out)
    go_wp2_with fail
    with_reducible refine H3.out.mono ?_
    rintro e' w3 ⟨_, rfl, fc, rfl, hb3⟩
    clear za_2 fa_2 ca_2_0 ca_2_1 ca_2_2 zb_2 fb_2 cb_2_0 cb_2_1 cb_2_2 cb_2_3
    clear H3
    have S3 := Lib.hid (S2.out.call hb3)
    clear S2
    replace hP := Lib.hid (hP.out.to hb3)
    replace hA := Lib.hid (hA.out.to hb3)
    replace hR := Lib.hid (hR.out.to hb3)
    clear hb3
    obtain ⟨⟨za_3, fa_3, ca_3_0, ca_3_1, ca_3_2, -⟩, ⟨zb_3, fb_3, cb_3_0, cb_3_1, cb_3_2, cb_3_3, -⟩, -⟩ := S3.out.facts
    cases fc with
    | false =>
      have H4 := Lib.hid (awake_any w3)
      go_wp2_with fail
      with_reducible refine H4.out.mono ?_
      rintro e' w4 ⟨rfl, hb4⟩
      clear za_3 fa_3 ca_3_0 ca_3_1 ca_3_2 zb_3 fb_3 cb_3_0 cb_3_1 cb_3_2 cb_3_3
      clear H4
      have S4 := Lib.hid (S3.out.call hb4)
      clear S3
      replace hP := Lib.hid (hP.out.to hb4)
      replace hA := Lib.hid (hA.out.to hb4)
      replace hR := Lib.hid (hR.out.to hb4)
      clear hb4
      obtain ⟨⟨za_4, fa_4, ca_4_0, ca_4_1, ca_4_2, -⟩, ⟨zb_4, fb_4, cb_4_0, cb_4_1, cb_4_2, cb_4_3, -⟩, -⟩ := S4.out.facts
      go_wp2
      go_ret
      exact ⟨rfl, S4.out.bel⟩
    | true =>
      cases hgt : decide ((20 : Int) < (l.length : Int)) with
      | true =>
        have H4 := Lib.hid (awake_any w3)
        go_wp2_with fail
        with_reducible refine H4.out.mono ?_
        rintro e' w4 ⟨rfl, hb4⟩
        clear za_3 fa_3 ca_3_0 ca_3_1 ca_3_2 zb_3 fb_3 cb_3_0 cb_3_1 cb_3_2 cb_3_3
        clear H4
        have S4 := Lib.hid (S3.out.call hb4)
        clear S3
        replace hP := Lib.hid (hP.out.to hb4)
        replace hA := Lib.hid (hA.out.to hb4)
        replace hR := Lib.hid (hR.out.to hb4)
        clear hb4
        obtain ⟨⟨za_4, fa_4, ca_4_0, ca_4_1, ca_4_2, -⟩, ⟨zb_4, fb_4, cb_4_0, cb_4_1, cb_4_2, cb_4_3, -⟩, -⟩ := S4.out.facts
        go_wp2
        go_ret
        exact ⟨rfl, S4.out.bel⟩
      | false =>
        have hle : l.length ≤ 20 := by have := of_decide_eq_false hgt; omega
        replace hle := Lib.hid hle
        have H4 := Lib.hid (rvalidM_any P ⟨y0, v0, y1, v1, y2, v2, y3, v3⟩ M ⟨x0, u0, x1, u1, x2, u2⟩ w3 hP.out.r hbd.out hA.out.r hmb.out)
        go_wp2_with fail
        with_reducible refine H4.out.mono ?_
        rintro e' w4 ⟨rfl, hb4⟩
        clear za_3 fa_3 ca_3_0 ca_3_1 ca_3_2 zb_3 fb_3 cb_3_0 cb_3_1 cb_3_2 cb_3_3
        clear H4
        have S4 := Lib.hid (S3.out.call hb4)
        clear S3
        replace hP := Lib.hid (hP.out.to hb4)
        replace hA := Lib.hid (hA.out.to hb4)
        replace hR := Lib.hid (hR.out.to hb4)
        clear hb4
        obtain ⟨er, her⟩ : ∃ er, mixE P M = er := ⟨_, rfl⟩
        rw [her]
        replace her := Lib.hid her
        obtain ⟨⟨za_4, fa_4, ca_4_0, ca_4_1, ca_4_2, -⟩, ⟨zb_4, fb_4, cb_4_0, cb_4_1, cb_4_2, cb_4_3, -⟩, -⟩ := S4.out.facts
        have hbd := Lib.hid (((Drawn.refl w4).drew).below (B := w4.heap.size))
        have Sd := Lib.hid (S4.out.call hbd.out)
        replace hbd := hbd.out
        have hPd := Lib.hid (hP.out.to hbd)
        have hAd := Lib.hid (hA.out.to hbd)
        have hRd := Lib.hid (hR.out.to hbd)
        clear hbd hP hA hR
        have hP := hPd
        clear hPd
        have hA := hAd
        clear hAd
        have hR := hRd
        clear hRd
        clear S4
        have H5 := Lib.hid (cloneS_any A0 c0 l w4.drew hR.out.arr hl0.out (by have := hle.out; omega))
        go_wp2_with fail
        go_region_held3 (fun w' => w'.cell? ⟨w.heap.size, 0, none⟩ = some (.slice y0 P.vs.length v0) ∧ w'.cell? ⟨w.heap.size, 1, none⟩ = some (.slice y1 P.now.length v1) ∧ w'.cell? ⟨w.heap.size, 2, none⟩ = some (.slice y2 P.tgt.length v2) ∧ w'.cell? ⟨w.heap.size, 3, none⟩ = some (.slice y3 P.tabs.length v3) ∧ w'.cell? ⟨w.heap.size + 1, 0, none⟩ = some (.slice x0 M.base.length u0) ∧ w'.cell? ⟨w.heap.size + 1, 1, none⟩ = some (.slice x1 M.next.length u1) ∧ w'.cell? ⟨w.heap.size + 1, 2, none⟩ = some (.slice x2 M.held.length u2)) (go_keep)
          (first
            | ((with_reducible refine H5.out.mono ?_)
               rintro e' w5 ⟨_, rfl, hb5, A1, c1, rfl, hO⟩
               clear za_4 fa_4 ca_4_0 ca_4_1 ca_4_2 zb_4 fb_4 cb_4_0 cb_4_1 cb_4_2 cb_4_3
               have S5 := Lib.hid (Sd.out.call hb5)
               replace hP := Lib.hid (hP.out.to hb5)
               replace hA := Lib.hid (hA.out.to hb5)
               replace hR := Lib.hid (hR.out.to hb5)
               clear hb5 H5 Sd
               replace hO := Lib.hid (SpO.mk hO)
               have H6 := Lib.hid (Run_any P ⟨y0, v0, y1, v1, y2, v2, y3, v3⟩ M ⟨x0, u0, x1, u1, x2, u2⟩ A1 c1 l w5 hP.out.r hbd.out hA.out.r hmb.out hO.out.arr (by have := hle.out; omega))
               obtain ⟨⟨za_5, fa_5, ca_5_0, ca_5_1, ca_5_2, -⟩, ⟨zb_5, fb_5, cb_5_0, cb_5_1, cb_5_2, cb_5_3, -⟩, -⟩ := S5.out.facts)
            | ((with_reducible refine H6.out.mono ?_)
               rintro e' w6 ⟨_, rfl, hb6, A2, c2, Q2, rfl, hM⟩
               clear za_5 fa_5 ca_5_0 ca_5_1 ca_5_2 zb_5 fb_5 cb_5_0 cb_5_1 cb_5_2 cb_5_3
               have S6 := Lib.hid (S5.out.call hb6)
               replace hP := Lib.hid (hP.out.to hb6)
               replace hA := Lib.hid (hA.out.to hb6)
               replace hR := Lib.hid (hR.out.to hb6)
               replace hM := Lib.hid (MxO.of hb6 hM)
               clear hb6 H6 S5
               obtain ⟨⟨za_6, fa_6, ca_6_0, ca_6_1, ca_6_2, -⟩, ⟨zb_6, fb_6, cb_6_0, cb_6_1, cb_6_2, cb_6_3, -⟩, -⟩ := S6.out.facts))
        all_goals
          have H7 := Lib.hid (rRun_any P ⟨y0, v0, y1, v1, y2, v2, y3, v3⟩ M ⟨x0, u0, x1, u1, x2, u2⟩ A0 c0 l w6 hP.out.r hbd.out hA.out.r hmb.out hR.out.arr (by have := hle.out; omega))
          go_wp2_with fail
          with_reducible refine H7.out.mono ?_
          rintro e' w7 ⟨_, rfl, hb7, A3, c3, Q3, rfl, hM2⟩
          clear za_6 fa_6 ca_6_0 ca_6_1 ca_6_2 zb_6 fb_6 cb_6_0 cb_6_1 cb_6_2 cb_6_3
          clear H7
          have S7 := Lib.hid (S6.out.call hb7)
          clear S6
          replace hP := Lib.hid (hP.out.to hb7)
          replace hA := Lib.hid (hA.out.to hb7)
          replace hR := Lib.hid (hR.out.to hb7)
          replace hM := Lib.hid (hM.out.to hb7)
          replace hM2 := Lib.hid (MxO.of hb7 hM2)
          clear hb7
          obtain ⟨⟨za_7, fa_7, ca_7_0, ca_7_1, ca_7_2, -⟩, ⟨zb_7, fb_7, cb_7_0, cb_7_1, cb_7_2, cb_7_3, -⟩, -⟩ := S7.out.facts
          have H8 := Lib.hid (rsameR (by have := hle.out; omega) hM.out hM2.out)
          go_wp2_with fail
          with_reducible refine H8.out.mono ?_
          rintro e' w8 ⟨rfl, hb8⟩
          clear za_7 fa_7 ca_7_0 ca_7_1 ca_7_2 zb_7 fb_7 cb_7_0 cb_7_1 cb_7_2 cb_7_3
          clear H8
          have S8 := Lib.hid (S7.out.call hb8)
          clear S7
          replace hP := Lib.hid (hP.out.to hb8)
          replace hA := Lib.hid (hA.out.to hb8)
          replace hR := Lib.hid (hR.out.to hb8)
          replace hM := Lib.hid (hM.out.to hb8)
          replace hM2 := Lib.hid (hM2.out.to hb8)
          clear hb8
          obtain ⟨⟨za_8, fa_8, ca_8_0, ca_8_1, ca_8_2, -⟩, ⟨zb_8, fb_8, cb_8_0, cb_8_1, cb_8_2, cb_8_3, -⟩, -⟩ := S8.out.facts
          cases h0 : (er == 0) with
          | true =>
            go_wp2
            go_ret
            exact ⟨rfl, S8.out.bel⟩
          | false =>
            have hbad := Lib.hid (show mixE P M ≠ 0 by rw [her.out]; simpa using h0)
            have e1 : enE P M = er := her.out
            have e2 : enL P M = [] := if_neg hbad.out
            have e3 : ApE P M ⟨0, 0, 0⟩ = er := (if_neg hbad.out).trans her.out
            have e4 : ApM P M ⟨0, 0, 0⟩ = mx0 := if_neg hbad.out
            have e5 : diE P M [] = er := (di_m hbad.out).1.trans her.out
            have e6 : diL P M [] = [] := (di_m hbad.out).2
            replace e1 := Lib.hid e1
            replace e2 := Lib.hid e2
            replace e3 := Lib.hid e3
            replace e4 := Lib.hid e4
            replace e5 := Lib.hid e5
            replace e6 := Lib.hid e6
            clear hM hM2 hR
            have H9 := Lib.hid (Enabled_any P ⟨y0, v0, y1, v1, y2, v2, y3, v3⟩ M ⟨x0, u0, x1, u1, x2, u2⟩ w8 hP.out.r hbd.out hA.out.r hmb.out)
            go_wp2_with fail
            with_reducible refine H9.out.mono ?_
            rintro e' w9 ⟨_, rfl, hb9, B1, d1, rfl, hO1⟩
            clear za_8 fa_8 ca_8_0 ca_8_1 ca_8_2 zb_8 fb_8 cb_8_0 cb_8_1 cb_8_2 cb_8_3
            clear H9
            have S9 := Lib.hid (S8.out.call hb9)
            clear S8
            replace hP := Lib.hid (hP.out.to hb9)
            replace hA := Lib.hid (hA.out.to hb9)
            clear hb9
            rw [e1.out, e2.out]
            clear hO1
            obtain ⟨⟨za_9, fa_9, ca_9_0, ca_9_1, ca_9_2, -⟩, ⟨zb_9, fb_9, cb_9_0, cb_9_1, cb_9_2, cb_9_3, -⟩, -⟩ := S9.out.facts
            have H10 := Lib.hid (Apply_any P ⟨y0, v0, y1, v1, y2, v2, y3, v3⟩ M ⟨x0, u0, x1, u1, x2, u2⟩ ⟨0, 0, 0⟩ w9 hP.out.r hbd.out hA.out.r hmb.out)
            go_wp2_with fail
            with_reducible refine H10.out.mono ?_
            rintro e' w10 ⟨_, rfl, hb10, ⟨a0, b0, a1, b1, a2, b2⟩, rfl, hZ⟩
            clear za_9 fa_9 ca_9_0 ca_9_1 ca_9_2 zb_9 fb_9 cb_9_0 cb_9_1 cb_9_2 cb_9_3
            clear H10
            have S10 := Lib.hid (S9.out.call hb10)
            clear S9
            replace hP := Lib.hid (hP.out.to hb10)
            replace hA := Lib.hid (hA.out.to hb10)
            clear hb10
            rw [e4.out] at hZ ⊢
            rw [e3.out]
            replace hZ := Lib.hid hZ
            obtain ⟨W11, hW11, S11, hb11⟩ := fm_boxE S10.out 36 [.slice a0 mx0.base.length b0, .slice a1 mx0.next.length b1, .slice a2 mx0.held.length b2]
            clear S10
            replace S11 := Lib.hid S11
            replace hP := Lib.hid (hP.out.to hb11)
            replace hA := Lib.hid (hA.out.to hb11)
            replace hZ := Lib.hid (hZ.out.to hb11)
            clear hb11
            obtain ⟨⟨za_10, fa_10, ca_10_0, ca_10_1, ca_10_2, -⟩, ⟨zb_10, fb_10, cb_10_0, cb_10_1, cb_10_2, -⟩, ⟨zc_10, fc_10, cc_10_0, cc_10_1, cc_10_2, cc_10_3, -⟩, -⟩ := S11.out.facts
            have H12 := Lib.hid (nilD (Direct_any P ⟨y0, v0, y1, v1, y2, v2, y3, v3⟩ M ⟨x0, u0, x1, u1, x2, u2⟩ none 0 [] W11 hP.out.r hbd.out hA.out.r hmb.out (nil_int _) (by decide)))
            go_wp2_with fail
            with_reducible refine H12.out.mono ?_
            rintro e' w12 ⟨_, rfl, hb12, B2, d2, rfl, hO2⟩
            clear za_10 fa_10 ca_10_0 ca_10_1 ca_10_2 zb_10 fb_10 cb_10_0 cb_10_1 cb_10_2 zc_10 fc_10 cc_10_0 cc_10_1 cc_10_2 cc_10_3
            clear H12
            have S12 := Lib.hid (S11.out.call hb12)
            clear S11
            replace hP := Lib.hid (hP.out.to hb12)
            replace hA := Lib.hid (hA.out.to hb12)
            replace hZ := Lib.hid (hZ.out.to hb12)
            clear hb12
            clear hW11
            rw [e5.out, e6.out]
            clear hO2
            obtain ⟨⟨za_11, fa_11, ca_11_0, ca_11_1, ca_11_2, -⟩, ⟨zb_11, fb_11, cb_11_0, cb_11_1, cb_11_2, -⟩, ⟨zc_11, fc_11, cc_11_0, cc_11_1, cc_11_2, cc_11_3, -⟩, -⟩ := S12.out.facts
            have H13 := Lib.hid (commute_bad P ⟨y0, v0, y1, v1, y2, v2, y3, v3⟩ M ⟨x0, u0, x1, u1, x2, u2⟩ ⟨0, 0, 0⟩ ⟨0, 0, 0⟩ w12 hP.out.r hbd.out hA.out.r hmb.out hbad.out)
            go_wp2_with fail
            with_reducible refine H13.out.mono ?_
            rintro e' w13 ⟨rfl, hb13⟩
            clear za_11 fa_11 ca_11_0 ca_11_1 ca_11_2 zb_11 fb_11 cb_11_0 cb_11_1 cb_11_2 zc_11 fc_11 cc_11_0 cc_11_1 cc_11_2 cc_11_3
            clear H13
            have S13 := Lib.hid (S12.out.call hb13)
            clear S12
            replace hP := Lib.hid (hP.out.to hb13)
            replace hA := Lib.hid (hA.out.to hb13)
            replace hZ := Lib.hid (hZ.out.to hb13)
            clear hb13
            rw [her.out]
            obtain ⟨⟨za_12, fa_12, ca_12_0, ca_12_1, ca_12_2, -⟩, ⟨zb_12, fb_12, cb_12_0, cb_12_1, cb_12_2, -⟩, ⟨zc_12, fc_12, cc_12_0, cc_12_1, cc_12_2, cc_12_3, -⟩, -⟩ := S13.out.facts
            have H14 := Lib.hid (nilE (calls_true (requal_any mx0 mx0 ⟨a0, b0, a1, b1, a2, b2⟩ ⟨none, 0, none, 0, none, 0⟩ w13 hZ.out.mix (nil_mix _) msm0 msm0) (decide_eq_true rfl)))
            go_wp2_with fail
            with_reducible refine H14.out.mono ?_
            rintro e' w14 ⟨rfl, hb14⟩
            clear za_12 fa_12 ca_12_0 ca_12_1 ca_12_2 zb_12 fb_12 cb_12_0 cb_12_1 cb_12_2 zc_12 fc_12 cc_12_0 cc_12_1 cc_12_2 cc_12_3
            clear H14
            have S14 := Lib.hid (S13.out.call hb14)
            clear S13
            replace hP := Lib.hid (hP.out.to hb14)
            replace hA := Lib.hid (hA.out.to hb14)
            replace hZ := Lib.hid (hZ.out.to hb14)
            clear hb14
            obtain ⟨⟨za_13, fa_13, ca_13_0, ca_13_1, ca_13_2, -⟩, ⟨zb_13, fb_13, cb_13_0, cb_13_1, cb_13_2, -⟩, ⟨zc_13, fc_13, cc_13_0, cc_13_1, cc_13_2, cc_13_3, -⟩, -⟩ := S14.out.facts
            go_wp2
            go_ret
            exact ⟨rfl, S14.out.bel⟩
end Go.Proofs.YtfcimilimojfoaaDoor
