/-
  LAW StepHeld.
  Conditions: those that each theorem names.
-/
import Derived.Test.YtfcimilimojfoaaDoorSq1
import Derived.Test.YtfcimilimojfoaaDoorStQk
import Derived.Test.YtfcimilimojfoaaDoorStQl
import Derived.Deep.CutBlock
import Derived.Deep.DeepCutAuto
namespace Go.Proofs.YtfcimilimojfoaaDoor
open Go.RowKit Go.Sv
theorem ape_ok {p : Prob} {m : Mx} {s : Sp} (h : CasF p m) (h0 : ApE p m s = 0) : ∃ x, spB s = true ∧ existsB p s = true ∧ aft p m s = some x ∧ ApM p m s = x ∧ MOk p x ∧ H8 x := by
  unfold ApE at h0
  rw [if_pos h.e0] at h0
  obtain ⟨a, b, x, hx⟩ := appE_ok.1 h0
  refine ⟨x, a, b, hx, ?_, ?_, ?_⟩
  · unfold ApM; rw [if_pos h.e0]; exact apM_ok a b hx
  · exact aft_ok h.ok a b hx
  · exact aft_h8 h.ok h.h8 a b hx
theorem kind14 {s : Sp} (h : spB s = true) : s.kind = 1 ∨ s.kind = 2 ∨ s.kind = 3 ∨ s.kind = 4 := by
  unfold spB at h
  have := of_decide_eq_true h
  omega
structure CfO (w : World) (B : Nat) (A : Option Addr) (c : Nat) (l : List Cf) : Prop where
  row : w.ownsRow B 68 3 (.slice A l.length c) l.length (cfRow l)
theorem CfO.to {w w' : World} {B : Nat} {A : Option Addr} {c : Nat} {l : List Cf} (h : CfO w B A c l) (hb : Below w.heap.size w w') : CfO w' B A c l := ⟨own_to h.row hb⟩
theorem CfO.arr {w : World} {B : Nat} {A : Option Addr} {c : Nat} {l : List Cf} (h : CfO w B A c l) : ArrN w w.heap.size 3 A l.length (cfF l) := by
  obtain ⟨A', c', hv, _, _, ha⟩ := own_arrN (f := cfF l) h.row (fun k hk i hi => cfRow_get hk hi)
  injection hv with h1
  rw [h1]
  exact ha
theorem foundL_len {p : Prob} (h : probE p = 0) (m : Mx) (ht : p.tabs.length ≤ 4) : (foundL p m).length ≤ 1000 := by
  have := fd2_len h m p.tabs.length 0
  rw [fd2_0] at this
  have e : fd1 p m p.tabs.length = foundL p m := rfl
  rw [e] at this
  omega
set_option maxHeartbeats 4000000 in
set_option maxRecDepth 100000 in
theorem held_n (d : Dra) (q : ProbP) (dm : DMx) (r : MixP) (s : Sp) (w : World) (hd : RDra w w.heap.size d q) (hbd : DBd d) (_he : RDmx w w.heap.size dm r) (_heb : MDBd dm) (h : ¬ (d.vs.length ≤ 3 ∧ d.lk.length ≤ 4)) :
    Calls Tryd.prog 7 #[caseV d q dm r, stepV s] w fun e w' => e = .returned (.bool true) ∧ Below w.heap.size w w' := by
  obtain ⟨W, hW, S⟩ := bx_cs d q dm r s w
  have HO := Lib.hid (lof_no d q dm r W ((hd.below S.bel).more S.bel.size) hbd h)
  obtain ⟨qa0, qc0, qa1, qc1, qa2, qc2, qa3, qc3⟩ := q
  obtain ⟨ra0, rc0, ra1, rc1, ra2, rc2⟩ := r
  obtain ⟨kd, ix, v⟩ := s
  dsimp only at HO hW S ⊢
  have SW := Lib.hid S
  clear S hd hbd _he _heb h
  obtain ⟨⟨za_0, fa_0, ca_0_0, ca_0_1, ca_0_2, -⟩, ⟨zb_0, fb_0, cb_0_0, cb_0_1, cb_0_2, cb_0_3, cb_0_4, cb_0_5, cb_0_6, -⟩, -⟩ := SW.out.facts
  go_enter Tryd.func7, Tryd.ntmps7
  go_wp2_with fail
  clear hW
  with_reducible refine HO.out.mono ?_
  rintro e' w1 ⟨_, rfl, hb1, rfl⟩
  clear za_0 fa_0 ca_0_0 ca_0_1 ca_0_2 zb_0 fb_0 cb_0_0 cb_0_1 cb_0_2 cb_0_3 cb_0_4 cb_0_5 cb_0_6
  have S1 := Lib.hid (SW.out.call hb1)
  clear SW hb1 HO
  obtain ⟨⟨za_1, fa_1, ca_1_0, ca_1_1, ca_1_2, -⟩, ⟨zb_1, fb_1, cb_1_0, cb_1_1, cb_1_2, cb_1_3, cb_1_4, cb_1_5, cb_1_6, -⟩, -⟩ := S1.out.facts
  go_upto_region 2 with fail
  obtain ⟨W2, hW2, S2, hb2⟩ := fm_zz S1.out
  rw [hW2]
  clear hW2 hb2 S1
  replace S2 := Lib.hid S2
  clear za_1 fa_1 ca_1_0 ca_1_1 ca_1_2 zb_1 fb_1 cb_1_0 cb_1_1 cb_1_2 cb_1_3 cb_1_4 cb_1_5 cb_1_6
  obtain ⟨⟨za_2, fa_2, ca_2_0, ca_2_1, ca_2_2, -⟩, ⟨zb_2, fb_2, cb_2_0, cb_2_1, cb_2_2, cb_2_3, -⟩, ⟨zc_2, fc_2, cc_2_0, cc_2_1, cc_2_2, -⟩, ⟨zd_2, fd_2, cd_2_0, cd_2_1, cd_2_2, cd_2_3, cd_2_4, cd_2_5, cd_2_6, -⟩, -⟩ := S2.out.facts
  have H3 := Lib.hid (awake_any W2)
  go_wp2_with fail
  with_reducible refine H3.out.mono ?_
  rintro e' w3 ⟨rfl, hb3⟩
  clear za_2 fa_2 ca_2_0 ca_2_1 ca_2_2 zb_2 fb_2 cb_2_0 cb_2_1 cb_2_2 cb_2_3 zc_2 fc_2 cc_2_0 cc_2_1 cc_2_2 zd_2 fd_2 cd_2_0 cd_2_1 cd_2_2 cd_2_3 cd_2_4 cd_2_5 cd_2_6
  clear H3
  have S3 := Lib.hid (S2.out.call hb3)
  clear S2
  clear hb3
  obtain ⟨⟨za_3, fa_3, ca_3_0, ca_3_1, ca_3_2, -⟩, ⟨zb_3, fb_3, cb_3_0, cb_3_1, cb_3_2, cb_3_3, -⟩, ⟨zc_3, fc_3, cc_3_0, cc_3_1, cc_3_2, -⟩, ⟨zd_3, fd_3, cd_3_0, cd_3_1, cd_3_2, cd_3_3, cd_3_4, cd_3_5, cd_3_6, -⟩, -⟩ := S3.out.facts
  have H4 := Lib.hid (awake_any w3)
  go_wp2_with fail
  with_reducible refine H4.out.mono ?_
  rintro e' w4 ⟨rfl, hb4⟩
  clear za_3 fa_3 ca_3_0 ca_3_1 ca_3_2 zb_3 fb_3 cb_3_0 cb_3_1 cb_3_2 cb_3_3 zc_3 fc_3 cc_3_0 cc_3_1 cc_3_2 zd_3 fd_3 cd_3_0 cd_3_1 cd_3_2 cd_3_3 cd_3_4 cd_3_5 cd_3_6
  clear H4
  have S4 := Lib.hid (S3.out.call hb4)
  clear S3
  clear hb4
  obtain ⟨⟨za_4, fa_4, ca_4_0, ca_4_1, ca_4_2, -⟩, ⟨zb_4, fb_4, cb_4_0, cb_4_1, cb_4_2, cb_4_3, -⟩, ⟨zc_4, fc_4, cc_4_0, cc_4_1, cc_4_2, -⟩, ⟨zd_4, fd_4, cd_4_0, cd_4_1, cd_4_2, cd_4_3, cd_4_4, cd_4_5, cd_4_6, -⟩, -⟩ := S4.out.facts
  go_wp2
  go_ret
  exact ⟨rfl, S4.out.bel⟩
set_option maxHeartbeats 4000000 in
set_option maxRecDepth 100000 in
theorem held_y (d : Dra) (q : ProbP) (dm : DMx) (r : MixP) (s : Sp) (w : World) (hd : RDra w w.heap.size d q) (hbd : DBd d) (he : RDmx w w.heap.size dm r) (heb : MDBd dm) (h : d.vs.length ≤ 3 ∧ d.lk.length ≤ 4) :
    Calls Tryd.prog 7 #[caseV d q dm r, stepV s] w fun e w' => e = .returned (.bool true) ∧ Below w.heap.size w w' := by
  obtain ⟨W, hW, S⟩ := bx_cs d q dm r s w
  have HO := Lib.hid (lofY d q dm r W ((hd.below S.bel).more S.bel.size) hbd ((he.below S.bel).more S.bel.size) heb h)
  obtain ⟨qa0, qc0, qa1, qc1, qa2, qc2, qa3, qc3⟩ := q
  obtain ⟨ra0, rc0, ra1, rc1, ra2, rc2⟩ := r
  obtain ⟨kd, ix, v⟩ := s
  dsimp only at HO hW S ⊢
  have SW := Lib.hid S
  clear S hd hbd he heb h
  obtain ⟨⟨za_0, fa_0, ca_0_0, ca_0_1, ca_0_2, -⟩, ⟨zb_0, fb_0, cb_0_0, cb_0_1, cb_0_2, cb_0_3, cb_0_4, cb_0_5, cb_0_6, -⟩, -⟩ := SW.out.facts
  go_enter Tryd.func7, Tryd.ntmps7
  go_wp2_with fail
  clear hW
  with_reducible refine HO.out.mono ?_
  rintro e' w1 ⟨_, rfl, hb1, P, M, ⟨y0, v0, y1, v1, y2, v2, y3, v3⟩, F, ⟨x0, u0, x1, u1, x2, u2⟩, rfl, hF, hP, hA⟩
  clear za_0 fa_0 ca_0_0 ca_0_1 ca_0_2 zb_0 fb_0 cb_0_0 cb_0_1 cb_0_2 cb_0_3 cb_0_4 cb_0_5 cb_0_6
  replace hF := Lib.hid hF
  have S1 := Lib.hid (SW.out.call hb1)
  obtain ⟨W2, hW2, S2, hb2⟩ := fm_pm S1.out P ⟨y0, v0, y1, v1, y2, v2, y3, v3⟩ M ⟨x0, u0, x1, u1, x2, u2⟩
  dsimp only at hW2 S2
  replace hP := Lib.hid (hP.to hb2)
  replace hA := Lib.hid (hA.to hb2)
  replace S2 := Lib.hid S2
  clear S1 SW hb1 hb2 HO
  obtain ⟨⟨za_1, fa_1, ca_1_0, ca_1_1, ca_1_2, -⟩, ⟨zb_1, fb_1, cb_1_0, cb_1_1, cb_1_2, cb_1_3, -⟩, ⟨zc_1, fc_1, cc_1_0, cc_1_1, cc_1_2, -⟩, ⟨zd_1, fd_1, cd_1_0, cd_1_1, cd_1_2, cd_1_3, cd_1_4, cd_1_5, cd_1_6, -⟩, -⟩ := S2.out.facts
  have H3 := Lib.hid (awake_any W2)
  go_wp2_with fail
  with_reducible refine H3.out.mono ?_
  rintro e' w3 ⟨rfl, hb3⟩
  clear za_1 fa_1 ca_1_0 ca_1_1 ca_1_2 zb_1 fb_1 cb_1_0 cb_1_1 cb_1_2 cb_1_3 zc_1 fc_1 cc_1_0 cc_1_1 cc_1_2 zd_1 fd_1 cd_1_0 cd_1_1 cd_1_2 cd_1_3 cd_1_4 cd_1_5 cd_1_6
  clear H3
  have S3 := Lib.hid (S2.out.call hb3)
  clear S2
  replace hP := Lib.hid (hP.out.to hb3)
  replace hA := Lib.hid (hA.out.to hb3)
  clear hb3
  clear hW2
  obtain ⟨⟨za_2, fa_2, ca_2_0, ca_2_1, ca_2_2, -⟩, ⟨zb_2, fb_2, cb_2_0, cb_2_1, cb_2_2, cb_2_3, -⟩, ⟨zc_2, fc_2, cc_2_0, cc_2_1, cc_2_2, -⟩, ⟨zd_2, fd_2, cd_2_0, cd_2_1, cd_2_2, cd_2_3, cd_2_4, cd_2_5, cd_2_6, -⟩, -⟩ := S3.out.facts
  have H4 := Lib.hid (Apply_any P ⟨y0, v0, y1, v1, y2, v2, y3, v3⟩ M ⟨x0, u0, x1, u1, x2, u2⟩ ⟨kd, ix, v⟩ w3 hP.out.prob hF.out.bd hA.out.mix (hA.out.bd hF.out.h8))
  go_wp2_with fail
  with_reducible refine H4.out.mono ?_
  rintro e' w4 ⟨_, rfl, hb4, ⟨a0, b0, a1, b1, a2, b2⟩, rfl, hX⟩
  clear za_2 fa_2 ca_2_0 ca_2_1 ca_2_2 zb_2 fb_2 cb_2_0 cb_2_1 cb_2_2 cb_2_3 zc_2 fc_2 cc_2_0 cc_2_1 cc_2_2 zd_2 fd_2 cd_2_0 cd_2_1 cd_2_2 cd_2_3 cd_2_4 cd_2_5 cd_2_6
  clear H4
  have S4 := Lib.hid (S3.out.call hb4)
  clear S3
  replace hP := Lib.hid (hP.out.to hb4)
  replace hA := Lib.hid (hA.out.to hb4)
  clear hb4
  have hvl := Lib.hid (ape_ok (s := ⟨kd, ix, v⟩) hF.out)
  obtain ⟨X, hXe⟩ : ∃ X, ApM P M ⟨kd, ix, v⟩ = X := ⟨_, rfl⟩
  obtain ⟨er, her⟩ : ∃ er, ApE P M ⟨kd, ix, v⟩ = er := ⟨_, rfl⟩
  rw [her, hXe] at hvl
  rw [hXe] at hX ⊢
  rw [her]
  replace hX := Lib.hid hX
  clear hXe her
  obtain ⟨W5, hW5, S5, hb5⟩ := fm_boxE S4.out 36 [.slice a0 X.base.length b0, .slice a1 X.next.length b1, .slice a2 X.held.length b2]
  clear S4
  replace S5 := Lib.hid S5
  replace hP := Lib.hid (hP.out.to hb5)
  replace hA := Lib.hid (hA.out.to hb5)
  replace hX := Lib.hid (hX.out.to hb5)
  clear hb5
  obtain ⟨⟨za_3, fa_3, ca_3_0, ca_3_1, ca_3_2, -⟩, ⟨zb_3, fb_3, cb_3_0, cb_3_1, cb_3_2, -⟩, ⟨zc_3, fc_3, cc_3_0, cc_3_1, cc_3_2, cc_3_3, -⟩, ⟨zd_3, fd_3, cd_3_0, cd_3_1, cd_3_2, -⟩, ⟨ze_3, fe_3, ce_3_0, ce_3_1, ce_3_2, ce_3_3, ce_3_4, ce_3_5, ce_3_6, -⟩, -⟩ := S5.out.facts
  cases h0 : (er != 0) with
  | true =>
    go_wp2
    go_ret
    exact ⟨rfl, S5.out.bel⟩
  | false =>
    obtain ⟨x, hs, hex, hx, hxe, hxo, hx8⟩ := hvl.out (by simpa using h0)
    subst hxe
    have hl1 := hxo.lh
    have hl2 := hF.out.ok.lh
    have hle : ((X.held.length : Int) != (M.held.length : Int)) = false := by rw [bne_eq_false_iff_eq]; omega
    have hkd := Lib.hid (kind14 hs)
    have hless := Lib.hid (held_less hF.out.ok hs hex hx)
    have hmore := Lib.hid (held_more hF.out.ok hx)
    have hcl := Lib.hid (clear_less hF.out.ok hs hex hx)
    have hT := hF.out.tb
    have hm4 : M.held.length ≤ 4 := by omega
    replace hl1 := Lib.hid hl1
    replace hl2 := Lib.hid hl2
    replace hxo := Lib.hid hxo
    replace hx8 := Lib.hid hx8
    clear hvl hs hex hx
    have H6 := Lib.hid (rvalidM_any P ⟨y0, v0, y1, v1, y2, v2, y3, v3⟩ X ⟨a0, b0, a1, b1, a2, b2⟩ W5 hP.out.prob hF.out.bd hX.out.mix (hX.out.bd hx8.out))
    go_wp2_with fail
    with_reducible refine H6.out.mono ?_
    rintro e' w6 ⟨rfl, hb6⟩
    clear za_3 fa_3 ca_3_0 ca_3_1 ca_3_2 zb_3 fb_3 cb_3_0 cb_3_1 cb_3_2 zc_3 fc_3 cc_3_0 cc_3_1 cc_3_2 cc_3_3 zd_3 fd_3 cd_3_0 cd_3_1 cd_3_2 ze_3 fe_3 ce_3_0 ce_3_1 ce_3_2 ce_3_3 ce_3_4 ce_3_5 ce_3_6
    clear H6
    have S6 := Lib.hid (S5.out.call hb6)
    clear S5
    replace hP := Lib.hid (hP.out.to hb6)
    replace hA := Lib.hid (hA.out.to hb6)
    replace hX := Lib.hid (hX.out.to hb6)
    clear hb6
    clear hW5
    rw [mixE_ok.2 hxo.out]
    obtain ⟨⟨za_4, fa_4, ca_4_0, ca_4_1, ca_4_2, -⟩, ⟨zb_4, fb_4, cb_4_0, cb_4_1, cb_4_2, -⟩, ⟨zc_4, fc_4, cc_4_0, cc_4_1, cc_4_2, cc_4_3, -⟩, ⟨zd_4, fd_4, cd_4_0, cd_4_1, cd_4_2, -⟩, ⟨ze_4, fe_4, ce_4_0, ce_4_1, ce_4_2, ce_4_3, ce_4_4, ce_4_5, ce_4_6, -⟩, -⟩ := S6.out.facts
    (try dsimp only at hkd)
    (try dsimp only at hless)
    (try dsimp only at hmore)
    (try dsimp only at hcl)
    rcases hkd.out with rfl | rfl | rfl | rfl
    · have hsub := Lib.hid (fun i hi => hmore.out (Or.inl rfl) i hi)
      clear hmore hless
      clear hcl
      go_wp2
      clear za_4 fa_4 ca_4_0 ca_4_1 ca_4_2 zb_4 fb_4 cb_4_0 cb_4_1 cb_4_2 zc_4 fc_4 cc_4_0 cc_4_1 cc_4_2 cc_4_3 zd_4 fd_4 cd_4_0 cd_4_1 cd_4_2 ze_4 fe_4 ce_4_0 ce_4_1 ce_4_2 ce_4_3 ce_4_4 ce_4_5 ce_4_6
      go_loopw [11, 61] (fun _ s61 wr => ∃ k : Nat, s61 = .int .i64 k ∧ k ≤ M.held.length ∧ Drawn w6 wr) (fun _ s61 _ => M.held.length - (intOf s61).toNat)
      case atStart => exact ⟨0, rfl, Nat.zero_le _, Drawn.refl _⟩
      case round =>
        obtain ⟨k, rfl, hk, hdr⟩ := hrel
        have hB9 := Lib.hid (hdr.below (B := w6.heap.size))
        have S9 := Lib.hid (S6.out.call hB9.out)
        have hX9 := Lib.hid (hX.out.to hB9.out)
        have hA9 := Lib.hid (hA.out.to hB9.out)
        have hP9 := Lib.hid (hP.out.to hB9.out)
        obtain ⟨⟨za_5, fa_5, ca_5_0, ca_5_1, ca_5_2, -⟩, ⟨zb_5, fb_5, cb_5_0, cb_5_1, cb_5_2, -⟩, ⟨zc_5, fc_5, cc_5_0, cc_5_1, cc_5_2, cc_5_3, -⟩, ⟨zd_5, fd_5, cd_5_0, cd_5_1, cd_5_2, -⟩, ⟨ze_5, fe_5, ce_5_0, ce_5_1, ce_5_2, ce_5_3, ce_5_4, ce_5_5, ce_5_6, -⟩, -⟩ := S9.out.facts
        by_cases hlt : k < M.held.length
        · obtain ⟨bx, ox, ex, hbx, hcx⟩ := hX9.out.mix.r2 (by have := hl1.out; have := hl2.out; omega)
          obtain ⟨bm, om, em, hbm, hcm⟩ := hA9.out.mix.r2 (by omega)
          have d1 := hcx k (by have := hl1.out; have := hl2.out; omega)
          have d2 := hcm k hlt
          (try dsimp only at ex)
          (try dsimp only at em)
          subst ex em
          unfold u8v at d1 d2
          have kl : k < P.tabs.length := by have := hl2.out; omega
          rw [h8_hd hx8.out (by have := hl1.out; omega)] at d1
          rw [h8_hd hF.out.h8 hlt] at d2
          have q1 := hd_lt hxo.out kl
          have q2 := hd_lt hF.out.ok kl
          have hz : bits .andNot .u8 (hd M k : Nat) (hd X k : Nat) = 0 := by
            rw [bits_andNot8 q2 q1, (diff_0 q2 q1).2 (hsub.out k kl)]
            rfl
          have jk : (k : Int) < (M.held.length : Int) := by omega
          have jx : (k : Int) < (X.held.length : Int) := by have := hl1.out; have := hl2.out; omega
          obtain ⟨hx1, hx2⟩ : ∃ z, hd X k = z := ⟨_, rfl⟩
          obtain ⟨hm1, hm2⟩ : ∃ z, hd M k = z := ⟨_, rfl⟩
          rw [hx2] at d1 hz q1
          rw [hm2] at d2 hz q2
          replace hx2 := Lib.hid hx2
          replace hm2 := Lib.hid hm2
          clear hcx hcm kl
          go_wp2_with fail
          go_quiet (fail)
          go_wp2
          go_roundw
          case rel => exact ⟨k + 1, by go_num, by omega, hdr.drewN _⟩
          case measure => simp [intOf]; omega
        · obtain rfl : k = M.held.length := by omega
          clear hlt
          go_wp2
          go_ret
          exact ⟨rfl, S9.out.bel⟩
    · have hsub := Lib.hid (fun i hi => hmore.out (Or.inr rfl) i hi)
      clear hmore hless
      clear hcl
      go_wp2
      clear za_4 fa_4 ca_4_0 ca_4_1 ca_4_2 zb_4 fb_4 cb_4_0 cb_4_1 cb_4_2 zc_4 fc_4 cc_4_0 cc_4_1 cc_4_2 cc_4_3 zd_4 fd_4 cd_4_0 cd_4_1 cd_4_2 ze_4 fe_4 ce_4_0 ce_4_1 ce_4_2 ce_4_3 ce_4_4 ce_4_5 ce_4_6
      go_loopw [11, 61] (fun _ s61 wr => ∃ k : Nat, s61 = .int .i64 k ∧ k ≤ M.held.length ∧ Drawn w6 wr) (fun _ s61 _ => M.held.length - (intOf s61).toNat)
      case atStart => exact ⟨0, rfl, Nat.zero_le _, Drawn.refl _⟩
      case round =>
        obtain ⟨k, rfl, hk, hdr⟩ := hrel
        have hB9 := Lib.hid (hdr.below (B := w6.heap.size))
        have S9 := Lib.hid (S6.out.call hB9.out)
        have hX9 := Lib.hid (hX.out.to hB9.out)
        have hA9 := Lib.hid (hA.out.to hB9.out)
        have hP9 := Lib.hid (hP.out.to hB9.out)
        obtain ⟨⟨za_5, fa_5, ca_5_0, ca_5_1, ca_5_2, -⟩, ⟨zb_5, fb_5, cb_5_0, cb_5_1, cb_5_2, -⟩, ⟨zc_5, fc_5, cc_5_0, cc_5_1, cc_5_2, cc_5_3, -⟩, ⟨zd_5, fd_5, cd_5_0, cd_5_1, cd_5_2, -⟩, ⟨ze_5, fe_5, ce_5_0, ce_5_1, ce_5_2, ce_5_3, ce_5_4, ce_5_5, ce_5_6, -⟩, -⟩ := S9.out.facts
        by_cases hlt : k < M.held.length
        · obtain ⟨bx, ox, ex, hbx, hcx⟩ := hX9.out.mix.r2 (by have := hl1.out; have := hl2.out; omega)
          obtain ⟨bm, om, em, hbm, hcm⟩ := hA9.out.mix.r2 (by omega)
          have d1 := hcx k (by have := hl1.out; have := hl2.out; omega)
          have d2 := hcm k hlt
          (try dsimp only at ex)
          (try dsimp only at em)
          subst ex em
          unfold u8v at d1 d2
          have kl : k < P.tabs.length := by have := hl2.out; omega
          rw [h8_hd hx8.out (by have := hl1.out; omega)] at d1
          rw [h8_hd hF.out.h8 hlt] at d2
          have q1 := hd_lt hxo.out kl
          have q2 := hd_lt hF.out.ok kl
          have hz : bits .andNot .u8 (hd M k : Nat) (hd X k : Nat) = 0 := by
            rw [bits_andNot8 q2 q1, (diff_0 q2 q1).2 (hsub.out k kl)]
            rfl
          have jk : (k : Int) < (M.held.length : Int) := by omega
          have jx : (k : Int) < (X.held.length : Int) := by have := hl1.out; have := hl2.out; omega
          obtain ⟨hx1, hx2⟩ : ∃ z, hd X k = z := ⟨_, rfl⟩
          obtain ⟨hm1, hm2⟩ : ∃ z, hd M k = z := ⟨_, rfl⟩
          rw [hx2] at d1 hz q1
          rw [hm2] at d2 hz q2
          replace hx2 := Lib.hid hx2
          replace hm2 := Lib.hid hm2
          clear hcx hcm kl
          go_wp2_with fail
          go_quiet (fail)
          go_wp2
          go_roundw
          case rel => exact ⟨k + 1, by go_num, by omega, hdr.drewN _⟩
          case measure => simp [intOf]; omega
        · obtain rfl : k = M.held.length := by omega
          clear hlt
          go_wp2
          go_ret
          exact ⟨rfl, S9.out.bel⟩
    · have hsub := Lib.hid (fun i hi => hless.out (Or.inl rfl) i hi)
      clear hmore hless
      go_wp2
      clear za_4 fa_4 ca_4_0 ca_4_1 ca_4_2 zb_4 fb_4 cb_4_0 cb_4_1 cb_4_2 zc_4 fc_4 cc_4_0 cc_4_1 cc_4_2 cc_4_3 zd_4 fd_4 cd_4_0 cd_4_1 cd_4_2 ze_4 fe_4 ce_4_0 ce_4_1 ce_4_2 ce_4_3 ce_4_4 ce_4_5 ce_4_6
      go_loopw [11, 61] (fun _ s61 wr => ∃ k : Nat, s61 = .int .i64 k ∧ k ≤ M.held.length ∧ Drawn w6 wr) (fun _ s61 _ => M.held.length - (intOf s61).toNat)
      case atStart => exact ⟨0, rfl, Nat.zero_le _, Drawn.refl _⟩
      case round =>
        obtain ⟨k, rfl, hk, hdr⟩ := hrel
        have hB9 := Lib.hid (hdr.below (B := w6.heap.size))
        have S9 := Lib.hid (S6.out.call hB9.out)
        have hX9 := Lib.hid (hX.out.to hB9.out)
        have hA9 := Lib.hid (hA.out.to hB9.out)
        have hP9 := Lib.hid (hP.out.to hB9.out)
        obtain ⟨⟨za_5, fa_5, ca_5_0, ca_5_1, ca_5_2, -⟩, ⟨zb_5, fb_5, cb_5_0, cb_5_1, cb_5_2, -⟩, ⟨zc_5, fc_5, cc_5_0, cc_5_1, cc_5_2, cc_5_3, -⟩, ⟨zd_5, fd_5, cd_5_0, cd_5_1, cd_5_2, -⟩, ⟨ze_5, fe_5, ce_5_0, ce_5_1, ce_5_2, ce_5_3, ce_5_4, ce_5_5, ce_5_6, -⟩, -⟩ := S9.out.facts
        by_cases hlt : k < M.held.length
        · obtain ⟨bx, ox, ex, hbx, hcx⟩ := hX9.out.mix.r2 (by have := hl1.out; have := hl2.out; omega)
          obtain ⟨bm, om, em, hbm, hcm⟩ := hA9.out.mix.r2 (by omega)
          have d1 := hcx k (by have := hl1.out; have := hl2.out; omega)
          have d2 := hcm k hlt
          (try dsimp only at ex)
          (try dsimp only at em)
          subst ex em
          unfold u8v at d1 d2
          have kl : k < P.tabs.length := by have := hl2.out; omega
          rw [h8_hd hx8.out (by have := hl1.out; omega)] at d1
          rw [h8_hd hF.out.h8 hlt] at d2
          have q1 := hd_lt hxo.out kl
          have q2 := hd_lt hF.out.ok kl
          have hz : bits .andNot .u8 (hd X k : Nat) (hd M k : Nat) = 0 := by
            rw [bits_andNot8 q1 q2, (diff_0 q1 q2).2 (hsub.out k kl)]
            rfl
          have jk : (k : Int) < (M.held.length : Int) := by omega
          have jx : (k : Int) < (X.held.length : Int) := by have := hl1.out; have := hl2.out; omega
          obtain ⟨hx1, hx2⟩ : ∃ z, hd X k = z := ⟨_, rfl⟩
          obtain ⟨hm1, hm2⟩ : ∃ z, hd M k = z := ⟨_, rfl⟩
          rw [hx2] at d1 hz q1
          rw [hm2] at d2 hz q2
          replace hx2 := Lib.hid hx2
          replace hm2 := Lib.hid hm2
          clear hcx hcm kl
          go_wp2_with fail
          go_quiet (fail)
          go_wp2
          go_roundw
          case rel => exact ⟨k + 1, by go_num, by omega, hdr.drewN _⟩
          case measure => simp [intOf]; omega
        · obtain rfl : k = M.held.length := by omega
          clear hlt
          clear hP hX hA hdr hB9
          have hlX := Lib.hid (foundL_len hF.out.pr X hT)
          have hlM := Lib.hid (foundL_len hF.out.pr M hT)
          have hsubC := Lib.hid (hcl.out (by simp))
          have hP := hP9
          have hX := hX9
          have hA := hA9
          clear hP9 hX9 hA9 hcl
          have H21 := Lib.hid (rfound_any P ⟨y0, v0, y1, v1, y2, v2, y3, v3⟩ M ⟨x0, u0, x1, u1, x2, u2⟩ wr hP.out.prob hA.out.mix hF.out.ok hF.out.h8)
          go_wp2_with fail
          with_reducible refine H21.out.mono ?_
          rintro e' w21 ⟨_, rfl, hb21, A1, c1, rfl, hC⟩
          clear za_5 fa_5 ca_5_0 ca_5_1 ca_5_2 zb_5 fb_5 cb_5_0 cb_5_1 cb_5_2 zc_5 fc_5 cc_5_0 cc_5_1 cc_5_2 cc_5_3 zd_5 fd_5 cd_5_0 cd_5_1 cd_5_2 ze_5 fe_5 ce_5_0 ce_5_1 ce_5_2 ce_5_3 ce_5_4 ce_5_5 ce_5_6
          clear H21
          have S21 := Lib.hid (S9.out.call hb21)
          clear S9
          replace hP := Lib.hid (hP.out.to hb21)
          replace hX := Lib.hid (hX.out.to hb21)
          replace hA := Lib.hid (hA.out.to hb21)
          replace hC := Lib.hid (CfO.mk hC)
          clear hb21
          obtain ⟨⟨za_6, fa_6, ca_6_0, ca_6_1, ca_6_2, -⟩, ⟨zb_6, fb_6, cb_6_0, cb_6_1, cb_6_2, -⟩, ⟨zc_6, fc_6, cc_6_0, cc_6_1, cc_6_2, cc_6_3, -⟩, ⟨zd_6, fd_6, cd_6_0, cd_6_1, cd_6_2, -⟩, ⟨ze_6, fe_6, ce_6_0, ce_6_1, ce_6_2, ce_6_3, ce_6_4, ce_6_5, ce_6_6, -⟩, -⟩ := S21.out.facts
          have H22 := Lib.hid (rfound_any P ⟨y0, v0, y1, v1, y2, v2, y3, v3⟩ X ⟨a0, b0, a1, b1, a2, b2⟩ w21 hP.out.prob hX.out.mix hxo.out hx8.out)
          go_wp2_with fail
          with_reducible refine H22.out.mono ?_
          rintro e' w22 ⟨_, rfl, hb22, A2, c2, rfl, hC2⟩
          clear za_6 fa_6 ca_6_0 ca_6_1 ca_6_2 zb_6 fb_6 cb_6_0 cb_6_1 cb_6_2 zc_6 fc_6 cc_6_0 cc_6_1 cc_6_2 cc_6_3 zd_6 fd_6 cd_6_0 cd_6_1 cd_6_2 ze_6 fe_6 ce_6_0 ce_6_1 ce_6_2 ce_6_3 ce_6_4 ce_6_5 ce_6_6
          clear H22
          have S22 := Lib.hid (S21.out.call hb22)
          clear S21
          replace hP := Lib.hid (hP.out.to hb22)
          replace hX := Lib.hid (hX.out.to hb22)
          replace hA := Lib.hid (hA.out.to hb22)
          replace hC := Lib.hid (hC.out.to hb22)
          replace hC2 := Lib.hid (CfO.mk hC2)
          clear hb22
          obtain ⟨⟨za_7, fa_7, ca_7_0, ca_7_1, ca_7_2, -⟩, ⟨zb_7, fb_7, cb_7_0, cb_7_1, cb_7_2, -⟩, ⟨zc_7, fc_7, cc_7_0, cc_7_1, cc_7_2, cc_7_3, -⟩, ⟨zd_7, fd_7, cd_7_0, cd_7_1, cd_7_2, -⟩, ⟨ze_7, fe_7, ce_7_0, ce_7_1, ce_7_2, ce_7_3, ce_7_4, ce_7_5, ce_7_6, -⟩, -⟩ := S22.out.facts
          obtain ⟨LX, hLX⟩ : ∃ L, foundL P X = L := ⟨_, rfl⟩
          obtain ⟨LM, hLM⟩ : ∃ L, foundL P M = L := ⟨_, rfl⟩
          rw [hLX] at hlX hsubC hC2 ⊢
          rw [hLM] at hlM hsubC hC ⊢
          replace hLX := Lib.hid hLX
          replace hLM := Lib.hid hLM
          go_wp2
          clear za_7 fa_7 ca_7_0 ca_7_1 ca_7_2 zb_7 fb_7 cb_7_0 cb_7_1 cb_7_2 zc_7 fc_7 cc_7_0 cc_7_1 cc_7_2 cc_7_3 zd_7 fd_7 cd_7_0 cd_7_1 cd_7_2 ze_7 fe_7 ce_7_0 ce_7_1 ce_7_2 ce_7_3 ce_7_4 ce_7_5 ce_7_6
          go_loopw [14, 108] (fun _ s108 wr => ∃ k : Nat, s108 = .int .i64 k ∧ k ≤ LX.length ∧ Below w22.heap.size w22 wr) (fun _ s108 _ => LX.length - (intOf s108).toNat)
          case atStart => exact ⟨0, rfl, Nat.zero_le _, Below.refl _ _⟩
          case round =>
            obtain ⟨k, rfl, hk, hbel⟩ := hrel
            by_cases hlt : k < LX.length
            · obtain ⟨b, o, e5, hb, hc⟩ := hC2.out.arr (by omega)
              subst e5
              obtain ⟨d0, d1, d2⟩ := cf_cells (w := wr) (fun i hi => (hbel.cell (p := ⟨b, o + k * 3 + i, none⟩) hb).trans (hc k hlt i hi))
              have hmem := Lib.hid (hsubC.out _ (cfAt_mem hlt))
              have jk : (k : Int) < (LX.length : Int) := by have := hlX.out; omega
              have hlk := hlX.out
              obtain ⟨W7, (hW7 : wr.alloc (.cells #[.int .i64 (cfAt LX k).table, .int .i64 (cfAt LX k).writer, .int .i64 (cfAt LX k).reader] 68) = W7), S7, hB7⟩ := fm_boxE (S22.out.call hbel) 68 [.int .i64 (cfAt LX k).table, .int .i64 (cfAt LX k).writer, .int .i64 (cfAt LX k).reader]
              have hc7 := Lib.hid ((hC.out.to hbel).to hB7)
              have hb7 := Lib.hid (hbel.trans (hB7.mono hbel.size))
              have HCt := Lib.hid (contains_any A1 c1 LM (cfAt LX k) W7 hc7.out.arr (by have := hlM.out; omega) hmem.out)
              obtain ⟨⟨t0, t1, t2, t3, t4, -⟩, -⟩ := S7.facts
              obtain ⟨cc, hcc⟩ : ∃ c, cfAt LX k = c := ⟨_, rfl⟩
              rw [hcc] at d0 d1 d2 hW7 HCt t2 t3 t4
              obtain ⟨ca, cb, cd⟩ := cc
              dsimp only at d0 d1 d2 hW7 HCt t2 t3 t4
              replace hcc := Lib.hid hcc
              replace hbel := Lib.hid hbel
              clear hc S7 hB7
              go_wp2_with fail
              clear hW7
              with_reducible refine HCt.out.mono ?_
              rintro e' w8 ⟨rfl, hb8⟩
              have hb9 := Lib.hid (hb7.out.trans (hb8.mono hb7.out.size))
              clear t0 t1 t2 t3 t4 hb8 d0 d1 d2
              go_wp2
              go_roundw
              case rel => exact ⟨k + 1, by go_num, by omega, hb9.out⟩
              case measure => simp [intOf]; omega
            · obtain rfl : k = LX.length := by omega
              have hfin := Lib.hid (S22.out.call hbel)
              replace hbel := Lib.hid hbel
              clear hlt
              go_wp2
              go_ret
              exact ⟨rfl, hfin.out.bel⟩
    · have hsub := Lib.hid (fun i hi => hless.out (Or.inr rfl) i hi)
      clear hmore hless
      clear hcl
      go_wp2
      clear za_4 fa_4 ca_4_0 ca_4_1 ca_4_2 zb_4 fb_4 cb_4_0 cb_4_1 cb_4_2 zc_4 fc_4 cc_4_0 cc_4_1 cc_4_2 cc_4_3 zd_4 fd_4 cd_4_0 cd_4_1 cd_4_2 ze_4 fe_4 ce_4_0 ce_4_1 ce_4_2 ce_4_3 ce_4_4 ce_4_5 ce_4_6
      go_loopw [11, 61] (fun _ s61 wr => ∃ k : Nat, s61 = .int .i64 k ∧ k ≤ M.held.length ∧ Drawn w6 wr) (fun _ s61 _ => M.held.length - (intOf s61).toNat)
      case atStart => exact ⟨0, rfl, Nat.zero_le _, Drawn.refl _⟩
      case round =>
        obtain ⟨k, rfl, hk, hdr⟩ := hrel
        have hB9 := Lib.hid (hdr.below (B := w6.heap.size))
        have S9 := Lib.hid (S6.out.call hB9.out)
        have hX9 := Lib.hid (hX.out.to hB9.out)
        have hA9 := Lib.hid (hA.out.to hB9.out)
        have hP9 := Lib.hid (hP.out.to hB9.out)
        obtain ⟨⟨za_5, fa_5, ca_5_0, ca_5_1, ca_5_2, -⟩, ⟨zb_5, fb_5, cb_5_0, cb_5_1, cb_5_2, -⟩, ⟨zc_5, fc_5, cc_5_0, cc_5_1, cc_5_2, cc_5_3, -⟩, ⟨zd_5, fd_5, cd_5_0, cd_5_1, cd_5_2, -⟩, ⟨ze_5, fe_5, ce_5_0, ce_5_1, ce_5_2, ce_5_3, ce_5_4, ce_5_5, ce_5_6, -⟩, -⟩ := S9.out.facts
        by_cases hlt : k < M.held.length
        · obtain ⟨bx, ox, ex, hbx, hcx⟩ := hX9.out.mix.r2 (by have := hl1.out; have := hl2.out; omega)
          obtain ⟨bm, om, em, hbm, hcm⟩ := hA9.out.mix.r2 (by omega)
          have d1 := hcx k (by have := hl1.out; have := hl2.out; omega)
          have d2 := hcm k hlt
          (try dsimp only at ex)
          (try dsimp only at em)
          subst ex em
          unfold u8v at d1 d2
          have kl : k < P.tabs.length := by have := hl2.out; omega
          rw [h8_hd hx8.out (by have := hl1.out; omega)] at d1
          rw [h8_hd hF.out.h8 hlt] at d2
          have q1 := hd_lt hxo.out kl
          have q2 := hd_lt hF.out.ok kl
          have hz : bits .andNot .u8 (hd X k : Nat) (hd M k : Nat) = 0 := by
            rw [bits_andNot8 q1 q2, (diff_0 q1 q2).2 (hsub.out k kl)]
            rfl
          have jk : (k : Int) < (M.held.length : Int) := by omega
          have jx : (k : Int) < (X.held.length : Int) := by have := hl1.out; have := hl2.out; omega
          obtain ⟨hx1, hx2⟩ : ∃ z, hd X k = z := ⟨_, rfl⟩
          obtain ⟨hm1, hm2⟩ : ∃ z, hd M k = z := ⟨_, rfl⟩
          rw [hx2] at d1 hz q1
          rw [hm2] at d2 hz q2
          replace hx2 := Lib.hid hx2
          replace hm2 := Lib.hid hm2
          clear hcx hcm kl
          go_wp2_with fail
          go_quiet (fail)
          go_wp2
          go_roundw
          case rel => exact ⟨k + 1, by go_num, by omega, hdr.drewN _⟩
          case measure => simp [intOf]; omega
        · obtain rfl : k = M.held.length := by omega
          clear hlt
          go_wp2
          go_ret
          exact ⟨rfl, S9.out.bel⟩
theorem law_held (d : Dra) (q : ProbP) (dm : DMx) (r : MixP) (s : Sp) (w : World) (hd : RDra w w.heap.size d q) (hbd : DBd d) (he : RDmx w w.heap.size dm r) (heb : MDBd dm) :
    Calls Tryd.prog 7 #[caseV d q dm r, stepV s] w fun e w' => e = .returned (.bool true) ∧ Below w.heap.size w w' := by
  by_cases h : d.vs.length ≤ 3 ∧ d.lk.length ≤ 4
  · exact held_y d q dm r s w hd hbd he heb h
  · exact held_n d q dm r s w hd hbd he heb h
end Go.Proofs.YtfcimilimojfoaaDoor
