/-
  CONTRACT of sheavelaw37.of; what the drafts' problems and mixes obey.
  Conditions: those that each theorem names.
-/
import Derived.Test.YtfcimilimojfoaaDoorStOc
import Derived.Test.YtfcimilimojfoaaDoorStOd
import Derived.Deep.CutBlock
import Derived.Deep.DeepCutAuto
import Derived.Deep.RegionHeld3
import Derived.Test.YtfcimilimojfoaaDoorSb12
import Derived.Test.YtfcimilimojfoaaDoorStAw

namespace Go.Proofs.YtfcimilimojfoaaDoor
open Go.RowKit Go.Sv
theorem dVs_le (d : Dra) (i : Nat) : (gi (dVs d) i).toNat ≤ 3 := by
  by_cases h : i < d.vs.length
  · have := dVs_bd h; omega
  · have : gi (dVs d) i = 0 := by simp [gi, dVs, h]
    omega
theorem dProb_bd {d : Dra} (h3 : d.vs.length ≤ 3) (h4 : d.lk.length ≤ 4) : PBd (dProb d) := by
  obtain ⟨a, b, c, e⟩ := prob_small (dProb_ok h3 h4)
  refine ⟨by omega, by omega, by omega, by omega, fun k hk => ?_⟩
  have key : ∀ t, t ∈ (dProb d).tabs → t.ok.length ≤ 9223372036854775807 ∧ t.rw.length ≤ 9223372036854775807 := by
    intro t ht
    unfold dProb at ht
    dsimp only at ht
    split at ht
    · cases ht
    · obtain ⟨l, -, rfl⟩ := List.mem_map.1 ht
      unfold dTab
      dsimp only
      rw [bitsM_len]
      have h1 := dVs_le d (l.src % ((dVs d).length : Int)).toNat
      refine ⟨by omega, ?_⟩
      split
      · rw [bitsM_len]; omega
      · simp
  have hm : tab (dProb d).tabs k ∈ (dProb d).tabs := by
    have e : tab (dProb d).tabs k = (dProb d).tabs[k] := by simp [tab, hk]
    rw [e]
    exact List.getElem_mem hk
  exact key _ hm
theorem dMix_h8 {p : Prob} (e : DMx) (hp : probE p = 0) : H8 (dMix p e) := by
  refine h8_of (dMix_ok e hp) fun i hi => ?_
  have hi' : i < p.tabs.length := by have := (dMix_ok e hp).lh; omega
  have : gi (dMix p e).held i = dmH p e i := gi_map hi'
  rw [this]
  unfold dmH
  split <;> omega
/-- what of hands back -/
def CaseR (w : World) (d : Dra) (e : DMx) (v : Value) (w' : World) : Prop :=
  Below w.heap.size w w' ∧ ∃ q F r, v = .tuple #[probV (dProb d) q, mixV (dMix (dProb d) e) r, .bool true] ∧ PO w' w.heap.size (dProb d) q F ∧ AO w' w.heap.size (dMix (dProb d) e) r
abbrev caseV (d : Dra) (q : ProbP) (e : DMx) (r : MixP) : Value := .agg #[.slice q.a0 d.vs.length q.c0, .slice q.a1 d.now.length q.c1, .slice q.a2 d.tgt.length q.c2, .slice q.a3 d.lk.length q.c3,
  .slice r.a0 e.base.length r.c0, .slice r.a1 e.next.length r.c1, .slice r.a2 e.held.length r.c2]
theorem of35_yes {d : Dra} {q : ProbP} {w : World} (hd : RDra w w.heap.size d q) (hbd : DBd d) (h : d.vs.length ≤ 3 ∧ d.lk.length ≤ 4) :
    Calls Tryd.prog 40 #[draV d q] w (Ret fun v w' => Below w.heap.size w w' ∧ ∃ q F, v = .tuple #[probV (dProb d) q, .bool true] ∧ PO w' w.heap.size (dProb d) q F) := by
  refine (of35_any d q w hd hbd).mono ?_
  rintro e w' ⟨v, rfl, hb, hv⟩
  rw [if_pos h] at hv
  exact ⟨v, rfl, hb, hv⟩
theorem of35_no {d : Dra} {q : ProbP} {w : World} (hd : RDra w w.heap.size d q) (hbd : DBd d) (h : ¬ (d.vs.length ≤ 3 ∧ d.lk.length ≤ 4)) :
    Calls Tryd.prog 40 #[draV d q] w (Ret fun v w' => Below w.heap.size w w' ∧ v = .tuple #[.agg #[.slice none 0 0, .slice none 0 0, .slice none 0 0, .slice none 0 0], .bool false]) := by
  refine (of35_any d q w hd hbd).mono ?_
  rintro e w' ⟨v, rfl, hb, hv⟩
  rw [if_neg h] at hv
  exact ⟨v, rfl, hb, hv⟩
/-- the boxes of of -/
theorem of_boxes (d : Dra) (q : ProbP) (e : DMx) (r : MixP) (w : World) : ∃ W, ((w.alloc (.cells #[.slice q.a0 d.vs.length q.c0, .slice q.a1 d.now.length q.c1, .slice q.a2 d.tgt.length q.c2, .slice q.a3 d.lk.length q.c3, .slice r.a0 e.base.length r.c0, .slice r.a1 e.next.length r.c1, .slice r.a2 e.held.length r.c2] 29)).alloc (.cells #[.slice none 0 0, .slice none 0 0, .slice none 0 0, .slice none 0 0] 33)).alloc (.cells #[.slice none 0 0, .slice none 0 0, .slice none 0 0] 36) = W ∧ W.heap.size = w.heap.size + 1 + 1 + 1 ∧
    Fm w W [⟨w.heap.size + 1 + 1, 36, [.slice none 0 0, .slice none 0 0, .slice none 0 0]⟩, ⟨w.heap.size + 1, 33, [.slice none 0 0, .slice none 0 0, .slice none 0 0, .slice none 0 0]⟩, ⟨w.heap.size, 29, [.slice q.a0 d.vs.length q.c0, .slice q.a1 d.now.length q.c1, .slice q.a2 d.tgt.length q.c2, .slice q.a3 d.lk.length q.c3, .slice r.a0 e.base.length r.c0, .slice r.a1 e.next.length r.c1, .slice r.a2 e.held.length r.c2]⟩] [] :=
  by
  have S0 := (((Fm.init w).box 29 [.slice q.a0 d.vs.length q.c0, .slice q.a1 d.now.length q.c1, .slice q.a2 d.tgt.length q.c2, .slice q.a3 d.lk.length q.c3, .slice r.a0 e.base.length r.c0, .slice r.a1 e.next.length r.c1, .slice r.a2 e.held.length r.c2]).box' 33 [.slice none 0 0, .slice none 0 0, .slice none 0 0, .slice none 0 0] (K := w.heap.size + 1) (by simp)).box' 36 [.slice none 0 0, .slice none 0 0, .slice none 0 0] (K := w.heap.size + 1 + 1) (by simp)
  exact ⟨_, rfl, by simp, S0⟩
end Go.Proofs.YtfcimilimojfoaaDoor

namespace Go.Proofs.YtfcimilimojfoaaDoor
open Go.RowKit Go.Sv
set_option maxHeartbeats 4000000 in
set_option maxRecDepth 100000 in
theorem lof_no (d : Dra) (q : ProbP) (e : DMx) (r : MixP) (w : World) (hd : RDra w w.heap.size d q) (hbd : DBd d) (h : ¬ (d.vs.length ≤ 3 ∧ d.lk.length ≤ 4)) :
    Calls Tryd.prog 12 #[caseV d q e r] w (Ret fun v w' => Below w.heap.size w w' ∧ v = .tuple #[.agg #[.slice none 0 0, .slice none 0 0, .slice none 0 0, .slice none 0 0], .agg #[.slice none 0 0, .slice none 0 0, .slice none 0 0], .bool false]) := by
  obtain ⟨W, hW, hWs, S⟩ := of_boxes d q e r w
  have HO := Lib.hid (of35_no ((hd.below S.bel).more S.bel.size) hbd h)
  have SW := Lib.hid S
  obtain ⟨qa0, qc0, qa1, qc1, qa2, qc2, qa3, qc3⟩ := q
  obtain ⟨ra0, rc0, ra1, rc1, ra2, rc2⟩ := r
  dsimp only at HO hW S SW ⊢
  obtain ⟨⟨r1, f1, r10, r11, r12, -⟩, ⟨r2, f2, r20, r21, r22, r23, -⟩, ⟨r3, f3, r30, r31, r32, r33, r34, r35, r36, -⟩, -⟩ := S.facts
  clear S hd hbd h
  replace hWs := Lib.hid hWs
  go_enter Tryd.func12, Tryd.ntmps12
  go_wp2_with fail
  clear hW
  with_reducible refine HO.out.mono ?_
  rintro e w1 ⟨_, rfl, hb1, rfl⟩
  have S1 := Lib.hid (SW.out.call hb1)
  clear r1 f1 r10 r11 r12 r2 f2 r20 r21 r22 r23 r3 f3 r30 r31 r32 r33 r34 r35 r36
  obtain ⟨⟨r1, f1, r10, r11, r12, -⟩, ⟨r2, f2, r20, r21, r22, r23, -⟩, ⟨r3, f3, r30, r31, r32, r33, r34, r35, r36, -⟩, -⟩ := S1.out.facts
  go_upto_region 2 with fail
  obtain ⟨W2, hW2, S2, -⟩ := fm_boxE S1.out 33 [.slice none 0 0, .slice none 0 0, .slice none 0 0, .slice none 0 0]
  rw [hW2]
  clear hW2
  clear r1 f1 r10 r11 r12 r2 f2 r20 r21 r22 r23 r3 f3 r30 r31 r32 r33 r34 r35 r36
  obtain ⟨⟨z, f, z0, z1, z2, z3, -⟩, ⟨r1, f1, r10, r11, r12, -⟩, ⟨r2, f2, r20, r21, r22, r23, -⟩, -⟩ := S2.facts
  have S9 := Lib.hid (((((((S2.set 2 rfl 0 (.slice none 0 0)).set 2 rfl 1 (.slice none 0 0)).set 2 rfl 2 (.slice none 0 0)).set 2 rfl 3 (.slice none 0 0)).set 1 rfl 0 (.slice none 0 0)).set 1 rfl 1 (.slice none 0 0)).set 1 rfl 2 (.slice none 0 0))
  clear S2 hb1 HO SW S1
  go_wp2
  clear z f z0 z1 z2 z3 r1 f1 r10 r11 r12 r2 f2 r20 r21 r22 r23
  obtain ⟨-, ⟨r1, f1, r10, r11, r12, -⟩, ⟨r2, f2, r20, r21, r22, r23, -⟩, -⟩ := S9.out.facts
  refine bodyPost_ret (v := .tuple #[.agg #[.slice none 0 0, .slice none 0 0, .slice none 0 0, .slice none 0 0], .agg #[.slice none 0 0, .slice none 0 0, .slice none 0 0], .bool false]) (by simp [results, Tryd.results12, go_sem, r10, r11, r12, r20, r21, r22, r23]) rfl ?_
  exact Ret.mk ⟨S9.out.bel, rfl⟩
end Go.Proofs.YtfcimilimojfoaaDoor

namespace Go.Proofs.YtfcimilimojfoaaDoor
open Go.RowKit Go.Sv
set_option maxHeartbeats 4000000 in
set_option maxRecDepth 100000 in
theorem lof_yes (d : Dra) (q : ProbP) (e : DMx) (r : MixP) (w : World) (hd : RDra w w.heap.size d q) (hbd : DBd d) (he : RDmx w w.heap.size e r) (heb : MDBd e) (h : d.vs.length ≤ 3 ∧ d.lk.length ≤ 4) :
    Calls Tryd.prog 12 #[caseV d q e r] w (Ret (CaseR w d e)) := by
  obtain ⟨W, hW, hWs, S⟩ := of_boxes d q e r w
  have HO := Lib.hid (of35_yes ((hd.below S.bel).more S.bel.size) hbd h)
  have SW := Lib.hid S
  have heW := Lib.hid (he.to S.bel)
  have hebb := Lib.hid heb
  have hok := Lib.hid (dProb_ok h.1 h.2)
  obtain ⟨qa0, qc0, qa1, qc1, qa2, qc2, qa3, qc3⟩ := q
  obtain ⟨ra0, rc0, ra1, rc1, ra2, rc2⟩ := r
  dsimp only at HO hW S SW ⊢
  obtain ⟨⟨r1, f1, r10, r11, r12, -⟩, ⟨r2, f2, r20, r21, r22, r23, -⟩, ⟨r3, f3, r30, r31, r32, r33, r34, r35, r36, -⟩, -⟩ := S.facts
  clear S hd hbd h he heb
  replace hWs := Lib.hid hWs
  obtain ⟨P, hP⟩ : ∃ P, dProb d = P := ⟨_, rfl⟩
  unfold CaseR
  rw [hP] at HO hok ⊢
  clear hP
  go_enter Tryd.func12, Tryd.ntmps12
  go_wp2_with fail
  clear hW
  with_reducible refine HO.out.mono ?_
  rintro e' w1 ⟨_, rfl, hb1, ⟨y0, v0, y1, v1, y2, v2, y3, v3⟩, F, rfl, hP1⟩
  have S1 := Lib.hid (SW.out.call hb1)
  obtain ⟨W2, hW2, S2, hb2⟩ := fm_boxE S1.out 33 [.slice y0 P.vs.length v0, .slice y1 P.now.length v1, .slice y2 P.tgt.length v2, .slice y3 P.tabs.length v3]
  clear r1 f1 r10 r11 r12 r2 f2 r20 r21 r22 r23 r3 f3 r30 r31 r32 r33 r34 r35 r36
  have hP2 := Lib.hid (hP1.to hb2)
  have he2 := Lib.hid ((heW.out.to hb1).to hb2)
  have hz : W.heap.size ≤ w1.heap.size := hb1.size
  have SS := Lib.hid S2
  have i1 : ¬ w1.heap.size = w.heap.size + 1 := by have := hWs.out; omega
  have i2 : ¬ w1.heap.size = w.heap.size + 1 + 1 := by have := hWs.out; omega
  have i3 : ¬ w.heap.size + 1 = w1.heap.size := by have := hWs.out; omega
  have i4 : ¬ w.heap.size + 1 + 1 = w1.heap.size := by have := hWs.out; omega
  have i5 : ¬ w.heap.size = w.heap.size + 1 + 1 := by omega
  have i6 : ¬ w.heap.size = w.heap.size + 1 := by omega
  have i7 : ¬ w.heap.size + 1 + 1 = w.heap.size := by omega
  have i8 : ¬ w.heap.size + 1 = w.heap.size := by omega
  obtain ⟨⟨z, f, z0, z1, z2, z3, -⟩, ⟨r1, f1, r10, r11, r12, -⟩, ⟨r2, f2, r20, r21, r22, r23, -⟩, ⟨r3, f3, r30, r31, r32, r33, r34, r35, r36, -⟩, -⟩ := S2.facts
  clear S2 hb1 hP1 hb2
  have HM := Lib.hid (fun W3 (hb : Below W2.heap.size W2 W3) => of36_any P ⟨y0, v0, y1, v1, y2, v2, y3, v3⟩ e ⟨ra0, rc0, ra1, rc1, ra2, rc2⟩ W3 ((hP2.out.to hb).prob) hok.out (he2.out.to hb) hebb.out)
  go_wp2_with fail
  go_region_held3 (fun w' => w'.cell? ⟨w1.heap.size, 0, none⟩ = some (.slice y0 P.vs.length v0) ∧ w'.cell? ⟨w1.heap.size, 1, none⟩ = some (.slice y1 P.now.length v1) ∧ w'.cell? ⟨w1.heap.size, 2, none⟩ = some (.slice y2 P.tgt.length v2) ∧ w'.cell? ⟨w1.heap.size, 3, none⟩ = some (.slice y3 P.tabs.length v3) ∧
      w'.cell? ⟨w.heap.size, 4, none⟩ = some (.slice ra0 e.base.length rc0) ∧ w'.cell? ⟨w.heap.size, 5, none⟩ = some (.slice ra1 e.next.length rc1) ∧ w'.cell? ⟨w.heap.size, 6, none⟩ = some (.slice ra2 e.held.length rc2)) (simp [*, World.cell?_setCell_far])
    (first
      | ((with_reducible refine (HM.out W2.drew ((Drawn.refl W2).drew).below).mono ?_)
         rintro e' w3 ⟨_, rfl, hb3, ⟨x0, u0, x1, u1, x2, u2⟩, rfl, hA3⟩
         have hd3 : Below W2.heap.size W2 w3 := ((Drawn.refl W2).drew).below.trans hb3
         have S3 := Lib.hid (SS.out.call hd3)
         have hP3 := Lib.hid (hP2.out.to hd3)
         have hA := Lib.hid (hA3.base (B' := W.heap.size) (by show W.heap.size ≤ W2.heap.size; omega))
         clear z f z0 z1 z2 z3 r1 f1 r10 r11 r12 r2 f2 r20 r21 r22 r23 r3 f3 r30 r31 r32 r33 r34 r35 r36 hb3 hA3
         obtain ⟨⟨z, f, z0, z1, z2, z3, -⟩, ⟨r1, f1, r10, r11, r12, -⟩, ⟨r2, f2, r20, r21, r22, r23, -⟩, ⟨r3, f3, r30, r31, r32, r33, r34, r35, r36, -⟩, -⟩ := S3.out.facts))
  all_goals (go_wp2_with fail)
  all_goals
    rename_i hHeld
    clear hHeld z f z0 z1 z2 z3 r1 f1 r10 r11 r12 r2 f2 r20 r21 r22 r23 r3 f3 r30 r31 r32 r33 r34 r35 r36
    have S9 := Lib.hid (((((((S3.out.set 2 rfl 0 (.slice y0 P.vs.length v0)).set 2 rfl 1 (.slice y1 P.now.length v1)).set 2 rfl 2 (.slice y2 P.tgt.length v2)).set 2 rfl 3 (.slice y3 P.tabs.length v3)).set 1 rfl 0 (.slice x0 (dMix P e).base.length u0)).set 1 rfl 1 (.slice x1 (dMix P e).next.length u1)).set 1 rfl 2 (.slice x2 (dMix P e).held.length u2))
    have k1 : w.heap.size + 1 < W.heap.size := by have := hWs.out; omega
    have k2 : w.heap.size + 1 + 1 < W.heap.size := by have := hWs.out; omega
    have hq := Lib.hid ((((((((hP3.out.far (b := w.heap.size + 1) k1 0 (.slice y0 P.vs.length v0)).far (b := w.heap.size + 1) k1 1 (.slice y1 P.now.length v1)).far (b := w.heap.size + 1) k1 2 (.slice y2 P.tgt.length v2)).far (b := w.heap.size + 1) k1 3 (.slice y3 P.tabs.length v3)).far (b := w.heap.size + 1 + 1) k2 0 (.slice x0 (dMix P e).base.length u0)).far (b := w.heap.size + 1 + 1) k2 1 (.slice x1 (dMix P e).next.length u1)).far (b := w.heap.size + 1 + 1) k2 2 (.slice x2 (dMix P e).held.length u2)).base (B' := w.heap.size) (by omega))
    have hr := Lib.hid (((((hA.out.far (p := ⟨w.heap.size + 1, 0, none⟩) k1 (.slice y0 P.vs.length v0)).far (p := ⟨w.heap.size + 1, 1, none⟩) k1 (.slice y1 P.now.length v1)).far (p := ⟨w.heap.size + 1, 2, none⟩) k1 (.slice y2 P.tgt.length v2)).far (p := ⟨w.heap.size + 1, 3, none⟩) k1 (.slice y3 P.tabs.length v3)).far3 (g := w.heap.size + 1 + 1) k2 (.slice x0 (dMix P e).base.length u0) (.slice x1 (dMix P e).next.length u1) (.slice x2 (dMix P e).held.length u2))
    obtain ⟨-, ⟨r1, f1, r10, r11, r12, -⟩, ⟨r2, f2, r20, r21, r22, r23, -⟩, -⟩ := S9.out.facts
    refine bodyPost_ret (v := .tuple #[.agg #[.slice y0 P.vs.length v0, .slice y1 P.now.length v1, .slice y2 P.tgt.length v2, .slice y3 P.tabs.length v3], .agg #[.slice x0 (dMix P e).base.length u0, .slice x1 (dMix P e).next.length u1, .slice x2 (dMix P e).held.length u2], .bool true]) (by simp [results, Tryd.results12, go_sem, r10, r11, r12, r20, r21, r22, r23]) rfl ?_
    exact Ret.mk ⟨S9.out.bel, ⟨y0, v0, y1, v1, y2, v2, y3, v3⟩, F, ⟨x0, u0, x1, u1, x2, u2⟩, rfl, hq.out, hr.out.base (by have := hWs.out; omega)⟩
end Go.Proofs.YtfcimilimojfoaaDoor

namespace Go.Proofs.YtfcimilimojfoaaDoor
open Go.RowKit Go.Sv
structure CasF (P : Prob) (M : Mx) : Prop where
  pr : probE P = 0
  bd : PBd P
  ok : MOk P M
  e0 : mixE P M = 0
  h8 : H8 M
  sm : MSm M
  tb : P.tabs.length ≤ 4
theorem msm_of {p : Prob} {m : Mx} (h : MOk p m) (h8 : H8 m) : MSm m := by
  obtain ⟨a, b, -, -⟩ := prob_small h.pr
  exact ⟨by have := h.lb; omega, by have := h.ln; omega, by have := h.lh; omega, h8⟩
theorem msm0 : MSm mx0 := ⟨by decide, by decide, by decide, fun i hi => by cases hi⟩
theorem msm_ap {p : Prob} {m : Mx} {s : Sp} (h : CasF p m) : MSm (ApM p m s) := by
  unfold ApM
  rw [if_pos h.e0]
  by_cases ha : appE p m s = 0
  · exact msm_of (apM_mok h.ok ha) (apM_h8 h.ok h.h8 ha)
  · rw [apM_no ha]; exact msm0
theorem casF (d : Dra) (e : DMx) (h : d.vs.length ≤ 3 ∧ d.lk.length ≤ 4) : CasF (dProb d) (dMix (dProb d) e) := by
  have hp := dProb_ok h.1 h.2
  have ho := dMix_ok e hp
  have h8 := dMix_h8 e hp
  refine ⟨hp, dProb_bd h.1 h.2, ho, mixE_ok.2 ho, h8, msm_of ho h8, ?_⟩
  unfold dProb
  dsimp only
  split
  · simp
  · simpa using h.2
/-- what of hands back, with the problem and the mix behind names -/
def CasR (w : World) (v : Value) (w' : World) : Prop :=
  Below w.heap.size w w' ∧ ∃ P M q F r, v = .tuple #[probV P q, mixV M r, .bool true] ∧ CasF P M ∧ PO w' w.heap.size P q F ∧ AO w' w.heap.size M r
theorem lofY (d : Dra) (q : ProbP) (e : DMx) (r : MixP) (w : World) (hd : RDra w w.heap.size d q) (hbd : DBd d) (he : RDmx w w.heap.size e r) (heb : MDBd e) (h : d.vs.length ≤ 3 ∧ d.lk.length ≤ 4) :
    Calls Tryd.prog 12 #[caseV d q e r] w (Ret (CasR w)) := by
  refine (lof_yes d q e r w hd hbd he heb h).mono ?_
  rintro e' w' ⟨v, rfl, hb, q', F, r', hv, h1, h2⟩
  exact ⟨v, rfl, hb, _, _, q', F, r', hv, casF d e h, h1, h2⟩
theorem fm_pm {w W : World} {bs : List Bx} {rs : List Rd} (h : Fm w W bs rs) (P : Prob) (q : ProbP) (M : Mx) (r : MixP) :
    ∃ W2, (W.alloc (.cells #[.slice q.a0 P.vs.length q.c0, .slice q.a1 P.now.length q.c1, .slice q.a2 P.tgt.length q.c2, .slice q.a3 P.tabs.length q.c3] 33)).alloc (.cells #[.slice r.a0 M.base.length r.c0, .slice r.a1 M.next.length r.c1, .slice r.a2 M.held.length r.c2] 36) = W2 ∧
      Fm w W2 (⟨W.heap.size + 1, 36, [.slice r.a0 M.base.length r.c0, .slice r.a1 M.next.length r.c1, .slice r.a2 M.held.length r.c2]⟩ :: ⟨W.heap.size, 33, [.slice q.a0 P.vs.length q.c0, .slice q.a1 P.now.length q.c1, .slice q.a2 P.tgt.length q.c2, .slice q.a3 P.tabs.length q.c3]⟩ :: bs) rs ∧
      Below W.heap.size W W2 :=
  ⟨_, rfl, (h.box 33 _).box' 36 [.slice r.a0 M.base.length r.c0, .slice r.a1 M.next.length r.c1, .slice r.a2 M.held.length r.c2] (K := W.heap.size + 1) (by simp),
    (((Below.refl _ _).alloc (Nat.le_refl _) _).trans ((Below.refl _ _).alloc (by simp) _))⟩
theorem fm_zz {w W : World} {bs : List Bx} {rs : List Rd} (h : Fm w W bs rs) :
    ∃ W2, (W.alloc (.cells #[.slice none 0 0, .slice none 0 0, .slice none 0 0, .slice none 0 0] 33)).alloc (.cells #[.slice none 0 0, .slice none 0 0, .slice none 0 0] 36) = W2 ∧
      Fm w W2 (⟨W.heap.size + 1, 36, [.slice none 0 0, .slice none 0 0, .slice none 0 0]⟩ :: ⟨W.heap.size, 33, [.slice none 0 0, .slice none 0 0, .slice none 0 0, .slice none 0 0]⟩ :: bs) rs ∧ Below W.heap.size W W2 :=
  ⟨_, rfl, (h.box 33 _).box' 36 [.slice none 0 0, .slice none 0 0, .slice none 0 0] (K := W.heap.size + 1) (by simp),
    (((Below.refl _ _).alloc (Nat.le_refl _) _).trans ((Below.refl _ _).alloc (by simp) _))⟩
abbrev caseCs (d : Dra) (q : ProbP) (e : DMx) (r : MixP) : List Value := [.slice q.a0 d.vs.length q.c0, .slice q.a1 d.now.length q.c1, .slice q.a2 d.tgt.length q.c2, .slice q.a3 d.lk.length q.c3,
  .slice r.a0 e.base.length r.c0, .slice r.a1 e.next.length r.c1, .slice r.a2 e.held.length r.c2]
/-- the box of a case -/
theorem bx_c (d : Dra) (q : ProbP) (e : DMx) (r : MixP) (w : World) : ∃ W, w.alloc (.cells #[.slice q.a0 d.vs.length q.c0, .slice q.a1 d.now.length q.c1, .slice q.a2 d.tgt.length q.c2, .slice q.a3 d.lk.length q.c3,
    .slice r.a0 e.base.length r.c0, .slice r.a1 e.next.length r.c1, .slice r.a2 e.held.length r.c2] 29) = W ∧
    Fm w W [⟨w.heap.size, 29, [.slice q.a0 d.vs.length q.c0, .slice q.a1 d.now.length q.c1, .slice q.a2 d.tgt.length q.c2, .slice q.a3 d.lk.length q.c3, .slice r.a0 e.base.length r.c0, .slice r.a1 e.next.length r.c1, .slice r.a2 e.held.length r.c2]⟩] [] :=
  ⟨_, rfl, (Fm.init w).box 29 _⟩
/-- the boxes of a case and a step -/
theorem bx_cs (d : Dra) (q : ProbP) (e : DMx) (r : MixP) (s : Sp) (w : World) : ∃ W, (w.alloc (.cells #[.slice q.a0 d.vs.length q.c0, .slice q.a1 d.now.length q.c1, .slice q.a2 d.tgt.length q.c2, .slice q.a3 d.lk.length q.c3,
    .slice r.a0 e.base.length r.c0, .slice r.a1 e.next.length r.c1, .slice r.a2 e.held.length r.c2] 29)).alloc (.cells #[.int .i64 s.kind, .int .i64 s.ix, .int .i64 s.ver] 52) = W ∧
    Fm w W [⟨w.heap.size + 1, 52, [.int .i64 s.kind, .int .i64 s.ix, .int .i64 s.ver]⟩, ⟨w.heap.size, 29, [.slice q.a0 d.vs.length q.c0, .slice q.a1 d.now.length q.c1, .slice q.a2 d.tgt.length q.c2, .slice q.a3 d.lk.length q.c3, .slice r.a0 e.base.length r.c0, .slice r.a1 e.next.length r.c1, .slice r.a2 e.held.length r.c2]⟩] [] :=
  ⟨_, rfl, ((Fm.init w).box 29 _).box' 52 [.int .i64 s.kind, .int .i64 s.ix, .int .i64 s.ver] (K := w.heap.size + 1) (by simp)⟩
end Go.Proofs.YtfcimilimojfoaaDoor
