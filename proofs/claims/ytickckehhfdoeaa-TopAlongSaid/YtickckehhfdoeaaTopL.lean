/-
  CONTRACTS of plan.From and plan.Find.
  Conditions: those that each theorem names.
-/
import Derived.Test.YtickckehhfdoeaaTopK
namespace Go.Sv
open Go.RowKit
section
variable {st : Mx → List Sp} {ap : Mx → Sp → Mx} {rob : Mx → Bool} {most : Nat}
theorem row_le : ∀ (l : List Sp) (i : Nat) (g k : Rg), g.nds.length ≤ most → rgRow ap rob most i g l = some k → k.nds.length ≤ most
  | [], i, g, k, h, e => by rw [rgRow] at e; injection e with e; subst e; exact h
  | s :: r, i, g, k, h, e => by
    rw [rgRow] at e
    split at e
    · cases e
    · rename_i hn; exact row_le r i _ k (Nat.not_lt.1 hn) e
theorem all_le : ∀ (f i : Nat) (g k : Rg), g.nds.length ≤ most → rgAll st ap rob most f i g = some k → k.nds.length ≤ most
  | 0, i, g, k, h, e => by rw [rgAll] at e; injection e with e; subst e; exact h
  | f + 1, i, g, k, h, e => by
    rw [rgAll] at e
    split at e
    · cases hr : rgRow ap rob most i g (st (ndAt g.nds i).m) with
      | none => rw [hr] at e; cases e
      | some x => rw [hr] at e; exact all_le f (i + 1) x k (row_le _ i g x h hr) e
    · injection e with e; subst e; exact h
end
theorem stMx_ok {p : Prob} (h : probE p = 0) : MOk p (stMx p) := by
  have hnl := (prob_small h).2.2.1
  refine ⟨h, hnl, by simp [stMx, hnl], by simp [stMx], fun i hi => ?_, fun i hi hs => ?_, fun i hi hs => ?_⟩
  · obtain ⟨a, b, _⟩ := now_in h hi
    have e : gi (stMx p).next i = -1 := by simp [stMx, gi, hnl, hi]
    rw [e]
    exact ⟨a, b, by omega, by omega, by show gi p.now i ≠ -1; omega⟩
  · have hsrc := tab_src h hi
    obtain ⟨a, b, _⟩ := now_in h (i := (tab p.tabs i).src.toNat) (by omega)
    have e : hd (stMx p) i = 2 ^ (gi p.now (tab p.tabs i).src.toNat).toNat := by
      unfold hd stMx
      rw [gi_map hi]
      unfold stHd
      rw [if_pos hs, Int.toNat_natCast]
    rw [e]
    refine ⟨sub_all (by omega), ?_⟩
    have er : run (stMx p) (tab p.tabs i).src.toNat = 2 ^ (gi p.now (tab p.tabs i).src.toNat).toNat := by
      unfold run
      have e2 : gi (stMx p).next (tab p.tabs i).src.toNat = -1 := by
        have : (tab p.tabs i).src.toNat < p.now.length := by omega
        simp [stMx, gi, this]
      rw [e2, if_neg (by omega), Nat.or_zero]
      rfl
    rw [er]
    exact sub_refl _
  · show gi ((List.range p.tabs.length).map (stHd p)) i = 0
    rw [gi_map hi]
    unfold stHd
    rw [if_neg (by rw [hs]; decide)]
theorem stMx_h8 {p : Prob} (h : probE p = 0) : H8 (stMx p) := h8_of (stMx_ok h) fun i hi => by
  have hi : i < p.tabs.length := by simpa [stMx] using hi
  show 0 ≤ gi ((List.range p.tabs.length).map (stHd p)) i
  rw [gi_map hi]
  unfold stHd
  split
  · exact Int.natCast_nonneg _
  · exact Int.le_refl _
/-- the first node that is a goal -/
def ixO (p : Prob) (l : List Nd) : Option Nat := l.findIdx? fun n => goalB p n.m
def ixI (p : Prob) (l : List Nd) : Int := match ixO p l with | some i => (i : Int) | none => -1
theorem ix_hit {p : Prob} {l : List Nd} {k : Nat} (h : k < l.length) (hk : goalB p (ndAt l k).m = true) (hall : ∀ j, j < k → goalB p (ndAt l j).m = false) : ixO p l = some k := by
  unfold ixO
  rw [List.findIdx?_eq_some_iff_getElem]
  refine ⟨h, by simpa [ndAt, h] using hk, fun j hj => ?_⟩
  have := hall j hj
  have hj2 : j < l.length := by omega
  simpa [ndAt, hj2] using this
theorem ix_none {p : Prob} {l : List Nd} (hall : ∀ j, j < l.length → goalB p (ndAt l j).m = false) : ixO p l = none := by
  unfold ixO
  rw [List.findIdx?_eq_none_iff]
  intro x hx
  obtain ⟨j, hj, rfl⟩ := List.getElem_of_mem hx
  have := hall j hj
  simpa [ndAt, hj] using this
theorem ix_lt {p : Prob} {l : List Nd} {k : Nat} (h : ixO p l = some k) : k < l.length := by
  unfold ixO at h
  rw [List.findIdx?_eq_some_iff_getElem] at h
  exact h.1
end Go.Sv
namespace Go.Proofs.Ytickckehhfdoeaa
open Go.RowKit Go.Sv
theorem reg_ok {p : Prob} {m : Mx} {g : Rg} (h : regL p m = some g) : NdOk g.nds ∧ g.nds.length ≤ mostN :=
  ⟨all_ok _ _ (rgStart m) _ (fun k hk => by
    have hk : k < 1 := hk
    obtain rfl : k = 0 := by omega
    exact ⟨show (-1 : Int) ≤ -1 by decide, show (-1 : Int) < 0 by decide⟩) h, all_le _ _ (rgStart m) _ (show (1 : Nat) ≤ 20000 by decide) h⟩
/-- what From hands back -/
noncomputable def frO (p : Prob) (m : Mx) : List Sp × Int :=
  if robB p m = false then ([], 13) else
    match regL p m with
    | none => ([], 3)
    | some g => match ixO p g.nds with
      | none => ([], 14)
      | some i => ((wayB g.nds g.nds.length i).reverse, 0)
abbrev ndV (x : Nd) (q : MixP) (u : Value) : Value := .agg #[.slice q.a0 x.m.base.length q.c0, .slice q.a1 x.m.next.length q.c1, .slice q.a2 x.m.held.length q.c2, .int .i64 x.frm, .int .i64 x.by_.kind, .int .i64 x.by_.ix, .int .i64 x.by_.ver, u]
set_option maxHeartbeats 2000000 in
set_option maxRecDepth 100000 in
theorem fr1_any (p : Prob) (q : ProbP) (x : Nd) (qx : MixP) (u : Value) (pb : Nat) (w : World) (hp : RProb w w.heap.size p q) (hbd : PBd p) (hm : RMix w w.heap.size x.m qx) (hmb : MBd x.m qx) (hok : MOk p x.m)
    (hP : Whole w pb 39 #[.slice q.a0 p.vs.length q.c0, .slice q.a1 p.now.length q.c1, .slice q.a2 p.tgt.length q.c2, .slice q.a3 p.tabs.length q.c3]) :
    Calls Try.prog 57 #[ndV x qx u, .pointer (some ⟨pb, 0, none⟩)] w fun e w' => e = .returned (.bool (goalB p x.m)) ∧ Below w.heap.size w w' := by
  obtain ⟨W, (hW : w.alloc (.cells #[.slice qx.a0 x.m.base.length qx.c0, .slice qx.a1 x.m.next.length qx.c1, .slice qx.a2 x.m.held.length qx.c2, .int .i64 x.frm, .int .i64 x.by_.kind, .int .i64 x.by_.ix, .int .i64 x.by_.ver, u] 115) = W), S, hB⟩ := fm_boxE (Fm.init w) 115 [.slice qx.a0 x.m.base.length qx.c0, .slice qx.a1 x.m.next.length qx.c1, .slice qx.a2 x.m.held.length qx.c2, .int .i64 x.frm, .int .i64 x.by_.kind, .int .i64 x.by_.ix, .int .i64 x.by_.ver, u]
  have HG := Lib.hid (goal_any p q x.m qx W (hp.to hB) hbd (hm.to hB) hmb)
  rw [mixE_ok.2 hok] at HG
  have hP2 := hP.below hB hP.lt
  have p0 : W.cell? ⟨pb, 0, none⟩ = some _ := hP2.cell 0
  have p1 : W.cell? ⟨pb, 1, none⟩ = some _ := hP2.cell 1
  have p2 : W.cell? ⟨pb, 2, none⟩ = some _ := hP2.cell 2
  have p3 : W.cell? ⟨pb, 3, none⟩ = some _ := hP2.cell 3
  obtain ⟨qa0, qc0, qa1, qc1, qa2, qc2, qa3, qc3⟩ := q
  obtain ⟨ma0, mc0, ma1, mc1, ma2, mc2⟩ := qx
  obtain ⟨m, fr, ⟨kd, ix, vr⟩⟩ := x
  dsimp only at p0 p1 p2 p3 hW S HG ⊢
  obtain ⟨⟨z, f, c0, c1, c2, c3, c4, c5, c6, c7, -⟩, -⟩ := S.facts
  have hb := Lib.hid hB
  clear hP hP2 hp hm hmb hok S hB
  go_enter Try.func57, Try.ntmps57
  go_wp2_with fail
  clear hW
  with_reducible refine HG.out.mono ?_
  rintro e w1 ⟨rfl, hb1⟩
  have hb2 := Lib.hid (hb.out.trans (hb1.mono hb.out.size))
  clear hb1 HG p0 p1 p2 p3 z f c0 c1 c2 c3 c4 c5 c6 c7
  go_wp2
  go_ret
  exact ⟨by simp, hb2.out⟩
set_option maxHeartbeats 2000000 in
set_option maxRecDepth 100000 in
theorem ixn2_any (p : Prob) (q : ProbP) (nds : List Nd) (Q : Nat → MixP) (nx : Nat → Value) (A : Option Addr) (c pb : Nat) (w : World) (hp : RProb w w.heap.size p q) (hbd : PBd p) (ha : ArrN w w.heap.size 8 A nds.length (ndF nds Q nx))
    (hm : ∀ k, k < nds.length → RMix w w.heap.size (ndAt nds k).m (Q k) ∧ MBd (ndAt nds k).m (Q k) ∧ MOk p (ndAt nds k).m) (hl : nds.length ≤ 1000000)
    (hP : Whole w pb 39 #[.slice q.a0 p.vs.length q.c0, .slice q.a1 p.now.length q.c1, .slice q.a2 p.tgt.length q.c2, .slice q.a3 p.tabs.length q.c3]) :
    Calls Try.prog 56 #[.slice A nds.length c, .func (.func 57) #[] #[.pointer (some ⟨pb, 0, none⟩)]] w fun e w' => e = .returned (.int .i64 (ixI p nds)) ∧ Below w.heap.size w w' := by
  have HF := Lib.hid (fun (k : Nat) (hk : k < nds.length) (u : Value) (w' : World) (hb : Below w.heap.size w w') => fr1_any p q (ndAt nds k) (Q k) u pb w' (hp.to hb) hbd ((hm k hk).1.to hb) (hm k hk).2.1 (hm k hk).2.2 (hP.below hb hP.lt))
  have hhit := Lib.hid (fun k h1 h2 h3 => ix_hit (p := p) (l := nds) (k := k) h1 h2 h3)
  have hnone := Lib.hid (fun h => ix_none (p := p) (l := nds) h)
  obtain ⟨n, hn⟩ : ∃ n, nds.length = n := ⟨_, rfl⟩
  rw [hn] at hl ha HF hhit hnone
  rw [hn]
  replace hn := Lib.hid hn
  replace ha := Lib.hid ha
  clear hp hm hP
  go_enter Try.func56, Try.ntmps56
  go_wp2
  go_loopw [8] (fun s8 wr => ∃ k : Nat, s8 = .int .i64 (k : Int) ∧ k ≤ n ∧ (∀ j, j < k → goalB p (ndAt nds j).m = false) ∧ Below w.heap.size w wr) (fun s8 _ => n - (intOf s8).toNat)
  case atStart => exact ⟨0, rfl, Nat.zero_le _, fun j hj => by omega, Below.refl _ _⟩
  case round =>
    obtain ⟨k, rfl, hk, hall, hbe⟩ := hrel
    replace hall := Lib.hid hall
    by_cases hlt : k < n
    · obtain ⟨b, o, rfl, hb, hc⟩ := ha.out (by omega)
      have d : ∀ i, i < 8 → wr.cell? ⟨b, o + k * 8 + i, none⟩ = some (ndF nds Q nx k i) := fun i hi => (hbe.cell (p := ⟨b, o + k * 8 + i, none⟩) hb).trans (hc k hlt i hi)
      have d0 : wr.cell? ⟨b, o + k * 8, none⟩ = some (.slice (Q k).a0 (ndAt nds k).m.base.length (Q k).c0) := d 0 (by decide)
      have d1 : wr.cell? ⟨b, o + k * 8 + 1, none⟩ = some (.slice (Q k).a1 (ndAt nds k).m.next.length (Q k).c1) := d 1 (by decide)
      have d2 : wr.cell? ⟨b, o + k * 8 + 2, none⟩ = some (.slice (Q k).a2 (ndAt nds k).m.held.length (Q k).c2) := d 2 (by decide)
      have d3 : wr.cell? ⟨b, o + k * 8 + 3, none⟩ = some (.int .i64 (ndAt nds k).frm) := d 3 (by decide)
      have d4 : wr.cell? ⟨b, o + k * 8 + 4, none⟩ = some (.int .i64 (ndAt nds k).by_.kind) := d 4 (by decide)
      have d5 : wr.cell? ⟨b, o + k * 8 + 5, none⟩ = some (.int .i64 (ndAt nds k).by_.ix) := d 5 (by decide)
      have d6 : wr.cell? ⟨b, o + k * 8 + 6, none⟩ = some (.int .i64 (ndAt nds k).by_.ver) := d 6 (by decide)
      have d7 : wr.cell? ⟨b, o + k * 8 + 7, none⟩ = some (nx k) := d 7 (by decide)
      have HF1 := Lib.hid (HF.out k hlt (nx k) wr hbe)
      have hk1 := Lib.hid (fun h => hhit.out k hlt h hall.out)
      obtain ⟨g, hg⟩ : ∃ g, goalB p (ndAt nds k).m = g := ⟨_, rfl⟩
      rw [hg] at HF1 hk1
      have hall2 : Hid (g = false → ∀ j, j < k + 1 → goalB p (ndAt nds j).m = false) := Lib.hid (fun h j hj => by
        rcases Nat.lt_succ_iff_lt_or_eq.1 hj with h1 | h1
        · exact hall.out j h1
        · rw [h1, hg]; exact h)
      obtain ⟨⟨m, fr, ⟨kd, ix, vr⟩⟩, hx⟩ : ∃ x, ndAt nds k = x := ⟨_, rfl⟩
      rw [hx] at d0 d1 d2 d3 d4 d5 d6 HF1
      dsimp only at d0 d1 d2 d3 d4 d5 d6 HF1
      have jk : (k : Int) < (n : Int) := by omega
      replace hbe := Lib.hid hbe
      replace hx := Lib.hid hx
      replace hg := Lib.hid hg
      clear d hc
      go_wp2_with fail
      with_reducible refine HF1.out.mono ?_
      rintro e w' ⟨rfl, hb1⟩
      have hb2 := Lib.hid (hbe.out.trans (hb1.mono hbe.out.size))
      clear hb1 d0 d1 d2 d3 d4 d5 d6 d7
      cases g with
      | true =>
        have hI : Hid (ixI p nds = (k : Int)) := Lib.hid (by unfold ixI; rw [hk1.out rfl])
        go_wp2
        go_ret
        exact ⟨by rw [hI.out]; rfl, hb2.out⟩
      | false =>
        have hall3 := Lib.hid (hall2.out rfl)
        go_wp2
        go_roundw
        case rel => exact ⟨k + 1, by go_num, by omega, hall3.out, hb2.out⟩
        case measure => simp [intOf]; omega
    · obtain rfl : k = n := by omega
      have hI : Hid (ixI p nds = -1) := Lib.hid (by unfold ixI; rw [hnone.out hall.out])
      have hb2 := Lib.hid hbe
      clear hlt hbe
      go_wp2
      go_ret
      exact ⟨by rw [hI.out]; rfl, hb2.out⟩
theorem StR.err {w w' : World} {e : Int} (h : Below w.heap.size w w') : StR w [] e (.tuple #[.slice none 0 0, .int .i64 e]) w' := ⟨h, none, 0, rfl, World.ownsRow_nil _ _ _ _⟩
set_option maxHeartbeats 4000000 in
set_option maxRecDepth 100000 in
theorem from_any (p : Prob) (q : ProbP) (m : Mx) (qm : MixP) (w : World) (hp : RProb w w.heap.size p q) (hbd : PBd p) (hm : RMix w w.heap.size m qm) (hmb : MBd m qm) (hok : MOk p m) :
    Calls Try.prog 27 #[probV p q, mixV m qm] w (Ret (StR w (frO p m).1 (frO p m).2)) := by
  obtain ⟨W, hW, S⟩ := pm_boxes p q m qm w
  have hsz : w.heap.size + 2 ≤ W.heap.size := by rw [← hW]; simp
  have HR := Lib.hid (robust_any p q m qm W (hp.to S.bel) hbd (hm.to S.bel) hmb hok)
  have HG := Lib.hid (fun W2 (h : Below W.heap.size W W2) => region_any p q m qm W2 ((hp.to S.bel).to h) hbd ((hm.to S.bel).to h) hmb hok)
  have HI := Lib.hid (fun (nds : List Nd) (Q : Nat → MixP) (nx : Nat → Value) (A : Option Addr) (c : Nat) (W2 : World) (h : Below W.heap.size W W2) => ixn2_any p q nds Q nx A c w.heap.size W2 ((hp.to S.bel).to h) hbd)
  obtain ⟨qa0, qc0, qa1, qc1, qa2, qc2, qa3, qc3⟩ := q
  obtain ⟨ma0, mc0, ma1, mc1, ma2, mc2⟩ := qm
  dsimp only at HR HG HI hW S ⊢
  obtain ⟨⟨r1, f1, r10, r11, r12, -⟩, ⟨r2, f2, r20, r21, r22, r23, -⟩, -⟩ := S.facts
  have SW := Lib.hid S
  have hPW : Hid (Whole W w.heap.size 39 #[.slice qa0 p.vs.length qc0, .slice qa1 p.now.length qc1, .slice qa2 p.tgt.length qc2, .slice qa3 p.tabs.length qc3]) := Lib.hid (allB_at S.bx ⟨w.heap.size, 39, _⟩ (by simp))
  clear S hp hbd hm hmb hok
  go_enter Try.func27, Try.ntmps27
  go_wp2_with fail
  clear hW
  with_reducible refine HR.out.mono ?_
  rintro e w1 ⟨rfl, hb1⟩
  have S1 := Lib.hid (SW.out.call hb1)
  replace hb1 := Lib.hid hb1
  clear r1 f1 r10 r11 r12 r2 f2 r20 r21 r22 r23 HR
  obtain ⟨⟨r1, f1, r10, r11, r12, -⟩, ⟨r2, f2, r20, r21, r22, r23, -⟩, -⟩ := S1.out.facts
  cases hrob : robB p m with
  | false =>
    have hF : Hid (frO p m = ([], 13)) := Lib.hid (by unfold frO; rw [if_pos hrob])
    replace hrob := Lib.hid hrob
    clear HG HI
    go_wp2
    go_ret2
    exact Ret.mk (by rw [hF.out]; exact StR.err S1.out.bel)
  | true =>
    replace hrob := Lib.hid hrob
    go_wp2_with fail
    with_reducible refine (HG.out w1 hb1.out).mono ?_
    rintro e w2 ⟨_, rfl, hb2, hv⟩
    have S2 := Lib.hid (S1.out.call hb2)
    have hbW2 := Lib.hid (hb1.out.trans (hb2.mono hb1.out.size))
    clear r1 f1 r10 r11 r12 r2 f2 r20 r21 r22 r23 HG hb2
    obtain ⟨⟨r1, f1, r10, r11, r12, -⟩, ⟨r2, f2, r20, r21, r22, r23, -⟩, -⟩ := S2.out.facts
    cases hg : regL p m with
    | none =>
      rw [hg] at hv
      dsimp only at hv
      subst hv
      have hF : Hid (frO p m = ([], 3)) := Lib.hid (by unfold frO; rw [if_neg (by rw [hrob.out]; decide), hg])
      clear HI
      go_wp2
      go_ret2
      exact Ret.mk (by rw [hF.out]; exact StR.err S2.out.bel)
    | some g =>
      rw [hg] at hv
      have hF0 : Hid (frO p m = match ixO p g.nds with
        | none => ([], 14)
        | some i => ((wayB g.nds g.nds.length i).reverse, 0)) := Lib.hid (by unfold frO; rw [if_neg (by rw [hrob.out]; decide), hg])
      dsimp only at hv
      obtain ⟨hok1, hle⟩ := reg_ok hg
      obtain ⟨A, c, Q, nx, rfl, ha, hms⟩ := hv
      have hl6 : g.nds.length ≤ 1000000 := Nat.le_trans hle (show (20000 : Nat) ≤ 1000000 by decide)
      have HI2 := Lib.hid (HI.out g.nds Q nx A c w2 hbW2.out ha hms hl6 (hPW.out.below hbW2.out hPW.out.lt))
      have HWy := Lib.hid (fun (i : Nat) (w' : World) (hb : Below w2.heap.size w2 w') (hi : i < g.nds.length) => way_any g.nds Q nx A c i w' (fun h0 => by
        obtain ⟨b, off, e, h1, h2⟩ := ha h0
        exact ⟨b, off, e, Nat.lt_of_lt_of_le h1 hb.size, fun k hk j hj => (hb.cell (p := ⟨b, off + k * 8 + j, none⟩) h1).trans (h2 k hk j hj)⟩) hi hok1 hl6)
      have hixI : Hid (ixI p g.nds = match ixO p g.nds with | some i => (i : Int) | none => -1) := Lib.hid rfl
      have hixl := Lib.hid (fun k h => ix_lt (p := p) (l := g.nds) (k := k) h)
      obtain ⟨z, hz⟩ : ∃ z, ixI p g.nds = z := ⟨_, rfl⟩
      rw [hz] at HI2 hixI
      obtain ⟨n, hn⟩ : ∃ n, g.nds.length = n := ⟨_, rfl⟩
      rw [hn] at HI2 HWy hF0 hixl hl6
      rw [hn]
      replace hn := Lib.hid hn
      replace hz := Lib.hid hz
      clear ha hms HI hok1 hle hg
      go_wp2_with fail
      with_reducible refine HI2.out.mono ?_
      rintro e w3 ⟨rfl, hb3⟩
      have S3 := Lib.hid (S2.out.call hb3)
      have HW3 := Lib.hid (fun i h => HWy.out i w3 hb3 h)
      clear r1 f1 r10 r11 r12 r2 f2 r20 r21 r22 r23 HI2 hb3 HWy
      cases hi : ixO p g.nds with
      | none =>
        rw [hi] at hixI hF0
        have e : z = -1 := hixI.out
        subst e
        have hF : Hid (frO p m = ([], 14)) := Lib.hid hF0.out
        clear HW3
        go_wp2
        go_ret2
        exact Ret.mk (by rw [hF.out]; exact StR.err S3.out.bel)
      | some i =>
        rw [hi] at hixI hF0
        have e : z = (i : Int) := hixI.out
        subst e
        have hF : Hid (frO p m = ((wayB g.nds n i).reverse, 0)) := Lib.hid hF0.out
        have HW4 := Lib.hid (HW3.out i (hixl.out i hi))
        have in0 : (0 : Int) ≤ (i : Int) := by omega
        replace hi := Lib.hid hi
        clear HW3
        go_wp2_with fail
        with_reducible refine HW4.out.mono ?_
        rintro e w4 ⟨_, rfl, hb4, A4, c4, rfl, hown⟩
        have hP : Hid (StR w (frO p m).1 (frO p m).2 (.tuple #[.slice A4 (wayB g.nds n i).reverse.length c4, .int .i64 0]) w4) := Lib.hid (by
          rw [hF.out]
          exact ⟨S3.out.bel.trans (hb4.mono S3.out.bel.size), A4, c4, rfl, own_base hown S3.out.bel.size⟩)
        obtain ⟨L, hL⟩ : ∃ L, (wayB g.nds n i).reverse = L := ⟨_, rfl⟩
        rw [hL] at hP
        rw [hL]
        clear hown hb4
        go_wp2
        go_ret2
        exact Ret.mk hP.out
end Go.Proofs.Ytickckehhfdoeaa
