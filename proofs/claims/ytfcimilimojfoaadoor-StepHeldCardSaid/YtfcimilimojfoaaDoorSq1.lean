/-
  CONTRACT of sheaveref36.Same at two copies of one list of mixes.
  Conditions: those that each theorem names.
-/
import Derived.Test.YtfcimilimojfoaaDoorSb7
import Derived.Test.YtfcimilimojfoaaDoorSb12
import Derived.Deep.RegionHeld3
import Derived.Test.YtfcimilimojfoaaDoorStRd
import Derived.Test.YtfcimilimojfoaaDoorMxC
import Derived.Test.YtfcimilimojfoaaDoorSb2
import Derived.Test.YtfcimilimojfoaaDoorSb13

namespace Go.Proofs.YtfcimilimojfoaaDoor
open Go.RowKit Go.Sv
theorem calls_true {P : Program} {f : FuncId} {args : Array Value} {w : World} {b : Bool} (h : Calls P f args w fun e w' => e = .returned (.bool b) ∧ Below w.heap.size w w') (hb : b = true) :
    Calls P f args w fun e w' => e = .returned (.bool true) ∧ Below w.heap.size w w' := by subst hb; exact h
set_option maxHeartbeats 4000000 in
set_option maxRecDepth 100000 in
theorem rsameM_any (ms : List Mx) (Q R : Nat → MixP) (A C : Option Addr) (c d : Nat) (w : World) (ha : ArrN w w.heap.size 3 A ms.length (mxF ms Q)) (hc : ArrN w w.heap.size 3 C ms.length (mxF ms R))
    (el : ∀ k, k < ms.length → RMix w w.heap.size (mxAt ms k) (Q k) ∧ RMix w w.heap.size (mxAt ms k) (R k) ∧ MSm (mxAt ms k)) (hl : ms.length ≤ 1000000) :
    Calls Tryd.prog 20 #[.slice A ms.length c, .slice C ms.length d] w fun e w' => e = .returned (.bool true) ∧ Below w.heap.size w w' := by
  replace el := Lib.hid el
  go_enter Tryd.func20, Tryd.ntmps20
  go_wp2
  go_loopw [5] (fun i wr => ∃ k : Nat, k ≤ ms.length ∧ i = .int .i64 k ∧ Below w.heap.size w wr) (fun i _ => ms.length - (intOf i).toNat)
  case atStart => exact ⟨0, Nat.zero_le _, rfl, Below.refl _ _⟩
  case round =>
    obtain ⟨k, hk, rfl, hbel⟩ := hrel
    by_cases hlt : k < ms.length
    · obtain ⟨b, off, rfl, hb, hcl⟩ := ha (by omega)
      obtain ⟨b2, off2, rfl, hb2, hcm⟩ := hc (by omega)
      obtain ⟨c0, c1, c2⟩ := mx_cells (w := wr) (fun i hi => (hbel.cell (p := ⟨b, off + k * 3 + i, none⟩) hb).trans (hcl k hlt i hi))
      obtain ⟨d0, d1, d2⟩ := mx_cells (w := wr) (fun i hi => (hbel.cell (p := ⟨b2, off2 + k * 3 + i, none⟩) hb2).trans (hcm k hlt i hi))
      obtain ⟨g1, g2, g3⟩ := el.out k hlt
      have hE := Lib.hid (fun W2 (h : Below wr.heap.size wr W2) => calls_true (requal_any (mxAt ms k) (mxAt ms k) (Q k) (R k) W2 ((g1.to hbel).to h) ((g2.to hbel).to h) g3 g3) (decide_eq_true rfl))
      have hbw : b < wr.heap.size := Nat.lt_of_lt_of_le hb hbel.size
      have hbw2 : b2 < wr.heap.size := Nat.lt_of_lt_of_le hb2 hbel.size
      have jk : (k : Int) < (ms.length : Int) := by omega
      have hbl := Lib.hid hbel
      replace ha := Lib.hid ha
      replace hc := Lib.hid hc
      clear hcl hcm g1 g2 g3 hbel
      obtain ⟨x, hx⟩ : ∃ x, mxAt ms k = x := ⟨_, rfl⟩
      obtain ⟨⟨ma0, mc0, ma1, mc1, ma2, mc2⟩, hq⟩ : ∃ q, Q k = q := ⟨_, rfl⟩
      obtain ⟨⟨na0, nc0, na1, nc1, na2, nc2⟩, hr⟩ : ∃ q, R k = q := ⟨_, rfl⟩
      rw [hx, hq] at c0 c1 c2
      rw [hx, hr] at d0 d1 d2
      rw [hx, hq, hr] at hE
      dsimp only [mixV] at c0 c1 c2 d0 d1 d2 hE
      clear hx hq hr
      go_wp2_with fail
      go_region_held3 (fun w' => w'.cell? ⟨b, off + k * 3, none⟩ = some (.slice ma0 x.base.length mc0) ∧ w'.cell? ⟨b, off + k * 3 + 1, none⟩ = some (.slice ma1 x.next.length mc1) ∧ w'.cell? ⟨b, off + k * 3 + 2, none⟩ = some (.slice ma2 x.held.length mc2) ∧
          w'.cell? ⟨b2, off2 + k * 3, none⟩ = some (.slice na0 x.base.length nc0) ∧ w'.cell? ⟨b2, off2 + k * 3 + 1, none⟩ = some (.slice na1 x.next.length nc1) ∧ w'.cell? ⟨b2, off2 + k * 3 + 2, none⟩ = some (.slice na2 x.held.length nc2)) (go_keep)
        (first
          | ((with_reducible refine (hE.out wr.drew ((Drawn.refl _).drew).below).mono ?_)
             rintro e' w4 ⟨rfl, hb4⟩
             have hb4' := ((Drawn.refl wr).drew).below.trans hb4
             have k0 := (hb4'.cell (p := ⟨b, off + k * 3, none⟩) hbw).trans c0
             have k1 := (hb4'.cell (p := ⟨b, off + k * 3 + 1, none⟩) hbw).trans c1
             have k2 := (hb4'.cell (p := ⟨b, off + k * 3 + 2, none⟩) hbw).trans c2
             have k3 := (hb4'.cell (p := ⟨b2, off2 + k * 3, none⟩) hbw2).trans d0
             have k4 := (hb4'.cell (p := ⟨b2, off2 + k * 3 + 1, none⟩) hbw2).trans d1
             have k5 := (hb4'.cell (p := ⟨b2, off2 + k * 3 + 2, none⟩) hbw2).trans d2
             have hfin := Lib.hid (hbl.out.trans (hb4'.mono hbl.out.size))
             clear c0 c1 c2 d0 d1 d2 hb4 hb4'))
      all_goals go_wp2
      all_goals go_roundw
      case rel => exact ⟨k + 1, by omega, by go_num, hfin.out⟩
      case measure => simp [intOf]; omega
    · obtain rfl : k = ms.length := by omega
      replace ha := Lib.hid ha
      replace hc := Lib.hid hc
      replace hbel := Lib.hid hbel
      go_wp2
      go_ret
      exact ⟨rfl, hbel.out⟩
end Go.Proofs.YtfcimilimojfoaaDoor

namespace Go.Proofs.YtfcimilimojfoaaDoor
open Go.RowKit Go.Sv
theorem rapply_run (p : Prob) (q : ProbP) (m : Mx) (qm : MixP) (s : Sp) (w : World) (hp : RProb w w.heap.size p q) (hbd : PBd p) (hm : RMix w w.heap.size m qm) (hmb : MBd m qm) (hok : MOk p m) :
    Calls Tryd.prog 22 #[probV p q, mixV m qm, stepV s] w (Ret (ApR w (apM p m s) (appE p m s))) := by
  have h := rapply_any p q m qm s w hp hbd hm hmb
  unfold ApM ApE at h
  rw [if_pos (mixE_ok.2 hok), if_pos (mixE_ok.2 hok)] at h
  exact h
set_option maxHeartbeats 4000000 in
set_option maxRecDepth 100000 in
theorem rRun_any (p : Prob) (q : ProbP) (m : Mx) (qm : MixP) (A : Option Addr) (c : Nat) (l : List Sp) (w : World) (hp : RProb w w.heap.size p q) (hbd : PBd p) (hm : RMix w w.heap.size m qm) (hmb : MBd m qm) (hL : ArrN w w.heap.size 3 A l.length (spF l)) (hl : l.length ≤ 1000000) :
    Calls Tryd.prog 19 #[probV p q, mixV m qm, .slice A l.length c] w (Ret (RunR w (rnL p m l) (rnN p m l) (rnE p m l))) := by
  obtain ⟨W, hW, S⟩ := pm_boxes p q m qm w
  have HV := Lib.hid (rvalidM_any p q m qm W (hp.to S.bel) hbd (hm.to S.bel) hmb)
  have hsz : w.heap.size + 2 ≤ W.heap.size := by rw [← hW]; simp
  by_cases h0 : mixE p m = 0
  · have hok := mixE_ok.1 h0
    have hps := prob_small hok.pr
    have HA := Lib.hid (fun (x : Mx) (qx : MixP) (s : Sp) (W2 : World) (h : Below W.heap.size W W2) (hx : RMix W2 W2.heap.size x qx) (hxb : MBd x qx) (hxo : MOk p x) => rapply_run p q x qx s W2 ((hp.to S.bel).to h) hbd hx hxb hxo)
    have hLw := Lib.hid (fun W2 (h : Below W.heap.size W W2) => hL.below (S.bel.trans (h.mono S.size)))
    rw [h0] at HV
    have hmb0 := Lib.hid hmb
    have hm0 := Lib.hid hm
    have hSb := Lib.hid S.bel
    obtain ⟨qa0, qc0, qa1, qc1, qa2, qc2, qa3, qc3⟩ := q
    obtain ⟨ma0, mc0, ma1, mc1, ma2, mc2⟩ := qm
    dsimp only at HV HA hW S hm0 hmb0 ⊢
    obtain ⟨⟨r1, f1, r10, r11, r12, -⟩, ⟨r2, f2, r20, r21, r22, r23, -⟩, -⟩ := S.facts
    have SW := Lib.hid S
    replace hok := Lib.hid hok
    clear S hp hbd hm hmb h0 hL hps
    go_enter Tryd.func19, Tryd.ntmps19
    go_wp2_with fail
    clear hW
    with_reducible refine HV.out.mono ?_
    rintro e w1 ⟨rfl, hb1⟩
    clear r1 f1 r10 r11 r12 r2 f2 r20 r21 r22 r23
    have S1 := Lib.hid (SW.out.call hb1)
    have hW2 : W.heap.size ≤ w1.heap.size := hb1.size
    have hEl : Hid (MEl w1 w.heap.size W.heap.size m ⟨ma0, mc0, ma1, mc1, ma2, mc2⟩) := Lib.hid ⟨Or.inl (hm0.out.below (hSb.out.trans (hb1.mono hSb.out.size))), hmb0.out⟩
    have hM := Lib.hid (MxL.one hEl.out (by omega) hW2)
    have hB3 := Lib.hid (hb1.trans (((Below.refl _ _).alloc hW2 (.cells #[.slice ma0 m.base.length mc0, .slice ma1 m.next.length mc1, .slice ma2 m.held.length mc2] 36))))
    have hRn := Lib.hid (Ran.start l hok.out)
    obtain ⟨⟨r1, f1, r10, r11, r12, -⟩, ⟨r2, f2, r20, r21, r22, r23, -⟩, -⟩ := S1.out.facts
    clear hb1 S1
    go_wp2
    clear r1 f1 r10 r11 r12 r2 f2 r20 r21 r22 r23
    go_loopw [10, 11] (fun s10 s26 wr => ∃ (k : Nat) (ms : List Mx) (Q : Nat → MixP), s26 = .int .i64 k ∧ Hid (Ran p m l k ms) ∧ Hid (MxL wr w.heap.size W.heap.size ms Q s10) ∧ Below W.heap.size W wr) (fun _ s26 _ => l.length - (intOf s26).toNat)
    case atStart => exact ⟨0, [m], _, rfl, hRn, hM, hB3.out⟩
    case round =>
      obtain ⟨k, ms, Q, rfl, hR, hM, hbel⟩ := hrel
      have T := Lib.hid (SW.out.call hbel)
      obtain ⟨⟨r1, f1, r10, r11, r12, -⟩, ⟨r2, f2, r20, r21, r22, r23, -⟩, -⟩ := T.out.facts
      have hkl := hR.out.hk
      have hml := Lib.hid hR.out.len
      by_cases hlt : k < l.length
      · obtain ⟨bL, oL, rfl, hbL, hcL⟩ := (hLw.out wr hbel) (by omega)
        obtain ⟨c0, c1, c2⟩ := sp_cells (hcL k hlt)
        obtain ⟨AM, cM, rfl, haM⟩ := hM.out.arr
        obtain ⟨bM, oM, rfl, hbM, hcM⟩ := haM (by rw [hml.out]; omega)
        obtain ⟨d0, d1, d2⟩ := mx_cells (hcM k (by rw [hml.out]; omega))
        have hEk := Lib.hid (hM.out.el k (by rw [hml.out]; omega))
        have hOk := Lib.hid (hR.out.ok k (by rw [hml.out]; omega))
        have hNext := Lib.hid (hR.out.next hlt)
        have hBad := Lib.hid (fun ha => hR.out.bad hok.out hlt ha)
        clear hcL hcM haM
        obtain ⟨s, hs⟩ : ∃ s, spAt l k = s := ⟨_, rfl⟩
        rw [hs] at c0 c1 c2 hNext hBad
        obtain ⟨x, hx⟩ : ∃ x, mxAt ms k = x := ⟨_, rfl⟩
        rw [hx] at d0 d1 d2 hNext hBad hEk hOk
        obtain ⟨⟨xa0, xc0, xa1, xc1, xa2, xc2⟩, hq⟩ : ∃ y, Q k = y := ⟨_, rfl⟩
        rw [hq] at d0 d1 d2 hEk
        dsimp only at d0 d1 d2
        obtain ⟨kd, ix, v⟩ := s
        dsimp only at c0 c1 c2
        have jk : (k : Int) < (l.length : Int) := by omega
        have jm : (k : Int) < (ms.length : Int) := by rw [hml.out]; omega
        have hbLw : bL < wr.heap.size := by have := T.out.size; omega
        have hAA := Lib.hid (fun W4 (h : Below wr.heap.size wr W4) => HA.out x ⟨xa0, xc0, xa1, xc1, xa2, xc2⟩ ⟨kd, ix, v⟩ W4 (hbel.trans (h.mono hbel.size)) ((hEk.out.mix (by have := T.out.size; omega)).to h) hEk.out.2 hOk.out)
        have hMW := Lib.hid hM
        obtain ⟨y, hy⟩ : ∃ y, apM p x ⟨kd, ix, v⟩ = y := ⟨_, rfl⟩
        obtain ⟨er, her⟩ : ∃ er, appE p x ⟨kd, ix, v⟩ = er := ⟨_, rfl⟩
        have hY8 := Lib.hid (apM_h8 (s := ⟨kd, ix, v⟩) hOk.out hEk.out.2.h8)
        rw [hy, her] at hAA hY8
        dsimp only [probV, mixV, stepV] at hAA
        rw [her] at hBad hNext
        rw [hy] at hNext
        have SR := Lib.hid (Fm.init wr)
        go_upto_region 8 with fail
        go_cut [12, 13] (fun s13 s14 wx => ∃ (g : Nat) (y0 y1 y2 : Option Addr) (z0 z1 z2 : Nat), s13 = .pointer (some ⟨g, 0, none⟩) ∧ s14 = .int .i64 er ∧ Fm wr wx [⟨g, 36, [.slice y0 y.base.length z0, .slice y1 y.next.length z1, .slice y2 y.held.length z2]⟩] [] ∧ AO wx wr.heap.size y ⟨y0, z0, y1, z1, y2, z2⟩)
        case first =>
          have lB := Nat.le_refl wr.heap.size
          have i1 : ¬ w.heap.size = wr.heap.size := by have := T.out.size; omega
          have i2 : ¬ wr.heap.size = w.heap.size := by have := T.out.size; omega
          have i3 : ¬ bM = wr.heap.size := by omega
          have i4 : ¬ wr.heap.size = bM := by omega
          have i5 : ¬ bL = wr.heap.size := by omega
          have i6 : ¬ wr.heap.size = bL := by omega
          go_region_held3 (fun w' => w'.cell? ⟨w.heap.size, 0, none⟩ = some (.slice qa0 p.vs.length qc0) ∧ w'.cell? ⟨w.heap.size, 1, none⟩ = some (.slice qa1 p.now.length qc1) ∧ w'.cell? ⟨w.heap.size, 2, none⟩ = some (.slice qa2 p.tgt.length qc2) ∧ w'.cell? ⟨w.heap.size, 3, none⟩ = some (.slice qa3 p.tabs.length qc3) ∧
              w'.cell? ⟨bM, oM + k * 3, none⟩ = some (.slice xa0 x.base.length xc0) ∧ w'.cell? ⟨bM, oM + k * 3 + 1, none⟩ = some (.slice xa1 x.next.length xc1) ∧ w'.cell? ⟨bM, oM + k * 3 + 2, none⟩ = some (.slice xa2 x.held.length xc2) ∧
              w'.cell? ⟨bL, oL + k * 3, none⟩ = some (.int .i64 kd) ∧ w'.cell? ⟨bL, oL + k * 3 + 1, none⟩ = some (.int .i64 ix) ∧ w'.cell? ⟨bL, oL + k * 3 + 2, none⟩ = some (.int .i64 v)) (go_keep)
            (first
              | ((with_reducible refine (hAA.out wr.drew ((Drawn.refl _).drew).below).mono ?_)
                 rintro e w4 ⟨_, rfl, hb4, ⟨y0, z0, y1, z1, y2, z2⟩, rfl, hay⟩
                 have hb4' := ((Drawn.refl wr).drew).below.trans hb4
                 have S4 := Lib.hid (T.out.call hb4')
                 have k0 := (hb4'.cell (p := ⟨bM, oM + k * 3, none⟩) hbM).trans d0
                 have k1 := (hb4'.cell (p := ⟨bM, oM + k * 3 + 1, none⟩) hbM).trans d1
                 have k2 := (hb4'.cell (p := ⟨bM, oM + k * 3 + 2, none⟩) hbM).trans d2
                 have kl := Nat.lt_of_lt_of_le hbM hb4'.size
                 have n0 := (hb4'.cell (p := ⟨bL, oL + k * 3, none⟩) hbLw).trans c0
                 have n1 := (hb4'.cell (p := ⟨bL, oL + k * 3 + 1, none⟩) hbLw).trans c1
                 have n2 := (hb4'.cell (p := ⟨bL, oL + k * 3 + 2, none⟩) hbLw).trans c2
                 have nl := Nat.lt_of_lt_of_le hbLw hb4'.size
                 have hFa := Lib.hid (And.intro ((SR.out.call hb4').box 36 [.slice y0 y.base.length z0, .slice y1 y.next.length z1, .slice y2 y.held.length z2]) ((hay.base (B' := wr.heap.size) lB).to ((Below.refl _ _).alloc (Nat.le_refl _) (.cells #[.slice y0 y.base.length z0, .slice y1 y.next.length z1, .slice y2 y.held.length z2] 36))))
                 clear r1 f1 r10 r11 r12 r2 f2 r20 r21 r22 r23 c0 c1 c2 d0 d1 d2
                 obtain ⟨⟨v1, h1, v10, v11, v12, -⟩, ⟨v2, h2, v20, v21, v22, v23, -⟩, -⟩ := S4.out.facts
                 clear hb4 hb4' hay)
              | ((with_reducible refine (hAA.out (wr.alloc (.cells #[.slice none 0 0, .slice none 0 0, .slice none 0 0] 36)).drew (((Below.refl _ _).alloc (Nat.le_refl _) _).drawn ((Drawn.refl _).drew))).mono ?_)
                 rintro e w4 ⟨_, rfl, hb4, ⟨y0, z0, y1, z1, y2, z2⟩, rfl, hay⟩
                 have hb4a := ((Drawn.refl (wr.alloc (.cells #[.slice none 0 0, .slice none 0 0, .slice none 0 0] 36))).drew).below.trans hb4
                 have hz : (wr.alloc (.cells #[.slice none 0 0, .slice none 0 0, .slice none 0 0] 36)).heap.size = wr.heap.size + 1 := by simp
                 have hb4' := ((Below.refl wr.heap.size wr).alloc (Nat.le_refl _) (.cells #[.slice none 0 0, .slice none 0 0, .slice none 0 0] 36)).trans (hb4a.mono (Nat.le_trans (Nat.le_succ _) (Nat.le_of_eq hz.symm)))
                 have S4 := Lib.hid ((T.out.box 36 [.slice none 0 0, .slice none 0 0, .slice none 0 0]).call hb4a)
                 have k0 := (hb4'.cell (p := ⟨bM, oM + k * 3, none⟩) hbM).trans d0
                 have k1 := (hb4'.cell (p := ⟨bM, oM + k * 3 + 1, none⟩) hbM).trans d1
                 have k2 := (hb4'.cell (p := ⟨bM, oM + k * 3 + 2, none⟩) hbM).trans d2
                 have kl := Nat.lt_of_lt_of_le hbM hb4'.size
                 have n0 := (hb4'.cell (p := ⟨bL, oL + k * 3, none⟩) hbLw).trans c0
                 have n1 := (hb4'.cell (p := ⟨bL, oL + k * 3 + 1, none⟩) hbLw).trans c1
                 have n2 := (hb4'.cell (p := ⟨bL, oL + k * 3 + 2, none⟩) hbLw).trans c2
                 have nl := Nat.lt_of_lt_of_le hbLw hb4'.size
                 have hFb := Lib.hid (And.intro (((((SR.out.box 36 [.slice none 0 0, .slice none 0 0, .slice none 0 0]).call hb4a).set 0 rfl 0 (.slice y0 y.base.length z0)).set 0 rfl 1 (.slice y1 y.next.length z1)).set 0 rfl 2 (.slice y2 y.held.length z2)) ((hay.far3 (g := wr.heap.size) (by show wr.heap.size < (wr.alloc _).heap.size; rw [hz]; omega) (.slice y0 y.base.length z0) (.slice y1 y.next.length z1) (.slice y2 y.held.length z2)).base (B' := wr.heap.size) (Nat.le_trans lB (Nat.le_trans (Nat.le_succ _) (Nat.le_of_eq hz.symm)))))
                 clear r1 f1 r10 r11 r12 r2 f2 r20 r21 r22 r23 c0 c1 c2 d0 d1 d2
                 obtain ⟨⟨t1, o1, t10, t11, t12, -⟩, ⟨v1, h1, v10, v11, v12, -⟩, ⟨v2, h2, v20, v21, v22, v23, -⟩, -⟩ := S4.out.facts
                 clear hb4 hb4' hb4a hay hz))
          all_goals (go_wp2_with fail; go_meet)
          all_goals
            first
              | exact ⟨_, y0, y1, y2, z0, z1, z2, rfl, rfl, hFa.out.1, hFa.out.2⟩
              | exact ⟨_, y0, y1, y2, z0, z1, z2, rfl, rfl, hFb.out.1, hFb.out.2⟩
        case rest =>
          rename World => wx
          obtain ⟨g, y0, y1, y2, z0, z1, z2, rfl, rfl, SX, hay⟩ := hcut
          clear r1 f1 r10 r11 r12 r2 f2 r20 r21 r22 r23 c0 c1 c2 d0 d1 d2
          have hbX := Lib.hid (hbel.trans (SX.bel.mono hbel.size))
          have hsX : W.heap.size ≤ wx.heap.size := hbX.out.size
          have SY := Lib.hid (SW.out.call hbX.out)
          obtain ⟨⟨u1, g1, u10, u11, u12, -⟩, -⟩ := SX.facts
          cases her0 : (er != 0) with
          | true =>
            have hAns := Lib.hid (hBad.out (by simpa using her0))
            clear hNext hBad hY8 hay
            go_wp2
            refine bodyPost_ret (v := .tuple #[.slice none 0 0, .int .i64 k, .int .i64 er]) (by simp [results, Tryd.results19, go_sem]) rfl ?_
            exact Ret.mk (by rw [hAns.out.1, hAns.out.2.1, hAns.out.2.2]; exact ⟨SY.out.bel, none, 0, _, rfl, MxL.nil _ _ _⟩)
          | false =>
            have her1 : er = 0 := by simpa using her0
            have hNx := Lib.hid (hNext.out her1)
            have hY := Lib.hid (hY8.out her1)
            have hEy : Hid (MEl wx w.heap.size W.heap.size y ⟨y0, z0, y1, z1, y2, z2⟩) := Lib.hid ⟨Or.inr (hay.base hbel.size), hay.bd hY.out⟩
            have hMx := Lib.hid (hM.out.to (by have := T.out.size; omega) SX.bel)
            subst her1
            clear hNext hBad hY8 her0 hay
            have hMrow := Lib.hid hMx.out.row
            go_wp2_with (at_builtin; refine push_own elMix rfl _ _ rfl W.heap.size _ ms.length (mxRow ms Q) hMrow.out rfl [.slice y0 y.base.length z0, .slice y1 y.next.length z1, .slice y2 y.held.length z2] rfl rfl rfl (by rw [hml.out]; omega) (by omega) hsX ?_)
            intro v' w6 hown6 hg6 hb6 hs6 _
            have hM6 := Lib.hid (hMx.out.snoc hEy.out (by omega) hsX hown6 hg6)
            have hb7 := Lib.hid (hbX.out.trans hb6)
            clear hown6 hg6 hb6 hs6
            go_wp2
            go_roundw
            case rel => exact ⟨k + 1, ms ++ [y], _, by go_num, hNx, hM6, hb7.out⟩
            case measure => simp [intOf]; omega
      · obtain rfl : k = l.length := by omega
        have hAns := Lib.hid (hR.out.fin hok.out)
        obtain ⟨AM, cM, rfl, -⟩ := hM.out.arr
        have hM7 := Lib.hid (hM.out.base (B' := w.heap.size) (by omega))
        replace hbel := Lib.hid hbel
        clear hlt
        go_wp2
        refine bodyPost_ret (v := .tuple #[.slice AM ms.length cM, .int .i64 l.length, .int .i64 0]) (by simp [results, Tryd.results19, go_sem]) rfl ?_
        exact Ret.mk (by rw [hAns.out.1, hAns.out.2.1, hAns.out.2.2]; exact ⟨T.out.bel, AM, cM, Q, rfl, hM7.out⟩)
  · obtain ⟨a1, a2, a3⟩ := run_bad l h0
    rw [a1, a2, a3]
    obtain ⟨er, her⟩ : ∃ er, mixE p m = er := ⟨_, rfl⟩
    rw [her] at HV h0 ⊢
    have hne : (er != 0) = true := by simpa using h0
    obtain ⟨qa0, qc0, qa1, qc1, qa2, qc2, qa3, qc3⟩ := q
    obtain ⟨ma0, mc0, ma1, mc1, ma2, mc2⟩ := qm
    dsimp only at HV hW S ⊢
    obtain ⟨⟨r1, f1, r10, r11, r12, -⟩, ⟨r2, f2, r20, r21, r22, r23, -⟩, -⟩ := S.facts
    have SW := Lib.hid S
    clear S hp hbd hm hmb her h0 a1 a2 a3 hL
    go_enter Tryd.func19, Tryd.ntmps19
    go_wp2_with fail
    clear hW
    with_reducible refine HV.out.mono ?_
    rintro e w1 ⟨rfl, hb1⟩
    have S1 := Lib.hid (SW.out.call hb1)
    clear r1 f1 r10 r11 r12 r2 f2 r20 r21 r22 r23 hb1
    go_wp2
    refine bodyPost_ret (v := .tuple #[.slice none 0 0, .int .i64 0, .int .i64 er]) (by simp [results, Tryd.results19, go_sem]) rfl ?_
    exact Ret.mk ⟨S1.out.bel, none, 0, _, rfl, MxL.nil _ _ _⟩
end Go.Proofs.YtfcimilimojfoaaDoor

namespace Go.Sv
open Go.RowKit
/-- the steps found so far: kinds up to k, of kind k + 1 indices below i, of index i versions below j -/
def stA (p : Prob) (k i j : Nat) : List Sp :=
  (List.range k).flatMap (fun (x : Nat) => oneL p ((x : Int) + 1)) ++ (List.range i).flatMap (fun (a : Nat) => (List.range 6).map fun (v : Nat) => (⟨(k : Int) + 1, a, v⟩ : Sp)) ++ (List.range j).map (fun (v : Nat) => (⟨(k : Int) + 1, i, v⟩ : Sp))
noncomputable def stF (p : Prob) (m : Mx) (k i j : Nat) : List Sp := (stA p k i j).filter (appB p m)
theorem stF_0 (p : Prob) (m : Mx) : stF p m 0 0 0 = [] := by unfold stF stA; rfl
theorem stF_step (p : Prob) (m : Mx) (k i j : Nat) : stF p m k i (j + 1) = stF p m k i j ++ (if appB p m ⟨(k : Int) + 1, i, j⟩ = true then [⟨(k : Int) + 1, i, j⟩] else []) := by
  unfold stF stA
  rw [List.range_succ (n := j), List.map_append, ← List.append_assoc, List.filter_append]
  congr 1
  simp only [List.map_cons, List.map_nil, List.filter_cons, List.filter_nil]
theorem stF_yes {p : Prob} {m : Mx} {k i j : Nat} (h : appE p m ⟨(k : Int) + 1, i, j⟩ = 0) : stF p m k i (j + 1) = stF p m k i j ++ [⟨(k : Int) + 1, i, j⟩] := by
  have e : appB p m ⟨(k : Int) + 1, i, j⟩ = true := decide_eq_true h
  rw [stF_step, e, if_pos rfl]
theorem stF_no {p : Prob} {m : Mx} {k i j : Nat} (h : appE p m ⟨(k : Int) + 1, i, j⟩ ≠ 0) : stF p m k i (j + 1) = stF p m k i j := by
  have e : appB p m ⟨(k : Int) + 1, i, j⟩ = false := decide_eq_false h
  rw [stF_step, e, if_neg (by decide), List.append_nil]
theorem stF_6 (p : Prob) (m : Mx) (k i : Nat) : stF p m k i 6 = stF p m k (i + 1) 0 := by
  unfold stF stA
  rw [List.range_succ (n := i), List.flatMap_append]
  simp [List.append_assoc]
theorem stF_k (p : Prob) (m : Mx) (k : Nat) : stF p m k (max p.vs.length p.tabs.length) 0 = stF p m (k + 1) 0 0 := by
  unfold stF stA
  rw [List.range_succ (n := k), List.flatMap_append]
  simp [oneL]
theorem stF_3 (p : Prob) (m : Mx) : stF p m 3 0 0 = (oneL p 1 ++ oneL p 2 ++ oneL p 3).filter (appB p m) := by
  unfold stF stA
  simp [List.range_succ, List.append_assoc]
theorem stF_len (p : Prob) (m : Mx) (k i j : Nat) : (stF p m k i j).length ≤ k * (max p.vs.length p.tabs.length * 6) + i * 6 + j := by
  refine Nat.le_trans (List.length_filter_le _ _) ?_
  unfold stA
  rw [List.length_append, List.length_append, List.length_map, List.length_range]
  have key : ∀ (α : Type) (f : Nat → List α) (c n : Nat), (∀ a, (f a).length = c) → ((List.range n).flatMap f).length = n * c := by
    intro α f c n h
    induction n with
    | zero => simp
    | succ n ih => rw [List.range_succ, List.flatMap_append, List.length_append, ih]; simp [h, Nat.add_mul]
  have k1 : ∀ x : Int, (oneL p x).length = max p.vs.length p.tabs.length * 6 := fun x => by
    unfold oneL
    exact key _ _ 6 _ (fun a => by simp)
  rw [key _ _ (max p.vs.length p.tabs.length * 6) k (fun a => k1 _), key _ _ 6 i (fun a => by simp)]
  omega
end Go.Sv
namespace Go.Proofs.YtfcimilimojfoaaDoor
open Go.RowKit Go.Sv
set_option maxHeartbeats 4000000 in
set_option maxRecDepth 100000 in
theorem rsteps_any (p : Prob) (q : ProbP) (m : Mx) (qm : MixP) (w : World) (hp : RProb w w.heap.size p q) (hbd : PBd p) (hm : RMix w w.heap.size m qm) (hmb : MBd m qm) (hok : MOk p m) :
    Calls Tryd.prog 16 #[probV p q, mixV m qm] w (Ret (OwnS w ((oneL p 1 ++ oneL p 2 ++ oneL p 3).filter (appB p m)))) := by
  obtain ⟨W, hW, S⟩ := pm_boxes p q m qm w
  have hsz : w.heap.size + 2 ≤ W.heap.size := by rw [← hW]; simp
  obtain ⟨hv6, ht12, -, -⟩ := prob_small hok.pr
  have HA := Lib.hid (fun (s : Sp) (W2 : World) (h : Below W.heap.size W W2) => rapply_run p q m qm s W2 ((hp.to S.bel).to h) hbd ((hm.to S.bel).to h) hmb hok)
  obtain ⟨N, hN⟩ : ∃ N : Nat, max p.vs.length p.tabs.length = N := ⟨_, rfl⟩
  have hN12 : N ≤ 12 := by rw [← hN]; exact Nat.max_le.2 ⟨by omega, ht12⟩
  have hNi : max (p.vs.length : Int) (p.tabs.length : Int) = (N : Int) := by rw [← hN]; omega
  have HK := Lib.hid (fun k => (stF_k p m k).symm.trans (by rw [hN]))
  have HL := Lib.hid (fun k i j => stF_len p m k i j)
  have H3 := Lib.hid (stF_3 p m)
  rw [hN] at HL
  replace hN := Lib.hid hN
  obtain ⟨qa0, qc0, qa1, qc1, qa2, qc2, qa3, qc3⟩ := q
  obtain ⟨ma0, mc0, ma1, mc1, ma2, mc2⟩ := qm
  dsimp only at HA hW S ⊢
  obtain ⟨⟨r1, f1, r10, r11, r12, -⟩, ⟨r2, f2, r20, r21, r22, r23, -⟩, -⟩ := S.facts
  have SW := Lib.hid S
  clear S hp hbd hm hmb hok
  go_enter Tryd.func16, Tryd.ntmps16
  go_wp2
  clear hW r1 f1 r10 r11 r12 r2 f2 r20 r21 r22 r23
  go_loopw [5, 6, 7, 8, 9, 10, 11] (fun v s6 _ _ _ _ _ wr => ∃ k : Nat, k ≤ 3 ∧ s6 = .int .i64 ((k : Int) + 1) ∧ LS W wr (stF p m k 0 0) v ∧ Below W.heap.size W wr) (fun _ s6 _ _ _ _ _ _ => 5 - (intOf s6).toNat)
  case atStart => exact ⟨0, by omega, rfl, by rw [stF_0]; exact World.ownsRow_nil _ _ _ _, Below.refl _ _⟩
  case round =>
    obtain ⟨k, hk, rfl, hown, hbel⟩ := hrel
    by_cases hlt : k < 3
    · have j0 : (k : Int) + 1 ≤ 3 := by omega
      replace hown := Lib.hid hown
      replace hbel := Lib.hid hbel
      go_wp2
      rename World => wo
      go_loopw [5, 7, 8, 9, 10, 11] (fun v s7 _ _ _ _ wr => ∃ i : Nat, i ≤ N ∧ s7 = .int .i64 (i : Int) ∧ LS W wr (stF p m k i 0) v ∧ Below W.heap.size W wr) (fun _ s7 _ _ _ _ _ => N - (intOf s7).toNat)
      case atStart => exact ⟨0, by omega, rfl, hown.out, hbel.out⟩
      case round =>
        clear hown hbel
        obtain ⟨i, hi, rfl, hown, hbel⟩ := hrel
        have T := Lib.hid (SW.out.call hbel)
        obtain ⟨⟨r1, f1, r10, r11, r12, -⟩, ⟨r2, f2, r20, r21, r22, r23, -⟩, -⟩ := T.out.facts
        by_cases hlt2 : i < N
        · have j1 : (i : Int) < (N : Int) := by omega
          replace hown := Lib.hid hown
          replace hbel := Lib.hid hbel
          go_wp2
          rename World => wi
          clear T r1 f1 r10 r11 r12 r2 f2 r20 r21 r22 r23
          go_loopw [5, 8, 9, 10, 11] (fun v s8 _ _ _ wr => ∃ j : Nat, j ≤ 6 ∧ s8 = .int .i64 (j : Int) ∧ LS W wr (stF p m k i j) v ∧ Below W.heap.size W wr) (fun _ s8 _ _ _ _ => 6 - (intOf s8).toNat)
          case atStart => exact ⟨0, by omega, rfl, hown.out, hbel.out⟩
          case round =>
            clear hown hbel
            obtain ⟨j, hj, rfl, hown, hbel⟩ := hrel
            by_cases hlt3 : j < 6
            · have j2 : (j : Int) < 6 := by omega
              have T := Lib.hid (SW.out.call hbel)
              obtain ⟨W3, (hW3 : wr.alloc (.cells #[.int .i64 ((k : Int) + 1), .int .i64 (i : Int), .int .i64 (j : Int)] 52) = W3), S3, hB3⟩ := fm_boxE T.out 52 [.int .i64 ((k : Int) + 1), .int .i64 (i : Int), .int .i64 (j : Int)]
              have hb3 := Lib.hid (hbel.trans (hB3.mono hbel.size))
              have ho3 := Lib.hid (own_to hown hB3)
              have hA := Lib.hid (HA.out ⟨(k : Int) + 1, i, j⟩ W3 hb3.out)
              have hY := Lib.hid (stF_yes (p := p) (m := m) (k := k) (i := i) (j := j))
              have hNo := Lib.hid (stF_no (p := p) (m := m) (k := k) (i := i) (j := j))
              have hLn := Lib.hid (HL.out k i j)
              obtain ⟨x, hx⟩ : ∃ x, apM p m ⟨(k : Int) + 1, i, j⟩ = x := ⟨_, rfl⟩
              obtain ⟨er, her⟩ : ∃ er, appE p m ⟨(k : Int) + 1, i, j⟩ = er := ⟨_, rfl⟩
              rw [hx, her] at hA
              rw [her] at hY hNo
              obtain ⟨L, hL⟩ : ∃ L, stF p m k i j = L := ⟨_, rfl⟩
              rw [hL] at ho3 hY hNo hLn
              dsimp only [probV, mixV, stepV] at hA
              obtain ⟨⟨u1, g1, u10, u11, u12, -⟩, ⟨r1, f1, r10, r11, r12, -⟩, ⟨r2, f2, r20, r21, r22, r23, -⟩, -⟩ := S3.facts
              replace S3 := Lib.hid S3
              clear hown hbel hB3 T hx her hL
              go_wp2_with fail
              clear hW3
              with_reducible refine hA.out.mono ?_
              rintro e' w4 ⟨_, rfl, hb4, ⟨y0, z0, y1, z1, y2, z2⟩, rfl, hay⟩
              clear u1 g1 u10 u11 u12 r1 f1 r10 r11 r12 r2 f2 r20 r21 r22 r23 hA hay
              obtain ⟨W5, (hW5 : w4.alloc (.cells #[.slice y0 x.base.length z0, .slice y1 x.next.length z1, .slice y2 x.held.length z2] 36) = W5), S5, hB5⟩ := fm_boxE (S3.out.call hb4) 36 [.slice y0 x.base.length z0, .slice y1 x.next.length z1, .slice y2 x.held.length z2]
              have hb5 := Lib.hid ((hb3.out.trans (hb4.mono hb3.out.size)).trans (hB5.mono (Nat.le_trans hb3.out.size hb4.size)))
              have ho5 := Lib.hid (own_to (own_to ho3.out hb4) hB5)
              have hBs : W.heap.size ≤ W5.heap.size := hb5.out.size
              obtain ⟨-, ⟨u1, g1, u10, u11, u12, -⟩, -⟩ := S5.facts
              replace S5 := Lib.hid S5
              clear ho3 hb3 hb4 hB5 S3
              cases h0 : (er == 0) with
              | true =>
                have hSn := Lib.hid (hY.out (by simpa using h0))
                clear hY hNo
                go_wp2_with (at_builtin; refine push_own elStep rfl _ _ rfl W.heap.size _ L.length (spRow L) ho5.out rfl [.int .i64 ((k : Int) + 1), .int .i64 i, .int .i64 j] rfl rfl rfl (by have := hLn.out; have : k * (N * 6) ≤ 3 * (12 * 6) := Nat.mul_le_mul (by omega) (Nat.mul_le_mul hN12 (Nat.le_refl 6)); omega) (by omega) hBs ?_)
                intro v' w6 hown6 hgr hb6 hs6 _
                have hO6 := Lib.hid (ls_next (s := ⟨(k : Int) + 1, i, j⟩) hown6 hSn.out)
                have hb7 := Lib.hid (hb5.out.trans hb6)
                clear hown6 hgr hb6 hs6 u1 g1 u10 u11 u12 hW5
                go_wp2
                go_roundw
                case rel => exact ⟨j + 1, by omega, by go_num, hO6.out, hb7.out⟩
                case measure => simp [intOf]; omega
              | false =>
                have hSn := Lib.hid (hNo.out (by simpa using h0))
                have hO6 : Hid (LS W W5 (stF p m k i (j + 1)) _) := Lib.hid (by rw [hSn.out]; exact ho5.out)
                clear hY hNo
                go_wp2
                go_roundw
                case rel => exact ⟨j + 1, by omega, by go_num, hO6.out, hb5.out⟩
                case measure => simp [intOf]; omega
            · obtain rfl : j = 6 := by omega
              have hO := Lib.hid ((stF_6 p m k i) ▸ hown)
              replace hbel := Lib.hid hbel
              clear hown
              go_wp2
              go_roundw
              case rel => exact ⟨i + 1, by omega, by go_num, hO.out, hbel.out⟩
              case measure => simp [intOf]; omega
        · obtain rfl : i = N := by omega
          have hO := Lib.hid ((HK.out k) ▸ hown)
          replace hbel := Lib.hid hbel
          clear hown hlt2
          go_wp2
          go_roundw
          case rel => exact ⟨k + 1, by omega, by go_num, hO.out, hbel.out⟩
          case measure => simp [intOf]; omega
    · obtain rfl : k = 3 := by omega
      have T := Lib.hid (SW.out.call hbel)
      have hR := Lib.hid (OwnS.of (w := w) (own_base (H3.out ▸ hown) SW.out.size) T.out.bel)
      clear hown hlt hbel
      go_wp2
      go_ret
      exact Ret.mk hR.out
end Go.Proofs.YtfcimilimojfoaaDoor

namespace Go.Proofs.YtfcimilimojfoaaDoor
open Go.RowKit Go.Sv
set_option maxHeartbeats 4000000 in
set_option maxRecDepth 100000 in
theorem rDirect_any (p : Prob) (q : ProbP) (m : Mx) (qm : MixP) (A : Option Addr) (c : Nat) (tg : List Int) (w : World) (hp : RProb w w.heap.size p q) (hbd : PBd p) (hm : RMix w w.heap.size m qm) (hmb : MBd m qm) (ht : Arr w w.heap.size A tg.length (iv tg)) (htl : tg.length ≤ 1000000) :
    Calls Tryd.prog 27 #[probV p q, mixV m qm, .slice A tg.length c] w (Ret (StR w (diL p m tg) (diE p m tg))) := by
  obtain ⟨W, hW, S⟩ := pm_boxes p q m qm w
  have HV := Lib.hid (rvalidM_any p q m qm W (hp.to S.bel) hbd (hm.to S.bel) hmb)
  have hsz : w.heap.size + 2 ≤ W.heap.size := by rw [← hW]; simp
  have hbd0 := hbd.b0
  by_cases h0 : mixE p m = 0
  · have hok := mixE_ok.1 h0
    have hps := prob_small hok.pr
    have hln := Lib.hid hok.ln
    have hlb := Lib.hid hok.lb
    have hp1 := Lib.hid (fun W2 (h : Below W.heap.size W W2) => ((hp.to S.bel).to h).r0)
    have hm1 := Lib.hid (fun W2 (h : Below W.heap.size W W2) => (hm.to S.bel).to h)
    have ht1 := Lib.hid (fun W2 (h : Below W.heap.size W W2) => ht.below (S.bel.trans (h.mono S.size)))
    rw [h0] at HV
    have hD6 := Lib.hid (fun h => di_6 (tg := tg) h0 h)
    have hD7 := Lib.hid (fun h h3 => di_7 (tg := tg) h0 h h3)
    have hD11 := Lib.hid (fun h h3 h4 => di_11 (tg := tg) h0 h h3 h4)
    have hD0 := Lib.hid (fun h h3 h4 => di_0 (tg := tg) h0 h h3 h4)
    obtain ⟨qa0, qc0, qa1, qc1, qa2, qc2, qa3, qc3⟩ := q
    obtain ⟨ma0, mc0, ma1, mc1, ma2, mc2⟩ := qm
    dsimp only at HV hW S ⊢
    obtain ⟨⟨r1, f1, r10, r11, r12, -⟩, ⟨r2, f2, r20, r21, r22, r23, -⟩, -⟩ := S.facts
    have SW := Lib.hid S
    have hv6 := hps.1
    clear S hp hbd hm hmb h0 ht hps hok
    go_enter Tryd.func27, Tryd.ntmps27
    go_wp2_with fail
    clear hW
    with_reducible refine HV.out.mono ?_
    rintro e w1 ⟨rfl, hb1⟩
    clear r1 f1 r10 r11 r12 r2 f2 r20 r21 r22 r23
    have S1 := Lib.hid (SW.out.call hb1)
    replace hb1 := Lib.hid hb1
    obtain ⟨⟨r1, f1, r10, r11, r12, -⟩, ⟨r2, f2, r20, r21, r22, r23, -⟩, -⟩ := S1.out.facts
    cases hle : ((tg.length : Int) != (p.vs.length : Int)) with
    | true =>
      have hAns := Lib.hid (hD6.out (fun h => by rw [h] at hle; simp at hle))
      go_wp2
      refine bodyPost_ret (v := .tuple #[.slice none 0 0, .int .i64 6]) (by simp [results, Tryd.results27, go_sem]) rfl ?_
      exact Ret.mk (by rw [hAns.out.1, hAns.out.2]; exact ⟨S1.out.bel, none, 0, rfl, World.ownsRow_nil _ _ _ _⟩)
    | false =>
      have hle' : tg.length = p.vs.length := by
        have : (tg.length : Int) = (p.vs.length : Int) := by simpa using hle
        omega
      have hl6 : tg.length ≤ 6 := by omega
      replace hle' := Lib.hid hle'
      have hp2 := Lib.hid (hp1.out w1 hb1.out)
      have ht2 := Lib.hid (ht1.out w1 hb1.out)
      have hm2 := Lib.hid (hm1.out w1 hb1.out)
      go_wp2
      clear r1 f1 r10 r11 r12 r2 f2 r20 r21 r22 r23
      go_loopw [9] (fun s28 wr => ∃ k : Nat, s28 = .int .i64 k ∧ k ≤ tg.length ∧ (∀ j, j < k → tgB p tg j = false) ∧ Drawn w1 wr) (fun s28 _ => tg.length - (intOf s28).toNat)
      case atStart => exact ⟨0, rfl, Nat.zero_le _, fun j hj => by omega, Drawn.refl _⟩
      case round =>
        obtain ⟨k, rfl, hk, hall, hdr⟩ := hrel
        replace hall := Lib.hid hall
        have T := Lib.hid (S1.out.call hdr.below)
        obtain ⟨⟨r1, f1, r10, r11, r12, -⟩, ⟨r2, f2, r20, r21, r22, r23, -⟩, -⟩ := T.out.facts
        by_cases hlt : k < tg.length
        · obtain ⟨b, o, rfl, -, hc⟩ := ht2.out (by omega)
          have d := (hdr.cell _).trans (hc k hlt)
          obtain ⟨b2, o2, e2, -, hc2⟩ := hp2.out (by rw [← hle'.out]; omega)
          have d2 := (hdr.cell _).trans (hc2 k (by rw [← hle'.out]; omega))
          (try dsimp only at e2)
          subst e2
          unfold iv at d d2
          obtain ⟨v, hv⟩ : ∃ v, gi tg k = v := ⟨_, rfl⟩
          obtain ⟨n, hn⟩ : ∃ n, gi p.vs k = n := ⟨_, rfl⟩
          rw [hv] at d
          rw [hn] at d2
          have jk : (k : Int) < (tg.length : Int) := by omega
          have jp : (k : Int) < (p.vs.length : Int) := by rw [← hle'.out]; omega
          have hyes : Hid (v < 0 ∨ n ≤ v → diE p m tg = 7 ∧ diL p m tg = []) := Lib.hid fun h => hD7.out hle'.out (anyB_yes hlt (by unfold tgB; rw [hv, hn]; exact decide_eq_true h))
          have hno : Hid (¬ (v < 0 ∨ n ≤ v) → ∀ j, j < k + 1 → tgB p tg j = false) := Lib.hid fun h j hj => by
            rcases Nat.lt_succ_iff_lt_or_eq.1 hj with h' | h'
            · exact hall.out j h'
            · rw [h']; unfold tgB; rw [hv, hn]; exact decide_eq_false h
          replace hv := Lib.hid hv
          replace hn := Lib.hid hn
          replace hdr := Lib.hid hdr
          clear hc hc2
          cases g1 : decide (v < 0) with
          | true =>
            have hAns := Lib.hid (hyes.out (Or.inl (of_decide_eq_true g1)))
            go_wp2_with fail
            go_quiet (fail)
            go_wp2
            refine bodyPost_ret (v := .tuple #[.slice none 0 0, .int .i64 7]) (by simp [results, Tryd.results27, go_sem]) rfl ?_
            exact Ret.mk (by rw [hAns.out.1, hAns.out.2]; exact ⟨T.out.bel.drawn ((Drawn.refl _).drewN _), none, 0, rfl, World.ownsRow_nil _ _ _ _⟩)
          | false =>
            cases g2 : decide (n ≤ v) with
            | true =>
              have hAns := Lib.hid (hyes.out (Or.inr (of_decide_eq_true g2)))
              go_wp2_with fail
              go_quiet (fail)
              go_wp2
              refine bodyPost_ret (v := .tuple #[.slice none 0 0, .int .i64 7]) (by simp [results, Tryd.results27, go_sem]) rfl ?_
              exact Ret.mk (by rw [hAns.out.1, hAns.out.2]; exact ⟨T.out.bel.drawn ((Drawn.refl _).drewN _), none, 0, rfl, World.ownsRow_nil _ _ _ _⟩)
            | false =>
              have hn2 := Lib.hid (hno.out (not_or.2 ⟨of_decide_eq_false g1, of_decide_eq_false g2⟩))
              go_wp2_with fail
              go_quiet (fail)
              go_wp2
              go_roundw
              case rel => exact ⟨k + 1, by go_num, by omega, hn2.out, hdr.out.drewN _⟩
              case measure => simp [intOf]; omega
        · obtain rfl : k = tg.length := by omega
          have h7 := Lib.hid (anyB_no hall.out)
          clear hlt
          rename World => wq
          have hsz1 : W.heap.size ≤ w1.heap.size := hb1.out.size
          have hbq := Lib.hid (hdr.below (B := w1.heap.size))
          go_wp2
          clear r1 f1 r10 r11 r12 r2 f2 r20 r21 r22 r23
          go_loopw [10, 11] (fun s11 s50 wr => ∃ k : Nat, s50 = .int .i64 k ∧ k ≤ tg.length ∧ (∀ j, j < k → (fun i => decide (0 ≤ gi m.next i)) j = false) ∧ LS w1 wr (dirP m tg k) s11 ∧ Below w1.heap.size w1 wr) (fun _ s50 _ => tg.length - (intOf s50).toNat)
          case atStart => exact ⟨0, rfl, Nat.zero_le _, fun j hj => by omega, World.ownsRow_nil _ _ _ _, hbq.out⟩
          case round =>
            clear T
            obtain ⟨k, rfl, hk, hnx, hown, hbel⟩ := hrel
            have T := Lib.hid (S1.out.call hbel)
            obtain ⟨⟨r1, f1, r10, r11, r12, -⟩, ⟨r2, f2, r20, r21, r22, r23, -⟩, -⟩ := T.out.facts
            have hbs := hbel.size
            by_cases hlt : k < tg.length
            · obtain ⟨b, o, rfl, hbb, hc⟩ := ht2.out (by omega)
              have d := (hbel.cell (p := ⟨b, o + k, none⟩) (by have := S1.out.size; show b < _; omega)).trans (hc k hlt)
              obtain ⟨b2, o2, e2, hb2, hc2⟩ := hm2.out.r0 (by rw [hlb.out, ← hle'.out]; omega)
              have d2 := (hbel.cell (p := ⟨b2, o2 + k, none⟩) hb2).trans (hc2 k (by rw [hlb.out, ← hle'.out]; omega))
              obtain ⟨b3, o3, e3, hb3, hc3⟩ := hm2.out.r1 (by rw [hln.out, ← hle'.out]; omega)
              have d3 := (hbel.cell (p := ⟨b3, o3 + k, none⟩) hb3).trans (hc3 k (by rw [hln.out, ← hle'.out]; omega))
              (try dsimp only at e2)
              subst e2
              (try dsimp only at e3)
              subst e3
              unfold iv at d d2 d3
              have jk : (k : Int) < (tg.length : Int) := by omega
              have jp : (k : Int) < (m.base.length : Int) := by rw [hlb.out, ← hle'.out]; omega
              have jq : (k : Int) < (m.next.length : Int) := by rw [hln.out, ← hle'.out]; omega
              have hO := Lib.hid hown
              have hSn : Hid (dirP m tg (k + 1) = dirP m tg k ++ (if gi m.base k = gi tg k then [] else [⟨1, k, gi tg k⟩, ⟨2, k, 0⟩])) := Lib.hid rfl
              have hLn := Lib.hid (dirP_len m tg k)
              have hst : Hid (0 ≤ gi m.next k → anyB (fun i => decide (0 ≤ gi m.next i)) m.next.length = true) := Lib.hid fun h => anyB_yes (i := k) (by omega) (decide_eq_true h)
              have hgo : Hid (¬ 0 ≤ gi m.next k → ∀ j, j < k + 1 → (fun i => decide (0 ≤ gi m.next i)) j = false) := Lib.hid fun h j hj => by
                rcases Nat.lt_succ_iff_lt_or_eq.1 hj with h' | h'
                · exact hnx j h'
                · rw [h']; exact decide_eq_false h
              replace hbel := Lib.hid hbel
              clear hc hc2 hc3 hown hnx
              obtain ⟨v, hv⟩ : ∃ v, gi tg k = v := ⟨_, rfl⟩
              obtain ⟨n, hn⟩ : ∃ n, gi m.base k = n := ⟨_, rfl⟩
              obtain ⟨x, hx⟩ : ∃ x, gi m.next k = x := ⟨_, rfl⟩
              rw [hv] at d hSn
              rw [hn] at d2 hSn
              rw [hx] at d3 hst hgo
              replace hv := Lib.hid hv
              replace hn := Lib.hid hn
              replace hx := Lib.hid hx
              cases g3 : decide (0 ≤ x) with
              | true =>
                have hAns := Lib.hid (hD11.out hle'.out h7.out (hst.out (of_decide_eq_true g3)))
                go_wp2
                refine bodyPost_ret (v := .tuple #[.slice none 0 0, .int .i64 11]) (by simp [results, Tryd.results27, go_sem]) rfl ?_
                exact Ret.mk (by rw [hAns.out.1, hAns.out.2]; exact ⟨T.out.bel, none, 0, rfl, World.ownsRow_nil _ _ _ _⟩)
              | false =>
                have hnx2 := Lib.hid (hgo.out (of_decide_eq_false g3))
                cases g1 : (n != v) with
                | true =>
                  have hS2 := Lib.hid (hSn.out.trans (by rw [if_neg (by simpa using g1)]))
                  clear hSn
                  go_wp2_with fail
                  refine wp_region_quiet_lit (by kernel_rfl) (by kernel_rfl) ?_
                  repeat (go_big_quiet_step (fail))
                  refine wpQuiet_nil ?_
                  intro w5 hw5
                  have hd5 : Drawn wr w5 := hw5
                  clear hw5
                  have e := (hd5.cell _).trans d
                  have hO5 := Lib.hid (own_to hO.out hd5.below)
                  have hbs5 : w1.heap.size ≤ w5.heap.size := Nat.le_trans hbs (hd5.below (B := 0)).size
                  have hbel5 := Lib.hid (hbel.out.drawn hd5)
                  have hbb5 := Lib.hid hbb
                  clear r1 f1 r10 r11 r12 r2 f2 r20 r21 r22 r23 d d2 d3 hO
                  go_wp2_with (at_builtin; refine push2_own elStep rfl _ _ rfl w1.heap.size _ (dirP m tg k).length (spRow (dirP m tg k)) hO5.out rfl [.int .i64 1, .int .i64 k, .int .i64 v, .int .i64 2, .int .i64 k, .int .i64 0] rfl rfl rfl (by have := hLn.out; omega) (by omega) hbs5 ?_)
                  intro v' w3 hown3 hgr hb3
                  have hO3 := Lib.hid (ls2_next (s := ⟨1, k, v⟩) (t := ⟨2, k, 0⟩) hown3 hS2.out)
                  have hb4 := Lib.hid (hbel5.out.trans hb3)
                  clear hown3 hgr hb3
                  go_wp2
                  go_roundw
                  case rel => exact ⟨k + 1, by go_num, by omega, hnx2.out, hO3.out, hb4.out⟩
                  case measure => simp [intOf]; omega
                | false =>
                  have hS2 := hSn.out.trans (by rw [if_pos (by simpa using g1), List.append_nil])
                  have hO3 : Hid (LS w1 wr (dirP m tg (k + 1)) _) := Lib.hid (by rw [hS2]; exact hO.out)
                  clear hSn hS2
                  go_wp2_with fail
                  go_quiet (fail)
                  go_wp2
                  go_roundw
                  case rel => exact ⟨k + 1, by go_num, by omega, hnx2.out, own_to hO3.out ((Drawn.refl _).drewN _).below, hbel.out.drawn ((Drawn.refl _).drewN _)⟩
                  case measure => simp [intOf]; omega
            · obtain rfl : k = tg.length := by omega
              have h11 := Lib.hid (anyB_no (f := fun i => decide (0 ≤ gi m.next i)) (n := m.next.length) (by rw [hln.out, ← hle'.out]; exact hnx))
              have hAns := Lib.hid (hD0.out hle'.out h7.out h11.out)
              have hR : OwnS w1 (dirL m 0 tg) _ wr := OwnS.of (by rw [← dirP_dirL]; exact hown) hbel
              obtain ⟨-, A', c', rfl, ho'⟩ := hR
              replace ho' := Lib.hid (own_base ho' S1.out.size)
              clear hlt hown hbel hnx
              go_wp2
              refine bodyPost_ret (v := .tuple #[.slice A' (dirL m 0 tg).length c', .int .i64 0]) (by simp [results, Tryd.results27, go_sem]) rfl ?_
              exact Ret.mk (by rw [hAns.out.1, hAns.out.2]; exact ⟨T.out.bel, A', c', rfl, ho'.out⟩)
  · obtain ⟨a1, a2⟩ := di_m (tg := tg) h0
    rw [a1, a2]
    obtain ⟨er, her⟩ : ∃ er, mixE p m = er := ⟨_, rfl⟩
    rw [her] at HV h0 ⊢
    have hne : (er != 0) = true := by simpa using h0
    obtain ⟨qa0, qc0, qa1, qc1, qa2, qc2, qa3, qc3⟩ := q
    obtain ⟨ma0, mc0, ma1, mc1, ma2, mc2⟩ := qm
    dsimp only at HV hW S ⊢
    obtain ⟨⟨r1, f1, r10, r11, r12, -⟩, ⟨r2, f2, r20, r21, r22, r23, -⟩, -⟩ := S.facts
    have SW := Lib.hid S
    clear S hp hbd hm hmb her h0 a1 a2 ht
    go_enter Tryd.func27, Tryd.ntmps27
    go_wp2_with fail
    clear hW
    with_reducible refine HV.out.mono ?_
    rintro e w1 ⟨rfl, hb1⟩
    have S1 := Lib.hid (SW.out.call hb1)
    clear r1 f1 r10 r11 r12 r2 f2 r20 r21 r22 r23 hb1
    go_wp2
    refine bodyPost_ret (v := .tuple #[.slice none 0 0, .int .i64 er]) (by simp [results, Tryd.results27, go_sem]) rfl ?_
    exact Ret.mk ⟨S1.out.bel, none, 0, rfl, World.ownsRow_nil _ _ _ _⟩
end Go.Proofs.YtfcimilimojfoaaDoor

namespace Go.Sv
open Go.RowKit
theorem lastM_at (m : Mx) (o : List Mx) : lastM m o = mxAt (m :: o) o.length := by
  unfold lastM mxAt
  cases o with
  | nil => rfl
  | cons a t => simp [List.getLastD, List.getLast_eq_getElem]
structure DirF (p : Prob) (m : Mx) (tg : List Int) : Prop where
  e : rnE p m (diL p m tg) = 0
  n : rnN p m (diL p m tg) = (diL p m tg).length
  l : (rnL p m (diL p m tg)).length = (diL p m tg).length + 1
  b : (mxAt (rnL p m (diL p m tg)) (diL p m tg).length).base = tg
  x : ∀ j, j < p.vs.length → gi (mxAt (rnL p m (diL p m tg)) (diL p m tg).length).next j = -1
  xl : (mxAt (rnL p m (diL p m tg)) (diL p m tg).length).next.length = p.vs.length
theorem dir_run {p : Prob} {m : Mx} {tg : List Int} (h : MOk p m) (hd : diE p m tg = 0) : DirF p m tg := by
  have h0 := mixE_ok.2 h
  have h1 : tg.length = p.vs.length := by
    by_cases c : tg.length = p.vs.length
    · exact c
    · rw [(di_6 h0 c).1] at hd; cases hd
  have h2 : anyB (tgB p tg) tg.length = false := by
    cases c : anyB (tgB p tg) tg.length with
    | false => rfl
    | true => rw [(di_7 h0 h1 c).1] at hd; cases hd
  have h3 : anyB (fun i => decide (0 ≤ gi m.next i)) m.next.length = false := by
    cases c : anyB (fun i => decide (0 ≤ gi m.next i)) m.next.length with
    | false => rfl
    | true => rw [(di_11 h0 h1 h2 c).1] at hd; cases hd
  have hD := (di_0 h0 h1 h2 h3).2
  obtain ⟨o, ho, hok, hb, hn⟩ := dir_leads h1 (fun i hi => by
    have := anyB_all h2 i (by omega)
    unfold tgB at this
    have := of_decide_eq_false this
    omega) tg 0 m 0 h (by simp) (by omega) (fun j hj => by
    have a := of_decide_eq_false (anyB_all h3 j (by rw [h.ln]; exact hj))
    have b := h.sv j hj
    omega) (fun j hj => by omega) (fun j hj => rfl)
  have hlen := goes_len _ _ _ _ ho
  have eL : rnL p m (diL p m tg) = m :: o := by unfold rnL; rw [if_pos h0, hD, ho]
  have eN : rnN p m (diL p m tg) = (diL p m tg).length := by unfold rnN; rw [if_pos h0, hD, ho]
  have eE : rnE p m (diL p m tg) = 0 := by unfold rnE; rw [if_pos h0, hD, ho]
  have e : lastM m o = mxAt (m :: o) (diL p m tg).length := by rw [lastM_at, hD, hlen]
  refine ⟨eE, eN, by rw [eL, hD, List.length_cons, hlen], ?_, ?_, ?_⟩
  · rw [eL, ← e]; exact hb
  · rw [eL, ← e]; exact hn
  · rw [eL, ← e]; exact hok.ln
end Go.Sv

namespace Go.Sv
open Go.RowKit
theorem goes_mok {p : Prob} : ∀ (l : List Sp) (m : Mx) (i : Nat) (o : List Mx), MOk p m → goes p m l i = .ok o → ∀ x, x ∈ o → MOk p x
  | [], m, i, o, _, h, x, hx => by
    unfold goes at h
    injection h with h
    subst h
    cases hx
  | s :: r, m, i, o, hm, h, x, hx => by
    by_cases ha : appE p m s = 0
    · rw [goes_step ha] at h
      cases hg : goes p (apM p m s) r (i + 1) with
      | error e => rw [hg] at h; cases h
      | ok o' =>
        rw [hg] at h
        have h : Except.ok ([apM p m s] ++ o') = Except.ok o := h
        injection h with h
        subst h
        have hx : x ∈ apM p m s :: o' := hx
        rcases List.mem_cons.1 hx with e | e
        · subst e; exact apM_mok hm ha
        · exact goes_mok r _ _ _ (apM_mok hm ha) hg x e
    · rw [goes_stop ha] at h; cases h
theorem rnL_mok {p : Prob} {m : Mx} (l : List Sp) : ∀ x, x ∈ rnL p m l → MOk p x := by
  intro x hx
  unfold rnL at hx
  split at hx
  · rename_i h0
    have hm := mixE_ok.1 h0
    split at hx
    · rename_i o ho
      rcases List.mem_cons.1 hx with e | e
      · subst e; exact hm
      · exact goes_mok l m 0 o hm ho x e
    · cases hx
  · cases hx
theorem rnL_len (p : Prob) (m : Mx) (l : List Sp) : (rnL p m l).length ≤ l.length + 1 := by
  unfold rnL
  split
  · split
    · rename_i o ho
      have := goes_len l m 0 o ho
      rw [List.length_cons]
      omega
    · simp
  · simp
theorem mxAt_mem {l : List Mx} {k : Nat} (h : k < l.length) : mxAt l k ∈ l := by
  have : mxAt l k = l[k] := by simp [mxAt, h]
  rw [this]
  exact List.getElem_mem h
end Go.Sv
namespace Go.Proofs.YtfcimilimojfoaaDoor
open Go.RowKit Go.Sv
/-- steps that the law's calls own -/
structure SpO (w : World) (B : Nat) (A : Option Addr) (c : Nat) (l : List Sp) : Prop where
  row : w.ownsRow B 52 3 (.slice A l.length c) l.length (spRow l)
theorem SpO.to {w w' : World} {B : Nat} {A : Option Addr} {c : Nat} {l : List Sp} (h : SpO w B A c l) (hb : Below w.heap.size w w') : SpO w' B A c l := ⟨own_to h.row hb⟩
theorem SpO.arr {w : World} {B : Nat} {A : Option Addr} {c : Nat} {l : List Sp} (h : SpO w B A c l) : ArrN w w.heap.size 3 A l.length (spF l) := by
  obtain ⟨A', c', hv, _, _, ha⟩ := own_arrN (f := spF l) h.row (fun k hk i hi => spRow_get hk hi)
  injection hv with h1
  rw [h1]
  exact ha
/-- steps, integers, mixes that are there -/
structure SpR (w : World) (A : Option Addr) (l : List Sp) : Prop where
  arr : ArrN w w.heap.size 3 A l.length (spF l)
theorem SpR.to {w w' : World} {A : Option Addr} {l : List Sp} (h : SpR w A l) (hb : Below w.heap.size w w') : SpR w' A l := ⟨(h.arr.below hb).more hb.size⟩
structure InR (w : World) (A : Option Addr) (l : List Int) : Prop where
  arr : Arr w w.heap.size A l.length (iv l)
theorem InR.to {w w' : World} {A : Option Addr} {l : List Int} (h : InR w A l) (hb : Below w.heap.size w w') : InR w' A l := ⟨(h.arr.below hb).more hb.size⟩
structure MxO (W : World) (A : Nat) (ms : List Mx) (Q : Nat → MixP) (v : Value) : Prop where
  le : A ≤ W.heap.size
  l : MxL W A A ms Q v
theorem MxO.to {W W' : World} {A : Nat} {ms : List Mx} {Q : Nat → MixP} {v : Value} (h : MxO W A ms Q v) (hb : Below W.heap.size W W') : MxO W' A ms Q v := ⟨Nat.le_trans h.le hb.size, h.l.to h.le hb⟩
theorem MxO.of {W w : World} {ms : List Mx} {Q : Nat → MixP} {v : Value} (hb : Below w.heap.size w W) (h : MxL W w.heap.size w.heap.size ms Q v) : MxO W w.heap.size ms Q v := ⟨hb.size, h⟩
theorem MxO.arr {W : World} {A : Nat} {ms : List Mx} {Q : Nat → MixP} {a : Option Addr} {c : Nat} (h : MxO W A ms Q (.slice a ms.length c)) : ArrN W W.heap.size 3 a ms.length (mxF ms Q) := by
  obtain ⟨A', c', hv, ha⟩ := h.l.arr
  injection hv with h1
  rw [h1]
  exact ha
theorem MxO.mix {W : World} {A : Nat} {ms : List Mx} {Q : Nat → MixP} {v : Value} (h : MxO W A ms Q v) {k : Nat} (hk : k < ms.length) : RMix W W.heap.size (mxAt ms k) (Q k) := (h.l.el k hk).mix h.le
theorem MxO.bd {W : World} {A : Nat} {ms : List Mx} {Q : Nat → MixP} {v : Value} (h : MxO W A ms Q v) {k : Nat} (hk : k < ms.length) : MBd (mxAt ms k) (Q k) := (h.l.el k hk).2
/-- Same at the answers of both runs -/
theorem rsameR {p : Prob} {m : Mx} {l : List Sp} {W : World} {A B : Nat} {Q R : Nat → MixP} {a b : Option Addr} {c d : Nat} (hl : l.length ≤ 1000) (hx : MxO W A (rnL p m l) Q (.slice a (rnL p m l).length c)) (hy : MxO W B (rnL p m l) R (.slice b (rnL p m l).length d)) :
    Calls Tryd.prog 20 #[.slice a (rnL p m l).length c, .slice b (rnL p m l).length d] W fun e w' => e = .returned (.bool true) ∧ Below W.heap.size W w' :=
  rsameM_any (rnL p m l) Q R a b c d W hx.arr hy.arr (fun k hk => ⟨hx.mix hk, hy.mix hk, msm_of (rnL_mok l _ (mxAt_mem hk)) (hx.bd hk).h8⟩) (by have := rnL_len p m l; omega)
theorem rsteps_en (p : Prob) (q : ProbP) (m : Mx) (qm : MixP) (w : World) (hp : RProb w w.heap.size p q) (hm : RMix w w.heap.size m qm) (hmb : MBd m qm) (h : CasF p m) :
    Calls Tryd.prog 16 #[probV p q, mixV m qm] w (Ret (OwnS w (enL p m))) := by
  have := rsteps_any p q m qm w hp h.bd hm hmb h.ok
  rw [steps_eq h.pr] at this
  unfold enL
  rw [if_pos h.e0]
  exact this
theorem enL_len {p : Prob} {m : Mx} (h : CasF p m) : (enL p m).length ≤ 100 := by
  unfold enL
  rw [if_pos h.e0]
  exact Nat.le_trans (List.length_filter_le _ _) (allL_len h.pr)
theorem diL_len (p : Prob) (m : Mx) (tg : List Int) : (diL p m tg).length ≤ 2 * tg.length := by
  unfold diL
  split
  · rw [← dirP_dirL]; exact dirP_len m tg _
  · simp
set_option maxHeartbeats 2000000 in
set_option maxRecDepth 100000 in
theorem eqI_any (A C : Option Addr) (c d : Nat) (l : List Int) (w : World) (ha : Arr w w.heap.size A l.length (iv l)) (hc : Arr w w.heap.size C l.length (iv l)) (hl : l.length ≤ 1000000) :
    Calls Tryd.prog 28 #[.slice A l.length c, .slice C l.length d] w fun e w' => e = .returned (.bool true) ∧ Below w.heap.size w w' := by
  go_enter Tryd.func28, Tryd.ntmps28
  go_wp2
  go_loopw [5, 13] (fun _ i wr => ∃ k : Nat, k ≤ l.length ∧ i = .int .i64 k ∧ Drawn w wr) (fun _ i _ => l.length - (intOf i).toNat)
  case atStart => exact ⟨0, Nat.zero_le _, rfl, Drawn.refl _⟩
  case round =>
    obtain ⟨k, hk, rfl, hdr⟩ := hrel
    by_cases hlt : k < l.length
    · obtain ⟨b, off, rfl, hb, hcl⟩ := ha (by omega)
      obtain ⟨b2, off2, rfl, hb2, hcm⟩ := hc (by omega)
      have c0 := (hdr.cell _).trans (hcl k hlt)
      have d0 := (hdr.cell _).trans (hcm k hlt)
      unfold iv at c0 d0
      have jk : (k : Int) < (l.length : Int) := by omega
      obtain ⟨x, hx⟩ : ∃ x, gi l k = x := ⟨_, rfl⟩
      rw [hx] at c0 d0
      replace hdr := Lib.hid hdr
      replace ha := Lib.hid ha
      replace hc := Lib.hid hc
      clear hcl hcm hx
      go_wp2_with fail
      go_quiet (fail)
      go_wp2
      go_roundw
      case rel => exact ⟨k + 1, by omega, by go_num, hdr.out.drewN _⟩
      case measure => simp [intOf]; omega
    · obtain rfl : k = l.length := by omega
      replace ha := Lib.hid ha
      replace hc := Lib.hid hc
      go_wp2
      go_ret
      exact ⟨rfl, hdr.below⟩
end Go.Proofs.YtfcimilimojfoaaDoor
