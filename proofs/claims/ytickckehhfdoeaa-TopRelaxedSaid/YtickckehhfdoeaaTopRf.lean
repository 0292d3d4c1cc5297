/-
  CONTRACT of sheaveref40.Region: it ends.
  Conditions: those that each theorem names.
-/
import Derived.Test.YtickckehhfdoeaaTr1
namespace Go.Proofs.Ytickckehhfdoeaa
open Go.RowKit Go.Sv
theorem msm_of {p : Prob} {m : Mx} (h : MOk p m) (h8 : H8 m) : MSm m := by
  have := mok_sm h
  exact ⟨by omega, by omega, by omega, h8⟩
/-- a list and a flag -/
def RgR (w : World) (v : Value) (w' : World) : Prop := Below w.heap.size w w' ∧ ∃ A n c b, v = .tuple #[.slice A n c, .bool b]
/-- what the two lists obey -/
structure TwoL (p : Prob) (w : World) (B : Nat) (bs : List Bx) (W0 W : World) (ms : List Mx) (Q : Nat → MixP) (ss : List Mx) (R : Nat → MixP) (v8 v9 : Value) : Prop where
  l8 : FLs p W B ms Q v8
  l9 : FLs p W B ss R v9
  ne : ∀ g, v9.ownBlock = some g → v8.ownBlock ≠ some g
  n8 : ms.length ≤ 300
  n9 : ss.length = ms.length
  fm : Fm w W bs []
  bel : Below B W0 W
  bw : B = W0.heap.size
theorem TwoL.to {p : Prob} {w : World} {B : Nat} {bs : List Bx} {W0 W W' : World} {ms ss : List Mx} {Q R : Nat → MixP} {v8 v9 : Value} (h : TwoL p w B bs W0 W ms Q ss R v8 v9) (hb : Below W.heap.size W W') : TwoL p w B bs W0 W' ms Q ss R v8 v9 :=
  ⟨h.l8.to hb, h.l9.to hb, h.ne, h.n8, h.n9, h.fm.call hb, h.bel.trans (hb.mono (by have := h.bel.size; have := h.bw; omega)), h.bw⟩
set_option maxHeartbeats 8000000 in
set_option maxRecDepth 100000 in
theorem rregion_any (p : Prob) (q : ProbP) (w : World) (hp : RProb w w.heap.size p q) (hbd : PBd p) (h0 : probE p = 0) :
    Calls Try.prog 24 #[probV p q, .int .i64 300] w (Ret (RgR w)) := by
  obtain ⟨qa0, qc0, qa1, qc1, qa2, qc2, qa3, qc3⟩ := q
  obtain ⟨W, (hW : w.alloc (.cells #[.slice qa0 p.vs.length qc0, .slice qa1 p.now.length qc1, .slice qa2 p.tgt.length qc2, .slice qa3 p.tabs.length qc3] 39) = W), S, hB⟩ := fm_boxE (Fm.init w) 39 [.slice qa0 p.vs.length qc0, .slice qa1 p.now.length qc1, .slice qa2 p.tgt.length qc2, .slice qa3 p.tabs.length qc3]
  have HS := rstart_any p ⟨qa0, qc0, qa1, qc1, qa2, qc2, qa3, qc3⟩ W (hp.to S.bel) hbd h0
  rw [stM_mx h0] at HS
  replace HS := Lib.hid HS
  have hpW := Lib.hid (fun (W2 : World) (h : Below W.heap.size W W2) => (hp.to S.bel).to h)
  obtain ⟨m0, hm0⟩ : ∃ m0, stMx p = m0 := ⟨_, rfl⟩
  have hmo := Lib.hid (stMx_ok h0)
  have hm8 := Lib.hid (stMx_h8 h0)
  rw [hm0] at HS hmo hm8
  have hbdh := Lib.hid hbd
  have hww : w.heap.size < W.heap.size := by rw [← hW]; simp
  obtain ⟨⟨zp, fp, p0, p1, p2, p3, -⟩, -⟩ := S.facts
  replace S := Lib.hid S
  clear hp hbd hB hm0 h0
  go_enter Try.func24, Try.ntmps24
  go_wp2_with fail
  clear hW
  with_reducible refine HS.out.mono ?_
  rintro e w1 ⟨_, rfl, hb1, ⟨f0, c0, f1, c1, f2, c2⟩, rfl, ha⟩
  have S1 := S.out.call hb1
  obtain ⟨W2, (hW2 : w1.alloc (.cells #[.slice f0 m0.base.length c0, .slice f1 m0.next.length c1, .slice f2 m0.held.length c2] 56) = W2), S2, hB2⟩ := fm_boxE S1 56 [.slice f0 m0.base.length c0, .slice f1 m0.next.length c1, .slice f2 m0.held.length c2]
  have ha2 := ha.to hB2
  have hb2 := hb1.trans (hB2.mono hb1.size)
  have HR := Lib.hid (risRobust_any p ⟨qa0, qc0, qa1, qc1, qa2, qc2, qa3, qc3⟩ m0 ⟨f0, c0, f1, c1, f2, c2⟩ W2 (hpW.out W2 hb2) ha2.mix (ha2.bd hm8.out) hmo.out)
  have hw1s := hb1.size
  replace hb2 := Lib.hid hb2
  replace ha2 := Lib.hid ha2
  clear zp fp p0 p1 p2 p3 HS hb1 ha S1 hB2
  obtain ⟨⟨zm, fm, x0, x1, x2, -⟩, ⟨zp, fp, p0, p1, p2, p3, -⟩, -⟩ := S2.facts
  replace S2 := Lib.hid S2
  go_wp2_with fail
  clear hW2
  with_reducible refine HR.out.mono ?_
  rintro e w3 ⟨_, rfl, b, rfl, hb3⟩
  have S3 := S2.out.call hb3
  have ha3 := ha2.out.to hb3
  have hb3' := hb2.out.trans (hb3.mono hb2.out.size)
  clear zm fm x0 x1 x2 zp fp p0 p1 p2 p3 HR ha2 hb2 hb3 S2
  cases b with
  | false =>
    replace S3 := Lib.hid S3
    clear ha3 hb3'
    go_wp2
    go_ret2
    exact Ret.mk ⟨S3.out.bel, none, 0, 0, true, rfl⟩
  | true =>
    obtain ⟨W4, (hW4 : w3.alloc (.cells #[.slice f0 m0.base.length c0, .slice f1 m0.next.length c1, .slice f2 m0.held.length c2] 56) = W4), S4, hB4⟩ := fm_boxE S3 56 [.slice f0 m0.base.length c0, .slice f1 m0.next.length c1, .slice f2 m0.held.length c2]
    obtain ⟨W5, (hW5 : W4.alloc (.cells #[.slice f0 m0.base.length c0, .slice f1 m0.next.length c1, .slice f2 m0.held.length c2] 56) = W5), S5, hB5⟩ := fm_boxE S4 56 [.slice f0 m0.base.length c0, .slice f1 m0.next.length c1, .slice f2 m0.held.length c2]
    have hz3 := hb3'.size
    have hz4 : w3.heap.size < W4.heap.size := by rw [← hW4]; simp
    have hz5 : W4.heap.size < W5.heap.size := by rw [← hW5]; simp
    have L8 := (FLs.one (p := p) ha3 hmo.out hm8.out hz3)
    dsimp only at L8
    rw [hW4] at L8
    have L9 := (FLs.one (p := p) (ha3.to hB4) hmo.out hm8.out (show W.heap.size ≤ W4.heap.size by omega))
    dsimp only at L9
    rw [hW5] at L9
    have hb5 := hb3'.trans ((hB4.trans (hB5.mono (by omega))).mono hz3)
    have S5d := S5.drop [⟨w.heap.size, 39, [.slice qa0 p.vs.length qc0, .slice qa1 p.now.length qc1, .slice qa2 p.tgt.length qc2, .slice qa3 p.tabs.length qc3]⟩] [] (List.Sublist.cons _ (List.Sublist.cons _ (List.Sublist.cons _ (List.Sublist.refl _)))) (List.Sublist.refl _)
    have hT : Hid (TwoL p w W.heap.size [⟨w.heap.size, 39, [.slice qa0 p.vs.length qc0, .slice qa1 p.now.length qc1, .slice qa2 p.tgt.length qc2, .slice qa3 p.tabs.length qc3]⟩] W W5 [m0] (fun _ => ⟨f0, c0, f1, c1, f2, c2⟩) [m0] (fun _ => ⟨f0, c0, f1, c1, f2, c2⟩) (.slice (some ⟨w3.heap.size, 0, none⟩) 1 1) (.slice (some ⟨W4.heap.size, 0, none⟩) 1 1)) := Lib.hid ⟨L8.to hB5, L9, (fun g h1 h2 => by
      have h1 : some W4.heap.size = some g := h1
      have h2 : some w3.heap.size = some g := h2
      injection h1 with h1
      injection h2 with h2
      omega), by simp, rfl, S5d, hb5, rfl⟩
    obtain ⟨⟨zm, fm, x0, x1, x2, -⟩, ⟨zp, fp, p0, p1, p2, p3, -⟩, -⟩ := S3.facts
    obtain ⟨-, ⟨zm4, fm4, x40, x41, x42, -⟩, -⟩ := S4.facts
    clear S3 S4 S5 hB4 hB5 L8 L9 hb5 S5d ha3 hb3'
    go_wp2
    clear hW4 hW5 zm fm x0 x1 x2 zp fp p0 p1 p2 p3 zm4 fm4 x40 x41 x42
    go_loopw [8, 9, 10] (fun s8 s9 s10 wr => ∃ (i : Nat) (ms ss : List Mx) (Q R : Nat → MixP), s10 = .int .i64 (i : Int) ∧ i ≤ ms.length ∧ Hid (TwoL p w W.heap.size [⟨w.heap.size, 39, [.slice qa0 p.vs.length qc0, .slice qa1 p.now.length qc1, .slice qa2 p.tgt.length qc2, .slice qa3 p.tabs.length qc3]⟩] W wr ms Q ss R s8 s9)) (fun _ _ s10 _ => 300 - (intOf s10).toNat)
    case atStart => exact ⟨0, [m0], [m0], _, _, rfl, Nat.zero_le _, hT⟩
    case round =>
      clear hT
      obtain ⟨i, ms, ss, Q, R, rfl, hi, hT⟩ := hrel
      have hbW := Lib.hid hT.out.bel
      have hz : W.heap.size ≤ wr.heap.size := hbW.out.size
      have hn8 := hT.out.n8
      obtain ⟨A8, c8, rfl, har8⟩ := hT.out.l8.arr
      obtain ⟨⟨zp, fp, p0, p1, p2, p3, -⟩, -⟩ := hT.out.fm.facts
      by_cases hlt : i < ms.length
      · obtain ⟨bM, oM, rfl, hbM, hcM⟩ := har8 (by omega)
        obtain ⟨k0, k1, k2⟩ := mx_cells (hcM i hlt)
        have hel := hT.out.l8.el i hlt
        have hdr : Below wr.heap.size wr wr.drew := ((Drawn.refl wr).drew).below
        have HSt := rsteps_any p ⟨qa0, qc0, qa1, qc1, qa2, qc2, qa3, qc3⟩ (mxAt ms i) (Q i) wr.drew (hpW.out _ (hbW.out.trans (hdr.mono hz))) hbdh.out (hel.1.to hdr).mix ((hel.1.to hdr).bd hel.2.2) hel.2.1
        rw [steps_eq hmo.out.pr] at HSt
        obtain ⟨x, hx⟩ : ∃ x, mxAt ms i = x := ⟨_, rfl⟩
        obtain ⟨⟨xa0, xc0, xa1, xc1, xa2, xc2⟩, hq⟩ : ∃ z, Q i = z := ⟨_, rfl⟩
        rw [hx, hq] at k0 k1 k2 HSt
        rw [hx] at hel
        have hL100 := en_len hel.2.1
        have hLs := Lib.hid (fun j hj => en_at (m := x) (p := p) (j := j) hj)
        obtain ⟨L, hL⟩ : ∃ L, (allL p).filter (aftB p x) = L := ⟨_, rfl⟩
        rw [hL] at HSt hL100 hLs
        dsimp only at k0 k1 k2
        dsimp only [probV, mixV] at HSt
        replace HSt := Lib.hid HSt
        have ji : (i : Int) < (ms.length : Int) := by omega
        have Td := Lib.hid (hT.out.to hdr)
        replace hx := Lib.hid hx
        replace hq := Lib.hid hq
        clear hcM hdr hel hL
        go_wp2_with fail
        go_region_held3 (fun w' => w'.cell? ⟨w.heap.size, 0, none⟩ = some (.slice qa0 p.vs.length qc0) ∧ w'.cell? ⟨w.heap.size, 1, none⟩ = some (.slice qa1 p.now.length qc1) ∧ w'.cell? ⟨w.heap.size, 2, none⟩ = some (.slice qa2 p.tgt.length qc2) ∧ w'.cell? ⟨w.heap.size, 3, none⟩ = some (.slice qa3 p.tabs.length qc3) ∧
            w'.cell? ⟨bM, oM + i * 3, none⟩ = some (.slice xa0 x.base.length xc0) ∧ w'.cell? ⟨bM, oM + i * 3 + 1, none⟩ = some (.slice xa1 x.next.length xc1) ∧ w'.cell? ⟨bM, oM + i * 3 + 2, none⟩ = some (.slice xa2 x.held.length xc2)) (go_keep)
          (first
            | ((with_reducible refine HSt.out.mono ?_)
               rintro e w6 ⟨_, rfl, hb6, AL, cL, rfl, hownL⟩
               have hb6' := ((Drawn.refl wr).drew).below.trans hb6
               have T6 := Lib.hid (Td.out.to hb6)
               have l0 := (hb6'.cell (p := ⟨bM, oM + i * 3, none⟩) hbM).trans k0
               have l1 := (hb6'.cell (p := ⟨bM, oM + i * 3 + 1, none⟩) hbM).trans k1
               have l2 := (hb6'.cell (p := ⟨bM, oM + i * 3 + 2, none⟩) hbM).trans k2
               clear zp fp p0 p1 p2 p3 k0 k1 k2 hb6 hb6'
               obtain ⟨⟨zp, fp, p0, p1, p2, p3, -⟩, -⟩ := T6.out.fm.facts))
        clear zp fp p0 p1 p2 p3 l0 l1 l2 Td HSt hbW hT
        have hownL := Lib.hid (own_base hownL (show W.heap.size ≤ wr.drew.heap.size by exact hz))
        rename_i hownL0
        clear hownL0
        go_wp2_with fail
        go_loopw [8, 9, 12] (fun s8 s9 s12 wv => ∃ (k : Nat) (ms ss : List Mx) (Q R : Nat → MixP), s12 = .int .i64 (k : Int) ∧ k ≤ L.length ∧ i < ms.length ∧ Hid (mxAt ms i = x) ∧ Hid (Q i = ⟨xa0, xc0, xa1, xc1, xa2, xc2⟩) ∧ Hid (wv.ownsRow W.heap.size 63 3 (.slice AL L.length cL) L.length (spRow L)) ∧ Hid (TwoL p w W.heap.size [⟨w.heap.size, 39, [.slice qa0 p.vs.length qc0, .slice qa1 p.now.length qc1, .slice qa2 p.tgt.length qc2, .slice qa3 p.tabs.length qc3]⟩] W wv ms Q ss R s8 s9)) (fun _ _ s12 _ => L.length - (intOf s12).toNat)
        case atStart => exact ⟨0, ms, ss, Q, R, rfl, Nat.zero_le _, hlt, hx, hq, hownL, T6⟩
        case round =>
          clear hx hq hownL T6 har8 hn8 hz
          rename World => wv
          obtain ⟨k, ms, ss, Q, R, rfl, hk, him, hx, hq, hoL, hT⟩ := hrel
          have hbV := Lib.hid hT.out.bel
          have hz : W.heap.size ≤ wv.heap.size := hbV.out.size
          have hn8 := hT.out.n8
          obtain ⟨A8, c8, rfl, har8⟩ := hT.out.l8.arr
          obtain ⟨⟨zp, fp, p0, p1, p2, p3, -⟩, -⟩ := hT.out.fm.facts
          by_cases hltk : k < L.length
          · obtain ⟨bM, oM, rfl, hbM, hcM⟩ := har8 (by omega)
            obtain ⟨k0, k1, k2⟩ := mx_cells (hcM i him)
            have hel := hT.out.l8.el i him
            obtain ⟨bL, oL, rfl, hbL, hcL⟩ := (spOwn_arr hoL.out) (by omega)
            obtain ⟨q0, q1, q2⟩ := sp_cells (hcL k hltk)
            have hst := hLs.out k hltk
            obtain ⟨s, hs⟩ : ∃ s, spAt L k = s := ⟨_, rfl⟩
            rw [hs] at q0 q1 q2 hst
            obtain ⟨kd, ix, ve⟩ := s
            dsimp only at q0 q1 q2
            rw [hx.out, hq.out] at k0 k1 k2 hel
            dsimp only at k0 k1 k2
            obtain ⟨hsb, heb, y, haft⟩ := appE_ok.1 hst.1
            have hAA := fun (W4 : World) (h : Below wv.heap.size wv W4) => rafter_any p ⟨qa0, qc0, qa1, qc1, qa2, qc2, qa3, qc3⟩ x ⟨xa0, xc0, xa1, xc1, xa2, xc2⟩ ⟨kd, ix, ve⟩ W4 (hpW.out _ (hbV.out.trans (h.mono hz))) hbdh.out (hel.1.to h).mix ((hel.1.to h).bd hel.2.2) hel.2.1 hsb heb
            have hYk := apM_mok (s := ⟨kd, ix, ve⟩) hel.2.1 hst.1
            have hY8 := apM_h8 (s := ⟨kd, ix, ve⟩) hel.2.1 hel.2.2 hst.1
            rw [apM_ok hsb heb haft] at hYk hY8
            dsimp only [probV, mixV, stepV] at hAA
            replace hAA := Lib.hid hAA
            replace hYk := Lib.hid hYk
            replace hY8 := Lib.hid hY8
            replace haft := Lib.hid haft
            have jk : (k : Int) < (L.length : Int) := by omega
            have ji : (i : Int) < (ms.length : Int) := by omega
            have S3 := Lib.hid hT.out.fm
            have SR := Lib.hid (Fm.init wv)
            clear hcL hcM hel hst hs hsb heb
            go_upto_region 13 with fail
            go_cut [13, 14] (fun s13 s14 wx => ∃ (g : Nat) (y0 y1 y2 : Option Addr) (z0 z1 z2 : Nat), s13 = .pointer (some ⟨g, 0, none⟩) ∧ (∃ b : Bool, s14 = .bool b) ∧ Fm wv wx [⟨g, 56, [.slice y0 y.base.length z0, .slice y1 y.next.length z1, .slice y2 y.held.length z2]⟩] [] ∧ AO wx wv.heap.size y ⟨y0, z0, y1, z1, y2, z2⟩)
            case first =>
              have i1 : ¬ w.heap.size = wv.heap.size := by omega
              have i2 : ¬ wv.heap.size = w.heap.size := by omega
              have i3 : ¬ bM = wv.heap.size := by omega
              have i4 : ¬ wv.heap.size = bM := by omega
              have i5 : ¬ bL = wv.heap.size := by omega
              have i6 : ¬ wv.heap.size = bL := by omega
              go_region_held3 (fun w' => w'.cell? ⟨w.heap.size, 0, none⟩ = some (.slice qa0 p.vs.length qc0) ∧ w'.cell? ⟨w.heap.size, 1, none⟩ = some (.slice qa1 p.now.length qc1) ∧ w'.cell? ⟨w.heap.size, 2, none⟩ = some (.slice qa2 p.tgt.length qc2) ∧ w'.cell? ⟨w.heap.size, 3, none⟩ = some (.slice qa3 p.tabs.length qc3) ∧
                  w'.cell? ⟨bM, oM + i * 3, none⟩ = some (.slice xa0 x.base.length xc0) ∧ w'.cell? ⟨bM, oM + i * 3 + 1, none⟩ = some (.slice xa1 x.next.length xc1) ∧ w'.cell? ⟨bM, oM + i * 3 + 2, none⟩ = some (.slice xa2 x.held.length xc2) ∧
                  w'.cell? ⟨bL, oL + k * 3, none⟩ = some (.int .i64 kd) ∧ w'.cell? ⟨bL, oL + k * 3 + 1, none⟩ = some (.int .i64 ix) ∧ w'.cell? ⟨bL, oL + k * 3 + 2, none⟩ = some (.int .i64 ve)) (go_keep)
                (first
                  | ((with_reducible refine (hAA.out wv.drew ((Drawn.refl _).drew).below).mono ?_)
                     rintro e w4 ⟨_, rfl, hb4, y', ⟨y0, z0, y1, z1, y2, z2⟩, rfl, hay⟩
                     obtain ⟨rfl, hay⟩ := hay _ haft.out
                     have hb4' := ((Drawn.refl wv).drew).below.trans hb4
                     have S4 := Lib.hid (S3.out.call hb4')
                     have g0 := (hb4'.cell (p := ⟨bM, oM + i * 3, none⟩) hbM).trans k0
                     have g1 := (hb4'.cell (p := ⟨bM, oM + i * 3 + 1, none⟩) hbM).trans k1
                     have g2 := (hb4'.cell (p := ⟨bM, oM + i * 3 + 2, none⟩) hbM).trans k2
                     have n0 := (hb4'.cell (p := ⟨bL, oL + k * 3, none⟩) hbL).trans q0
                     have n1 := (hb4'.cell (p := ⟨bL, oL + k * 3 + 1, none⟩) hbL).trans q1
                     have n2 := (hb4'.cell (p := ⟨bL, oL + k * 3 + 2, none⟩) hbL).trans q2
                     have kl := Nat.lt_of_lt_of_le hbM hb4'.size
                     have kl2 := Nat.lt_of_lt_of_le hbL hb4'.size
                     have hFa := Lib.hid (And.intro ((SR.out.call hb4').box 56 [.slice y0 y'.base.length z0, .slice y1 y'.next.length z1, .slice y2 y'.held.length z2]) (hay.to ((Below.refl _ _).alloc (Nat.le_refl _) (.cells #[.slice y0 y'.base.length z0, .slice y1 y'.next.length z1, .slice y2 y'.held.length z2] 56))))
                     clear zp fp p0 p1 p2 p3 k0 k1 k2 q0 q1 q2
                     obtain ⟨⟨zp, fp, p0, p1, p2, p3, -⟩, -⟩ := S4.out.facts
                     clear hb4 hb4' hay)
                  | ((with_reducible refine (hAA.out (wv.alloc (.cells #[.slice none 0 0, .slice none 0 0, .slice none 0 0] 56)).drew (((Below.refl _ _).alloc (Nat.le_refl _) _).drawn ((Drawn.refl _).drew))).mono ?_)
                     rintro e w4 ⟨_, rfl, hb4, y', ⟨y0, z0, y1, z1, y2, z2⟩, rfl, hay⟩
                     obtain ⟨rfl, hay⟩ := hay _ haft.out
                     have hb4a := ((Drawn.refl (wv.alloc (.cells #[.slice none 0 0, .slice none 0 0, .slice none 0 0] 56))).drew).below.trans hb4
                     have hz4 : (wv.alloc (.cells #[.slice none 0 0, .slice none 0 0, .slice none 0 0] 56)).heap.size = wv.heap.size + 1 := by simp
                     have hb4' := ((Below.refl wv.heap.size wv).alloc (Nat.le_refl _) (.cells #[.slice none 0 0, .slice none 0 0, .slice none 0 0] 56)).trans (hb4a.mono (Nat.le_trans (Nat.le_succ _) (Nat.le_of_eq hz4.symm)))
                     have S4 := Lib.hid ((S3.out.box 56 [.slice none 0 0, .slice none 0 0, .slice none 0 0]).call hb4a)
                     have g0 := (hb4'.cell (p := ⟨bM, oM + i * 3, none⟩) hbM).trans k0
                     have g1 := (hb4'.cell (p := ⟨bM, oM + i * 3 + 1, none⟩) hbM).trans k1
                     have g2 := (hb4'.cell (p := ⟨bM, oM + i * 3 + 2, none⟩) hbM).trans k2
                     have n0 := (hb4'.cell (p := ⟨bL, oL + k * 3, none⟩) hbL).trans q0
                     have n1 := (hb4'.cell (p := ⟨bL, oL + k * 3 + 1, none⟩) hbL).trans q1
                     have n2 := (hb4'.cell (p := ⟨bL, oL + k * 3 + 2, none⟩) hbL).trans q2
                     have kl := Nat.lt_of_lt_of_le hbM hb4'.size
                     have kl2 := Nat.lt_of_lt_of_le hbL hb4'.size
                     have hFb := Lib.hid (And.intro (((((SR.out.box 56 [.slice none 0 0, .slice none 0 0, .slice none 0 0]).call hb4a).set 0 rfl 0 (.slice y0 y'.base.length z0)).set 0 rfl 1 (.slice y1 y'.next.length z1)).set 0 rfl 2 (.slice y2 y'.held.length z2)) ((hay.far3 (g := wv.heap.size) (by show wv.heap.size < (wv.alloc _).heap.size; rw [hz4]; omega) (.slice y0 y'.base.length z0) (.slice y1 y'.next.length z1) (.slice y2 y'.held.length z2)).base (B' := wv.heap.size) (Nat.le_trans (Nat.le_succ _) (Nat.le_of_eq hz4.symm))))
                     clear zp fp p0 p1 p2 p3 k0 k1 k2 q0 q1 q2
                     obtain ⟨⟨t1, o1, t10, t11, t12, -⟩, ⟨zp, fp, p0, p1, p2, p3, -⟩, -⟩ := S4.out.facts
                     clear hb4 hb4' hb4a hay hz4))
              all_goals (go_wp2_with fail; go_meet)
              all_goals
                first
                  | exact ⟨_, y0, y1, y2, z0, z1, z2, rfl, ⟨_, rfl⟩, hFa.out.1, hFa.out.2⟩
                  | exact ⟨_, y0, y1, y2, z0, z1, z2, rfl, ⟨_, rfl⟩, hFb.out.1, hFb.out.2⟩
            case rest =>
              clear zp fp p0 p1 p2 p3 k0 k1 k2 q0 q1 q2 hAA haft
              rename World => wx
              obtain ⟨g, y0, y1, y2, z0, z1, z2, rfl, ⟨b, rfl⟩, SX, hay⟩ := hcut
              have hg : wv.heap.size ≤ g := SX.lo _ (List.mem_cons_self ..)
              have T7 := hT.out.to SX.bel
              have oL7 := Lib.hid (own_to hoL.out SX.bel)
              obtain ⟨A9, c9, rfl, har9⟩ := T7.l9.arr
              have HP := rplace_any ss R A9 c9 y ⟨y0, z0, y1, z1, y2, z2⟩ wx har9 (fun t ht => ⟨(T7.l9.el t ht).1.mix, msm_of (T7.l9.el t ht).2.1 (T7.l9.el t ht).2.2⟩) hay.mix (msm_of hYk.out hY8.out) (by have := T7.n9; have := T7.n8; omega)
              dsimp only [mixV] at HP
              replace HP := Lib.hid HP
              have hgn := Lib.hid (own_lt hT.out.l8.row hg)
              have hzx : wv.heap.size ≤ wx.heap.size := SX.bel.size
              obtain ⟨⟨zg, fg, u0, u1, u2, -⟩, -⟩ := SX.facts
              replace T7 := Lib.hid T7
              replace SX := Lib.hid SX
              replace hay := Lib.hid hay
              clear har9 hoL hT hbV har8
              go_wp2_with fail
              with_reducible refine HP.out.mono ?_
              rintro e w8 ⟨_, rfl, hb8, at_, th, rfl, hat⟩
              have T8 := Lib.hid (T7.out.to hb8)
              have oL8 := Lib.hid (own_to oL7.out hb8)
              have SX8 := Lib.hid (SX.out.call hb8)
              have hay8 := Lib.hid (hay.out.to hb8)
              have hz8 := hb8.size
              clear zg fg u0 u1 u2 HP hb8 T7 oL7 SX hay
              cases th with
              | true =>
                clear SX8 hay8
                go_wp2
                go_roundw
                case rel => exact ⟨k + 1, ms, ss, Q, R, by go_num, by omega, him, hx, hq, oL8, T8⟩
                case measure => simp [intOf]; omega
              | false =>
                obtain ⟨⟨zg, fg, u0, u1, u2, -⟩, -⟩ := SX8.out.facts
                obtain ⟨⟨zp, fp, p0, p1, p2, p3, -⟩, -⟩ := T8.out.fm.facts
                have HR := risRobust_any p ⟨qa0, qc0, qa1, qc1, qa2, qc2, qa3, qc3⟩ y ⟨y0, z0, y1, z1, y2, z2⟩ w8 (hpW.out _ T8.out.bel) hay8.out.mix (hay8.out.bd hY8.out) hYk.out
                dsimp only [probV, mixV] at HR
                replace HR := Lib.hid HR
                go_wp2_with fail
                with_reducible refine HR.out.mono ?_
                rintro e w9 ⟨_, rfl, b2, rfl, hb9⟩
                have T9 := Lib.hid (T8.out.to hb9)
                have oL9 := Lib.hid (own_to oL8.out hb9)
                have SX9 := Lib.hid (SX8.out.call hb9)
                have hay9 := Lib.hid (hay8.out.to hb9)
                have hz9 := hb9.size
                clear zg fg u0 u1 u2 zp fp p0 p1 p2 p3 HR hb9 T8 oL8 SX8 hay8
                cases b2 with
                | false =>
                  clear SX9 hay9
                  go_wp2
                  go_roundw
                  case rel => exact ⟨k + 1, ms, ss, Q, R, by go_num, by omega, him, hx, hq, oL9, T9⟩
                  case measure => simp [intOf]; omega
                | true =>
                  obtain ⟨⟨zg, fg, u0, u1, u2, -⟩, -⟩ := SX9.out.facts
                  have hsX : W.heap.size ≤ w9.heap.size := by omega
                  have hrow8 := Lib.hid T9.out.l8.row
                  go_wp2_with (at_builtin; refine push_own elMix rfl _ _ rfl W.heap.size _ ms.length (mxRow ms Q) hrow8.out rfl [.slice y0 y.base.length z0, .slice y1 y.next.length z1, .slice y2 y.held.length z2] rfl rfl rfl (by omega) (by omega) hsX ?_)
                  intro v8 w10 hown10 hg10 hb10 hs10 hob10
                  have ha9 : Below w9.heap.size w9 (w9.alloc (.cells #[.slice y0 y.base.length z0, .slice y1 y.next.length z1, .slice y2 y.held.length z2] 56)) := (Below.refl _ _).alloc (Nat.le_refl _) _
                  have L8 := T9.out.l8.snoc (hay9.out.base hz) hYk.out hY8.out hown10 hg10
                  have L9 := Lib.hid (T9.out.l9.other T9.out.l8.row T9.out.ne hg10)
                  have oL10 := Lib.hid (ownO_other (own_to oL9.out ha9) (own_to T9.out.l8.row ha9) (by decide) hg10)
                  have hay10 := Lib.hid (((hay9.out.base hz).to ha9).pushM (own_to T9.out.l8.row ha9) hg10)
                  have hw9 : Whole w9 g 56 #[.slice y0 y.base.length z0, .slice y1 y.next.length z1, .slice y2 y.held.length z2] := allB_at SX9.out.bx _ (List.mem_cons_self ..)
                  have hw10 := (hw9.below ha9 hw9.lt).grown hg10 (fun e => hgn.out e.symm)
                  have ne10 := Lib.hid (fun g' (h : (Value.slice A9 ss.length c9).ownBlock = some g') => ob_push (T9.out.ne g' h) (Nat.lt_of_not_le (fun hle => own_lt T9.out.l9.row hle h)) hob10)
                  have fm10 := Lib.hid (fm_under T9.out.fm (B := W.heap.size) (by intro z hz; simp only [List.mem_cons, List.not_mem_nil, or_false] at hz; rw [hz]; exact hww) (Nat.le_of_lt hww) hb10)
                  have bel10 := Lib.hid (T9.out.bel.trans hb10)
                  have hn9 := T9.out.n9
                  have hz10 : w9.heap.size ≤ w10.heap.size := by omega
                  obtain ⟨A8, c8, rfl, -⟩ := L8.arr
                  replace L8 := Lib.hid L8
                  have zg10 := hw10.lt
                  have fg10 := fun o => hw10.frozen o
                  have v0 : w10.cell? ⟨g, 0, none⟩ = some (.slice y0 y.base.length z0) := hw10.cell 0
                  have v1 : w10.cell? ⟨g, 1, none⟩ = some (.slice y1 y.next.length z1) := hw10.cell 1
                  have v2 : w10.cell? ⟨g, 2, none⟩ = some (.slice y2 y.held.length z2) := hw10.cell 2
                  have hml : (ms ++ [y]).length = ms.length + 1 := by simp
                  obtain ⟨nm, hnm⟩ : ∃ nm, (ms ++ [y]).length = nm := ⟨_, rfl⟩
                  rw [hnm] at hml
                  rw [hnm]
                  replace hnm := Lib.hid hnm
                  replace hml := Lib.hid hml
                  clear hown10 hg10 hb10 hs10 hob10 ha9 hw9 hw10 zg fg u0 u1 u2 hrow8 T9 oL9 SX9 hay9 hgn
                  go_upto_region 17 with fail
                  go_cut [9] (fun s9 wx => ∃ (ss2 : List Mx) (R2 : Nat → MixP), FLs p wx W.heap.size ss2 R2 s9 ∧ ss2.length = ss.length + 1 ∧ Below w10.heap.size w10 wx ∧ ∀ g', s9.ownBlock = some g' → w10.heap.size ≤ g')
                  case first =>
                    obtain ⟨A9', c9', hv9, hnc, hcm, hc9⟩ := own_form L9.out.row
                    injection hv9 with e1 e2 e3
                    subst e1 e3
                    obtain ⟨b9, rfl, hb9, hl9, hcell9⟩ := hc9 (by omega)
                    have hrl : (mxRow ss R).length = ss.length * 3 := mxRow_len ..
                    have hone : ∀ u ∈ mxRow ss R, u.oneCell' = true := fun u hu => by
                      unfold mxRow rowN at hu
                      obtain ⟨t, ht, rfl⟩ := List.mem_map.1 hu
                      unfold mxF
                      generalize t % 3 = r
                      match r with
                      | 0 => rfl
                      | 1 => rfl
                      | r + 2 => rfl
                    have hIns := Lib.hid (fun (Wc : World) (v' : Value) (n : Nat) (hb : Below w10.heap.size w10 Wc) (hn : n = ss.length + 1) (hr : Wc.ownsRow w10.heap.size 56 3 v' n (((mxRow ss R).take (at_ * 3) ++ [.slice y0 y.base.length z0, .slice y1 y.next.length z1, .slice y2 y.held.length z2]) ++ (mxRow ss R).drop (at_ * 3))) => FLs.ins (q := ⟨y0, z0, y1, z1, y2, z2⟩) L9.out hb hat (hay10.out.to hb) hYk.out hY8.out (show W.heap.size ≤ w10.heap.size by omega) hn hr)
                    have hInl := Lib.hid (insM_len y hat)
                    have hN300 : ss.length ≤ 300 := by omega
                    obtain ⟨N, hN⟩ : ∃ N, ss.length = N := ⟨_, rfl⟩
                    obtain ⟨X, hX⟩ : ∃ X, mxRow ss R = X := ⟨_, rfl⟩
                    rw [hN] at hnc hcell9 hat hrl hIns hInl hN300
                    rw [hX] at hcell9 hrl hone hIns
                    rw [hN]
                    have t1 : (0 : Int) ≤ (at_ : Int) := by omega
                    have t2 : (at_ : Int) ≤ (c9 : Int) := by omega
                    have t3 : (at_ : Int) ≤ (N : Int) := by omega
                    have t4 : (N : Int) ≤ (c9 : Int) := by omega
                    have hTk := Lib.hid (fun (Wx : World) (hB : Below w10.heap.size w10 Wx) => take_cells hcell9 hl9 hB hat)
                    have hDr := Lib.hid (fun (Wx : World) (hB : Below w10.heap.size w10 Wx) (o : Nat) (ho : o = at_ * 3) => drop_cells hcell9 hrl hl9 hB ho)
                    have hT1 : Hid ((X.take (at_ * 3)).length = at_ * 3) := Lib.hid (by simp; omega)
                    have hD1 : Hid ((X.drop (at_ * 3)).length = (N - at_) * 3) := Lib.hid (by simp; omega)
                    have hT2 := Lib.hid (fun u (hu : u ∈ X.take (at_ * 3)) => hone u (List.mem_of_mem_take hu))
                    have hD2 := Lib.hid (fun u (hu : u ∈ X.drop (at_ * 3)) => hone u (List.mem_of_mem_drop hu))
                    have hC1 : Hid (∀ u ∈ ([.slice y0 y.base.length z0, .slice y1 y.next.length z1, .slice y2 y.held.length z2] : List Value), u.oneCell' = true) := Lib.hid (by intro u hu; simp only [List.mem_cons, List.not_mem_nil, or_false] at hu; rcases hu with rfl | rfl | rfl <;> rfl)
                    have hB1 : Hid (Below w10.heap.size w10 ((w10.alloc (Obj.cells #[] 56)).drew)) := Lib.hid (((Below.refl w10.heap.size w10).alloc (Nat.le_refl _) _).drew)
                    have hB2 : Hid (Below w10.heap.size w10 (((w10.alloc (Obj.cells #[] 56)).alloc (Obj.cells #[.slice y0 y.base.length z0, .slice y1 y.next.length z1, .slice y2 y.held.length z2] 56)).drew)) := Lib.hid ((((Below.refl w10.heap.size w10).alloc (Nat.le_refl _) _).alloc (by simp) _).drew)
                    have hB3 : Hid (Below w10.heap.size w10 (((w10.alloc (Obj.cells #[.slice y0 y.base.length z0, .slice y1 y.next.length z1, .slice y2 y.held.length z2] 56)).alloc (Obj.cells #[] 56)).drew)) := Lib.hid ((((Below.refl w10.heap.size w10).alloc (Nat.le_refl _) _).alloc (by simp) _).drew)
                    have hdw : ∀ (V : World) (g : Nat) (e : TypeId) (cs : Array Value), Whole V g e cs → Whole V.drew g e cs := fun V g e cs h => h.below ((Drawn.refl V).drew).below h.lt
                    have hE1 : Hid (World.ownsRow ((w10.alloc (Obj.cells #[] 56)).drew) w10.heap.size 56 3 (.slice (some ⟨w10.heap.size, 0, none⟩) 0 0) 0 []) := Lib.hid (own_empty (hdw _ _ _ _ (Whole.new w10 56 #[])) (Nat.le_refl _))
                    have hE2 : Hid (World.ownsRow (((w10.alloc (Obj.cells #[] 56)).alloc (Obj.cells #[.slice y0 y.base.length z0, .slice y1 y.next.length z1, .slice y2 y.held.length z2] 56)).drew) w10.heap.size 56 3 (.slice (some ⟨w10.heap.size, 0, none⟩) 0 0) 0 []) := Lib.hid (own_empty (hdw _ _ _ _ ((Whole.new w10 56 #[]).below ((Below.refl _ _).alloc (Nat.le_refl _) _) (by simp))) (Nat.le_refl _))
                    have hM2 : Hid (Whole (((w10.alloc (Obj.cells #[] 56)).alloc (Obj.cells #[.slice y0 y.base.length z0, .slice y1 y.next.length z1, .slice y2 y.held.length z2] 56)).drew) (w10.heap.size + 1) 56 #[.slice y0 y.base.length z0, .slice y1 y.next.length z1, .slice y2 y.held.length z2]) := Lib.hid (hdw _ _ _ _ (by
                      have h := Whole.new (w10.alloc (Obj.cells #[] 56)) 56 #[.slice y0 y.base.length z0, .slice y1 y.next.length z1, .slice y2 y.held.length z2]
                      rwa [show (w10.alloc (Obj.cells #[] 56)).heap.size = w10.heap.size + 1 by simp] at h))
                    have hE3 : Hid (World.ownsRow (((w10.alloc (Obj.cells #[.slice y0 y.base.length z0, .slice y1 y.next.length z1, .slice y2 y.held.length z2] 56)).alloc (Obj.cells #[] 56)).drew) w10.heap.size 56 3 (.slice (some ⟨w10.heap.size + 1, 0, none⟩) 0 0) 0 []) := Lib.hid (own_empty (hdw _ _ _ _ (by
                      have h := Whole.new (w10.alloc (Obj.cells #[.slice y0 y.base.length z0, .slice y1 y.next.length z1, .slice y2 y.held.length z2] 56)) 56 #[]
                      rwa [show (w10.alloc (Obj.cells #[.slice y0 y.base.length z0, .slice y1 y.next.length z1, .slice y2 y.held.length z2] 56)).heap.size = w10.heap.size + 1 by simp] at h)) (Nat.le_succ _))
                    have hM3 : Hid (Whole (((w10.alloc (Obj.cells #[.slice y0 y.base.length z0, .slice y1 y.next.length z1, .slice y2 y.held.length z2] 56)).alloc (Obj.cells #[] 56)).drew) w10.heap.size 56 #[.slice y0 y.base.length z0, .slice y1 y.next.length z1, .slice y2 y.held.length z2]) := Lib.hid (hdw _ _ _ _ ((Whole.new w10 56 #[.slice y0 y.base.length z0, .slice y1 y.next.length z1, .slice y2 y.held.length z2]).below ((Below.refl _ _).alloc (Nat.le_refl _) _) (by simp)))
                    replace hN := Lib.hid hN
                    replace hX := Lib.hid hX
                    clear hcell9 hone hrl hdw hc9 hb9 hcm
                    have hne2 : Hid (some (w10.heap.size + 1) ≠ (Value.slice (some ⟨w10.heap.size, 0, none⟩) 0 0).ownBlock) := Lib.hid (fun e => by
                      have e : some (w10.heap.size + 1) = some w10.heap.size := e
                      injection e with e
                      omega)
                    have hne3 : Hid (some w10.heap.size ≠ (Value.slice (some ⟨w10.heap.size + 1, 0, none⟩) 0 0).ownBlock) := Lib.hid (fun e => by
                      have e : some w10.heap.size = some (w10.heap.size + 1) := e
                      injection e with e
                      omega)
                    by_cases hcap : c9 = at_
                    · obtain rfl : at_ = c9 := hcap.symm
                      obtain rfl : N = at_ := by omega
                      have hEq : Hid (∀ (A : Option Addr) (Wx : World), ∀ ad, A = some ad → ∀ j u, (X.drop (N * 3))[j]? = some u → Wx.cell? (ad.add j) = some u) := Lib.hid (by
                        intro A Wx ad had j u hu
                        have hz := hD1.out
                        rw [Nat.sub_self, Nat.zero_mul] at hz
                        rw [List.eq_nil_of_length_eq_zero hz] at hu
                        cases hu)
                      have hD0 : Hid ((X.drop (N * 3)).length = 0 * 3) := Lib.hid (by have hz := hD1.out; rw [Nat.sub_self] at hz; exact hz)
                      go_region_law
                        (first
                          | (refine step_arr elMix (by rfl) _ _ (by rfl) w10.heap.size _ 0 [] (by with_reducible first | exact hE1.out | exact hE2.out | exact hE3.out) (by rfl) _ _ _ (X.take (N * 3)) (by rfl) hT1.out hT2.out (by intro h; cases h) (hTk.out _ (by with_reducible first | exact hB1.out | exact hB2.out | exact hB3.out)) (by omega) (by omega) (by with_reducible first | exact hB1.out.size | exact hB2.out.size | exact hB3.out.size) ?_
                             intro va wa hownA hgA hbA
                             have hbA' : Hid (Below w10.heap.size w10 wa) := Lib.hid (by with_reducible first | exact hB1.out.trans hbA | exact hB2.out.trans hbA | exact hB3.out.trans hbA)
                             first
                               | (have hWM : Hid (Whole wa (w10.heap.size + 1) 56 #[.slice y0 y.base.length z0, .slice y1 y.next.length z1, .slice y2 y.held.length z2]) := Lib.hid (by with_reducible exact hM2.out.grown hgA hne2.out))
                               | (have hWM : Hid (Whole wa w10.heap.size 56 #[.slice y0 y.base.length z0, .slice y1 y.next.length z1, .slice y2 y.held.length z2]) := Lib.hid (by with_reducible exact hM3.out.grown hgA hne3.out))
                               | skip
                             have hzA := hbA'.out.size
                             have v0' := (hbA'.out.cell (p := ⟨g, 0, none⟩) zg10).trans v0
                             have v1' := (hbA'.out.cell (p := ⟨g, 1, none⟩) zg10).trans v1
                             have v2' := (hbA'.out.cell (p := ⟨g, 2, none⟩) zg10).trans v2
                             have zga : g < wa.heap.size := by omega
                             replace hownA := Lib.hid hownA
                             clear hgA hbA)
                          | (refine step_arr elMix (by rfl) _ _ (by rfl) w10.heap.size _ (0 + N) _ (by with_reducible exact hownA.out) (by rfl) _ _ _ [.slice y0 y.base.length z0, .slice y1 y.next.length z1, .slice y2 y.held.length z2] (by rfl) (by rfl) hC1.out (by intro h; cases h) (whole_cells hWM.out) (by omega) (by omega) hzA ?_
                             intro vb wb hownB hgB hbB
                             have hbB' := Lib.hid (hbA'.out.trans hbB)
                             replace hownB := Lib.hid hownB
                             clear hgB hbB)
                          | (refine step_arr elMix (by rfl) _ _ (by rfl) w10.heap.size _ (0 + N) _ (by with_reducible exact (hownA.out.alloc _)) (by rfl) _ _ _ [.slice y0 y.base.length z0, .slice y1 y.next.length z1, .slice y2 y.held.length z2] (by rfl) (by rfl) hC1.out (by intro h; cases h) (whole_cells (Whole.new wa _ _)) (by omega) (by omega) (Nat.le_trans hzA (by simp)) ?_
                             intro vb wb hownB hgB hbB
                             have hbB' := Lib.hid (hbA'.out.trans (((Below.refl w10.heap.size wa).alloc hzA _).trans hbB))
                             replace hownB := Lib.hid hownB
                             clear hgB hbB)
                          | (refine step_arr elMix (by rfl) _ _ (by rfl) w10.heap.size _ (0 + N + 1) _ (by with_reducible exact hownB.out) (by rfl) _ 0 _ (X.drop (N * 3)) (by rfl) hD0.out hD2.out (by intro h; cases h) (hEq.out _ _) (by omega) (by omega) hbB'.out.size ?_
                             intro vc wc hownC hgC hbC
                             have hbC' := Lib.hid (hbB'.out.trans hbC)
                             replace hownC := Lib.hid hownC
                             clear hgC hbC)
                          | (fail))
                      all_goals (go_wp2_with fail; go_meet)
                      all_goals exact ⟨insM ss N y, insQ R N ⟨y0, z0, y1, z1, y2, z2⟩, hIns.out _ _ (0 + N + 1 + 0) hbC'.out (by omega) (by simpa only [List.nil_append] using hownC.out), (by rw [hInl.out, hN.out]), hbC'.out, own_ge hownC.out⟩
                    · have hcap2 : ¬ at_ = c9 := fun e => hcap e.symm
                      go_region_law
                        (first
                          | (refine step_arr elMix (by rfl) _ _ (by rfl) w10.heap.size _ 0 [] (by with_reducible first | exact hE1.out | exact hE2.out | exact hE3.out) (by rfl) _ _ _ (X.take (at_ * 3)) (by rfl) hT1.out hT2.out (by intro h; cases h) (hTk.out _ (by with_reducible first | exact hB1.out | exact hB2.out | exact hB3.out)) (by omega) (by omega) (by with_reducible first | exact hB1.out.size | exact hB2.out.size | exact hB3.out.size) ?_
                             intro va wa hownA hgA hbA
                             have hbA' : Hid (Below w10.heap.size w10 wa) := Lib.hid (by with_reducible first | exact hB1.out.trans hbA | exact hB2.out.trans hbA | exact hB3.out.trans hbA)
                             first
                               | (have hWM : Hid (Whole wa (w10.heap.size + 1) 56 #[.slice y0 y.base.length z0, .slice y1 y.next.length z1, .slice y2 y.held.length z2]) := Lib.hid (by with_reducible exact hM2.out.grown hgA hne2.out))
                               | (have hWM : Hid (Whole wa w10.heap.size 56 #[.slice y0 y.base.length z0, .slice y1 y.next.length z1, .slice y2 y.held.length z2]) := Lib.hid (by with_reducible exact hM3.out.grown hgA hne3.out))
                               | skip
                             have hzA := hbA'.out.size
                             have v0' := (hbA'.out.cell (p := ⟨g, 0, none⟩) zg10).trans v0
                             have v1' := (hbA'.out.cell (p := ⟨g, 1, none⟩) zg10).trans v1
                             have v2' := (hbA'.out.cell (p := ⟨g, 2, none⟩) zg10).trans v2
                             have zga : g < wa.heap.size := by omega
                             replace hownA := Lib.hid hownA
                             clear hgA hbA)
                          | (refine step_arr elMix (by rfl) _ _ (by rfl) w10.heap.size _ (0 + at_) _ (by with_reducible exact hownA.out) (by rfl) _ _ _ [.slice y0 y.base.length z0, .slice y1 y.next.length z1, .slice y2 y.held.length z2] (by rfl) (by rfl) hC1.out (by intro h; cases h) (whole_cells hWM.out) (by omega) (by omega) hzA ?_
                             intro vb wb hownB hgB hbB
                             have hbB' := Lib.hid (hbA'.out.trans hbB)
                             replace hownB := Lib.hid hownB
                             clear hgB hbB)
                          | (refine step_arr elMix (by rfl) _ _ (by rfl) w10.heap.size _ (0 + at_) _ (by with_reducible exact (hownA.out.alloc _)) (by rfl) _ _ _ [.slice y0 y.base.length z0, .slice y1 y.next.length z1, .slice y2 y.held.length z2] (by rfl) (by rfl) hC1.out (by intro h; cases h) (whole_cells (Whole.new wa _ _)) (by omega) (by omega) (Nat.le_trans hzA (by simp)) ?_
                             intro vb wb hownB hgB hbB
                             have hbB' := Lib.hid (hbA'.out.trans (((Below.refl w10.heap.size wa).alloc hzA _).trans hbB))
                             replace hownB := Lib.hid hownB
                             clear hgB hbB)
                          | (refine step_arr elMix (by rfl) _ _ (by rfl) w10.heap.size _ (0 + at_ + 1) _ (by with_reducible exact hownB.out) (by rfl) _ (N - at_) _ (X.drop (at_ * 3)) (by rfl) hD1.out hD2.out (by intro h; cases h) (hDr.out _ hbB'.out _ rfl) (by omega) (by omega) hbB'.out.size ?_
                             intro vc wc hownC hgC hbC
                             have hbC' := Lib.hid (hbB'.out.trans hbC)
                             replace hownC := Lib.hid hownC
                             clear hgC hbC)
                          | (fail))
                      all_goals (go_wp2_with fail; go_meet)
                      all_goals exact ⟨insM ss at_ y, insQ R at_ ⟨y0, z0, y1, z1, y2, z2⟩, hIns.out _ _ (0 + at_ + 1 + (N - at_)) hbC'.out (by omega) (by simpa only [List.nil_append] using hownC.out), (by rw [hInl.out, hN.out]), hbC'.out, own_ge hownC.out⟩
                  case rest =>
                    clear zg10 fg10 v0 v1 v2
                    rename World => w11
                    obtain ⟨ss2, R2, L9', hl2, hb11, hfr⟩ := hcut
                    have hz11 := hb11.size
                    have fm11 := Lib.hid (fm10.out.call hb11)
                    by_cases h300 : 300 < nm
                    · have jn : (300 : Int) < (nm : Int) := by omega
                      clear L9' hfr hb11
                      go_wp2
                      go_ret2
                      exact Ret.mk ⟨fm11.out.bel, none, 0, 0, false, rfl⟩
                    · have jn : ¬ (300 : Int) < (nm : Int) := by omega
                      have T11 : Hid (TwoL p w W.heap.size [⟨w.heap.size, 39, [.slice qa0 p.vs.length qc0, .slice qa1 p.now.length qc1, .slice qa2 p.tgt.length qc2, .slice qa3 p.tabs.length qc3]⟩] W w11 (ms ++ [y]) (Qs ms.length Q ⟨y0, z0, y1, z1, y2, z2⟩) ss2 R2 (.slice A8 nm c8) _) := Lib.hid ⟨by have := L8.out.to hb11; rw [hnm.out] at this; exact this, L9', (fun g' h1 h2 => by
                        have h3 := hfr g' h1
                        refine own_lt L8.out.row h3 ?_
                        rw [hnm.out]; exact h2), by rw [hnm.out]; omega, by rw [hnm.out, hl2, hn9, hml.out], fm11.out, bel10.out.trans (hb11.mono (by omega)), rfl⟩
                      have oL11 := Lib.hid (own_to oL10.out hb11)
                      have hx11 : Hid (mxAt (ms ++ [y]) i = x) := Lib.hid (by rw [mxAt_snoc_lt him]; exact hx.out)
                      have hq11 : Hid (Qs ms.length Q ⟨y0, z0, y1, z1, y2, z2⟩ i = ⟨xa0, xc0, xa1, xc1, xa2, xc2⟩) := Lib.hid (by rw [Qs_lt him]; exact hq.out)
                      have him2 : i < (ms ++ [y]).length := by rw [hnm.out, hml.out]; omega
                      replace him2 := Lib.hid him2
                      clear L9' hfr hb11
                      go_wp2
                      go_roundw
                      case rel => exact ⟨k + 1, ms ++ [y], ss2, _, R2, by go_num, by omega, him2.out, hx11, hq11, oL11, T11⟩
                      case measure => simp [intOf]; omega
          · obtain rfl : k = L.length := by omega
            clear hltk zp fp p0 p1 p2 p3
            have hi2 : i + 1 ≤ 300 := by omega
            go_wp2
            go_roundw
            case rel => exact ⟨i + 1, ms, ss, Q, R, by go_num, him, hT⟩
            case measure => simp [intOf]; omega
      · obtain rfl : i = ms.length := by omega
        clear hlt
        have hFm := Lib.hid hT.out.fm
        obtain ⟨A9, c9, rfl, -⟩ := hT.out.l9.arr
        clear zp fp p0 p1 p2 p3 hT har8
        go_wp2
        go_ret2
        exact Ret.mk ⟨hFm.out.bel, _, _, _, _, rfl⟩
end Go.Proofs.Ytickckehhfdoeaa
