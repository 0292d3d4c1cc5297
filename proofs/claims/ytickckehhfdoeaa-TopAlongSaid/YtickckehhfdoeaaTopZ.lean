/-
  THE LAW sheavetop.TopAlong: it returns true.
  Conditions: none but the arguments' form.
-/
import Derived.Test.YtickckehhfdoeaaTopZa
import Derived.Deep.CutBlock
namespace Go.Proofs.Ytickckehhfdoeaa
open Go.RowKit Go.Sv
set_option maxHeartbeats 4000000 in
set_option maxRecDepth 100000 in
theorem law_along (d : Dra) (q : ProbP) (Ac : Option Addr) (cc : Nat) (cs : List Int) (w : World) (hd : RDra w w.heap.size d q) (hbd : DBd d) (hc : Arr w w.heap.size Ac cs.length (u8v cs)) (h8 : Bt8 cs) :
    Calls Try.prog 5 #[draV d q, .slice Ac cs.length cc] w fun e w' => e = .returned (.bool true) ∧ Below w.heap.size w w' := by
  obtain ⟨qa0, qc0, qa1, qc1, qa2, qc2, qa3, qc3⟩ := q
  obtain ⟨W, (hW : w.alloc (.cells #[.slice qa0 d.vs.length qc0, .slice qa1 d.now.length qc1, .slice qa2 d.tgt.length qc2, .slice qa3 d.lk.length qc3] 32) = W), S, hB⟩ := fm_boxE (Fm.init w) 32 [.slice qa0 d.vs.length qc0, .slice qa1 d.now.length qc1, .slice qa2 d.tgt.length qc2, .slice qa3 d.lk.length qc3]
  have HO := Lib.hid (of35_any d ⟨qa0, qc0, qa1, qc1, qa2, qc2, qa3, qc3⟩ W ((hd.below hB).more hB.size) hbd)
  have HAw := Lib.hid (fun W' => awake_any W')
  have hcs := Lib.hid (fun W' (hb : Below w.heap.size w W') => (hc.below hb).more hb.size)
  have SW := Lib.hid S
  obtain ⟨⟨zd, fd, d0, d1, d2, d3, -⟩, -⟩ := S.facts
  have h8h := Lib.hid h8
  clear S hd hbd hB hc h8
  go_enter Try.func5, Try.ntmps5
  go_wp2_with fail
  clear hW
  with_reducible refine HO.out.mono ?_
  rintro e' w1 ⟨_, rfl, hb1, hv⟩
  have S1 := Lib.hid (SW.out.call hb1)
  clear HO SW hb1 zd fd d0 d1 d2 d3
  by_cases hs : ¬ (d.vs.length ≤ 3 ∧ d.lk.length ≤ 4)
  · rw [if_neg hs] at hv
    subst hv
    obtain ⟨⟨zd, fd, d0, d1, d2, d3, -⟩, -⟩ := S1.out.facts
    go_upto_region 2 with fail
    obtain ⟨W2, hW2, S2, hb2⟩ := fm_boxE S1.out 39 [.slice none 0 0, .slice none 0 0, .slice none 0 0, .slice none 0 0]
    rw [hW2]
    clear hW2 hb2 S1 zd fd d0 d1 d2 d3
    replace S2 := Lib.hid S2
    obtain ⟨⟨zp, fp, p0, p1, p2, p3, -⟩, ⟨zd, fd, d0, d1, d2, d3, -⟩, -⟩ := S2.out.facts
    go_wp2_with fail
    with_reducible refine (HAw.out _).mono ?_
    rintro e' w3 ⟨rfl, hb3⟩
    have S3 := Lib.hid (S2.out.call hb3)
    clear hb3
    go_wp2_with fail
    with_reducible refine (HAw.out _).mono ?_
    rintro e' w4 ⟨rfl, hb4⟩
    have S4 := Lib.hid (S3.out.call hb4)
    clear hb4
    clear zp fp p0 p1 p2 p3 zd fd d0 d1 d2 d3
    go_wp2
    go_ret
    exact ⟨rfl, S4.out.bel⟩
  rw [Classical.not_not] at hs
  rw [if_pos hs] at hv
  obtain ⟨⟨zd0, -⟩, -⟩ := S1.out.facts
  obtain ⟨⟨y0, v0, y1, v1, y2, v2, y3, v3⟩, F, rfl, hPO⟩ := hv
  have hp0 := dProb_ok hs.1 hs.2
  have hpb := dProb_bd hs.1 hs.2
  have hps := prob_small hp0
  obtain ⟨p, hpd⟩ : ∃ p, dProb d = p := ⟨_, rfl⟩
  rw [hpd] at hp0 hpb hps hPO ⊢
  replace hpd := Lib.hid hpd
  have hpv : p.vs.length ≤ 6 := hps.1
  have hPr := hPO.prob
  obtain ⟨W2, (hW2 : w1.alloc (.cells #[.slice y0 p.vs.length v0, .slice y1 p.now.length v1, .slice y2 p.tgt.length v2, .slice y3 p.tabs.length v3] 39) = W2), S2, hB2⟩ := fm_boxE S1.out 39 [.slice y0 p.vs.length v0, .slice y1 p.now.length v1, .slice y2 p.tgt.length v2, .slice y3 p.tabs.length v3]
  have hP2 := Lib.hid (hPr.to hB2)
  replace S2 := Lib.hid S2
  obtain ⟨⟨zp, fp, p0, p1, p2, p3, -⟩, ⟨zd, fd, d0, d1, d2, d3, -⟩, -⟩ := S2.out.facts
  have hn1 : y1 = none → p.now.length = 0 ∧ v1 = 0 := fun h => by
    have h2 := hPO.o1
    dsimp only at h2
    rw [h] at h2
    exact own_none h2
  replace hn1 := Lib.hid hn1
  have hp0h := Lib.hid hp0
  have hpbh := Lib.hid hpb
  clear hPO hPr hB2 S1 hs hps hpb hp0
  go_wp2_with fail
  clear hW2
  with_reducible refine (HAw.out _).mono ?_
  rintro e' w3 ⟨rfl, hb3⟩
  have S3 := Lib.hid (S2.out.call hb3)
  have hP3 := Lib.hid (hP2.out.to hb3)
  clear hb3 S2 hP2
  clear zp fp p0 p1 p2 p3 zd fd d0 d1 d2 d3
  obtain ⟨⟨zp, fp, p0, p1, p2, p3, -⟩, ⟨zd, fd, d0, d1, d2, d3, -⟩, -⟩ := S3.out.facts
  have zp0 := zp
  by_cases h12 : ¬ cs.length ≤ 12
  · have jh : (12 : Int) < (cs.length : Int) := by omega
    go_wp2_with fail
    with_reducible refine (HAw.out _).mono ?_
    rintro e' w4 ⟨rfl, hb4⟩
    have S4 := Lib.hid (S3.out.call hb4)
    clear hb4
    clear zp fp p0 p1 p2 p3 zd fd d0 d1 d2 d3
    go_wp2
    go_ret
    exact ⟨rfl, S4.out.bel⟩
  have h12' : cs.length ≤ 12 := by omega
  have jh : ¬ (12 : Int) < (cs.length : Int) := by omega
  clear h12
  have HS := Lib.hid (start0_any p ⟨y0, v0, y1, v1, y2, v2, y3, v3⟩ w3 hP3.out hpbh.out hp0h.out hn1.out)
  go_wp2_with fail
  with_reducible refine HS.out.mono ?_
  rintro e' w4 ⟨_, rfl, hb4, ⟨a0, c0, a1, c1, a2, c2⟩, rfl, ha⟩
  have hs4 := hb4.size
  have S4 := S3.out.call hb4
  have hP4 := hP3.out.to hb4
  obtain ⟨m, hm⟩ : ∃ m, stMx p = m := ⟨_, rfl⟩
  rw [hm] at ha ⊢
  obtain ⟨W5, (hW5 : w4.alloc (.cells #[.slice a0 m.base.length c0, .slice a1 m.next.length c1, .slice a2 m.held.length c2] 56) = W5), S5, hB5⟩ := fm_boxE S4 56 [.slice a0 m.base.length c0, .slice a1 m.next.length c1, .slice a2 m.held.length c2]
  have ha5 := Lib.hid (ha.to hB5)
  have hB5h := Lib.hid hB5
  have hP4h := Lib.hid hP4
  have hmo := Lib.hid (stMx_ok hp0h.out)
  have hm8 := Lib.hid (stMx_h8 hp0h.out)
  rw [hm] at hmo hm8
  replace hm := Lib.hid hm
  clear S4 ha hB5 hb4 hP4 HS
  clear zp fp p0 p1 p2 p3 zd fd d0 d1 d2 d3
  obtain ⟨⟨zm, fm, m0, m1, m2, -⟩, ⟨zp, fp, p0, p1, p2, p3, -⟩, ⟨zd, fd, d0, d1, d2, d3, -⟩, -⟩ := S5.facts
  replace S5 := Lib.hid S5
  have hw1 : w.heap.size < w1.heap.size := zd0
  have hw3 : w1.heap.size < w3.heap.size := zp0
  have hw4 : w3.heap.size ≤ w4.heap.size := hs4
  have hw5 : w4.heap.size < W5.heap.size := by rw [← hW5]; simp
  go_upto_block 0 with fail
  clear hW5
  clear zm fm m0 m1 m2 zp fp p0 p1 p2 p3 zd fd d0 d1 d2 d3
  go_cut [9] (fun s9 wx => ∃ (l : List Sp) (o : List Mx) (x : Mx) (b0 b1 b2 : Option Addr) (e0 e1 e2 : Nat), l.length ≤ 12 ∧ Hid (Tr p m l o x) ∧ Hid (wx.ownsRow (w4.heap.size + 1) 63 3 s9 l.length (spRow l)) ∧ Hid (Fm w wx [⟨w4.heap.size, 56, [.slice b0 x.base.length e0, .slice b1 x.next.length e1, .slice b2 x.held.length e2]⟩, ⟨w1.heap.size, 39, [.slice y0 p.vs.length v0, .slice y1 p.now.length v1, .slice y2 p.tgt.length v2, .slice y3 p.tabs.length v3]⟩, ⟨w.heap.size, 32, [.slice qa0 d.vs.length qc0, .slice qa1 d.now.length qc1, .slice qa2 d.tgt.length qc2, .slice qa3 d.lk.length qc3]⟩] []) ∧ Hid (AO wx w3.heap.size x ⟨b0, e0, b1, e1, b2, e2⟩) ∧ Hid (H8 x) ∧ Hid (Below w4.heap.size w4 wx))
  case first =>
    go_wp2_with fail
    go_loopw [9, 46] (fun s9 s46 wr => ∃ (k : Nat) (l : List Sp) (o : List Mx) (x : Mx) (b0 b1 b2 : Option Addr) (e0 e1 e2 : Nat), s46 = .int .i64 (k : Int) ∧ k ≤ cs.length ∧ l.length ≤ k ∧ Hid (Tr p m l o x) ∧ Hid (wr.ownsRow (w4.heap.size + 1) 63 3 s9 l.length (spRow l)) ∧ Hid (Fm w wr [⟨w4.heap.size, 56, [.slice b0 x.base.length e0, .slice b1 x.next.length e1, .slice b2 x.held.length e2]⟩, ⟨w1.heap.size, 39, [.slice y0 p.vs.length v0, .slice y1 p.now.length v1, .slice y2 p.tgt.length v2, .slice y3 p.tabs.length v3]⟩, ⟨w.heap.size, 32, [.slice qa0 d.vs.length qc0, .slice qa1 d.now.length qc1, .slice qa2 d.tgt.length qc2, .slice qa3 d.lk.length qc3]⟩] []) ∧ Hid (AO wr w3.heap.size x ⟨b0, e0, b1, e1, b2, e2⟩) ∧ Hid (H8 x) ∧ Hid (Below w4.heap.size w4 wr)) (fun _ s46 _ => cs.length - (intOf s46).toNat)
    case atStart => exact ⟨0, [], [], m, a0, a1, a2, c0, c1, c2, rfl, Nat.zero_le _, Nat.le_refl _, Lib.hid (Tr.nil hmo.out), Lib.hid (World.ownsRow_nil _ _ _ _), S5, ha5, hm8, hB5h⟩
    case round =>
      obtain ⟨k, l, o, x, b0, b1, b2, e0, e1, e2, rfl, hk, hlk, hTr, hown, hF, hA, h8x, hbW⟩ := hrel
      obtain ⟨⟨zm, fm, m0, m1, m2, -⟩, ⟨zp, fp, p0, p1, p2, p3, -⟩, ⟨zd, fd, d0, d1, d2, d3, -⟩, -⟩ := hF.out.facts
      have hz5 : w4.heap.size ≤ wr.heap.size := hbW.out.size
      by_cases hlt : k < cs.length
      · obtain ⟨bC, oC, rfl, hbC, hcC⟩ := (hcs.out wr hF.out.bel) (by omega)
        have dC := hcC k hlt
        have hv := h8h.out.1 k hlt
        unfold u8v at dC
        obtain ⟨v, hvv⟩ : ∃ v, gi cs k = v := ⟨_, rfl⟩
        rw [hvv] at dC hv
        have jk : (k : Int) < (cs.length : Int) := by omega
        have hok := hTr.out.ok
        have HE := Enabled_any p ⟨y0, v0, y1, v1, y2, v2, y3, v3⟩ x ⟨b0, e0, b1, e1, b2, e2⟩ wr (hP4h.out.to hbW.out) hpbh.out hA.out.mix (hA.out.bd h8x.out)
        rw [(en_ok hok).1, (en_ok hok).2] at HE
        have hLn := en_len hok
        have hLs := Lib.hid (fun j hj => en_at (m := x) (p := p) (j := j) hj)
        obtain ⟨L, hL⟩ : ∃ L, (allL p).filter (aftB p x) = L := ⟨_, rfl⟩
        rw [hL] at HE hLn hLs
        replace HE := Lib.hid HE
        replace hok := Lib.hid hok
        clear hL hcC hvv
        go_wp2_with fail
        with_reducible refine HE.out.mono ?_
        rintro e w6 ⟨_, rfl, hb6, A6, c6, rfl, hownL⟩
        have S6 := hF.out.call hb6
        have hA6 := hA.out.to hb6
        have hown6 := own_to hown.out hb6
        have hbW6 := hbW.out.trans (hb6.mono hz5)
        have hz6 := hbW6.size
        clear HE hF hA hown hbW hb6
        clear zm fm m0 m1 m2 zp fp p0 p1 p2 p3 zd fd d0 d1 d2 d3
        by_cases hL0 : L.length = 0
        · have z : ((L.length : Int) == 0) = true := by rw [hL0]; rfl
          replace S6 := Lib.hid S6
          replace hA6 := Lib.hid hA6
          replace hown6 := Lib.hid hown6
          replace hbW6 := Lib.hid hbW6
          replace hL0 := Lib.hid hL0
          clear hownL
          go_wp2
          go_meet
          exact ⟨l, o, x, b0, b1, b2, e0, e1, e2, by omega, hTr, hown6, S6, hA6, h8x, hbW6⟩
        · have z : ((L.length : Int) == 0) = false := by rw [beq_eq_false_iff_ne]; omega
          obtain ⟨j, hj, hjl⟩ := tmod_in hv.1 (show 0 < L.length by omega)
          have nz : ¬ (L.length : Int) = 0 := by omega
          have wv : IntKind.i64.wrap v = v := IntWalk.i64_in _ (by omega)
          obtain ⟨bL, oL, rfl, hbL, hcL⟩ := (spOwn_arr hownL) (by omega)
          obtain ⟨q0, q1, q2⟩ := sp_cells (hcL j hjl)
          have hst := hLs.out j hjl
          obtain ⟨s, hs⟩ : ∃ s, spAt L j = s := ⟨_, rfl⟩
          rw [hs] at q0 q1 q2 hst
          obtain ⟨kd, ix, ve⟩ := s
          dsimp only at q0 q1 q2
          have jj : (j : Int) < (L.length : Int) := by omega
          obtain ⟨W7, (hW7 : w6.alloc (.cells #[.int .i64 kd, .int .i64 ix, .int .i64 ve] 63) = W7), S7, hB7⟩ := fm_boxE S6 63 [.int .i64 kd, .int .i64 ix, .int .i64 ve]
          have hbW7 := hbW6.trans (hB7.mono hz6)
          have hs7 : w6.heap.size < W7.heap.size := by rw [← hW7]; simp
          have hAA := apply1_any p ⟨y0, v0, y1, v1, y2, v2, y3, v3⟩ x ⟨b0, e0, b1, e1, b2, e2⟩ ⟨kd, ix, ve⟩ W7 (hP4h.out.to hbW7) hpbh.out (hA6.to hB7).mix ((hA6.to hB7).bd h8x.out) hok.out
          have hown7 := Lib.hid (own_to hown6 hB7)
          have hY8 := Lib.hid (apM_h8 (s := ⟨kd, ix, ve⟩) hok.out h8x.out hst.1)
          have hTr2 := Lib.hid (hTr.out.snoc hst.1 hst.2)
          rw [hst.1] at hAA
          obtain ⟨y, hy⟩ : ∃ y, apM p x ⟨kd, ix, ve⟩ = y := ⟨_, rfl⟩
          rw [hy] at hAA hY8 hTr2
          dsimp only [probV, mixV, stepV] at hAA
          replace hAA := Lib.hid hAA
          replace hbW7 := Lib.hid hbW7
          obtain ⟨⟨zs, fs, t0, t1, t2, -⟩, ⟨zm, fm, m0, m1, m2, -⟩, ⟨zp, fp, p0, p1, p2, p3, -⟩, ⟨zd, fd, d0, d1, d2, d3, -⟩, -⟩ := S7.facts
          replace S7 := Lib.hid S7
          clear hcL hst hs hownL hown6 hA6 S6 hbW6 hB7 hTr hy
          go_wp2_with fail
          clear hW7
          with_reducible refine hAA.out.mono ?_
          rintro e w8 ⟨_, rfl, hb8, ⟨g0, h0, g1, h1, g2, h2⟩, rfl, hay⟩
          have hs8 := hb8.size
          have S8 := S7.out.call hb8
          have hown8 := own_to hown7.out hb8
          have hbW8 := hbW7.out.trans (hb8.mono (by have := hbW7.out.size; omega))
          clear zs fs t0 t1 t2 zm fm m0 m1 m2 zp fp p0 p1 p2 p3 zd fd d0 d1 d2 d3 q0 q1 q2
          obtain ⟨⟨zs, fs, t0, t1, t2, -⟩, ⟨zm, fm, m0, m1, m2, -⟩, ⟨zp, fp, p0, p1, p2, p3, -⟩, ⟨zd, fd, d0, d1, d2, d3, -⟩, -⟩ := S8.facts
          have S9 := ((((S8.set 1 rfl 0 (.slice g0 y.base.length h0)).set 1 rfl 1 (.slice g1 y.next.length h1)).set 1 rfl 2 (.slice g2 y.held.length h2)))
          have hay9 := hay.far3 (g := w4.heap.size) (by omega) (.slice g0 y.base.length h0) (.slice g1 y.next.length h1) (.slice g2 y.held.length h2)
          have hown9 := own_far (own_far (own_far hown8 (Nat.lt_succ_self _) 0 (.slice g0 y.base.length h0)) (Nat.lt_succ_self _) 1 (.slice g1 y.next.length h1)) (Nat.lt_succ_self _) 2 (.slice g2 y.held.length h2)
          have hbW9 := ((hbW8.setCell (p := ⟨w4.heap.size, 0, none⟩) (Nat.le_refl _) (.slice g0 y.base.length h0)).setCell (p := ⟨w4.heap.size, 1, none⟩) (Nat.le_refl _) (.slice g1 y.next.length h1)).setCell (p := ⟨w4.heap.size, 2, none⟩) (Nat.le_refl _) (.slice g2 y.held.length h2)
          obtain ⟨W9, hW9⟩ : ∃ W9, (((w8.setCell ⟨w4.heap.size, 0, none⟩ (.slice g0 y.base.length h0)).setCell ⟨w4.heap.size, 1, none⟩ (.slice g1 y.next.length h1)).setCell ⟨w4.heap.size, 2, none⟩ (.slice g2 y.held.length h2)) = W9 := ⟨_, rfl⟩
          dsimp only [List.set] at S9
          rw [hW9] at S9 hay9 hown9 hbW9
          replace hay9 := Lib.hid hay9
          replace hown9 := Lib.hid hown9
          replace hbW9 := Lib.hid hbW9
          replace S9 := Lib.hid S9
          have hw37 : w3.heap.size ≤ W7.heap.size := by omega
          clear hay hown8 hbW8 S8 hAA hb8
          go_upto_region 17 with fail
          try rw [hW9]
          clear hW9 zs fs t0 t1 t2 zm fm m0 m1 m2 zp fp p0 p1 p2 p3 zd fd d0 d1 d2 d3
          obtain ⟨⟨zs, fs, t0, t1, t2, -⟩, ⟨zm, fm, m0, m1, m2, -⟩, ⟨zp, fp, p0, p1, p2, p3, -⟩, ⟨zd, fd, d0, d1, d2, d3, -⟩, -⟩ := S9.out.facts
          have hz9 : w4.heap.size + 1 ≤ W9.heap.size := zm
          go_wp2_with (at_builtin; refine push_own elStep rfl _ _ rfl (w4.heap.size + 1) _ l.length (spRow l) hown9.out rfl [.int .i64 kd, .int .i64 ix, .int .i64 ve] rfl rfl rfl (by omega) (by omega) hz9 ?_)
          intro v' w10 hown10 hg10 hb10 hs10 _
          have hown11 : Hid (w10.ownsRow (w4.heap.size + 1) 63 3 v' (l ++ [(⟨kd, ix, ve⟩ : Sp)]).length (spRow (l ++ [(⟨kd, ix, ve⟩ : Sp)]))) := Lib.hid (by rw [List.length_append, List.length_singleton, spRow_snoc]; exact hown10)
          have S9d := S9.out.drop [⟨w4.heap.size, 56, [.slice g0 y.base.length h0, .slice g1 y.next.length h1, .slice g2 y.held.length h2]⟩, ⟨w1.heap.size, 39, [.slice y0 p.vs.length v0, .slice y1 p.now.length v1, .slice y2 p.tgt.length v2, .slice y3 p.tabs.length v3]⟩, ⟨w.heap.size, 32, [.slice qa0 d.vs.length qc0, .slice qa1 d.now.length qc1, .slice qa2 d.tgt.length qc2, .slice qa3 d.lk.length qc3]⟩] [] (List.Sublist.cons _ (List.Sublist.refl _)) (List.Sublist.refl _)
          have S10 := Lib.hid (fm_under S9d (B := w4.heap.size + 1) (by intro z hz; simp only [List.mem_cons, List.not_mem_nil, or_false] at hz; rcases hz with rfl | rfl | rfl <;> dsimp only <;> omega) (by omega) hb10)
          have hay10 := Lib.hid (((hay9.out.to ((Below.refl _ _).alloc (Nat.le_refl _) (.cells #[.int .i64 kd, .int .i64 ix, .int .i64 ve] 63))).push (hown9.out.alloc _) hg10).base hw37)
          have hbW10 := Lib.hid (hbW9.out.trans (hb10.mono (Nat.le_succ _)))
          clear hown10 hg10 hb10 hs10 S9d
          clear zs fs t0 t1 t2 zm fm m0 m1 m2 zp fp p0 p1 p2 p3 zd fd d0 d1 d2 d3
          go_wp2
          go_roundw
          case rel => exact ⟨k + 1, l ++ [⟨kd, ix, ve⟩], o ++ [y], y, g0, g1, g2, h0, h1, h2, by go_num, by omega, by simp; omega, hTr2, hown11, S10, hay10, hY8, hbW10⟩
          case measure => simp [intOf]; omega
      · obtain rfl : k = cs.length := by omega
        clear hlt
        clear zm fm m0 m1 m2 zp fp p0 p1 p2 p3 zd fd d0 d1 d2 d3
        go_wp2
        go_meet
        exact ⟨l, o, x, b0, b1, b2, e0, e1, e2, by omega, hTr, hown, hF, hA, h8x, hbW⟩
  case rest =>
    rename World => wx
    obtain ⟨l0, o0, x0, a0, a1, a2, c0, c1, c2, hl0, hTr0, hown0, hF0, hA0, h8x0, hbW0⟩ := hcut
    obtain ⟨⟨zm, fm, m0, m1, m2, -⟩, ⟨zp, fp, p0, p1, p2, p3, -⟩, ⟨zd, fd, d0, d1, d2, d3, -⟩, -⟩ := hF0.out.facts
    have hn0 := hTr0.out.ok.ln
    obtain ⟨n, hn⟩ : ∃ n, x0.next.length = n := ⟨_, rfl⟩
    have hn6 : n ≤ 6 := by omega
    have hnp : p.vs.length = n := by omega
    replace hn := Lib.hid hn
    replace hnp := Lib.hid hnp
    clear hn0
    go_wp2_with fail
    clear zm fm m0 m1 m2 zp fp p0 p1 p2 p3 zd fd d0 d1 d2 d3
    rw [hn.out]
    go_loopw [9, 86] (fun s9 s86 wr => ∃ (i : Nat) (l : List Sp) (o : List Mx) (x : Mx) (b0 b1 b2 : Option Addr) (e0 e1 e2 : Nat), s86 = .int .i64 (i : Int) ∧ i ≤ n ∧ l.length ≤ 12 + i ∧ Hid (∀ j, j < i → gi x.next j = -1) ∧ Hid (Tr p m l o x) ∧ Hid (wr.ownsRow (w4.heap.size + 1) 63 3 s9 l.length (spRow l)) ∧ Hid (Fm w wr [⟨w4.heap.size, 56, [.slice b0 x.base.length e0, .slice b1 x.next.length e1, .slice b2 x.held.length e2]⟩, ⟨w1.heap.size, 39, [.slice y0 p.vs.length v0, .slice y1 p.now.length v1, .slice y2 p.tgt.length v2, .slice y3 p.tabs.length v3]⟩, ⟨w.heap.size, 32, [.slice qa0 d.vs.length qc0, .slice qa1 d.now.length qc1, .slice qa2 d.tgt.length qc2, .slice qa3 d.lk.length qc3]⟩] []) ∧ Hid (AO wr w3.heap.size x ⟨b0, e0, b1, e1, b2, e2⟩) ∧ Hid (H8 x) ∧ Hid (Below w4.heap.size w4 wr)) (fun _ s86 _ => n - (intOf s86).toNat)
    case atStart => exact ⟨0, l0, o0, x0, a0, a1, a2, c0, c1, c2, rfl, Nat.zero_le _, hl0, Lib.hid (fun j hj => by omega), hTr0, hown0, hF0, hA0, h8x0, hbW0⟩
    case round =>
      clear hF0 hA0 h8x0 hbW0 hown0 hTr0 hn
      obtain ⟨i, l, o, x, b0, b1, b2, e0, e1, e2, rfl, hi, hli, hall, hTr, hown, hF, hA, h8x, hbW⟩ := hrel
      obtain ⟨⟨zm, fm, m0, m1, m2, -⟩, ⟨zp, fp, p0, p1, p2, p3, -⟩, ⟨zd, fd, d0, d1, d2, d3, -⟩, -⟩ := hF.out.facts
      have hz5 : w4.heap.size ≤ wr.heap.size := hbW.out.size
      by_cases hlt : i < n
      · have hok := hTr.out.ok
        have hxi : i < x.next.length := by rw [hok.ln, hnp.out]; exact hlt
        obtain ⟨bN, oN, rfl, hbN, hcN⟩ := hA.out.mix.r1 (by omega)
        have dN := hcN i hxi
        unfold iv at dN
        have hsv := (hok.sv i (by rw [hnp.out]; exact hlt)).2.2.1
        have hfin := Lib.hid (fun h => fin_step hok (i := i) (by rw [hnp.out]; exact hlt) h)
        obtain ⟨u, hu⟩ : ∃ u, gi x.next i = u := ⟨_, rfl⟩
        rw [hu] at dN hsv hfin
        have ji : (i : Int) < (n : Int) := by omega
        have jx : (i : Int) < (x.next.length : Int) := by omega
        replace hok := Lib.hid hok
        clear hcN
        by_cases hu0 : 0 ≤ u
        · have g1 : decide (0 ≤ u) = true := decide_eq_true hu0
          have hzo : w4.heap.size + 1 ≤ wr.heap.size := zm
          go_wp2_with (at_builtin; refine push_own elStep rfl _ _ rfl (w4.heap.size + 1) _ l.length (spRow l) hown.out rfl [.int .i64 2, .int .i64 i, .int .i64 0] rfl rfl rfl (by omega) (by omega) hzo ?_)
          intro v' w6 hown6 hg6 hb6 hs6 _
          obtain ⟨A6, c6, rfl, _, _, harr⟩ := own_arrN (f := spF (l ++ [(⟨2, i, 0⟩ : Sp)])) hown6 (fun k hk t ht => by
            have := spRow_get (l := l ++ [(⟨2, i, 0⟩ : Sp)]) (k := k) (i := t) (by simp; omega) ht
            rw [spRow_snoc] at this
            exact this)
          obtain ⟨bL, oL, rfl, hbL, hcL⟩ := harr (by omega)
          obtain ⟨q0, q1, q2⟩ := sp_cells (hcL l.length (by omega))
          rw [spAt_snoc_last] at q0 q1 q2
          dsimp only at q0 q1 q2
          have hown7 : Hid (w6.ownsRow (w4.heap.size + 1) 63 3 (.slice (some ⟨bL, oL, none⟩) (l.length + 1) c6) (l ++ [(⟨2, i, 0⟩ : Sp)]).length (spRow (l ++ [(⟨2, i, 0⟩ : Sp)]))) := Lib.hid (by rw [List.length_append, List.length_singleton, spRow_snoc]; exact hown6)
          have S6 := fm_under hF.out (B := w4.heap.size + 1) (by intro z hz; simp only [List.mem_cons, List.not_mem_nil, or_false] at hz; rcases hz with rfl | rfl | rfl <;> dsimp only <;> omega) (by omega) hb6
          have hA6 := (hA.out.to ((Below.refl _ _).alloc (Nat.le_refl _) (.cells #[.int .i64 2, .int .i64 i, .int .i64 0] 63))).push (hown.out.alloc _) hg6
          have hbW6 := hbW.out.trans (hb6.mono (Nat.le_succ _))
          have hz6 := hbW6.size
          have hf := hfin.out hu0
          have hdr : Below w6.heap.size w6 w6.drew := ((Drawn.refl w6).drew).below
          have hAA := apply1_any p ⟨y0, v0, y1, v1, y2, v2, y3, v3⟩ x ⟨b0, e0, some ⟨bN, oN, none⟩, e1, b2, e2⟩ ⟨2, i, 0⟩ w6.drew (hP4h.out.to (hbW6.trans (hdr.mono hz6))) hpbh.out (hA6.to hdr).mix ((hA6.to hdr).bd h8x.out) hok.out
          have hY8 := Lib.hid (apM_h8 (s := ⟨2, i, 0⟩) hok.out h8x.out hf.1)
          have hTr2 := Lib.hid (hTr.out.snoc hf.1 (show (2 : Int) ≠ 4 by decide))
          have hall2 : Hid (∀ j, j < i + 1 → gi (apM p x ⟨2, i, 0⟩).next j = -1) := Lib.hid (fun j hj => by
            rw [hf.2, set_gi hxi]
            by_cases c : j = i
            · rw [if_pos c]
            · rw [if_neg c]; exact hall.out j (by omega))
          rw [hf.1] at hAA
          obtain ⟨y, hy⟩ : ∃ y, apM p x ⟨2, i, 0⟩ = y := ⟨_, rfl⟩
          rw [hy] at hAA hY8 hTr2 hall2
          dsimp only [probV, mixV, stepV] at hAA
          replace hAA := Lib.hid hAA
          have S6d := Lib.hid S6.drew
          clear zm fm m0 m1 m2 zp fp p0 p1 p2 p3 zd fd d0 d1 d2 d3
          obtain ⟨⟨zm, fm, m0, m1, m2, -⟩, ⟨zp, fp, p0, p1, p2, p3, -⟩, ⟨zd, fd, d0, d1, d2, d3, -⟩, -⟩ := S6.facts
          have hbWd := Lib.hid (hbW6.trans (hdr.mono hz6))
          have hownd := Lib.hid (own_to hown7.out hdr)
          replace hok := Lib.hid hok
          have k1 : IntKind.i64.wrap ((l.length : Int) + 1 - 1) = (l.length : Int) := by
            rw [show (l.length : Int) + 1 - 1 = (l.length : Int) by omega]
            exact IntWalk.i64_in _ (by omega)
          have k2 : IntKind.i64.wrap (l.length : Int) = (l.length : Int) := IntWalk.i64_in _ (by omega)
          have k3 : (l.length : Int) < (l.length : Int) + 1 := by omega
          have hd6 : w6.drew.heap.size = w6.heap.size := rfl
          have hw64 : w4.heap.size < w6.heap.size := zm
          clear hcL harr hown6 hg6 hb6 hs6 hA6 hbW6 S6 hdr hF hA hown hbW hTr hall hfin hf hy hu hown7 dN
          go_wp2_with fail
          trace_state
          go_region_law
            ((go_simp; go_at_call 15; refine hAA.out.mono ?_
              rintro e w8 ⟨_, rfl, hb8, ⟨g0, h0, g1, h1, g2, h2⟩, rfl, hay⟩
              have S8 := Lib.hid (S6d.out.call hb8)
              have hs8 := hb8.size
              have hownx := Lib.hid (own_to hownd.out hb8)
              have hbWx := Lib.hid (hbWd.out.trans (hb8.mono hbWd.out.size))
              replace hay := Lib.hid hay
              clear hb8
              clear zm fm m0 m1 m2 zp fp p0 p1 p2 p3 zd fd d0 d1 d2 d3
              obtain ⟨⟨zm, fm, m0, m1, m2, -⟩, ⟨zp, fp, p0, p1, p2, p3, -⟩, ⟨zd, fd, d0, d1, d2, d3, -⟩, -⟩ := S8.out.facts))
          all_goals
            have S9 := Lib.hid (((S8.out.set 0 rfl 0 (.slice g0 y.base.length h0)).set 0 rfl 1 (.slice g1 y.next.length h1)).set 0 rfl 2 (.slice g2 y.held.length h2))
            have hay9 := Lib.hid ((hay.out.far3 (g := w4.heap.size) (by rw [hd6]; omega) (.slice g0 y.base.length h0) (.slice g1 y.next.length h1) (.slice g2 y.held.length h2)).base (B' := w3.heap.size) (by rw [hd6]; omega))
            have hown9 := Lib.hid (own_far (own_far (own_far hownx.out (Nat.lt_succ_self _) 0 (.slice g0 y.base.length h0)) (Nat.lt_succ_self _) 1 (.slice g1 y.next.length h1)) (Nat.lt_succ_self _) 2 (.slice g2 y.held.length h2))
            have hbW9 := Lib.hid (((hbWx.out.setCell (p := ⟨w4.heap.size, 0, none⟩) (Nat.le_refl _) (.slice g0 y.base.length h0)).setCell (p := ⟨w4.heap.size, 1, none⟩) (Nat.le_refl _) (.slice g1 y.next.length h1)).setCell (p := ⟨w4.heap.size, 2, none⟩) (Nat.le_refl _) (.slice g2 y.held.length h2))
            clear zm fm m0 m1 m2 zp fp p0 p1 p2 p3 zd fd d0 d1 d2 d3 S8 hay hownx hbWx
            go_wp2
            go_roundw
            case rel => exact ⟨i + 1, l ++ [⟨2, i, 0⟩], o ++ [y], y, g0, g1, g2, h0, h1, h2, by go_num, by omega, by simp; omega, hall2, hTr2, hown9, S9, hay9, hY8, hbW9⟩
            case measure => simp [intOf]; omega
        · have g1 : decide (0 ≤ u) = false := decide_eq_false hu0
          have hall2 : Hid (∀ j, j < i + 1 → gi x.next j = -1) := Lib.hid (fun j hj => by
            by_cases c : j = i
            · rw [c, hu]; omega
            · exact hall.out j (by omega))
          clear hfin hall hu hsv
          go_wp2
          go_roundw
          case rel => exact ⟨i + 1, l, o, x, b0, _, b2, e0, e1, e2, by go_num, by omega, by omega, hall2, hTr, hown, hF, hA, h8x, hbW⟩
          case measure => simp [intOf]; omega
      · obtain rfl : i = n := by omega
        clear hlt
        have hok := hTr.out.ok
        have hnx : ∀ j, j < p.vs.length → gi x.next j = -1 := fun j hj => hall.out j (by have := hnp.out; omega)
        have hdi := di_tgt hok hnx
        have htg := (prob_small hok.pr).2.2.2
        have HD := Direct_any p ⟨y0, v0, y1, v1, y2, v2, y3, v3⟩ x ⟨b0, e0, b1, e1, b2, e2⟩ y2 v2 p.tgt wr (hP4h.out.to hbW.out) hpbh.out hA.out.mix (hA.out.bd h8x.out) (hP4h.out.to hbW.out).r2 (by omega)
        rw [hdi.1] at HD
        have hRl : (diL p x p.tgt).length ≤ 12 := by
          rw [hdi.2]
          have := dirL_len x p.tgt 0
          omega
        obtain ⟨o2, y, hTr2, hg⟩ := hTr.out.whole hnx
        obtain ⟨R, hR⟩ : ∃ R, diL p x p.tgt = R := ⟨_, rfl⟩
        rw [hR] at HD hRl hTr2
        have hm0 := hm.out
        have hal := along_law (p := p) (l := l ++ R) (o := o2) (x := y) (by rw [hm0]; exact hTr2) (mixE_ok.2 (by rw [hm0]; exact hmo.out)) hg
        rw [hm0] at hal
        have hmix := Tr.mixes hmo.out hTr2
        have hlen := hTr2.len
        obtain ⟨LL, hLL⟩ : ∃ LL, l ++ R = LL := ⟨_, rfl⟩
        have hLl : l.length + R.length = LL.length := by rw [← hLL]; simp
        have hLr : spRow l ++ spRow R = spRow LL := by rw [← hLL, spRow_app]
        rw [hLL] at hal hTr2 hlen
        obtain ⟨C, hC⟩ : ∃ C, (m :: o2).all (robB p) = C := ⟨_, rfl⟩
        have hal0 := Lib.hid hal
        have hmix := Lib.hid hmix
        replace HD := Lib.hid HD
        have hL100 : LL.length ≤ 100 := by omega
        have hms : (m :: o2).length ≤ 1000000 := by simp; omega
        replace hms := Lib.hid hms
        replace hLr := Lib.hid hLr
        replace hLl := Lib.hid hLl
        have hl18 : l.length ≤ 100 := by omega
        clear hal hdi hnx hR hg hTr2 hok hall hlen hLL htg
        go_wp2_with fail
        with_reducible refine HD.out.mono ?_
        rintro e w6 ⟨_, rfl, hb6, A6, c6, rfl, hownR⟩
        have S6 := hF.out.call hb6
        have hown6 := Lib.hid (own_to hown.out hb6)
        have hbW6 := hbW.out.trans (hb6.mono hz5)
        have harR := Lib.hid (spOwn_arr hownR)
        have hnilR := Lib.hid (own_nil hownR)
        have HFr := Lib.hid (spRow_one_cell R)
        clear zm fm m0 m1 m2 zp fp p0 p1 p2 p3 zd fd d0 d1 d2 d3 hF hA hown hbW hownR HD hb6
        obtain ⟨⟨zm, fm, m0, m1, m2, -⟩, ⟨zp, fp, p0, p1, p2, p3, -⟩, ⟨zd, fd, d0, d1, d2, d3, -⟩, -⟩ := S6.facts
        replace S6 := Lib.hid S6
        replace hbW6 := Lib.hid hbW6
        have hz6 : w4.heap.size + 1 ≤ w6.heap.size := zm
        go_wp2_with (at_builtin; refine append_arr elStep rfl _ _ rfl (w4.heap.size + 1) _ l.length (spRow l) hown6.out rfl _ _ _ (spRow R) rfl (spRow_len R) HFr.out ?c1 ?c2 (by omega) (by omega) hz6 ?_)
        case c1 => exact fun h => (hnilR.out h).1
        case c2 => exact arrN_cells (by decide) harR.out
        intro v' w7 hown7 hg7 hb7 hor7
        rw [hLl.out, hLr.out] at hown7
        obtain ⟨A7, c7, rfl, _, _, harr⟩ := own_arrN (f := spF LL) hown7 (fun k hk t ht => spRow_get hk ht)
        have S7 := fm_under S6.out (B := w4.heap.size + 1) (by intro z hz; simp only [List.mem_cons, List.not_mem_nil, or_false] at hz; rcases hz with rfl | rfl | rfl <;> dsimp only <;> omega) (by omega) hb7
        have hbW7 := hbW6.out.trans (hb7.mono (Nat.le_succ _))
        have HSf := safe_any p ⟨y0, v0, y1, v1, y2, v2, y3, v3⟩ A7 c7 LL (m :: o2) w7 (hP4h.out.to hbW7) hpbh.out hp0h.out hn1.out harr (by omega) (by rw [hm.out]; exact hal0.out.2.1) (by rw [hm.out]; exact hal0.out.1) hmix.out hms.out
        have HCk := fun (w8 : World) (hb8 : Below w7.heap.size w7 w8) => check_any p ⟨y0, v0, y1, v1, y2, v2, y3, v3⟩ A7 c7 LL w8 (hP4h.out.to (hbW7.trans (hb8.mono hbW7.size))) hpbh.out hp0h.out hn1.out ((harr.below hb8).more hb8.size) (by omega)
        rw [hC] at HSf
        rw [hal0.out.2.2, hC] at HCk
        dsimp only [probV] at HSf HCk
        replace HSf := Lib.hid HSf
        replace HCk := Lib.hid HCk
        clear zm fm m0 m1 m2 zp fp p0 p1 p2 p3 zd fd d0 d1 d2 d3
        obtain ⟨⟨zm, fm, m0, m1, m2, -⟩, ⟨zp, fp, p0, p1, p2, p3, -⟩, ⟨zd, fd, d0, d1, d2, d3, -⟩, -⟩ := S7.facts
        replace S7 := Lib.hid S7
        clear hown7 hg7 hb7 hor7 harr hbW7 hmix hms hal0 hC
        go_wp2_with fail
        with_reducible refine HSf.out.mono ?_
        rintro e w8 ⟨rfl, hb8⟩
        have S8 := Lib.hid (S7.out.call hb8)
        clear zm fm m0 m1 m2 zp fp p0 p1 p2 p3 zd fd d0 d1 d2 d3
        obtain ⟨⟨zm, fm, m0, m1, m2, -⟩, ⟨zp, fp, p0, p1, p2, p3, -⟩, ⟨zd, fd, d0, d1, d2, d3, -⟩, -⟩ := S8.out.facts
        go_wp2_with fail
        with_reducible refine (HCk.out w8 hb8).mono ?_
        rintro e w9 ⟨rfl, hb9⟩
        have S9 := Lib.hid (S8.out.call hb9)
        clear zm fm m0 m1 m2 zp fp p0 p1 p2 p3 zd fd d0 d1 d2 d3 hb8 hb9
        cases C <;> (go_wp2; go_ret; exact ⟨rfl, S9.out.bel⟩)
end Go.Proofs.Ytickckehhfdoeaa
