/-
  LAW ReplicaRounds.
  Conditions: those that each theorem names.
-/
import Derived.Test.YtcjnfciemangkaaRepW
import Derived.Deep.DeepCutAuto
import Derived.Deep.RegionHeld3
namespace Go.Sv
open Go.RowKit
theorem prob_small {p : Prob} (h : probE p = 0) : p.vs.length ≤ 6 ∧ p.tabs.length ≤ 12 ∧ p.now.length = p.vs.length ∧ p.tgt.length = p.vs.length := by
  obtain ⟨a, b, c, e, -⟩ := probE_dims h
  exact ⟨a, b, c, e⟩
end Go.Sv
namespace Go.Proofs.Ytcjnfciemangkaa
open Go.RowKit Go.Sv
theorem dVs_le (d : Dra) (i : Nat) : (gi (dVs d) i).toNat ≤ 3 := by
  by_cases h : i < d.vs.length
  · have := dVs_bd h; omega
  · have : gi (dVs d) i = 0 := by simp [gi, dVs, h]
    omega
theorem dProb_bd {d : Dra} (h3 : d.vs.length ≤ 3) (h4 : d.lk.length ≤ 4) : PBd (dProb d) := by
  obtain ⟨a, b, c, e⟩ := prob_small (dProb_ok h3 h4)
  refine ⟨by omega, by omega, by omega, by omega, fun k hk => ?_⟩
  have key : ∀ t, t ∈ (dProb d).tabs → t.ok.length ≤ 9223372036854775807 ∧ t.rw.length ≤ 9223372036854775807 := by
    intro t ht
    unfold dProb at ht
    dsimp only at ht
    split at ht
    · cases ht
    · obtain ⟨l, -, rfl⟩ := List.mem_map.1 ht
      unfold dTab
      dsimp only
      rw [bitsM_len]
      have h1 := dVs_le d (l.src % ((dVs d).length : Int)).toNat
      refine ⟨by omega, ?_⟩
      split
      · rw [bitsM_len]; omega
      · simp
  have hm : tab (dProb d).tabs k ∈ (dProb d).tabs := by
    have e : tab (dProb d).tabs k = (dProb d).tabs[k] := by simp [tab, hk]
    rw [e]
    exact List.getElem_mem hk
  exact key _ hm
set_option maxHeartbeats 8000000 in
set_option maxRecDepth 100000 in
theorem law_rounds (d : Dra) (q : ProbP) (Ac : Option Addr) (cc : Nat) (cs : List Int) (Ao : Option Addr) (co : Nat) (os : List Opp) (w : World) (hd : RDra w w.heap.size d q) (hbd : DBd d) (hc : Arr w w.heap.size Ac cs.length (u8v cs)) (h8 : Bt8 cs)
    (ho : ROps w w.heap.size Ao os) (hAo : Ao = none → os.length = 0 ∧ co = 0) (hob : ∀ k, k < os.length → OBd (oppAt os k)) (hol : os.length ≤ 9223372036854775807) (hcap : os.length ≤ co) :
    Calls Try.prog 6 #[draV d q, .slice Ac cs.length cc, .slice Ao os.length co] w fun e w' => e = .returned (.bool true) ∧ Below w.heap.size w w' := by
  obtain ⟨qa0, qc0, qa1, qc1, qa2, qc2, qa3, qc3⟩ := q
  obtain ⟨W, (hW : w.alloc (.cells #[.slice qa0 d.vs.length qc0, .slice qa1 d.now.length qc1, .slice qa2 d.tgt.length qc2, .slice qa3 d.lk.length qc3] 48) = W), S, hB⟩ := fm_boxE (Fm.init w) 48 [.slice qa0 d.vs.length qc0, .slice qa1 d.now.length qc1, .slice qa2 d.tgt.length qc2, .slice qa3 d.lk.length qc3]
  have HO := Lib.hid (of35_any d ⟨qa0, qc0, qa1, qc1, qa2, qc2, qa3, qc3⟩ W ((hd.below hB).more hB.size) hbd)
  have HAw := Lib.hid (fun W' => awake_any W')
  have hcs := Lib.hid (fun W' (hb : Below w.heap.size w W') => (hc.below hb).more hb.size)
  have hop := Lib.hid (fun W' (hb : Below w.heap.size w W') => ROps.to ho hb)
  have SW := Lib.hid S
  obtain ⟨⟨zd, fd, d0, d1, d2, d3, -⟩, -⟩ := S.facts
  replace hAo := Lib.hid hAo
  replace hob := Lib.hid hob
  have h8h := Lib.hid h8
  clear S hd hbd hB hc ho h8
  go_enter Try.func6, Try.ntmps6
  go_wp2_with fail
  clear hW
  with_reducible refine HO.out.mono ?_
  rintro e' w1 ⟨_, rfl, hb1, hv⟩
  have S1 := Lib.hid (SW.out.call hb1)
  clear HO SW hb1 zd fd d0 d1 d2 d3
  by_cases hs : ¬ (d.vs.length ≤ 3 ∧ d.lk.length ≤ 4)
  · rw [if_neg hs] at hv
    subst hv
    obtain ⟨⟨zd, fd, d0, d1, d2, d3, -⟩, -⟩ := S1.out.facts
    go_upto_region 2 with fail
    obtain ⟨W2, hW2, S2, hb2⟩ := fm_boxE S1.out 25 [.slice none 0 0, .slice none 0 0, .slice none 0 0, .slice none 0 0]
    rw [hW2]
    clear hW2 hb2 S1 zd fd d0 d1 d2 d3
    replace S2 := Lib.hid S2
    obtain ⟨⟨zp, fp, p0, p1, p2, p3, -⟩, ⟨zd, fd, d0, d1, d2, d3, -⟩, -⟩ := S2.out.facts
    go_wp2_with fail
    with_reducible refine (HAw.out _).mono ?_
    rintro e' w3 ⟨rfl, hb3⟩
    have S3 := Lib.hid (S2.out.call hb3)
    clear hb3
    go_wp2_with fail
    with_reducible refine (HAw.out _).mono ?_
    rintro e' w4 ⟨rfl, hb4⟩
    have S4 := Lib.hid (S3.out.call hb4)
    clear hb4
    clear zp fp p0 p1 p2 p3 zd fd d0 d1 d2 d3
    go_wp2
    go_ret
    exact ⟨rfl, S4.out.bel⟩
  rw [Classical.not_not] at hs
  rw [if_pos hs] at hv
  obtain ⟨⟨y0, v0, y1, v1, y2, v2, y3, v3⟩, F, rfl, hPO⟩ := hv
  have hp0 := dProb_ok hs.1 hs.2
  have hpb := dProb_bd hs.1 hs.2
  have hps := prob_small hp0
  obtain ⟨p, hpd⟩ : ∃ p, dProb d = p := ⟨_, rfl⟩
  rw [hpd] at hp0 hpb hps hPO ⊢
  replace hpd := Lib.hid hpd
  have hpv : p.vs.length ≤ 6 := hps.1
  have hPr := hPO.prob
  have hpbh := Lib.hid hpb
  obtain ⟨W2, (hW2 : w1.alloc (.cells #[.slice y0 p.vs.length v0, .slice y1 p.now.length v1, .slice y2 p.tgt.length v2, .slice y3 p.tabs.length v3] 25) = W2), S2, hB2⟩ := fm_boxE S1.out 25 [.slice y0 p.vs.length v0, .slice y1 p.now.length v1, .slice y2 p.tgt.length v2, .slice y3 p.tabs.length v3]
  have hP2 := Lib.hid (hPr.to hB2)
  replace S2 := Lib.hid S2
  have hE := start_ok (cs := cs) hp0
  have hGd := Lib.hid (repsTo_good p (numsL p.vs.length cs) p.vs.length (Nat.le_refl _))
  have hLe : (startL p (numsL p.vs.length cs)) = repsTo p (numsL p.vs.length cs) p.vs.length := by rw [startL_ok hE, numsL_len]
  have hLn : (startL p (numsL p.vs.length cs)).length ≤ 1000 := by
    rw [hLe]
    have := repsTo_len (p := p) (ns := numsL p.vs.length cs) (k := p.vs.length) (fun i hi hb => by unfold nsBad at hb; rw [numsL_gi hi] at hb; split at hb <;> omega)
    omega
  rw [← hLe] at hGd
  obtain ⟨L0, hL0⟩ : ∃ L, startL p (numsL p.vs.length cs) = L := ⟨_, rfl⟩
  rw [hL0] at hGd hLn
  replace hLe := Lib.hid hLe
  have hnl := Lib.hid (numsL_len p.vs.length cs)
  obtain ⟨⟨zp, fp, p0, p1, p2, p3, -⟩, ⟨zd, fd, d0, d1, d2, d3, -⟩, -⟩ := S2.out.facts
  clear hPO hPr hB2 S1 hs hps hpb
  have hp0h := Lib.hid hp0
  clear hp0
  go_wp2_with fail
  clear hW2
  with_reducible refine (HAw.out _).mono ?_
  rintro e' w3 ⟨rfl, hb3⟩
  have S3 := Lib.hid (S2.out.call hb3)
  have hP3 := Lib.hid (hP2.out.to hb3)
  clear hb3 S2 hP2
  clear zp fp p0 p1 p2 p3 zd fd d0 d1 d2 d3
  obtain ⟨⟨zp, fp, p0, p1, p2, p3, -⟩, ⟨zd, fd, d0, d1, d2, d3, -⟩, -⟩ := S3.out.facts
  by_cases h30 : ¬ os.length ≤ 30
  · have jh : (30 : Int) < (os.length : Int) := by omega
    go_wp2_with fail
    with_reducible refine (HAw.out _).mono ?_
    rintro e' w4 ⟨rfl, hb4⟩
    have S4 := Lib.hid (S3.out.call hb4)
    clear hb4
    clear zp fp p0 p1 p2 p3 zd fd d0 d1 d2 d3
    go_wp2
    go_ret
    exact ⟨rfl, S4.out.bel⟩
  rw [Classical.not_not] at h30
  have jh : ¬ (30 : Int) < (os.length : Int) := by omega
  have hbd := Lib.hid (((Drawn.refl w3).drew).below (B := w3.heap.size))
  have Sd := Lib.hid (S3.out.call hbd.out)
  have hPd := Lib.hid (hP3.out.to hbd.out)
  have H1 := Lib.hid (nums_any p ⟨y0, v0, y1, v1, y2, v2, y3, v3⟩ Ac cc cs w3.drew (by omega) (hcs.out _ Sd.out.bel) h8h.out)
  clear hbd hP3
  go_wp2_with fail
  go_region_held3 (fun w' => w'.cell? ⟨w1.heap.size, 0, none⟩ = some (.slice y0 p.vs.length v0) ∧ w'.cell? ⟨w1.heap.size, 1, none⟩ = some (.slice y1 p.now.length v1) ∧ w'.cell? ⟨w1.heap.size, 2, none⟩ = some (.slice y2 p.tgt.length v2) ∧ w'.cell? ⟨w1.heap.size, 3, none⟩ = some (.slice y3 p.tabs.length v3)) (go_keep)
    (first
      | ((with_reducible refine H1.out.mono ?_)
         rintro e' w4 ⟨_, rfl, A1, c1, rfl, hN1, hb4⟩
         clear zp fp p0 p1 p2 p3 zd fd d0 d1 d2 d3
         have S4 := Lib.hid (Sd.out.call hb4)
         have hP4 := Lib.hid (hPd.out.to hb4)
         clear hb4 H1 Sd hPd S3
         have H2 := Lib.hid (start_any p ⟨y0, v0, y1, v1, y2, v2, y3, v3⟩ A1 c1 (numsL p.vs.length cs) w4 hP4.out hpbh.out hN1 (by rw [hnl.out]; omega))
         rw [hE, hL0] at H2
         clear hN1
         obtain ⟨⟨zp, fp, p0, p1, p2, p3, -⟩, ⟨zd, fd, d0, d1, d2, d3, -⟩, -⟩ := S4.out.facts)
      | ((with_reducible refine H2.out.mono ?_)
         rintro e' w5 ⟨_, rfl, A2, c2, rfl, hA2, hl2, hb5⟩
         clear zp fp p0 p1 p2 p3 zd fd d0 d1 d2 d3
         have S5 := Lib.hid (S4.out.call hb5)
         have hP5 := Lib.hid (hP4.out.to hb5)
         replace hA2 := Lib.hid hA2
         replace hl2 := Lib.hid hl2
         clear hb5 H2 S4 hP4
         obtain ⟨⟨zp, fp, p0, p1, p2, p3, -⟩, ⟨zd, fd, d0, d1, d2, d3, -⟩, -⟩ := S5.out.facts))
  replace hE := Lib.hid hE
  replace hL0 := Lib.hid hL0
  obtain ⟨N, hN⟩ : ∃ N, L0.length = N := ⟨_, rfl⟩
  rw [hN] at hLn hA2 ⊢
  replace hN := Lib.hid hN
  obtain ⟨n, hn⟩ : ∃ n, os.length = n := ⟨_, rfl⟩
  rw [hn] at hol hcap h30 jh hob hAo ⊢
  have hnh := Lib.hid hn
  clear hn
  have hle := Lib.hid (fun k => opsL_len p (os.take k) L0)
  have hst := Lib.hid (fun k (hk : k < os.length) => opsL_snoc (p := p) (l := L0) hk)
  go_wp2
  go_loopw [9, 44] (fun v i wr => ∃ (k : Nat) (A1 : Option Addr) (c1 : Nat), k ≤ n ∧ i = .int .i64 k ∧ v = .slice A1 N c1 ∧ (A1 = none → N = 0 ∧ c1 = 0) ∧ RReps wr wr.heap.size A1 (opsL p L0 (os.take k)) ∧ RProb wr wr.heap.size p ⟨y0, v0, y1, v1, y2, v2, y3, v3⟩ ∧ Fm w wr [⟨w1.heap.size, 25, [.slice y0 p.vs.length v0, .slice y1 p.now.length v1, .slice y2 p.tgt.length v2, .slice y3 p.tabs.length v3]⟩, ⟨w.heap.size, 48, [.slice qa0 d.vs.length qc0, .slice qa1 d.now.length qc1, .slice qa2 d.tgt.length qc2, .slice qa3 d.lk.length qc3]⟩] []) (fun _ i _ => n - (intOf i).toNat)
  case atStart => exact ⟨0, A2, c2, Nat.zero_le _, rfl, rfl, hA2.out, by show RReps w5 w5.heap.size A2 (opsL p L0 []); exact hl2.out, hP5.out, S5.out⟩
  case round =>
    obtain ⟨k, A3, c3, hk, rfl, rfl, hA3, hl3, hPw, SS⟩ := hrel
    have T := Lib.hid SS
    have kk : True := trivial
    obtain ⟨⟨zp, fp, p0, p1, p2, p3, -⟩, ⟨zd, fd, d0, d1, d2, d3, -⟩, -⟩ := SS.facts
    clear SS
    replace hPw := Lib.hid hPw
    have hlk := hle.out k
    rw [hN.out] at hlk
    by_cases hlt : k < n
    · have jk : (k : Int) < (n : Int) := by omega
      have jk2 : ((k : Int) + 1) ≤ (co : Int) := by omega
      have i0 : (0 : Int) ≤ (k : Int) := by omega
      have i1 : (k : Int) ≤ (k : Int) + 1 := by omega
      have hck : ¬ co = k := by omega
      have hwr : IntKind.i64.wrap ((k : Int) + 1) = (k : Int) + 1 := by simp [IntKind.wrap, IntKind.bits, IntKind.signed]; omega
      have htn : ((k : Int) + 1).toNat - k = 1 := by omega
      obtain ⟨X, hX⟩ : ∃ X, opsL p L0 (os.take k) = X := ⟨_, rfl⟩
      have hsn := Lib.hid (hst.out k (by rw [hnh.out]; exact hlt))
      rw [hX] at hl3 hlk hsn
      obtain ⟨bo, oo, rfl, hbo, hco⟩ := (hop.out wr T.out.bel) (by rw [hnh.out]; omega)
      have hwd := Lib.hid (((Drawn.refl wr).drew).below (B := wr.heap.size))
      have Td := Lib.hid (T.out.call hwd.out)
      have hPd := Lib.hid (hPw.out.to hwd.out)
      have hsg : Hid (ROps wr wr.heap.size (some ⟨bo, oo + k * 4, none⟩) [oppAt os k]) := Lib.hid fun _ => ⟨bo, oo + k * 4, rfl, hbo, fun j hj i hi => by
        have hj0 : j = 0 := by simpa using hj
        subst hj0
        have := hco k (by rw [hnh.out]; exact hlt) i hi
        rw [show oo + k * 4 + 0 * 4 + i = oo + k * 4 + i by omega, this]
        rfl⟩
      have H3 := Lib.hid (perform_any p ⟨y0, v0, y1, v1, y2, v2, y3, v3⟩ A3 c3 X (some ⟨bo, oo + k * 4, none⟩) (co - k) [oppAt os k] wr.drew hPd.out hpbh.out (RReps.to hl3 hwd.out) (fun h => ⟨by rw [hlk]; exact (hA3 h).1, (hA3 h).2⟩) (by omega) (ROps.to hsg.out hwd.out) (fun j hj => by
        have hj0 : j = 0 := by simpa using hj
        subst hj0
        exact hob.out k hlt) (by simp))
      dsimp only [probV] at H3
      rw [hlk, show [oppAt os k].length = 1 from rfl] at H3
      have hrn := Lib.hid (fun j (hj : j < X.length) => rnd_ok p X (oppAt os k) j hj)
      have hYl := stepL_len p X (oppAt os k)
      obtain ⟨Y, hY⟩ : ∃ Y, stepL p X (oppAt os k) = Y := ⟨_, rfl⟩
      rw [show opsL p X [oppAt os k] = stepL p X (oppAt os k) from rfl, hY] at H3
      rw [hY] at hsn hYl hrn
      rw [hlk] at hYl hrn
      replace hY := Lib.hid hY
      replace hX := Lib.hid hX
      replace hA3 := Lib.hid hA3
      have hlX := Lib.hid (RReps.to hl3 hwd.out)
      clear hl3 hco hsg hwd
      go_wp2_with fail
      go_region_held3 (fun w' => w'.cell? ⟨w1.heap.size, 0, none⟩ = some (.slice y0 p.vs.length v0) ∧ w'.cell? ⟨w1.heap.size, 1, none⟩ = some (.slice y1 p.now.length v1) ∧ w'.cell? ⟨w1.heap.size, 2, none⟩ = some (.slice y2 p.tgt.length v2) ∧ w'.cell? ⟨w1.heap.size, 3, none⟩ = some (.slice y3 p.tabs.length v3)) (go_keep)
        (first
          | ((with_reducible refine H3.out.mono ?_)
             rintro e' w6 ⟨_, rfl, A4, c4, rfl, hA4, hl4, hb6⟩
             clear zp fp p0 p1 p2 p3 zd fd d0 d1 d2 d3
             have S6 := Lib.hid (Td.out.call hb6)
             have hP6 := Lib.hid (hPd.out.to hb6)
             have hlX6 := Lib.hid (RReps.to hlX.out hb6)
             replace hA4 := Lib.hid hA4
             replace hl4 := Lib.hid hl4
             clear hb6 H3 Td hPd hlX T hPw
             obtain ⟨⟨zp, fp, p0, p1, p2, p3, -⟩, ⟨zd, fd, d0, d1, d2, d3, -⟩, -⟩ := S6.out.facts))
      rw [hYl] at hA4
      try rw [hYl]
      clear i0 i1 hck hwr htn jk2
      clear zp fp p0 p1 p2 p3 zd fd d0 d1 d2 d3
      go_wp2
      go_loopw [69] (fun s wr2 => ∃ j : Nat, j ≤ N ∧ s = .int .i64 j ∧ Drawn w6 wr2) (fun s _ => N - (intOf s).toNat)
      case atStart => exact ⟨0, Nat.zero_le _, rfl, Drawn.refl _⟩
      case round =>
        obtain ⟨j, hj, rfl, hd6⟩ := hrel
        by_cases hjl : j < N
        · have jj : (j : Int) < (N : Int) := by omega
          obtain ⟨bm, om, rfl, hbm, hcm⟩ := hl4.out (by omega)
          obtain ⟨m0, m1, m2, m3⟩ := rp_cells (hcm j (by omega))
          obtain ⟨bl, ol, rfl, hbl, hcl⟩ := hlX6.out (by omega)
          obtain ⟨l0, l1, l2, l3⟩ := rp_cells (hcl j (by omega))
          have hr := hrn.out j (by omega)
          obtain ⟨⟨sa, va, ua, ra⟩, haa⟩ : ∃ r, rp X j = r := ⟨_, rfl⟩
          obtain ⟨⟨sb, vb, ub, rb⟩, hbb⟩ : ∃ r, rp Y j = r := ⟨_, rfl⟩
          rw [haa] at l0 l1 l2 l3 hr
          rw [hbb] at m0 m1 m2 m3 hr
          dsimp only at l0 l1 l3 m0 m1 m3
          have hr2 : ¬ rb < ra ∧ (vb = va ∨ ¬ rb = ra) ∧ sb = sa := by
            unfold rndB at hr
            dsimp only at hr
            rw [Bool.or_eq_false_iff, Bool.or_eq_false_iff, Bool.and_eq_false_iff] at hr
            obtain ⟨⟨h1, h2⟩, h3⟩ := hr
            exact ⟨of_decide_eq_false h1, h2.imp (fun h => by simpa using h) (fun h => of_decide_eq_false h), by simpa using h3⟩
          obtain ⟨x1, x2, rfl⟩ := hr2
          have x3 : decide (rb < ra) = false := decide_eq_false x1
          have n0 := (hd6.cell ⟨bm, om + j * 4, none⟩).trans m0
          have n1 := (hd6.cell ⟨bm, om + j * 4 + 1, none⟩).trans m1
          have n3 := (hd6.cell ⟨bm, om + j * 4 + 3, none⟩).trans m3
          have k0 := (hd6.cell ⟨bl, ol + j * 4, none⟩).trans l0
          have k1 := (hd6.cell ⟨bl, ol + j * 4 + 1, none⟩).trans l1
          have k3 := (hd6.cell ⟨bl, ol + j * 4 + 3, none⟩).trans l3
          have i0 : (0 : Int) ≤ (j : Int) := by omega
          clear m0 m1 m2 m3 l0 l1 l2 l3 hcm hcl hr haa hbb
          by_cases hv : vb = va
          · have kk : True := trivial
            subst hv
            clear x2
            go_wp2_with fail
            refine wp_region_quiet_lit (by kernel_rfl) (by kernel_rfl) ?_
            repeat (go_big_quiet_step (fail))
            refine wpQuiet_nil ?_
            intro w8 hw8
            have hd8 : Drawn wr w8 := hw8
            have hd9 := Lib.hid (hd6.trans hd8)
            clear hw8 hd8 n0 n1 n3 k0 k1 k3
            go_wp2
            go_roundw
            case rel => exact ⟨j + 1, hjl, by go_num, hd9.out⟩
            case measure => simp [intOf]; omega
          · have kk : True := trivial
            have v1 : (vb != va) = true := by rw [bne_iff_ne]; exact hv
            have v3 : ¬ rb = ra := x2.resolve_left hv
            have v2 : (rb == ra) = false := by rw [beq_eq_false_iff_ne]; exact v3
            clear x2
            go_wp2_with fail
            refine wp_region_quiet_lit (by kernel_rfl) (by kernel_rfl) ?_
            repeat (go_big_quiet_step (fail))
            refine wpQuiet_nil ?_
            intro w8 hw8
            have hd8 : Drawn wr w8 := hw8
            have hd9 := Lib.hid (hd6.trans hd8)
            clear hw8 hd8 n0 n1 n3 k0 k1 k3
            go_wp2
            go_roundw
            case rel => exact ⟨j + 1, hjl, by go_num, hd9.out⟩
            case measure => simp [intOf]; omega
        · obtain rfl : j = N := by omega
          have jj : ¬ (j : Int) < (j : Int) := by omega
          have S7 := Lib.hid (S6.out.drawn hd6)
          have hP7 := Lib.hid (hP6.out.to hd6.below)
          have hl7 := Lib.hid (RReps.to hl4.out hd6.below)
          go_wp2
          go_roundw
          case rel => exact ⟨k + 1, A4, c4, hlt, by go_num, rfl, hA4.out, by rw [hsn.out]; exact hl7.out, hP7.out, S7.out⟩
          case measure => simp [intOf]; omega
    · obtain rfl : k = n := by omega
      have jk : ¬ (k : Int) < (k : Int) := by omega
      clear zp fp p0 p1 p2 p3 zd fd d0 d1 d2 d3
      go_wp2
      go_ret
      exact ⟨rfl, T.out.bel⟩
end Go.Proofs.Ytcjnfciemangkaa
