/-
  LAW ReplicaLast.
  Conditions: those that each theorem names.
-/
import Derived.Test.YtcjnfciemangkaaRepY0
import Derived.Deep.DeepCutAuto
import Derived.Deep.RegionHeld3
import Derived.Deep.RegionLaw
import Derived.Deep.CutBlock
namespace Go.Proofs.Ytcjnfciemangkaa
open Go.RowKit Go.Sv
theorem keptNe {g h n c : Nat} (hne : g ≠ h) : (Value.slice (some ⟨g, 0, none⟩) n c).ownBlock = none ∨ (Value.slice (some ⟨g, 0, none⟩) n c).ownBlock ≠ some h := by
  exact Or.inr (fun e => by injection e with e; exact hne e)
theorem want_row {X : List Rep} {rn : Nat} {sv vv rr rnd ver : Int} {uu : Bool} (h : rn < X.length) (hrp : rp X rn = ⟨sv, vv, uu, rr⟩) : ((rpRow X).set (rn * 4 + 3) (.int .i64 rnd)).set (rn * 4 + 1) (.int .i64 ver) = rpRow (X.set rn ⟨sv, ver, uu, rnd⟩) := by
  rw [rpRow_set (i := 3) (k := rn) (r := ⟨sv, vv, uu, rnd⟩) (u := .int .i64 rnd) (by omega) rfl (fun j h1 h2 => by rw [hrp]; match j, h1, h2 with | 0, _, _ => rfl | 1, _, _ => rfl | 2, _, _ => rfl | 3, _, h => exact absurd rfl h) h,
    rpRow_set (i := 1) (k := rn) (r := ⟨sv, ver, uu, rnd⟩) (u := .int .i64 ver) (by omega) rfl (fun j h1 h2 => by rw [rp_set_same h]; match j, h1, h2 with | 0, _, _ => rfl | 1, _, h => exact absurd rfl h | 2, _, _ => rfl | 3, _, _ => rfl) (by rw [List.length_set]; exact h), List.set_set]
theorem want_rowx {X : List Rep} {rn : Nat} {sv vv rr rnd ver : Int} {uu : Bool} (h : rn < X.length) (hrp : rp X rn = ⟨sv, vv, uu, rr⟩) : ((rpRow X).set (rn * 4 + 1) (.int .i64 ver)).set (rn * 4 + 3) (.int .i64 rnd) = rpRow (X.set rn ⟨sv, ver, uu, rnd⟩) := by
  rw [List.set_comm _ _ (by omega)]
  exact want_row h hrp
set_option maxHeartbeats 8000000 in
set_option maxRecDepth 100000 in
theorem law_last (d : Dra) (q : ProbP) (Ac : Option Addr) (cc : Nat) (cs : List Int) (Ao : Option Addr) (co : Nat) (os : List Opp) (w : World) (hd : RDra w w.heap.size d q) (hbd : DBd d) (hc : Arr w w.heap.size Ac cs.length (u8v cs)) (h8 : Bt8 cs)
    (ho : ROps w w.heap.size Ao os) (hAo : Ao = none → os.length = 0 ∧ co = 0) (hob : ∀ k, k < os.length → OBd (oppAt os k)) (hol : os.length ≤ 9223372036854775807) (hcap : os.length ≤ co) :
    Calls Try.prog 7 #[draV d q, .slice Ac cs.length cc, .slice Ao os.length co] w fun e w' => e = .returned (.bool true) ∧ Below w.heap.size w w' := by
  obtain ⟨qa0, qc0, qa1, qc1, qa2, qc2, qa3, qc3⟩ := q
  obtain ⟨W, (hW : w.alloc (.cells #[.slice qa0 d.vs.length qc0, .slice qa1 d.now.length qc1, .slice qa2 d.tgt.length qc2, .slice qa3 d.lk.length qc3] 48) = W), S, hB⟩ := fm_boxE (Fm.init w) 48 [.slice qa0 d.vs.length qc0, .slice qa1 d.now.length qc1, .slice qa2 d.tgt.length qc2, .slice qa3 d.lk.length qc3]
  have HO := Lib.hid (of35_any d ⟨qa0, qc0, qa1, qc1, qa2, qc2, qa3, qc3⟩ W ((hd.below hB).more hB.size) hbd)
  have HAw := Lib.hid (fun W' => awake_any W')
  have hcs := Lib.hid (fun W' (hb : Below w.heap.size w W') => (hc.below hb).more hb.size)
  have hop := Lib.hid (fun W' (hb : Below w.heap.size w W') => ROps.to ho hb)
  have SW := Lib.hid S
  obtain ⟨⟨zd, fd, d0, d1, d2, d3, -⟩, -⟩ := S.facts
  replace hAo := Lib.hid hAo
  replace hob := Lib.hid hob
  have h8h := Lib.hid h8
  clear S hd hbd hB hc ho h8
  go_enter Try.func7, Try.ntmps7
  go_wp2_with fail
  clear hW
  with_reducible refine HO.out.mono ?_
  rintro e' w1 ⟨_, rfl, hb1, hv⟩
  have S1 := Lib.hid (SW.out.call hb1)
  clear HO SW hb1 zd fd d0 d1 d2 d3
  by_cases hs : ¬ (d.vs.length ≤ 3 ∧ d.lk.length ≤ 4)
  · rw [if_neg hs] at hv
    subst hv
    obtain ⟨⟨zd, fd, d0, d1, d2, d3, -⟩, -⟩ := S1.out.facts
    go_upto_region 2 with fail
    obtain ⟨W2, hW2, S2, hb2⟩ := fm_boxE S1.out 25 [.slice none 0 0, .slice none 0 0, .slice none 0 0, .slice none 0 0]
    rw [hW2]
    clear hW2 hb2 S1 zd fd d0 d1 d2 d3
    replace S2 := Lib.hid S2
    obtain ⟨⟨zp, fp, p0, p1, p2, p3, -⟩, ⟨zd, fd, d0, d1, d2, d3, -⟩, -⟩ := S2.out.facts
    go_wp2_with fail
    with_reducible refine (HAw.out _).mono ?_
    rintro e' w3 ⟨rfl, hb3⟩
    have S3 := Lib.hid (S2.out.call hb3)
    clear hb3
    go_wp2_with fail
    with_reducible refine (HAw.out _).mono ?_
    rintro e' w4 ⟨rfl, hb4⟩
    have S4 := Lib.hid (S3.out.call hb4)
    clear hb4
    clear zp fp p0 p1 p2 p3 zd fd d0 d1 d2 d3
    go_wp2
    go_ret
    exact ⟨rfl, S4.out.bel⟩
  rw [Classical.not_not] at hs
  rw [if_pos hs] at hv
  obtain ⟨⟨y0, v0, y1, v1, y2, v2, y3, v3⟩, F, rfl, hPO⟩ := hv
  have hp0 := dProb_ok hs.1 hs.2
  have hpb := dProb_bd hs.1 hs.2
  have hps := prob_small hp0
  obtain ⟨p, hpd⟩ : ∃ p, dProb d = p := ⟨_, rfl⟩
  rw [hpd] at hp0 hpb hps hPO ⊢
  replace hpd := Lib.hid hpd
  have hpv : p.vs.length ≤ 6 := hps.1
  have hPr := hPO.prob
  have hpbh := Lib.hid hpb
  obtain ⟨W2, (hW2 : w1.alloc (.cells #[.slice y0 p.vs.length v0, .slice y1 p.now.length v1, .slice y2 p.tgt.length v2, .slice y3 p.tabs.length v3] 25) = W2), S2, hB2⟩ := fm_boxE S1.out 25 [.slice y0 p.vs.length v0, .slice y1 p.now.length v1, .slice y2 p.tgt.length v2, .slice y3 p.tabs.length v3]
  have hP2 := Lib.hid (hPr.to hB2)
  replace S2 := Lib.hid S2
  have hE := start_ok (cs := cs) hp0
  have hGd := Lib.hid (repsTo_good p (numsL p.vs.length cs) p.vs.length (Nat.le_refl _))
  have hLe : (startL p (numsL p.vs.length cs)) = repsTo p (numsL p.vs.length cs) p.vs.length := by rw [startL_ok hE, numsL_len]
  have hLn : (startL p (numsL p.vs.length cs)).length ≤ 1000 := by
    rw [hLe]
    have := repsTo_len (p := p) (ns := numsL p.vs.length cs) (k := p.vs.length) (fun i hi hb => by unfold nsBad at hb; rw [numsL_gi hi] at hb; split at hb <;> omega)
    omega
  rw [← hLe] at hGd
  obtain ⟨L0, hL0⟩ : ∃ L, startL p (numsL p.vs.length cs) = L := ⟨_, rfl⟩
  rw [hL0] at hGd hLn
  replace hLe := Lib.hid hLe
  have hnl := Lib.hid (numsL_len p.vs.length cs)
  obtain ⟨⟨zp, fp, p0, p1, p2, p3, -⟩, ⟨zd, fd, d0, d1, d2, d3, -⟩, -⟩ := S2.out.facts
  clear hPO hPr hB2 S1 hs hps hpb
  have hp0h := Lib.hid hp0
  clear hp0
  go_wp2_with fail
  clear hW2
  with_reducible refine (HAw.out _).mono ?_
  rintro e' w3 ⟨rfl, hb3⟩
  have S3 := Lib.hid (S2.out.call hb3)
  have hP3 := Lib.hid (hP2.out.to hb3)
  clear hb3 S2 hP2
  clear zp fp p0 p1 p2 p3 zd fd d0 d1 d2 d3
  obtain ⟨⟨zp, fp, p0, p1, p2, p3, -⟩, ⟨zd, fd, d0, d1, d2, d3, -⟩, -⟩ := S3.out.facts
  by_cases h30 : ¬ os.length ≤ 30
  · have jh : (30 : Int) < (os.length : Int) := by omega
    go_wp2_with fail
    with_reducible refine (HAw.out _).mono ?_
    rintro e' w4 ⟨rfl, hb4⟩
    have S4 := Lib.hid (S3.out.call hb4)
    clear hb4
    clear zp fp p0 p1 p2 p3 zd fd d0 d1 d2 d3
    go_wp2
    go_ret
    exact ⟨rfl, S4.out.bel⟩
  rw [Classical.not_not] at h30
  have jh : ¬ (30 : Int) < (os.length : Int) := by omega
  have hbd := Lib.hid (((Drawn.refl w3).drew).below (B := w3.heap.size))
  have Sd := Lib.hid (S3.out.call hbd.out)
  have hPd := Lib.hid (hP3.out.to hbd.out)
  have H1 := Lib.hid (nums_any p ⟨y0, v0, y1, v1, y2, v2, y3, v3⟩ Ac cc cs w3.drew (by omega) (hcs.out _ Sd.out.bel) h8h.out)
  clear hbd hP3
  go_wp2_with fail
  go_region_held3 (fun w' => w'.cell? ⟨w1.heap.size, 0, none⟩ = some (.slice y0 p.vs.length v0) ∧ w'.cell? ⟨w1.heap.size, 1, none⟩ = some (.slice y1 p.now.length v1) ∧ w'.cell? ⟨w1.heap.size, 2, none⟩ = some (.slice y2 p.tgt.length v2) ∧ w'.cell? ⟨w1.heap.size, 3, none⟩ = some (.slice y3 p.tabs.length v3)) (go_keep)
    (first
      | ((with_reducible refine H1.out.mono ?_)
         rintro e' w4 ⟨_, rfl, A1, c1, rfl, hN1, hb4⟩
         clear zp fp p0 p1 p2 p3 zd fd d0 d1 d2 d3
         have S4 := Lib.hid (Sd.out.call hb4)
         have hP4 := Lib.hid (hPd.out.to hb4)
         clear hb4 H1 Sd hPd S3
         have H2 := Lib.hid (start_any p ⟨y0, v0, y1, v1, y2, v2, y3, v3⟩ A1 c1 (numsL p.vs.length cs) w4 hP4.out hpbh.out hN1 (by rw [hnl.out]; omega))
         rw [hE, hL0] at H2
         clear hN1
         obtain ⟨⟨zp, fp, p0, p1, p2, p3, -⟩, ⟨zd, fd, d0, d1, d2, d3, -⟩, -⟩ := S4.out.facts)
      | ((with_reducible refine H2.out.mono ?_)
         rintro e' w5 ⟨_, rfl, A2, c2, rfl, hA2, hl2, hb5⟩
         clear zp fp p0 p1 p2 p3 zd fd d0 d1 d2 d3
         have S5 := Lib.hid (S4.out.call hb5)
         have hP5 := Lib.hid (hP4.out.to hb5)
         replace hA2 := Lib.hid hA2
         replace hl2 := Lib.hid hl2
         clear hb5 H2 S4 hP4
         obtain ⟨⟨zp, fp, p0, p1, p2, p3, -⟩, ⟨zd, fd, d0, d1, d2, d3, -⟩, -⟩ := S5.out.facts))
  replace hE := Lib.hid hE
  replace hL0 := Lib.hid hL0
  obtain ⟨N, hN⟩ : ∃ N, L0.length = N := ⟨_, rfl⟩
  rw [hN] at hLn hA2 ⊢
  replace hN := Lib.hid hN
  obtain ⟨n, hn⟩ : ∃ n, os.length = n := ⟨_, rfl⟩
  rw [hn] at hol hcap h30 jh hob hAo ⊢
  have hnh := Lib.hid hn
  clear hn
  have hle := Lib.hid (fun k => opsL_len p (os.take k) L0)
  have hst := Lib.hid (fun k (hk : k < os.length) => opsL_snoc (p := p) (l := L0) hk)
  have hWs := Lib.hid (fun k (hk : k < os.length) => wnt_snoc (p := p) (l := L0) hk)
  have hWg := Lib.hid (fun k => wnt_good (os.take k) hGd.out)
  have hZl := Lib.hid (fun i => zOps_len os i)
  have hZa := Lib.hid (fun i k (hk : k < os.length) => zOps_at (i := i) hk)
  have hZs := Lib.hid (fun i (hi : i < os.length) => opRow_step hi)
  have hTa := Lib.hid (show os.take os.length = os from List.take_length)
  have hZe := Lib.hid (zOps_all os)
  have hZ0 := Lib.hid (zOps_0 os)
  rw [hnh.out] at hWs hZl hZa hZs hTa hZe
  have S5c := Lib.hid S5.out
  have hP5c := Lib.hid hP5.out
  have hl2c := Lib.hid hl2.out
  have hA2c := Lib.hid hA2.out
  have hcl := Lib.hid (cloneR_any A2 c2 L0 w5 hl2.out (by rw [hN.out]; exact hA2.out) (by rw [hN.out]; omega))
  rw [hN.out] at hcl
  go_wp2_with fail
  with_reducible refine hcl.out.mono ?_
  rintro e' w6 ⟨v6, rfl, A6, c6, rfl, ho6, hb6⟩
  clear zp fp p0 p1 p2 p3 zd fd d0 d1 d2 d3
  have S6 := Lib.hid (S5.out.call hb6)
  have hP6 := Lib.hid (hP5.out.to hb6)
  have hl6 := Lib.hid (RReps.to hl2.out hb6)
  have hb56 := Lib.hid hb6
  rw [hN.out] at ho6 ⊢
  replace ho6 := Lib.hid ho6
  clear hcl hb6 S5 hl2 hP5
  have hco := Lib.hid (cloneO_any Ao co os w6 (hop.out w6 S6.out.bel) (by rw [hnh.out]; exact hAo.out) (by rw [hnh.out]; omega))
  rw [hnh.out] at hco
  obtain ⟨⟨zp, fp, p0, p1, p2, p3, -⟩, ⟨zd, fd, d0, d1, d2, d3, -⟩, -⟩ := S6.out.facts
  go_wp2_with fail
  with_reducible refine hco.out.mono ?_
  rintro e' w7 ⟨v7, rfl, A7, c7, rfl, ho7, hb7⟩
  clear zp fp p0 p1 p2 p3 zd fd d0 d1 d2 d3
  have S7 := Lib.hid (S6.out.call hb7)
  have hP7 := Lib.hid (hP6.out.to hb7)
  have hl7 := Lib.hid (RReps.to hl6.out hb7)
  have ho67 := Lib.hid (own_to ho6.out hb7)
  rw [hnh.out] at ho7 ⊢
  replace ho7 := Lib.hid ho7
  have hz67 := hb7.size
  have hb67 := Lib.hid hb7
  have hz56 := hb56.out.size
  have hfar : Hid (∀ g, (Value.slice A6 N c6).ownBlock = some g → w5.heap.size ≤ g ∧ g < w6.heap.size) := Lib.hid fun g hg => ho6.out.lt g hg
  clear hco hb7 S6 hP6 hl6 ho6
  obtain ⟨⟨zp, fp, p0, p1, p2, p3, -⟩, ⟨zd, fd, d0, d1, d2, d3, -⟩, -⟩ := S7.out.facts
  go_wp2
  clear zp fp p0 p1 p2 p3 zd fd d0 d1 d2 d3
  have hz51 : w1.heap.size < w5.heap.size := (S5c.out.bx.1).lt
  have hz50 : w.heap.size < w5.heap.size := (S5c.out.bx.2.1).lt
  have hbel7 := Lib.hid (hb56.out.trans (hb67.out.mono hz56))
  have kk : True := trivial
  go_loopw [50] (fun s wr => ∃ i : Nat, i ≤ n ∧ s = .int .i64 i ∧ wr.ownsRow w5.heap.size 40 4 (.slice A6 N c6) N (rpRow (wntL p L0 (os.take i))) ∧ wr.ownsRow w6.heap.size 59 4 (.slice A7 n c7) n (opRow (zOps os i)) ∧ Below w5.heap.size w5 wr) (fun s _ => n - (intOf s).toNat)
  case atStart => exact ⟨0, Nat.zero_le _, rfl, by show w7.ownsRow _ _ _ _ _ (rpRow (wntL p L0 [])); exact ho67.out, by rw [hZ0.out]; exact ho7.out, hbel7.out⟩
  case round =>
    obtain ⟨i, hi, rfl, hOw, hOo, hbel⟩ := hrel
    have T := Lib.hid (S5c.out.call hbel)
    by_cases hlt : i < n
    · have ji : (i : Int) < (n : Int) := by omega
      have hlt2 : i < os.length := by rw [hnh.out]; exact hlt
      obtain ⟨A7b, c7b, hv7, -, -, h7⟩ := own_form hOo
      injection hv7 with e1 e2 e3
      subst e1 e3
      obtain ⟨go, rfl, hgo, hgs, hcell⟩ := h7 (by omega)
      have hz := hZl.out i
      have hat := hZa.out i i hlt
      rw [if_neg (Nat.lt_irrefl _)] at hat
      have hcl : ∀ j, j < 4 → wr.cell? ⟨go, i * 4 + j, none⟩ = some (opC (oppAt os i) j) := fun j hj => by
        rw [hcell _ (by omega), opRow_get (by rw [hz]; exact hlt) hj, hat]
      obtain ⟨⟨k0, k1⟩, hr, hv, hd⟩ := hob.out i hlt
      have hws := hWs.out i hlt
      obtain ⟨hgg, hgl⟩ := hWg.out i
      rw [hN.out] at hgl
      have hzs := hZs.out i hlt
      obtain ⟨X, hX⟩ : ∃ X, wntL p L0 (os.take i) = X := ⟨_, rfl⟩
      rw [hX] at hws hgg hgl hOw
      obtain ⟨⟨kd, rep, ver, rnd⟩, hoo⟩ : ∃ o, oppAt os i = o := ⟨_, rfl⟩
      rw [hoo] at k0 k1 hr hv hd hws hcl
      dsimp only at k0 k1 hr hv hd
      have e0 := hcl 0 (by omega)
      have e1 := hcl 1 (by omega)
      have e2 := hcl 2 (by omega)
      have e3 := hcl 3 (by omega)
      rw [Nat.add_zero] at e0
      unfold opC at e0 e1 e2 e3
      dsimp only at e0 e1 e2 e3
      obtain ⟨rn, rfl⟩ : ∃ r : Nat, rep = (r : Int) := ⟨rep.toNat, by omega⟩
      have x1 := wrap_u8 hr
      have x2 := wrap_u8 hv
      have x3 := wrap_i8 hd
      have f0 := World.ownsRow.frozenAt hOo (i * 4)
      have hws2 := hws
      have nn1 : go ≠ wr.heap.size := by omega
      have nn2 : wr.heap.size ≠ go := by omega
      clear hcl hcell hoo hX hat hlt2 hws
      have hbelh := Lib.hid hbel
      obtain ⟨W1, (hW1 : wr.alloc (.cells #[.int .u8 kd, .int .u8 (rn : Int), .int .u8 ver, .int .i8 rnd] 59) = W1), T1, hb1⟩ := fm_boxE T.out 59 [.int .u8 kd, .int .u8 (rn : Int), .int .u8 ver, .int .i8 rnd]
      have hOw1 := own_to hOw hb1
      have hOo1 := own_to hOo hb1
      have hs1 := hb1.size
      have f1 : W1.frozen? ⟨go, i * 4, none⟩ = false := (hb1.frozen (p := ⟨go, i * 4, none⟩) hgs).trans f0
      have hgW : go < W1.heap.size := Nat.lt_of_lt_of_le hgs hs1
      have E0 := (hb1.cell (p := ⟨go, i * 4, none⟩) hgs).trans e0
      have wo := Lib.hid ((T1.bx.1 : Whole W1 wr.heap.size 59 _).far (p := ⟨go, i * 4, none⟩) (by show wr.heap.size ≠ go; omega) (.int .u8 0))
      have hbelw := below_of hbel (hbel.size) hb1
      have hbel2 := Lib.hid (hbelw.setCell (p := ⟨go, i * 4, none⟩) (by show w5.heap.size ≤ go; omega) (.int .u8 0))
      obtain ⟨s1, s2⟩ := hOo1.stored (i * 4) (.int .u8 0)
      rw [hzs] at s1
      have s3 := hOw1.kept s2 (by
        cases hx : (Value.slice A6 N c6).ownBlock with
        | none => exact Or.inl rfl
        | some g => exact Or.inr fun h => by have h2 := (hfar.out g hx).2; injection h with h; omega)
      obtain ⟨⟨zo, fq, q0, q1, q2, q3, -⟩, -⟩ := T1.facts
      clear T1 hb1 hOw hOo hOw1 hOo1 hbel hbelw T
      replace s1 := Lib.hid s1
      replace s3 := Lib.hid s3
      clear s2
      go_wp2_with fail
      clear hW1 zo fq q0 q1 q2 q3 e0 e1 e2 e3 f0 f1 E0
      obtain ⟨W2, hW2⟩ : ∃ W2, W1.setCell ⟨go, i * 4, none⟩ (.int .u8 0) = W2 := ⟨_, rfl⟩
      rw [hW2] at s1 s3 wo hbel2 ⊢
      clear hW2 hgW
      have q2 : W2.cell? ⟨wr.heap.size, 2, none⟩ = some (.int .u8 ver) := (wo.out.cell 2).trans rfl
      have q3 : W2.cell? ⟨wr.heap.size, 3, none⟩ = some (.int .i8 rnd) := (wo.out.cell 3).trans rfl
      have T2 := Lib.hid (S5c.out.call hbel2.out)
      obtain ⟨⟨zp, fp, p0, p1, p2, p3, -⟩, -⟩ := T2.out.facts
      have hPw := hP5c.out.to hbel2.out
      unfold wantL at hws2
      dsimp only at hws2
      rw [Int.toNat_natCast] at hws2
      by_cases hrN : ¬ rn < N
      · have jr : ¬ (rn : Int) < (N : Int) := by omega
        clear hPw
        have hwe := Lib.hid (hws2.trans (if_neg (fun h => hrN (by have := h.1; rw [hgl] at this; omega))))
        clear hws2
        refine wp_region_quiet_lit (by kernel_rfl) (by kernel_rfl) ?_
        repeat (go_big_quiet_step (fail))
        refine wpQuiet_nil ?_
        intro w8 hw8
        have hd8 : Drawn W2 w8 := hw8
        have t1 := Lib.hid (own_to s1.out hd8.below)
        have t3 := Lib.hid (own_to s3.out hd8.below)
        have tb := Lib.hid (hbel2.out.drawn hd8)
        clear hw8 hd8
        go_wp2
        go_roundw
        case rel => exact ⟨i + 1, hlt, by go_num, by rw [hwe.out]; exact t3.out, t1.out, tb.out⟩
        case measure => simp [intOf]; omega
      rw [Classical.not_not] at hrN
      have jr : (rn : Int) < (N : Int) := by omega
      obtain ⟨A6b, c6b, hv6, -, -, h6⟩ := own_form s3.out
      injection hv6 with e1 e2 e3
      subst e1 e3
      obtain ⟨gw, rfl, hgw, hgws, hcell⟩ := h6 (by omega)
      have hwc : ∀ j, j < 4 → W2.cell? ⟨gw, rn * 4 + j, none⟩ = some (rpCell (rp X rn) j) := fun j hj => by
        rw [hcell _ (by omega), rpRow_get X rn j (by omega) hj]; rfl
      obtain ⟨sv0, sv1⟩ := hgg.sv rn (by omega)
      obtain ⟨⟨sv, vv, uu, rr⟩, hrp⟩ : ∃ r, rp X rn = r := ⟨_, rfl⟩
      rw [hrp] at hwc sv0 sv1 hws2
      dsimp only at sv0 sv1 hws2
      obtain ⟨sn, rfl⟩ : ∃ r : Nat, sv = (r : Int) := ⟨sv.toNat, by omega⟩
      rw [Int.toNat_natCast] at hws2
      have c0 := hwc 0 (by omega)
      have c1 := hwc 1 (by omega)
      have c3 := hwc 3 (by omega)
      rw [Nat.add_zero] at c0
      unfold rpCell at c0 c1 c3
      dsimp only at c0 c1 c3
      obtain ⟨bv, ov, rfl, hbv, hcv⟩ := hPw.r0 (by show 0 < p.vs.length; omega)
      have cv := hcv sn (by omega)
      unfold iv at cv
      obtain ⟨mv, hmv⟩ : ∃ m, gi p.vs sn = m := ⟨_, rfl⟩
      rw [hmv] at cv hws2
      have js : (sn : Int) < (p.vs.length : Int) := by omega
      have g1 := World.ownsRow.frozenAt s3.out (rn * 4 + 1)
      have g3 := World.ownsRow.frozenAt s3.out (rn * 4 + 3)
      have kk : True := trivial
      clear hcell hwc hcv hPw
      by_cases hvv : ¬ ver < mv
      · have jv : decide (ver < mv) = false := decide_eq_false hvv
        have hwe := Lib.hid (hws2.trans (if_neg (fun h => hvv h.2.1)))
        clear hws2
        refine wp_region_quiet_lit (by kernel_rfl) (by kernel_rfl) ?_
        repeat (go_big_quiet_step (fail))
        refine wpQuiet_nil ?_
        intro w8 hw8
        have hd8 : Drawn W2 w8 := hw8
        have t1 := Lib.hid (own_to s1.out hd8.below)
        have t3 := Lib.hid (own_to s3.out hd8.below)
        have tb := Lib.hid (hbel2.out.drawn hd8)
        clear hw8 hd8
        go_wp2
        go_roundw
        case rel => exact ⟨i + 1, hlt, by go_num, by rw [hwe.out]; exact t3.out, t1.out, tb.out⟩
        case measure => simp [intOf]; omega
      rw [Classical.not_not] at hvv
      have jv : decide (ver < mv) = true := decide_eq_true hvv
      by_cases hrr : ¬ rr < rnd
      · have jq : decide (rr < rnd) = false := decide_eq_false hrr
        have hwe := Lib.hid (hws2.trans (if_neg (fun h => hrr h.2.2)))
        clear hws2
        refine wp_region_quiet_lit (by kernel_rfl) (by kernel_rfl) ?_
        repeat (go_big_quiet_step (fail))
        refine wpQuiet_nil ?_
        intro w8 hw8
        have hd8 : Drawn W2 w8 := hw8
        have t1 := Lib.hid (own_to s1.out hd8.below)
        have t3 := Lib.hid (own_to s3.out hd8.below)
        have tb := Lib.hid (hbel2.out.drawn hd8)
        clear hw8 hd8
        go_wp2
        go_roundw
        case rel => exact ⟨i + 1, hlt, by go_num, by rw [hwe.out]; exact t3.out, t1.out, tb.out⟩
        case measure => simp [intOf]; omega
      rw [Classical.not_not] at hrr
      have jq : decide (rr < rnd) = true := decide_eq_true hrr
      have hwe := Lib.hid (hws2.trans (if_pos ⟨by rw [hgl]; omega, hvv, hrr⟩))
      clear hws2
      refine wp_region_quiet_lit (by kernel_rfl) (by kernel_rfl) ?_
      repeat (go_big_quiet_step (fail))
      refine wpQuiet_nil ?_
      intro w8 hw8
      have hd8 : Drawn W2 w8 := hw8
      have t1 := Lib.hid (own_to s1.out hd8.below)
      have t3 := Lib.hid (own_to s3.out hd8.below)
      have tb := Lib.hid (hbel2.out.drawn hd8)
      have d2 := (hd8.cell ⟨wr.heap.size, 2, none⟩).trans q2
      have d3 := (hd8.cell ⟨wr.heap.size, 3, none⟩).trans q3
      have z1 := (hd8.cell ⟨gw, rn * 4 + 1, none⟩).trans c1
      have z3 := (hd8.cell ⟨gw, rn * 4 + 3, none⟩).trans c3
      have k1 := (hd8.frozen ⟨gw, rn * 4 + 1, none⟩).trans g1
      have k3 := (hd8.frozen ⟨gw, rn * 4 + 3, none⟩).trans g3
      have hz8 := hd8.size
      have hgw8 : gw < w8.heap.size := by omega
      clear hw8 hd8 q2 q3 g1 g3 zp fp p0 p1 p2 p3 c0 c1 c3 cv jv jq
      go_wp2_with fail
      have hfg := hfar.out gw rfl
      have ng2 : gw ≠ wr.heap.size := by omega
      have ng3 : wr.heap.size ≠ gw := by omega
      have d2d : w8.drew.cell? ⟨wr.heap.size, 2, none⟩ = some (.int .u8 ver) := d2
      have d3d : w8.drew.cell? ⟨wr.heap.size, 3, none⟩ = some (.int .i8 rnd) := d3
      have hdr : Below w8.heap.size w8 w8.drew := ((Drawn.refl w8).drew).below
      have u3 := own_to t3.out hdr
      have u1 := own_to t1.out hdr
      obtain ⟨a1, a2⟩ := u3.stored (rn * 4 + 3) (.int .i64 rnd)
      obtain ⟨b1, b2⟩ := a1.stored (rn * 4 + 1) (.int .i64 ver)
      obtain ⟨a1x, a2x⟩ := u3.stored (rn * 4 + 1) (.int .i64 ver)
      obtain ⟨b1x, b2x⟩ := a1x.stored (rn * 4 + 3) (.int .i64 rnd)
      have u4 := Lib.hid ((u1.kept a2 (keptNe (by omega))).kept b2 (keptNe (by omega)))
      have u4x := Lib.hid ((u1.kept a2x (keptNe (by omega))).kept b2x (keptNe (by omega)))
      rw [want_row (by omega) hrp] at b1
      rw [want_rowx (by omega) hrp] at b1x
      have tb2 := Lib.hid (((below_of tb.out tb.out.size hdr).setCell (p := ⟨gw, rn * 4 + 3, none⟩) (by show w5.heap.size ≤ gw; omega) (.int .i64 rnd)).setCell (p := ⟨gw, rn * 4 + 1, none⟩) (by show w5.heap.size ≤ gw; omega) (.int .i64 ver))
      have tb2x := Lib.hid (((below_of tb.out tb.out.size hdr).setCell (p := ⟨gw, rn * 4 + 1, none⟩) (by show w5.heap.size ≤ gw; omega) (.int .i64 ver)).setCell (p := ⟨gw, rn * 4 + 3, none⟩) (by show w5.heap.size ≤ gw; omega) (.int .i64 rnd))
      have b1h := Lib.hid b1
      have b1hx := Lib.hid b1x
      clear a1 a2 b1 b2 u3 u1 hdr a1x a2x b1x b2x
      go_region_law ((fail))
      all_goals
        clear d2 d3 d2d d3d k1 k3 z1 z3
        go_wp2
        go_roundw
        case rel => first | exact ⟨i + 1, hlt, by go_num, by rw [hwe.out]; exact b1h.out, u4.out, tb2.out⟩ | exact ⟨i + 1, hlt, by go_num, by rw [hwe.out]; exact b1hx.out, u4x.out, tb2x.out⟩
        case measure => simp [intOf]; omega
    · obtain rfl : i = n := by omega
      have ji : ¬ (i : Int) < (i : Int) := by omega
      rw [hTa.out] at hOw
      have hze : zOps os i = os.map zop := hZe.out
      rw [hze] at hOo
      have hml : (os.map zop).length = i := by rw [List.length_map]; exact hnh.out
      have hwl := (wnt_good os hGd.out).2
      rw [hN.out] at hwl
      have T := Lib.hid (S5c.out.call hbel)
      have hPw := Lib.hid (hP5c.out.to hbel)
      have hop2 : ROps wr wr.heap.size A7 (os.map zop) := own_ops (base := w6.heap.size) (c := c7) (by rw [hml]; exact hOo)
      have hwr : RReps wr wr.heap.size A6 (wntL p L0 os) := own_reps (base := w5.heap.size) (c := c6) (by rw [hwl]; exact hOw)
      have hbz : ∀ k, k < (os.map zop).length → OBd (oppAt (os.map zop) k) := fun k hk => by
        rw [hml] at hk
        have h1 := hZa.out i k hk
        rw [hze, if_pos hk] at h1
        rw [h1]
        have h2 := hob.out k hk
        exact ⟨⟨Int.le_refl _, by show (0 : Int) < 256; decide⟩, h2.r, h2.v, h2.d⟩
      have hpos : ∀ o ∈ os, 0 ≤ o.rep ∧ 0 ≤ o.ver := fun o ho => by
        obtain ⟨k, hk, hko⟩ := List.getElem_of_mem ho
        have h2 := hob.out k (by rw [← hnh.out]; exact hk)
        have h3 : oppAt os k = o := by unfold oppAt; simp [hk, hko]
        rw [h3] at h2
        exact ⟨h2.r.1, h2.v.1⟩
      have H3 := perform_any p ⟨y0, v0, y1, v1, y2, v2, y3, v3⟩ A2 c2 L0 A7 c7 (os.map zop) wr hPw.out hpbh.out (RReps.to hl2c.out hbel) (by rw [hN.out]; exact hA2c.out) (by rw [hN.out]; omega) hop2 hbz (by rw [hml]; omega)
      rw [ops_wnt hp0h.out os hGd.out hpos, hml, hN.out] at H3
      dsimp only [probV] at H3
      obtain ⟨Y, hY⟩ : ∃ Y, wntL p L0 os = Y := ⟨_, rfl⟩
      rw [hY] at H3 hwl hwr
      replace H3 := Lib.hid H3
      replace hwr := Lib.hid hwr
      obtain ⟨⟨zp, fp, p0, p1, p2, p3, -⟩, -⟩ := T.out.facts
      clear hop2 hbz hpos hOw hOo hbel hze hml hY hPw
      go_wp2_with fail
      with_reducible refine H3.out.mono ?_
      rintro e' w10 ⟨_, rfl, A9, c9, rfl, hA9, hl9, hb10⟩
      have T4 := Lib.hid (T.out.call hb10)
      have hwr4 := Lib.hid (RReps.to hwr.out hb10)
      have H4 := sameR_any A9 A6 c9 c6 Y Y w10 w10.heap.size hl9 hwr4.out (by omega) (by omega)
      rw [decide_eq_true rfl, hwl] at H4
      replace H4 := Lib.hid H4
      clear zp fp p0 p1 p2 p3 hb10 H3 T hA9 hl9
      try rw [hwl]
      go_wp2_with fail
      with_reducible refine H4.out.mono ?_
      rintro e' w11 ⟨rfl, hd11⟩
      have T5 := Lib.hid (T4.out.drawn hd11)
      clear hd11 H4
      go_wp2
      go_ret
      exact ⟨rfl, T5.out.bel⟩
end Go.Proofs.Ytcjnfciemangkaa
