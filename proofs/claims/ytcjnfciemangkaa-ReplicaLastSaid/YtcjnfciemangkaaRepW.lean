/-
  CONTRACTS: the reference's Do; the law's perform.
  Conditions: those that each theorem names.
-/
import Derived.Test.YtcjnfciemangkaaRepV
namespace Go.Sv
open Go.RowKit
theorem stepE_cmd {p : Prob} {l : List Rep} {o : Opp} (h : o.kind % 4 < 2) : stepE p l o = applyE p l ⟨o.rnd, o.rep, o.ver⟩ := if_pos h
theorem stepE_pow {p : Prob} {l : List Rep} {o : Opp} (h : ¬ o.kind % 4 < 2) : stepE p l o = powerE l o.rep (decide (o.kind % 4 = 3)) := if_neg h
theorem stepL_bad {p : Prob} {l : List Rep} {o : Opp} {E : Int} (h : stepE p l o = E) (h0 : E ≠ 0) : stepL p l o = l := by unfold stepL; rw [h, if_neg h0]
theorem stepL_cmd {p : Prob} {l : List Rep} {o : Opp} (h : o.kind % 4 < 2) (h0 : stepE p l o = 0) : stepL p l o = applyL p l ⟨o.rnd, o.rep, o.ver⟩ := by unfold stepL; rw [if_pos h0, if_pos h]
theorem stepL_pow {p : Prob} {l : List Rep} {o : Opp} (h : ¬ o.kind % 4 < 2) (h0 : stepE p l o = 0) : stepL p l o = powerL l o.rep (decide (o.kind % 4 = 3)) := by unfold stepL; rw [if_pos h0, if_neg h]
end Go.Sv
namespace Go.Proofs.Ytcjnfciemangkaa
open Go.RowKit Go.Sv
set_option maxHeartbeats 4000000 in
set_option maxRecDepth 100000 in
theorem rdo_any (p : Prob) (q : ProbP) (A : Option Addr) (c : Nat) (l : List Rep) (o : Opp) (w : World) (hp : RProb w w.heap.size p q) (hbd : PBd p) (ha : RReps w w.heap.size A l) (hA : A = none → l.length = 0 ∧ c = 0) (hn : l.length ≤ 1000000) (ho : OBd o) :
    Calls Try.prog 38 #[probV p q, .slice A l.length c, opV o] w (Ret (RRes w (stepL p l o) (stepE p l o))) := by
  obtain ⟨qa0, qc0, qa1, qc1, qa2, qc2, qa3, qc3⟩ := q
  obtain ⟨kd, rep, ver, rnd⟩ := o
  obtain ⟨⟨k0, k1⟩, hr, hv, hd⟩ := ho
  dsimp only at k0 k1 hr hv hd
  have HP := Lib.hid (fun W (hb : Below w.heap.size w W) => hp.to hb)
  have HL := Lib.hid (fun W (hb : Below w.heap.size w W) => RReps.to ha hb)
  obtain ⟨W0, (hW0 : w.alloc (.cells #[.slice qa0 p.vs.length qc0, .slice qa1 p.now.length qc1, .slice qa2 p.tgt.length qc2, .slice qa3 p.tabs.length qc3] 25) = W0), S0, hB0⟩ := fm_boxE (Fm.init w) 25 [.slice qa0 p.vs.length qc0, .slice qa1 p.now.length qc1, .slice qa2 p.tgt.length qc2, .slice qa3 p.tabs.length qc3]
  obtain ⟨W, (hW : W0.alloc (.cells #[.int .u8 kd, .int .u8 rep, .int .u8 ver, .int .i8 rnd] 59) = W), S, hB⟩ := fm_boxE S0 59 [.int .u8 kd, .int .u8 rep, .int .u8 ver, .int .i8 rnd]
  have SW := Lib.hid S
  obtain ⟨⟨zo, fo, o0, o1, o2, o3, -⟩, ⟨zp, fp, p0, p1, p2, p3, -⟩, -⟩ := S.facts
  have m1 := mod4 ⟨k0, k1⟩
  have w1 := wrap_u8 hr
  have w2 := wrap_u8 hv
  have w3 := wrap_i8 hd
  have w4 : IntKind.u8.wrap (kd % 4) = kd % 4 := by simp [IntKind.wrap, IntKind.bits, IntKind.signed]; omega
  clear S S0 hB0 hB hp ha
  by_cases h : kd % 4 < 2
  · have kk : True := trivial
    have H := Lib.hid (rapply_any p ⟨qa0, qc0, qa1, qc1, qa2, qc2, qa3, qc3⟩ A c l ⟨rnd, rep, ver⟩ W (HP.out W SW.out.bel) hbd (HL.out W SW.out.bel) hA hn)
    have hE := Lib.hid (stepE_cmd (p := p) (l := l) (o := ⟨kd, rep, ver, rnd⟩) h)
    have hL0 := Lib.hid (fun e0 => stepL_cmd (p := p) (l := l) (o := ⟨kd, rep, ver, rnd⟩) h e0)
    have hL1 := Lib.hid (fun (E : Int) e0 e1 => stepL_bad (p := p) (l := l) (o := ⟨kd, rep, ver, rnd⟩) (E := E) e0 e1)
    obtain ⟨X, hX⟩ : ∃ X, applyL p l ⟨rnd, rep, ver⟩ = X := ⟨_, rfl⟩
    obtain ⟨E, hEE⟩ : ∃ E, applyE p l ⟨rnd, rep, ver⟩ = E := ⟨_, rfl⟩
    have hE2 : Hid (stepE p l ⟨kd, rep, ver, rnd⟩ = E) := Lib.hid (hE.out.trans hEE)
    rw [hX, hEE] at H
    have j1 : decide (kd % 4 < 2) = true := decide_eq_true h
    clear h hEE hbd HP
    replace hX := Lib.hid hX
    replace hE := Lib.hid hE
    go_enter Try.func38, Try.ntmps38
    go_wp2_with fail
    clear hW hW0
    with_reducible refine H.out.mono ?_
    rintro e' w1 ⟨_, rfl, A1, c1, rfl, hA1, hl1, hb1⟩
    have S1 := Lib.hid (SW.out.call hb1)
    replace hA1 := Lib.hid hA1
    replace hl1 := Lib.hid hl1
    clear H hb1 zo fo o0 o1 o2 o3 zp fp p0 p1 p2 p3
    cases hz : (E == 0) with
    | true =>
      obtain rfl : E = 0 := beq_iff_eq.1 hz
      have hLX := Lib.hid ((hL0.out hE2.out).trans hX.out)
      clear hL0 hL1 hE hX hz
      go_wp2
      refine bodyPost_ret (v := .tuple #[.slice A1 X.length c1, .int .i64 0]) (by simp [results, Try.results38, go_sem]) rfl ?_
      have RR : RRes w X 0 (.tuple #[.slice A1 X.length c1, .int .i64 0]) w1 := ⟨A1, c1, rfl, hA1.out, hl1.out, S1.out.bel⟩
      exact Ret.mk (by rw [hLX.out, hE2.out]; exact RR)
    | false =>
      have hz2 : (E != 0) = true := by rw [bne, hz]; rfl
      have hLX := Lib.hid (hL1.out E hE2.out (fun h0 => by rw [h0] at hz; cases hz))
      have hl2 := Lib.hid (HL.out _ S1.out.bel)
      replace hA := Lib.hid hA
      clear hL0 hL1 hE hX HL hz
      go_wp2
      refine bodyPost_ret (v := .tuple #[.slice A l.length c, .int .i64 E]) (by simp [results, Try.results38, go_sem]) rfl ?_
      have RR : RRes w l E (.tuple #[.slice A l.length c, .int .i64 E]) w1 := ⟨A, c, rfl, hA.out, hl2.out, S1.out.bel⟩
      exact Ret.mk (by rw [hLX.out, hE2.out]; exact RR)
  · have kk : True := trivial
    have H := Lib.hid (rpower_any A c l rep (decide (kd % 4 = 3)) W (HL.out W SW.out.bel) hA hn)
    have hE := Lib.hid (stepE_pow (p := p) (l := l) (o := ⟨kd, rep, ver, rnd⟩) h)
    have hL0 := Lib.hid (fun e0 => stepL_pow (p := p) (l := l) (o := ⟨kd, rep, ver, rnd⟩) h e0)
    have hL1 := Lib.hid (fun (E : Int) e0 e1 => stepL_bad (p := p) (l := l) (o := ⟨kd, rep, ver, rnd⟩) (E := E) e0 e1)
    obtain ⟨X, hX⟩ : ∃ X, powerL l rep (decide (kd % 4 = 3)) = X := ⟨_, rfl⟩
    obtain ⟨E, hEE⟩ : ∃ E, powerE l rep (decide (kd % 4 = 3)) = E := ⟨_, rfl⟩
    have hE2 : Hid (stepE p l ⟨kd, rep, ver, rnd⟩ = E) := Lib.hid (hE.out.trans hEE)
    rw [hX, hEE] at H
    have j1 : decide (kd % 4 < 2) = false := decide_eq_false h
    have j2 : (kd % 4 == 3) = decide (kd % 4 = 3) := rfl
    obtain ⟨b3, hb3⟩ : ∃ b3, decide (kd % 4 = 3) = b3 := ⟨_, rfl⟩
    rw [hb3] at H j2
    replace hb3 := Lib.hid hb3
    clear h hEE hbd HP
    replace hX := Lib.hid hX
    replace hE := Lib.hid hE
    go_enter Try.func38, Try.ntmps38
    go_wp2_with fail
    clear hW hW0
    with_reducible refine H.out.mono ?_
    rintro e' w1 ⟨_, rfl, A1, c1, rfl, hA1, hl1, hb1⟩
    have S1 := Lib.hid (SW.out.call hb1)
    replace hA1 := Lib.hid hA1
    replace hl1 := Lib.hid hl1
    clear H hb1 zo fo o0 o1 o2 o3 zp fp p0 p1 p2 p3
    cases hz : (E == 0) with
    | true =>
      obtain rfl : E = 0 := beq_iff_eq.1 hz
      have hLX := Lib.hid ((hL0.out hE2.out).trans hX.out)
      clear hL0 hL1 hE hX hz
      go_wp2
      refine bodyPost_ret (v := .tuple #[.slice A1 X.length c1, .int .i64 0]) (by simp [results, Try.results38, go_sem]) rfl ?_
      have RR : RRes w X 0 (.tuple #[.slice A1 X.length c1, .int .i64 0]) w1 := ⟨A1, c1, rfl, hA1.out, hl1.out, S1.out.bel⟩
      exact Ret.mk (by rw [hLX.out, hE2.out]; exact RR)
    | false =>
      have hz2 : (E != 0) = true := by rw [bne, hz]; rfl
      have hLX := Lib.hid (hL1.out E hE2.out (fun h0 => by rw [h0] at hz; cases hz))
      have hl2 := Lib.hid (HL.out _ S1.out.bel)
      replace hA := Lib.hid hA
      clear hL0 hL1 hE hX HL hz
      go_wp2
      refine bodyPost_ret (v := .tuple #[.slice A l.length c, .int .i64 E]) (by simp [results, Try.results38, go_sem]) rfl ?_
      have RR : RRes w l E (.tuple #[.slice A l.length c, .int .i64 E]) w1 := ⟨A, c, rfl, hA.out, hl2.out, S1.out.bel⟩
      exact Ret.mk (by rw [hLX.out, hE2.out]; exact RR)
def PfR (w : World) (L : List Rep) (v : Value) (w' : World) : Prop := ∃ A c, v = .tuple #[.slice A L.length c, .bool true] ∧ (A = none → L.length = 0 ∧ c = 0) ∧ RReps w' w'.heap.size A L ∧ Below w.heap.size w w'
set_option maxHeartbeats 8000000 in
set_option maxRecDepth 100000 in
theorem perform_any (p : Prob) (q : ProbP) (A : Option Addr) (c : Nat) (l : List Rep) (Ao : Option Addr) (co : Nat) (os : List Opp) (w : World) (hp : RProb w w.heap.size p q) (hbd : PBd p) (ha : RReps w w.heap.size A l) (hA : A = none → l.length = 0 ∧ c = 0) (hn : l.length ≤ 1000000)
    (ho : ROps w w.heap.size Ao os) (hob : ∀ k, k < os.length → OBd (oppAt os k)) (hol : os.length ≤ 1000000) :
    Calls Try.prog 24 #[probV p q, .slice A l.length c, .slice Ao os.length co] w (Ret (PfR w (opsL p l os))) := by
  obtain ⟨qa0, qc0, qa1, qc1, qa2, qc2, qa3, qc3⟩ := q
  obtain ⟨W, (hW : w.alloc (.cells #[.slice qa0 p.vs.length qc0, .slice qa1 p.now.length qc1, .slice qa2 p.tgt.length qc2, .slice qa3 p.tabs.length qc3] 25) = W), S, hB⟩ := fm_boxE (Fm.init w) 25 [.slice qa0 p.vs.length qc0, .slice qa1 p.now.length qc1, .slice qa2 p.tgt.length qc2, .slice qa3 p.tabs.length qc3]
  have HP := Lib.hid (fun W (hb : Below w.heap.size w W) => hp.to hb)
  have HO := Lib.hid (fun W (hb : Below w.heap.size w W) => ROps.to ho hb)
  have SW := Lib.hid S
  have hst := Lib.hid (fun k (hk : k < os.length) => opsL_snoc (p := p) (l := l) hk)
  have hle := Lib.hid (fun k => opsL_len p (os.take k) l)
  have hal := Lib.hid (opsL_all (p := p) (l := l) (os := os))
  obtain ⟨n, hnn⟩ : ∃ n, os.length = n := ⟨_, rfl⟩
  obtain ⟨N, hN⟩ : ∃ N, l.length = N := ⟨_, rfl⟩
  have h0 := RReps.to ha hB
  have hAW := Lib.hid (fun W B (h : RReps W B A l) => h)
  rw [hnn] at hol hob hst hal ⊢
  rw [hN] at hA hn ⊢
  have hA0 := Lib.hid hA
  replace h0 := Lib.hid h0
  replace hob := Lib.hid hob
  replace hnn := Lib.hid hnn
  replace hN := Lib.hid hN
  obtain ⟨⟨zp, fp, p0, p1, p2, p3, -⟩, -⟩ := S.facts
  clear S hp ha ho hA hB hAW
  go_enter Try.func24, Try.ntmps24
  go_wp2
  clear hW zp fp p0 p1 p2 p3
  go_loopw [1, 16] (fun v i wr => ∃ (k : Nat) (A1 : Option Addr) (c1 : Nat), k ≤ n ∧ i = .int .i64 k ∧ v = .slice A1 N c1 ∧ (A1 = none → N = 0 ∧ c1 = 0) ∧ RReps wr wr.heap.size A1 (opsL p l (os.take k)) ∧ Fm w wr [⟨w.heap.size, 25, [.slice qa0 p.vs.length qc0, .slice qa1 p.now.length qc1, .slice qa2 p.tgt.length qc2, .slice qa3 p.tabs.length qc3]⟩] []) (fun _ i _ => n - (intOf i).toNat)
  case atStart => exact ⟨0, A, c, Nat.zero_le _, rfl, rfl, hA0.out, by show RReps W W.heap.size A (opsL p l []); exact h0.out, SW.out⟩
  case round =>
    obtain ⟨k, A1, c1, hk, rfl, rfl, hA1, hl1, hbw⟩ := hrel
    have hlk := hle.out k
    rw [hN.out] at hlk
    have T := Lib.hid hbw
    clear hbw
    by_cases hlt : k < n
    · have jk : (k : Int) < (n : Int) := by omega
      have hsn := hst.out k hlt
      obtain ⟨bo, oo, rfl, hbo, hco⟩ := (HO.out wr T.out.bel) (by rw [hnn.out]; omega)
      obtain ⟨e0, e1, e2, e3⟩ := op_cells (hco k (by rw [hnn.out]; exact hlt))
      obtain ⟨⟨k0, k1⟩, hr, hv, hd⟩ := hob.out k hlt
      obtain ⟨X, hX⟩ : ∃ X, opsL p l (os.take k) = X := ⟨_, rfl⟩
      rw [hX] at hl1 hlk hsn
      obtain ⟨⟨kd, rep, ver, rnd⟩, hoo⟩ : ∃ o, oppAt os k = o := ⟨_, rfl⟩
      rw [hoo] at e0 e1 e2 e3 k0 k1 hr hv hd hsn
      dsimp only at e0 e1 e2 e3 k0 k1 hr hv hd
      obtain ⟨W1, (hW1 : wr.alloc (.cells #[.int .u8 kd, .int .u8 rep, .int .u8 ver, .int .i8 rnd] 59) = W1), T1, hb1⟩ := fm_boxE T.out 59 [.int .u8 kd, .int .u8 rep, .int .u8 ver, .int .i8 rnd]
      have T1h := Lib.hid T1
      have hm1 := mod4 ⟨k0, k1⟩
      have x1 := wrap_u8 hr
      have x2 := wrap_u8 hv
      have x3 := wrap_i8 hd
      have x4 : IntKind.u8.wrap (kd % 4) = kd % 4 := by simp [IntKind.wrap, IntKind.bits, IntKind.signed]; omega
      have hl2 := Lib.hid (RReps.to hl1 hb1)
      have hbd1 : OBd ⟨kd, rep, ver, rnd⟩ := ⟨⟨k0, k1⟩, hr, hv, hd⟩
      have hXA : A1 = none → X.length = 0 ∧ c1 = 0 := fun h => ⟨by rw [hlk]; exact (hA1 h).1, (hA1 h).2⟩
      have hXn : X.length ≤ 1000000 := by omega
      have HD := Lib.hid (fun W' (hb : Below W1.heap.size W1 W') => rdo_any p ⟨qa0, qc0, qa1, qc1, qa2, qc2, qa3, qc3⟩ A1 c1 X ⟨kd, rep, ver, rnd⟩ W' (HP.out W' (T1h.out.bel.trans (hb.mono T1h.out.bel.size))) hbd (RReps.to hl2.out hb) hXA hXn hbd1)
      obtain ⟨⟨zo, fo, o0, o1, o2, o3, -⟩, ⟨zp, fp, p0, p1, p2, p3, -⟩, -⟩ := T1.facts
      have hK := Lib.hid hk
      clear T1 hco hX hoo hb1 hl1 hk
      by_cases h : kd % 4 < 2
      · have kk : True := trivial
        have H := Lib.hid (apply_any p ⟨qa0, qc0, qa1, qc1, qa2, qc2, qa3, qc3⟩ A1 c1 X ⟨rnd, rep, ver⟩ W1 (HP.out W1 T1h.out.bel) hbd hl2.out hXA hXn)
        have hE := Lib.hid (stepE_cmd (p := p) (l := X) (o := ⟨kd, rep, ver, rnd⟩) h)
        have hL0 := Lib.hid (fun e0 => stepL_cmd (p := p) (l := X) (o := ⟨kd, rep, ver, rnd⟩) h e0)
        have hL1 := Lib.hid (fun (E : Int) e0 e1 => stepL_bad (p := p) (l := X) (o := ⟨kd, rep, ver, rnd⟩) (E := E) e0 e1)
        have hYl := stepL_len p X ⟨kd, rep, ver, rnd⟩
        obtain ⟨Z, hZ⟩ : ∃ Z, applyL p X ⟨rnd, rep, ver⟩ = Z := ⟨_, rfl⟩
        obtain ⟨E, hEE⟩ : ∃ E, applyE p X ⟨rnd, rep, ver⟩ = E := ⟨_, rfl⟩
        obtain ⟨Y, hY⟩ : ∃ Y, stepL p X ⟨kd, rep, ver, rnd⟩ = Y := ⟨_, rfl⟩
        have hE2 := hE.out.trans hEE
        rw [hZ, hEE] at H
        rw [hE2, hY] at HD
        rw [hY] at hsn hYl
        rw [hZ] at hL0
        have hY0 : Hid (E = 0 → Y = Z) := Lib.hid fun h0 => hY.symm.trans (hL0.out (hE2.trans h0))
        have hY1 : Hid (E ≠ 0 → Y = X) := Lib.hid fun h0 => hY.symm.trans (hL1.out E hE2 h0)
        rw [hlk] at H HD hYl
        have j1 : decide (kd % 4 < 2) = true := decide_eq_true h
        clear h hEE hE hL0 hL1 hE2 hY hZ hbd1
        replace hXA := Lib.hid hXA
        replace hsn := Lib.hid hsn
        go_wp2_with fail
        clear hW1
        with_reducible refine H.out.mono ?_
        rintro e' w2 ⟨_, rfl, A2, c2, rfl, hA2, hm2, hb2⟩
        have T2 := Lib.hid (T1h.out.call hb2)
        have HD2 := Lib.hid (HD.out w2 hb2)
        replace hb2 := Lib.hid hb2
        replace hA2 := Lib.hid hA2
        replace hm2 := Lib.hid hm2
        clear H HD zo fo o0 o1 o2 o3 zp fp p0 p1 p2 p3 e0 e1 e2 e3 hbo
        obtain ⟨⟨zo, fo, o0, o1, o2, o3, -⟩, ⟨zp, fp, p0, p1, p2, p3, -⟩, -⟩ := T2.out.facts
        go_wp2_with fail
        with_reducible refine HD2.out.mono ?_
        rintro e' w3 ⟨_, rfl, A3, c3, rfl, hA3, hm3, hb3'⟩
        have T3 := Lib.hid (T2.out.call hb3')
        have hz23 := Lib.hid (RReps.to hm2.out hb3')
        have hx3 := Lib.hid (RReps.to hl2.out (hb2.out.trans (hb3'.mono hb2.out.size)))
        replace hA3 := Lib.hid hA3
        replace hm3 := Lib.hid hm3
        have hb3r := Lib.hid (T3.out.bel)
        clear HD2 hb3' hb2 hl2 hm2 zo fo o0 o1 o2 o3 zp fp p0 p1 p2 p3
        cases hz : (E == 0) with
        | true =>
          obtain rfl : E = 0 := beq_iff_eq.1 hz
          have hYZ := hY0.out rfl
          have hs : Hid (Calls Try.prog 15 #[.slice A2 Z.length c2, .slice A3 Y.length c3] w3 fun e w' => e = .returned (.bool true) ∧ Drawn w3 w') := Lib.hid (by
            have := sameR_any A2 A3 c2 c3 Z Y w3 w3.heap.size hz23.out hm3.out (by rw [← hYZ, hYl]; omega) (by rw [hYl]; omega)
            rwa [decide_eq_true hYZ.symm] at this)
          subst hYZ
          rw [hYl] at hs ⊢
          clear hY0 hY1 hz
          go_wp2_with fail
          with_reducible refine hs.out.mono ?_
          rintro e' w4 ⟨rfl, hd4⟩
          have T4 := Lib.hid (T3.out.drawn hd4)
          have hz4 := Lib.hid (ArrN.drawn hz23.out hd4)
          have hz5 := Lib.hid (ArrN.more hz4.out (Nat.le_of_eq (Drawn.size hd4).symm))
          clear hd4 hs hz23 hz4 hx3 hm3
          go_wp2
          go_roundw
          case rel => exact ⟨k + 1, A2, c2, hlt, by go_num, by first | rfl | rw [hYl], fun h => ⟨by have := (hA2.out h).1; omega, (hA2.out h).2⟩, by rw [hsn.out]; exact hz5.out, T4.out.drop _ _ (List.sublist_cons_self _ _) (List.Sublist.refl _)⟩
          case measure => simp [intOf]; omega
        | false =>
          have hYX := hY1.out (fun h0 => by rw [h0] at hz; cases hz)
          subst hYX
          clear hY0 hY1
          go_wp2
          go_roundw
          case rel => exact ⟨k + 1, A1, c1, hlt, by go_num, rfl, fun h => ⟨by have := (hXA.out h).1; omega, (hXA.out h).2⟩, by rw [hsn.out]; exact hx3.out, T3.out.drop _ _ (List.sublist_cons_self _ _) (List.Sublist.refl _)⟩
          case measure => simp [intOf]; omega
      · have kk : True := trivial
        have H := Lib.hid (power_any A1 c1 X rep (decide (kd % 4 = 3)) W1 hl2.out hXA hXn)
        have hE := Lib.hid (stepE_pow (p := p) (l := X) (o := ⟨kd, rep, ver, rnd⟩) h)
        have hL0 := Lib.hid (fun e0 => stepL_pow (p := p) (l := X) (o := ⟨kd, rep, ver, rnd⟩) h e0)
        have hL1 := Lib.hid (fun (E : Int) e0 e1 => stepL_bad (p := p) (l := X) (o := ⟨kd, rep, ver, rnd⟩) (E := E) e0 e1)
        have hYl := stepL_len p X ⟨kd, rep, ver, rnd⟩
        obtain ⟨Z, hZ⟩ : ∃ Z, powerL X rep (decide (kd % 4 = 3)) = Z := ⟨_, rfl⟩
        obtain ⟨E, hEE⟩ : ∃ E, powerE X rep (decide (kd % 4 = 3)) = E := ⟨_, rfl⟩
        obtain ⟨Y, hY⟩ : ∃ Y, stepL p X ⟨kd, rep, ver, rnd⟩ = Y := ⟨_, rfl⟩
        have hE2 := hE.out.trans hEE
        rw [hZ, hEE] at H
        rw [hE2, hY] at HD
        rw [hY] at hsn hYl
        rw [hZ] at hL0
        have hY0 : Hid (E = 0 → Y = Z) := Lib.hid fun h0 => hY.symm.trans (hL0.out (hE2.trans h0))
        have hY1 : Hid (E ≠ 0 → Y = X) := Lib.hid fun h0 => hY.symm.trans (hL1.out E hE2 h0)
        rw [hlk] at H HD hYl
        have j1 : decide (kd % 4 < 2) = false := decide_eq_false h
        have j2 : (kd % 4 == 3) = decide (kd % 4 = 3) := rfl
        obtain ⟨b3, hb3⟩ : ∃ b3, decide (kd % 4 = 3) = b3 := ⟨_, rfl⟩
        rw [hb3] at H j2
        replace hb3 := Lib.hid hb3
        clear h hEE hE hL0 hL1 hE2 hY hZ hbd1
        replace hXA := Lib.hid hXA
        replace hsn := Lib.hid hsn
        go_wp2_with fail
        clear hW1
        with_reducible refine H.out.mono ?_
        rintro e' w2 ⟨_, rfl, A2, c2, rfl, hA2, hm2, hb2⟩
        have T2 := Lib.hid (T1h.out.call hb2)
        have HD2 := Lib.hid (HD.out w2 hb2)
        replace hb2 := Lib.hid hb2
        replace hA2 := Lib.hid hA2
        replace hm2 := Lib.hid hm2
        clear H HD zo fo o0 o1 o2 o3 zp fp p0 p1 p2 p3 e0 e1 e2 e3 hbo
        obtain ⟨⟨zo, fo, o0, o1, o2, o3, -⟩, ⟨zp, fp, p0, p1, p2, p3, -⟩, -⟩ := T2.out.facts
        go_wp2_with fail
        with_reducible refine HD2.out.mono ?_
        rintro e' w3 ⟨_, rfl, A3, c3, rfl, hA3, hm3, hb3'⟩
        have T3 := Lib.hid (T2.out.call hb3')
        have hz23 := Lib.hid (RReps.to hm2.out hb3')
        have hx3 := Lib.hid (RReps.to hl2.out (hb2.out.trans (hb3'.mono hb2.out.size)))
        replace hA3 := Lib.hid hA3
        replace hm3 := Lib.hid hm3
        have hb3r := Lib.hid (T3.out.bel)
        clear HD2 hb3' hb2 hl2 hm2 zo fo o0 o1 o2 o3 zp fp p0 p1 p2 p3
        cases hz : (E == 0) with
        | true =>
          obtain rfl : E = 0 := beq_iff_eq.1 hz
          have hYZ := hY0.out rfl
          have hs : Hid (Calls Try.prog 15 #[.slice A2 Z.length c2, .slice A3 Y.length c3] w3 fun e w' => e = .returned (.bool true) ∧ Drawn w3 w') := Lib.hid (by
            have := sameR_any A2 A3 c2 c3 Z Y w3 w3.heap.size hz23.out hm3.out (by rw [← hYZ, hYl]; omega) (by rw [hYl]; omega)
            rwa [decide_eq_true hYZ.symm] at this)
          subst hYZ
          rw [hYl] at hs ⊢
          clear hY0 hY1 hz
          go_wp2_with fail
          with_reducible refine hs.out.mono ?_
          rintro e' w4 ⟨rfl, hd4⟩
          have T4 := Lib.hid (T3.out.drawn hd4)
          have hz4 := Lib.hid (ArrN.drawn hz23.out hd4)
          have hz5 := Lib.hid (ArrN.more hz4.out (Nat.le_of_eq (Drawn.size hd4).symm))
          clear hd4 hs hz23 hz4 hx3 hm3
          go_wp2
          go_roundw
          case rel => exact ⟨k + 1, A2, c2, hlt, by go_num, by first | rfl | rw [hYl], fun h => ⟨by have := (hA2.out h).1; omega, (hA2.out h).2⟩, by rw [hsn.out]; exact hz5.out, T4.out.drop _ _ (List.sublist_cons_self _ _) (List.Sublist.refl _)⟩
          case measure => simp [intOf]; omega
        | false =>
          have hYX := hY1.out (fun h0 => by rw [h0] at hz; cases hz)
          subst hYX
          clear hY0 hY1
          go_wp2
          go_roundw
          case rel => exact ⟨k + 1, A1, c1, hlt, by go_num, rfl, fun h => ⟨by have := (hXA.out h).1; omega, (hXA.out h).2⟩, by rw [hsn.out]; exact hx3.out, T3.out.drop _ _ (List.sublist_cons_self _ _) (List.Sublist.refl _)⟩
          case measure => simp [intOf]; omega
    · obtain rfl : k = n := by omega
      have jk : ¬ (k : Int) < (k : Int) := by omega
      rw [hal.out] at hl1 hlk
      replace hl1 := Lib.hid hl1
      replace hA1 := Lib.hid hA1
      go_wp2
      refine bodyPost_ret (v := .tuple #[.slice A1 N c1, .bool true]) (by simp [results, Try.results24, go_sem]) rfl ?_
      exact Ret.mk ⟨A1, c1, by rw [hlk], by rw [hlk]; exact hA1.out, hl1.out, T.out.bel⟩
end Go.Proofs.Ytcjnfciemangkaa
