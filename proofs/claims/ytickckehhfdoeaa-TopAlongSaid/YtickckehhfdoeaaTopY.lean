/-
  CONTRACTS of plan.Check and reach.Safe.
  Conditions: those that each theorem names.
-/
import Derived.Test.YtickckehhfdoeaaTopU
import Derived.Test.YtickckehhfdoeaaTopS
namespace Go.Proofs.Ytickckehhfdoeaa
open Go.RowKit Go.Sv
set_option maxHeartbeats 2000000 in
set_option maxRecDepth 100000 in
theorem check_any (p : Prob) (q : ProbP) (A : Option Addr) (c : Nat) (l : List Sp) (w : World) (hp : RProb w w.heap.size p q) (hbd : PBd p) (h0 : probE p = 0) (hn1 : q.a1 = none → p.now.length = 0 ∧ q.c1 = 0) (hL : ArrN w w.heap.size 3 A l.length (spF l)) (hl : l.length ≤ 1000000) :
    Calls Try.prog 12 #[probV p q, .slice A l.length c] w (fun e w' => e = .returned (.bool (chkB p l)) ∧ Below w.heap.size w w') := by
  have S := (Fm.init w).box 39 [.slice q.a0 p.vs.length q.c0, .slice q.a1 p.now.length q.c1, .slice q.a2 p.tgt.length q.c2, .slice q.a3 p.tabs.length q.c3]
  obtain ⟨W, hW, S⟩ : ∃ W, w.alloc (.cells #[.slice q.a0 p.vs.length q.c0, .slice q.a1 p.now.length q.c1, .slice q.a2 p.tgt.length q.c2, .slice q.a3 p.tabs.length q.c3] 39) = W ∧ Fm w W _ _ := ⟨_, rfl, S⟩
  have HF := Lib.hid (fail_any p q A c l W (hp.to S.bel) hbd h0 hn1 ((hL.below S.bel).more S.size) hl)
  obtain ⟨C, hC⟩ : ∃ C, chkB p l = C := ⟨_, rfl⟩
  rw [hC] at HF ⊢
  obtain ⟨n, hn⟩ : ∃ n, l.length = n := ⟨_, rfl⟩
  rw [hn] at HF ⊢
  obtain ⟨qa0, qc0, qa1, qc1, qa2, qc2, qa3, qc3⟩ := q
  dsimp only at HF hW S ⊢
  obtain ⟨⟨r2, f2, r20, r21, r22, r23, -⟩, -⟩ := S.facts
  have SW := Lib.hid S
  clear S hp hbd h0 hn1 hL hC hn hl
  go_enter Try.func12, Try.ntmps12
  go_wp2_with fail
  clear hW
  with_reducible refine HF.out.mono ?_
  rintro e w1 ⟨_, rfl, hb1, k, a0, a1, a2, n0, k0, n1, k1, n2, k2, z0, z1, z2, E, rfl, hE⟩
  have S1 := Lib.hid (SW.out.call hb1)
  clear r2 f2 r20 r21 r22 r23
  have hE2 : (E == 15) = C := by
    cases C with
    | true => simpa using hE.2 rfl
    | false =>
      have : ¬ E = 15 := fun h => by have := hE.1 h; cases this
      simpa using this
  replace hE2 := Lib.hid hE2
  clear hE
  have S2 := Lib.hid ((S1.out.obj (.cells #[.slice a0 n0 k0, .slice a1 n1 k1, .slice a2 n2 k2] 56)).obj (.cells #[.int .i64 z0, .int .i64 z1, .int .i64 z2] 80))
  go_wp2
  go_ret
  exact ⟨by rw [← hE2.out]; rfl, S2.out.bel⟩
set_option maxHeartbeats 4000000 in
set_option maxRecDepth 100000 in
theorem safe_any (p : Prob) (q : ProbP) (A : Option Addr) (c : Nat) (l : List Sp) (ms : List Mx) (w : World) (hp : RProb w w.heap.size p q) (hbd : PBd p) (h0 : probE p = 0) (hn1 : q.a1 = none → p.now.length = 0 ∧ q.c1 = 0) (hL : ArrN w w.heap.size 3 A l.length (spF l)) (hl : l.length ≤ 1000000)
    (hms : rnL p (stMx p) l = ms) (he : rnE p (stMx p) l = 0) (hok : ∀ k, k < ms.length → MOk p (mxAt ms k)) (hml : ms.length ≤ 1000000) :
    Calls Try.prog 20 #[probV p q, .slice A l.length c] w (fun e w' => e = .returned (.tuple #[.bool (ms.all (robB p)), .int .i64 0]) ∧ Below w.heap.size w w') := by
  have S := (Fm.init w).box 39 [.slice q.a0 p.vs.length q.c0, .slice q.a1 p.now.length q.c1, .slice q.a2 p.tgt.length q.c2, .slice q.a3 p.tabs.length q.c3]
  obtain ⟨W, hW, S⟩ : ∃ W, w.alloc (.cells #[.slice q.a0 p.vs.length q.c0, .slice q.a1 p.now.length q.c1, .slice q.a2 p.tgt.length q.c2, .slice q.a3 p.tabs.length q.c3] 39) = W ∧ Fm w W _ _ := ⟨_, rfl, S⟩
  have HF := reachrun_any p q A c l W (hp.to S.bel) hbd h0 hn1 ((hL.below S.bel).more S.size) hl
  rw [hms, he] at HF
  replace HF := Lib.hid HF
  have HR := Lib.hid (fun (m : Mx) (qm : MixP) (W2 : World) (h : Below w.heap.size w W2) (hm : RMix W2 W2.heap.size m qm) (hmb : MBd m qm) (hok : MOk p m) => robust_any p q m qm W2 (hp.to h) hbd hm hmb hok)
  obtain ⟨x, hx⟩ : ∃ x, rnN p (stMx p) l = x := ⟨_, rfl⟩
  rw [hx] at HF
  obtain ⟨n, hn⟩ : ∃ n, l.length = n := ⟨_, rfl⟩
  rw [hn] at HF ⊢
  have hall : Hid (ms.all (robB p) = true ↔ ∀ j, j < ms.length → robB p (mxAt ms j) = true) := Lib.hid (by
    rw [List.all_eq_true]
    constructor
    · intro h j hj
      have e : mxAt ms j = ms[j] := by simp [mxAt, hj]
      rw [e]
      exact h _ (List.getElem_mem hj)
    · intro h y hy
      obtain ⟨j, hj, rfl⟩ := List.getElem_of_mem hy
      have e : mxAt ms j = ms[j] := by simp [mxAt, hj]
      rw [← e]
      exact h j hj)
  obtain ⟨C, hC⟩ : ∃ C, ms.all (robB p) = C := ⟨_, rfl⟩
  rw [hC] at hall ⊢
  obtain ⟨N, hN⟩ : ∃ N, ms.length = N := ⟨_, rfl⟩
  rw [hN] at hall hml hok
  replace hok := Lib.hid hok
  obtain ⟨qa0, qc0, qa1, qc1, qa2, qc2, qa3, qc3⟩ := q
  dsimp only at HF HR hW S ⊢
  obtain ⟨⟨r2, f2, r20, r21, r22, r23, -⟩, -⟩ := S.facts
  have SW := Lib.hid S
  clear S hp hbd h0 hn1 hL hC hn hl hx he hms
  go_enter Try.func20, Try.ntmps20
  go_wp2_with fail
  clear hW
  with_reducible refine HF.out.mono ?_
  rintro e w1 ⟨_, rfl, hb1, AM, cM, Q, rfl, haM, hM⟩
  rw [hN] at haM hM
  rw [hN]
  replace hN := Lib.hid hN
  replace haM := Lib.hid haM
  replace hM := Lib.hid hM
  have S1 := Lib.hid (SW.out.call hb1)
  clear r2 f2 r20 r21 r22 r23 hb1
  obtain ⟨⟨r2, f2, r20, r21, r22, r23, -⟩, -⟩ := S1.out.facts
  go_wp2
  clear r2 f2 r20 r21 r22 r23
  go_loopw [25] (fun s25 wr => ∃ k : Nat, k ≤ N ∧ s25 = .int .i64 (k : Int) ∧ Hid (∀ j, j < k → robB p (mxAt ms j) = true) ∧ Below w1.heap.size w1 wr) (fun s25 _ => N - (intOf s25).toNat)
  case atStart => exact ⟨0, Nat.zero_le _, rfl, Lib.hid (fun j hj => by omega), Below.refl _ _⟩
  case round =>
    obtain ⟨k, hk, rfl, hrob, hb⟩ := hrel
    have T := Lib.hid (S1.out.call hb)
    obtain ⟨⟨r2, f2, r20, r21, r22, r23, -⟩, -⟩ := T.out.facts
    by_cases hlt : k < N
    · obtain ⟨bM, oM, rfl, hbM, hcM⟩ := (haM.out.below hb) (by omega)
      obtain ⟨k0, k1, k2⟩ := mx_cells (hcM k hlt)
      have hEk := Lib.hid ((hM.out k hlt).1.to hb)
      have hEb := Lib.hid (hM.out k hlt).2
      have hEo := Lib.hid (hok.out k hlt)
      have hY : Hid (robB p (mxAt ms k) = true → ∀ j, j < k + 1 → robB p (mxAt ms j) = true) := Lib.hid (fun h j hj => by
        by_cases c : j = k
        · rw [c]; exact h
        · exact hrob.out j (by omega))
      have hNo : Hid (robB p (mxAt ms k) = false → C = false) := Lib.hid (fun h => by
        cases hC : C with
        | false => rfl
        | true => have := hall.out.1 hC k hlt; rw [h] at this; cases this)
      obtain ⟨y, hy⟩ : ∃ y, mxAt ms k = y := ⟨_, rfl⟩
      rw [hy] at k0 k1 k2 hEk hEb hEo hY hNo
      obtain ⟨⟨xa0, xc0, xa1, xc1, xa2, xc2⟩, hq⟩ : ∃ z, Q k = z := ⟨_, rfl⟩
      rw [hq] at k0 k1 k2 hEk hEb
      dsimp only at k0 k1 k2
      obtain ⟨W3, (hW3 : wr.alloc (.cells #[.slice xa0 y.base.length xc0, .slice xa1 y.next.length xc1, .slice xa2 y.held.length xc2] 56) = W3), S3, hB3⟩ := fm_boxE T.out 56 [.slice xa0 y.base.length xc0, .slice xa1 y.next.length xc1, .slice xa2 y.held.length xc2]
      have jk : (k : Int) < (N : Int) := by omega
      have HR2 := Lib.hid (HR.out y ⟨xa0, xc0, xa1, xc1, xa2, xc2⟩ W3 S3.bel (hEk.out.to hB3) hEb.out hEo.out)
      have hb3 := Lib.hid (hb.trans (hB3.mono hb.size))
      clear r2 f2 r20 r21 r22 r23
      obtain ⟨⟨z1, g1, z10, z11, z12, -⟩, ⟨r2, f2, r20, r21, r22, r23, -⟩, -⟩ := S3.facts
      replace S3 := Lib.hid S3
      obtain ⟨rb, hrb⟩ : ∃ rb, robB p y = rb := ⟨_, rfl⟩
      rw [hrb] at HR2 hY hNo
      clear hcM hB3 hEk hEb hEo hy hq hrb hrob
      go_wp2_with fail
      clear hW3
      with_reducible refine HR2.out.mono ?_
      rintro e w4 ⟨rfl, hb4⟩
      have hb5 := Lib.hid (hb3.out.trans (hb4.mono hb3.out.size))
      have S5 := Lib.hid (S3.out.call hb4)
      clear z1 g1 z10 z11 z12 r2 f2 r20 r21 r22 r23 k0 k1 k2 HR2 hb4
      cases rb with
      | true =>
        have hY2 := Lib.hid (hY.out rfl)
        clear hY hNo
        go_wp2
        go_roundw
        case rel => exact ⟨k + 1, by omega, by go_num, hY2, hb5.out⟩
        case measure => simp [intOf]; omega
      | false =>
        have hc := Lib.hid (hNo.out rfl)
        clear hY hNo
        go_wp2
        go_ret2
        exact ⟨by rw [hc.out]; rfl, S5.out.bel⟩
    · obtain rfl : k = N := by omega
      have hc : Hid (C = true) := Lib.hid (hall.out.2 hrob.out)
      clear hlt
      go_wp2
      go_ret2
      exact ⟨by rw [hc.out]; rfl, T.out.bel⟩
end Go.Proofs.Ytickckehhfdoeaa
