/-
  CONTRACTS of reach.run and reach.Safe.
  Conditions: those that each theorem names.
-/
import Derived.Test.YtickckehhfdoeaaTopL
namespace Go.Proofs.Ytickckehhfdoeaa
open Go.RowKit Go.Sv
/-- mixes to read, a number, an error -/
def RunK (w : World) (ms : List Mx) (n e : Int) (v : Value) (w' : World) : Prop := Below w.heap.size w w' ∧ ∃ A c Q, v = .tuple #[.slice A ms.length c, .int .i64 n, .int .i64 e] ∧ ArrN w' w'.heap.size 3 A ms.length (mxF ms Q) ∧ ∀ k, k < ms.length → RMix w' w'.heap.size (mxAt ms k) (Q k) ∧ MBd (mxAt ms k) (Q k)
set_option maxHeartbeats 2000000 in
set_option maxRecDepth 100000 in
theorem reachrun_any (p : Prob) (q : ProbP) (A : Option Addr) (c : Nat) (l : List Sp) (w : World) (hp : RProb w w.heap.size p q) (hbd : PBd p) (h0 : probE p = 0) (hn1 : q.a1 = none → p.now.length = 0 ∧ q.c1 = 0) (hL : ArrN w w.heap.size 3 A l.length (spF l)) (hl : l.length ≤ 1000000) :
    Calls Try.prog 47 #[probV p q, .slice A l.length c] w (Ret (RunK w (rnL p (stMx p) l) (rnN p (stMx p) l) (rnE p (stMx p) l))) := by
  have S := (Fm.init w).box 39 [.slice q.a0 p.vs.length q.c0, .slice q.a1 p.now.length q.c1, .slice q.a2 p.tgt.length q.c2, .slice q.a3 p.tabs.length q.c3]
  obtain ⟨W, hW, S⟩ : ∃ W, w.alloc (.cells #[.slice q.a0 p.vs.length q.c0, .slice q.a1 p.now.length q.c1, .slice q.a2 p.tgt.length q.c2, .slice q.a3 p.tabs.length q.c3] 39) = W ∧ Fm w W _ _ := ⟨_, rfl, S⟩
  have hpW := hp.to S.bel
  have hLW := (hL.below S.bel).more S.size
  have HS := Lib.hid (start0_any p q W hpW hbd h0 hn1)
  have HF := Lib.hid (fun (qm : MixP) (W2 : World) (h : Below W.heap.size W W2) (hm : RMix W2 W2.heap.size (stMx p) qm) (hmb : MBd (stMx p) qm) => Run_any p q (stMx p) qm A c l W2 (hpW.to h) hbd hm hmb ((hLW.below h).more h.size) hl)
  have h8 := Lib.hid (stMx_h8 h0)
  obtain ⟨m, hm⟩ : ∃ m, stMx p = m := ⟨_, rfl⟩
  obtain ⟨n, hn⟩ : ∃ n, l.length = n := ⟨_, rfl⟩
  rw [hm] at HS HF h8 ⊢
  rw [hn] at HF ⊢
  obtain ⟨qa0, qc0, qa1, qc1, qa2, qc2, qa3, qc3⟩ := q
  dsimp only at HS HF hW S ⊢
  obtain ⟨⟨r2, f2, r20, r21, r22, r23, -⟩, -⟩ := S.facts
  have SW := Lib.hid S
  clear S hp hbd h0 hn1 hpW hm hL hLW hn hl
  go_enter Try.func47, Try.ntmps47
  go_wp2_with fail
  clear hW
  with_reducible refine HS.out.mono ?_
  rintro e w1 ⟨_, rfl, hb1, ⟨a0, c0, a1, c1, a2, c2⟩, rfl, ha⟩
  have S1 := SW.out.call hb1
  obtain ⟨W2, (hW2 : w1.alloc (.cells #[.slice a0 m.base.length c0, .slice a1 m.next.length c1, .slice a2 m.held.length c2] 56) = W2), S2, hB2⟩ := fm_boxE S1 56 [.slice a0 m.base.length c0, .slice a1 m.next.length c1, .slice a2 m.held.length c2]
  have ha2 := ha.to hB2
  have HF2 := Lib.hid (HF.out ⟨a0, c0, a1, c1, a2, c2⟩ W2 (hb1.trans (hB2.mono hb1.size)) ha2.mix (ha2.bd h8.out))
  clear r2 f2 r20 r21 r22 r23 HS HF
  obtain ⟨⟨z1, g1, z10, z11, z12, -⟩, ⟨r2, f2, r20, r21, r22, r23, -⟩, -⟩ := S2.facts
  replace S2 := Lib.hid S2
  replace hb1 := Lib.hid hb1
  clear ha ha2 S1 hB2
  go_wp2_with fail
  clear hW2
  with_reducible refine HF2.out.mono ?_
  rintro e w3 ⟨_, rfl, hb3, A, c, Q, rfl, hown⟩
  have hz := S2.out.size
  obtain ⟨A', c', hv, harr⟩ := hown.arr
  cases hv
  have hP : Hid (RunK w (rnL p m l) (rnN p m l) (rnE p m l) (.tuple #[.slice A (rnL p m l).length c, .int .i64 (rnN p m l), .int .i64 (rnE p m l)]) w3) := Lib.hid ⟨S2.out.bel.trans (hb3.mono hz), A, c, Q, rfl, harr, fun k hk => ⟨(hown.el k hk).mix hb3.size, (hown.el k hk).2⟩⟩
  obtain ⟨L, hL⟩ : ∃ L, rnL p m l = L := ⟨_, rfl⟩
  obtain ⟨x, hx⟩ : ∃ x, rnN p m l = x := ⟨_, rfl⟩
  obtain ⟨y, hy⟩ : ∃ y, rnE p m l = y := ⟨_, rfl⟩
  rw [hL, hx, hy] at hP
  rw [hL, hx, hy]
  replace hL := Lib.hid hL
  replace hx := Lib.hid hx
  replace hy := Lib.hid hy
  clear hown hb3 z1 g1 z10 z11 z12 r2 f2 r20 r21 r22 r23 hz
  go_wp2
  go_ret3
  exact Ret.mk (by rw [hL.out, hx.out, hy.out]; exact hP.out)
end Go.Proofs.Ytickckehhfdoeaa
