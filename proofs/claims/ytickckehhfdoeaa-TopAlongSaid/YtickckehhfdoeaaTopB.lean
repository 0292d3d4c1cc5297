/-
  CONTRACT of mix.Robust out of one of mix.Blame.
  Conditions: those that each theorem names.
-/
import Derived.Test.YtickckehhfdoeaaTopA
namespace Go.Proofs.Ytickckehhfdoeaa
open Go.RowKit Go.Sv
/-- what Blame hands back: a mix, a conflict, an error -/
def BlaR (w : World) (E : Int) (v : Value) (w' : World) : Prop := Below w.heap.size w w' ∧ ∃ (a0 a1 a2 : Option Addr) (n0 k0 n1 k1 n2 k2 : Nat) (z0 z1 z2 : Int), v = .tuple #[.agg #[.slice a0 n0 k0, .slice a1 n1 k1, .slice a2 n2 k2], .agg #[.int .i64 z0, .int .i64 z1, .int .i64 z2], .int .i64 E]
/-- Robust's answer out of Blame's error -/
def robA (E : Int) : Value := .tuple #[.bool (decide (E = 15)), .int .i64 (if E = 0 ∨ E = 15 then 0 else E)]
set_option maxHeartbeats 4000000 in
set_option maxRecDepth 100000 in
theorem robust_of (p : Prob) (q : ProbP) (m : Mx) (qm : MixP) (E : Int) (w : World) (HB : ∀ W, Below w.heap.size w W → Calls Try.prog 32 #[probV p q, mixV m qm] W (Ret (BlaR W E))) :
    Calls Try.prog 14 #[probV p q, mixV m qm] w fun e w' => e = .returned (robA E) ∧ Below w.heap.size w w' := by
  obtain ⟨W, hW, S⟩ := pm_boxes p q m qm w
  have HV := Lib.hid (HB W S.bel)
  obtain ⟨qa0, qc0, qa1, qc1, qa2, qc2, qa3, qc3⟩ := q
  obtain ⟨ma0, mc0, ma1, mc1, ma2, mc2⟩ := qm
  dsimp only at HV hW S ⊢
  obtain ⟨⟨r1, f1, r10, r11, r12, -⟩, ⟨r2, f2, r20, r21, r22, r23, -⟩, -⟩ := S.facts
  have SW := Lib.hid S
  clear S HB
  go_enter Try.func14, Try.ntmps14
  go_wp2_with fail
  clear hW
  with_reducible refine HV.out.mono ?_
  rintro e w1 ⟨_, rfl, hb1, a0, a1, a2, b0, k0, b1, k1, b2, k2, z0, z1, z2, rfl⟩
  have S1 := Lib.hid (SW.out.call hb1)
  obtain ⟨W2, hW2, S2, hb2⟩ : ∃ W2, (w1.alloc (.cells #[.slice a0 b0 k0, .slice a1 b1 k1, .slice a2 b2 k2] 56)).alloc (.cells #[.int .i64 z0, .int .i64 z1, .int .i64 z2] 80) = W2 ∧ Below w.heap.size w W2 ∧ True := ⟨_, rfl, (S1.out.bel.alloc S1.out.bel.size _).alloc (by have := S1.out.bel.size; simp; omega) _, trivial⟩
  replace S2 := Lib.hid S2
  clear hb1 HV SW r1 f1 r10 r11 r12 r2 f2 r20 r21 r22 r23 hb2 S1
  cases h0 : (E == 0) with
  | true =>
    obtain rfl : E = 0 := beq_iff_eq.1 h0
    clear h0
    go_wp2
    go_ret2
    exact ⟨rfl, S2.out⟩
  | false =>
    have n0 : E ≠ 0 := fun h => by rw [h] at h0; cases h0
    cases h1 : (E == 15) with
    | true =>
      obtain rfl : E = 15 := beq_iff_eq.1 h1
      clear h1 h0 n0
      go_wp2
      go_ret2
      exact ⟨rfl, S2.out⟩
    | false =>
      have n1 : E ≠ 15 := fun h => by rw [h] at h1; cases h1
      have e1 : Hid (decide (E = 15) = false) := Lib.hid (decide_eq_false n1)
      have e2 : Hid ((if E = 0 ∨ E = 15 then 0 else E) = E) := Lib.hid (if_neg (fun h => h.elim n0 n1))
      clear n0 n1
      go_wp2
      go_ret2
      exact ⟨by unfold robA; rw [e1.out, e2.out]; rfl, S2.out⟩
end Go.Proofs.Ytickckehhfdoeaa
