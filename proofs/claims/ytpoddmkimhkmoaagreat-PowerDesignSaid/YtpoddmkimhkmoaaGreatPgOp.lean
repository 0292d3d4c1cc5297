/-
  ARGUMENTS OPENED: a Goal: four fractions.
  Conditions: none.
-/
import Derived.Test.YtpoddmkimhkmoaaGreatPwOp
namespace Go.Proofs.YtpoddmkimhkmoaaGreat
open Go.ChangeShapes Go.WideShapes Go.ChangeAt Go.RowKit Go.Sv
section
variable {H : Type} {enc : TypeId × Value → H} {W : World}
set_option maxRecDepth 100000 in
theorem trod_rat {fuel : Nat} {cs : List Value} {x : DataW H × List MemPlace} (hf : DataW.trod enc Tryz.prog W 0 (fun _ => true) true fuel 26 cs = some x) (hlt : ∀ y ∈ x.2, y.block < W.heap.size) :
    ∃ (n : List Int) (q : LmP) (e : List Int) (r : LmP), cs = [.slice q.a n.length q.c, .slice r.a e.length r.c] ∧ RLm W W.heap.size n q ∧ Lim n ∧ RLm W W.heap.size e r ∧ Lim e := by
  have kR : Tryz.prog.cellsOf 26 = 2 := by kernel_rfl
  obtain ⟨y0, y1, n, rfl, hl, h0, h1⟩ := trod_struct2 Tryz.underlying26 hf
  rw [kR] at hl
  obtain ⟨c0, c1, rfl⟩ : ∃ c0 c1, cs = [c0, c1] := by
    match cs, hl with
    | [c0, c1], _ => exact ⟨c0, c1, rfl⟩
  have h0' : DataW.trod enc Tryz.prog W 0 (fun _ => true) true n 24 [c0] = some y0 := h0
  have h1' : DataW.trod enc Tryz.prog W 0 (fun _ => true) true n 24 [c1] = some y1 := h1
  obtain ⟨l, q, e0, r0, l0⟩ := trod_nat h0' (fun y hy => hlt y (by simp [hy]))
  obtain ⟨m, r, e1, r1, l1⟩ := trod_nat h1' (fun y hy => hlt y (by simp [hy]))
  simp at e0 e1
  subst e0 e1
  exact ⟨l, q, m, r, rfl, r0, l0, r1, l1⟩
set_option maxRecDepth 100000 in
theorem open_goal {v : Value} {d : DataW H} {p : List MemPlace} {base : Nat} (hv : Value.okWide Tryz.prog W .any base 28 v) (h : DataW.Trod enc Tryz.prog W 0 (fun _ => true) true 28 v d p) (hlt : ∀ x ∈ p, x.block < W.heap.size) :
    ∃ (n0 m0 n1 m1 n2 m2 n3 m3 : List Int) (q0 r0 q1 r1 q2 r2 q3 r3 : LmP), v = .agg #[.slice q0.a n0.length q0.c, .slice r0.a m0.length r0.c, .slice q1.a n1.length q1.c, .slice r1.a m1.length r1.c, .slice q2.a n2.length q2.c, .slice r2.a m2.length r2.c, .slice q3.a n3.length q3.c, .slice r3.a m3.length r3.c] ∧
      (RLm W W.heap.size n0 q0 ∧ Lim n0 ∧ RLm W W.heap.size m0 r0 ∧ Lim m0) ∧ (RLm W W.heap.size n1 q1 ∧ Lim n1 ∧ RLm W W.heap.size m1 r1 ∧ Lim m1) ∧ (RLm W W.heap.size n2 q2 ∧ Lim n2 ∧ RLm W W.heap.size m2 r2 ∧ Lim m2) ∧ RLm W W.heap.size n3 q3 ∧ Lim n3 ∧ RLm W W.heap.size m3 r3 ∧ Lim m3 := by
  have kG : Tryz.prog.cellsOf 28 = 8 := by kernel_rfl
  have kR : Tryz.prog.cellsOf 26 = 2 := by kernel_rfl
  obtain ⟨cs, rfl, hsz⟩ := okWide_struct Tryz.underlying28 hv
  rw [kG] at hsz
  obtain ⟨c0, c1, c2, c3, c4, c5, c6, c7, rfl⟩ : ∃ c0 c1 c2 c3 c4 c5 c6 c7, cs = #[c0, c1, c2, c3, c4, c5, c6, c7] := by
    match cs, hsz with
    | ⟨[c0, c1, c2, c3, c4, c5, c6, c7]⟩, _ => exact ⟨c0, c1, c2, c3, c4, c5, c6, c7, rfl⟩
  obtain ⟨fuel, hf⟩ := h
  obtain ⟨y0, y1, y2, y3, n, hx, _, h0, h1, h2, h3⟩ := Joins.trod_struct4 Tryz.underlying28 hf
  simp only [Prod.mk.injEq] at hx
  obtain ⟨_, rfl⟩ := hx
  have h0' : DataW.trod enc Tryz.prog W 0 (fun _ => true) true n 26 [c0, c1] = some y0 := h0
  have h1' : DataW.trod enc Tryz.prog W 0 (fun _ => true) true n 26 [c2, c3] = some y1 := h1
  have h2' : DataW.trod enc Tryz.prog W 0 (fun _ => true) true n 26 [c4, c5] = some y2 := h2
  have h3' : DataW.trod enc Tryz.prog W 0 (fun _ => true) true n 26 [c6, c7] = some y3 := h3
  obtain ⟨n0, q0, m0, r0, e0, a0⟩ := trod_rat h0' (fun y hy => hlt y (by simp [hy]))
  obtain ⟨n1, q1, m1, r1, e1, a1⟩ := trod_rat h1' (fun y hy => hlt y (by simp [hy]))
  obtain ⟨n2, q2, m2, r2, e2, a2⟩ := trod_rat h2' (fun y hy => hlt y (by simp [hy]))
  obtain ⟨n3, q3, m3, r3, e3, a3⟩ := trod_rat h3' (fun y hy => hlt y (by simp [hy]))
  simp only [List.cons.injEq, and_true] at e0 e1 e2 e3
  obtain ⟨rfl, rfl⟩ := e0
  obtain ⟨rfl, rfl⟩ := e1
  obtain ⟨rfl, rfl⟩ := e2
  obtain ⟨rfl, rfl⟩ := e3
  exact ⟨n0, m0, n1, m1, n2, m2, n3, m3, q0, r0, q1, r1, q2, r2, q3, r3, rfl, a0, a1, a2, a3⟩
end
end Go.Proofs.YtpoddmkimhkmoaaGreat
