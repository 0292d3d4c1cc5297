/-
  ARGUMENTS OPENED: a test, a fraction.
  Conditions: none.
-/
import Derived.Test.YtpoddmkimhkmoaaGreatOpenG
import Derived.Test.YtpoddmkimhkmoaaGreatNt2
import Derived.Test.YtpoddmkimhkmoaaGreatPb2
import Derived.Test.YtpoddmkimhkmoaaGreatPh1
import Derived.Lib.SmallJoins
namespace Go.Proofs.YtpoddmkimhkmoaaGreat
open Go.ChangeShapes Go.WideShapes Go.ChangeAt Go.RowKit Go.Sv
section
variable {H : Type} {enc : TypeId × Value → H} {W : World}
set_option maxRecDepth 100000 in
theorem open_tst {v : Value} {d : DataW H} {p : List MemPlace} {base : Nat} (hv : Value.okWide Tryz.prog W .any base 32 v) (h : DataW.Trod enc Tryz.prog W 0 (fun _ => true) true 32 v d p) (hlt : ∀ x ∈ p, x.block < W.heap.size) :
    ∃ (t : Tst) (q : TstP), v = tstV t q ∧ RTst W W.heap.size t q ∧ TBd t := by
  have k1 : Tryz.prog.cellsOf 3 = 1 := by kernel_rfl
  obtain ⟨v0, v1, y0, y1, n, rfl, rfl, rfl, h0, h1⟩ := Joins.open_agg2 Tryz.underlying32 (by kernel_rfl) (by kernel_rfl) hv h
  obtain ⟨A0, l0, c0, e0, n0, m0, _, r0, _⟩ := trod_iarr Tryz.underlying30 Tryz.underlying3 k1 h0 (fun y hy => hlt y (by simp [hy]))
  obtain ⟨A1, l1, c1, e1, n1, m1, _, r1, _⟩ := trod_iarr Tryz.underlying30 Tryz.underlying3 k1 h1 (fun y hy => hlt y (by simp [hy]))
  simp at e0 e1
  subst e0 e1
  unfold maxLen at m0 m1
  exact ⟨⟨l0, l1⟩, ⟨A0, c0, A1, c1⟩, rfl, ⟨r0, r1⟩, ⟨show l0.length ≤ _ by omega, show l1.length ≤ _ by omega⟩⟩
set_option maxRecDepth 100000 in
theorem trod_nat {fuel : Nat} {cs : List Value} {x : DataW H × List MemPlace} (hf : DataW.trod enc Tryz.prog W 0 (fun _ => true) true fuel 24 cs = some x) (hlt : ∀ y ∈ x.2, y.block < W.heap.size) :
    ∃ (l : List Int) (q : LmP), cs = [.slice q.a l.length q.c] ∧ RLm W W.heap.size l q ∧ Lim l := by
  have k1 : Tryz.prog.cellsOf 69 = 1 := by kernel_rfl
  have kN : Tryz.prog.cellsOf 24 = 1 := by kernel_rfl
  obtain ⟨y0, n, rfl, hl, h0⟩ := trod_struct1 Tryz.underlying24 hf
  rw [kN] at hl
  obtain ⟨c0, rfl⟩ : ∃ c0, cs = [c0] := by
    match cs, hl with
    | [c0], _ => exact ⟨c0, rfl⟩
  have h0' : DataW.trod enc Tryz.prog W 0 (fun _ => true) true n 22 [c0] = some y0 := h0
  obtain ⟨A, l, c, e0, n0, m0, z0, r0, w0⟩ := trod_iarr Tryz.underlying22 Tryz.underlying69 k1 h0' hlt
  simp at e0
  subst e0
  refine ⟨l, ⟨A, c⟩, rfl, ⟨r0, z0, n0, m0⟩, fun i hi => ?_⟩
  have := w0 i hi
  simp [Lit.wf, IntKind.min, IntKind.max, IntKind.signed, IntKind.bits] at this
  omega
set_option maxRecDepth 100000 in
theorem open_rat {v : Value} {d : DataW H} {p : List MemPlace} {base : Nat} (hv : Value.okWide Tryz.prog W .any base 26 v) (h : DataW.Trod enc Tryz.prog W 0 (fun _ => true) true 26 v d p) (hlt : ∀ x ∈ p, x.block < W.heap.size) :
    ∃ (n : List Int) (q : LmP) (e : List Int) (r : LmP), v = ratV n q e r ∧ RLm W W.heap.size n q ∧ Lim n ∧ RLm W W.heap.size e r ∧ Lim e := by
  have kR : Tryz.prog.cellsOf 26 = 2 := by kernel_rfl
  have kN : Tryz.prog.cellsOf 24 = 1 := by kernel_rfl
  obtain ⟨cs, rfl, hsz⟩ := okWide_struct Tryz.underlying26 hv
  rw [kR] at hsz
  obtain ⟨c0, c1, rfl⟩ : ∃ c0 c1, cs = #[c0, c1] := by
    match cs, hsz with
    | ⟨[c0, c1]⟩, _ => exact ⟨c0, c1, rfl⟩
  obtain ⟨fuel, hf⟩ := h
  obtain ⟨y0, y1, n, hx, _, h0, h1⟩ := trod_struct2 Tryz.underlying26 hf
  simp only [Prod.mk.injEq] at hx
  obtain ⟨_, rfl⟩ := hx
  have h0' : DataW.trod enc Tryz.prog W 0 (fun _ => true) true n 24 [c0] = some y0 := h0
  have h1' : DataW.trod enc Tryz.prog W 0 (fun _ => true) true n 24 [c1] = some y1 := h1
  obtain ⟨l, q, e0, r0, l0⟩ := trod_nat h0' (fun y hy => hlt y (by simp [hy]))
  obtain ⟨m, r, e1, r1, l1⟩ := trod_nat h1' (fun y hy => hlt y (by simp [hy]))
  simp at e0 e1
  subst e0 e1
  exact ⟨l, q, m, r, rfl, r0, l0, r1, l1⟩
end
end Go.Proofs.YtpoddmkimhkmoaaGreat
