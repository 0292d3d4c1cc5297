/-
  ARGUMENTS OPENED: drafts of mixes, rows of uint16.
  Conditions: none.
-/
import Derived.Test.YtickckehhfdoeaaOpenDt
import Derived.Test.YtickckehhfdoeaaTopRo
namespace Go.Proofs.Ytickckehhfdoeaa
open Go.ChangeShapes Go.WideShapes Go.ChangeAt Go.RowKit Go.Sv

section
variable {H : Type} {enc : TypeId × Value → H} {W : World}
set_option maxRecDepth 100000 in
theorem open_dmx {v : Value} {d : DataW H} {p : List MemPlace} {base : Nat} (hv : Value.okWide Try.prog W .any base 34 v) (h : DataW.Trod enc Try.prog W 0 (fun _ => true) true 34 v d p) (hlt : ∀ x ∈ p, x.block < W.heap.size) :
    ∃ (d : DMx) (q : MixP), v = dmxV d q ∧ RDmx W W.heap.size d q ∧ MDBd d := by
  obtain ⟨v0, v1, v2, y0, y1, y2, n, rfl, rfl, rfl, h0, h1, h2⟩ := Joins.open_agg3 Try.underlying34 (by kernel_rfl) (by kernel_rfl) hv h
  obtain ⟨A0, l0, c0, e0, b0, r0⟩ := trod_bytes h0 (fun y hy => hlt y (by simp [hy]))
  obtain ⟨A1, l1, c1, e1, b1, r1⟩ := trod_bytes h1 (fun y hy => hlt y (by simp [hy]))
  obtain ⟨A2, l2, c2, e2, b2, r2⟩ := trod_bytes h2 (fun y hy => hlt y (by simp [hy]))
  simp at e0 e1 e2
  subst e0 e1 e2
  exact ⟨⟨l0, l1, l2⟩, ⟨A0, c0, A1, c1, A2, c2⟩, rfl, ⟨r0, r1, r2⟩, ⟨b0, b1, b2⟩⟩
set_option maxRecDepth 100000 in
theorem trod_u16s {fuel : Nat} {cs : List Value} {x : DataW H × List MemPlace} (hf : DataW.trod enc Try.prog W 0 (fun _ => true) true fuel 35 cs = some x) (hlt : ∀ y ∈ x.2, y.block < W.heap.size) :
    ∃ (A : Option Addr) (l : List Int) (c : Nat), cs = [.slice A l.length c] ∧ (∀ i, i < l.length → 0 ≤ gi l i ∧ gi l i ≤ 65535) ∧ Arr W W.heap.size A l.length (u16v l) := by
  have k : Try.prog.cellsOf 49 = 1 := by kernel_rfl
  obtain ⟨A, l, c, e, h1, h2, _, h4, h5⟩ := trod_iarr Try.underlying35 Try.underlying49 k hf hlt
  refine ⟨A, l, c, e, fun i hi => ?_, h4⟩
  have := h5 i hi
  simp [Lit.wf, IntKind.min, IntKind.max, IntKind.signed, IntKind.bits] at this
  omega
set_option maxRecDepth 100000 in
theorem open_u16s {v : Value} {d : DataW H} {p : List MemPlace} {base : Nat} (hv : Value.okWide Try.prog W .any base 35 v) (h : DataW.Trod enc Try.prog W 0 (fun _ => true) true 35 v d p) (hlt : ∀ x ∈ p, x.block < W.heap.size) :
    ∃ (A : Option Addr) (l : List Int) (c : Nat), v = .slice A l.length c ∧ (∀ i, i < l.length → 0 ≤ gi l i ∧ gi l i ≤ 65535) ∧ Arr W W.heap.size A l.length (u16v l) := by
  obtain ⟨a0, n0, c0, rfl⟩ := okWide_slice Try.underlying35 hv
  obtain ⟨fuel, hf⟩ := h
  obtain ⟨A, l, c, e, h1, h2⟩ := trod_u16s hf hlt
  have e : [Value.slice a0 n0 c0] = [.slice A l.length c] := e
  injection e with e _
  exact ⟨A, l, c, e, h1, h2⟩
end
end Go.Proofs.Ytickckehhfdoeaa
