/-
  ARGUMENTS OPENED: a list of bytes.
  Conditions: none.
-/
import Derived.Test.YtbpgpjmihbmcbaaDoorOpenG
import Derived.Test.YtbpgpjmihbmcbaaDoorHeaX
namespace Go.Proofs.YtbpgpjmihbmcbaaDoor
open Go.ChangeShapes Go.WideShapes Go.ChangeAt Go.RowKit Go.Sv

section
variable {H : Type} {enc : TypeId × Value → H} {W : World}
set_option maxRecDepth 100000 in
theorem open_bytes {v : Value} {d : DataW H} {p : List MemPlace} {base : Nat} (hv : Value.okWide Tryd.prog W .any base 42 v) (h : DataW.Trod enc Tryd.prog W 0 (fun _ => true) true 42 v d p) (hlt : ∀ x ∈ p, x.block < W.heap.size) :
    ∃ (A : Option Addr) (l : List Int) (c : Nat), v = .slice A l.length c ∧ l.length ≤ 9223372036854775807 ∧ (∀ i, i < l.length → 0 ≤ gi l i ∧ gi l i < 256) ∧ Arr W W.heap.size A l.length (u8v l) := by
  have k : Tryd.prog.cellsOf 5 = 1 := by kernel_rfl
  obtain ⟨A, n, c, rfl, hnc, hcm, _, _, _⟩ := open_rows Tryd.underlying42 k (by omega) hv h hlt
  obtain ⟨fuel, hf⟩ := h
  obtain ⟨A', l, c', e, h1, h2, _, h4, h5⟩ := trod_iarr Tryd.underlying42 Tryd.underlying5 k hf hlt
  simp [Value.cells] at e
  obtain ⟨rfl, rfl, rfl⟩ := e
  unfold maxLen at h2
  refine ⟨A, l, c, rfl, by omega, fun i hi => ?_, h4⟩
  have := h5 i hi
  simp [Lit.wf, IntKind.min, IntKind.max, IntKind.signed, IntKind.bits] at this
  omega
end
end Go.Proofs.YtbpgpjmihbmcbaaDoor
