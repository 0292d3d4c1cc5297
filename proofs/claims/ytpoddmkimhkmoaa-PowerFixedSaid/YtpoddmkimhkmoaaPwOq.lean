/-
  ARGUMENTS OPENED: a list of bytes, a chance.
  Conditions: none.
-/
import Derived.Test.YtpoddmkimhkmoaaOpenG
import Derived.Test.YtpoddmkimhkmoaaPh3
import Derived.Lib.SmallJoins
namespace Go.Proofs.Ytpoddmkimhkmoaa
open Go.ChangeShapes Go.WideShapes Go.ChangeAt Go.RowKit Go.Sv

section
variable {H : Type} {enc : TypeId × Value → H} {W : World}
set_option maxRecDepth 100000 in
theorem open_bytes {v : Value} {d : DataW H} {p : List MemPlace} {base : Nat} (hv : Value.okWide Try.prog W .any base 22 v) (h : DataW.Trod enc Try.prog W 0 (fun _ => true) true 22 v d p) (hlt : ∀ x ∈ p, x.block < W.heap.size) :
    ∃ (A : Option Addr) (l : List Int) (c : Nat), v = .slice A l.length c ∧ l.length ≤ 9223372036854775807 ∧ (∀ i, i < l.length → 0 ≤ gi l i ∧ gi l i < 256) ∧ Arr W W.heap.size A l.length (u8v l) := by
  have k : Try.prog.cellsOf 5 = 1 := by kernel_rfl
  obtain ⟨A, n, c, rfl, hnc, hcm, _, _, _⟩ := open_rows Try.underlying22 k (by omega) hv h hlt
  obtain ⟨fuel, hf⟩ := h
  obtain ⟨A', l, c', e, h1, h2, _, h4, h5⟩ := trod_iarr Try.underlying22 Try.underlying5 k hf hlt
  simp [Value.cells] at e
  obtain ⟨rfl, rfl, rfl⟩ := e
  unfold maxLen at h2
  refine ⟨A, l, c, rfl, by omega, fun i hi => ?_, h4⟩
  have := h5 i hi
  simp [Lit.wf, IntKind.min, IntKind.max, IntKind.signed, IntKind.bits] at this
  omega
set_option maxRecDepth 100000 in
theorem open_chance {v : Value} {d : DataW H} {p : List MemPlace} {base : Nat} (hv : Value.okWide Try.prog W .any base 38 v) (h : DataW.Trod enc Try.prog W 0 (fun _ => true) true 38 v d p) :
    ∃ a b : Nat, v = .agg #[.int .u16 (a : Int), .int .u16 (b : Int)] ∧ a < 65536 ∧ b < 65536 := by
  obtain ⟨v0, v1, y0, y1, n, rfl, rfl, rfl, h0, h1⟩ := Joins.open_agg2 Try.underlying38 (by kernel_rfl) (by kernel_rfl) hv h
  obtain ⟨a, e0, _, w0⟩ := DataW.trod_int Try.underlying36 h0
  obtain ⟨b, e1, _, w1⟩ := DataW.trod_int Try.underlying36 h1
  simp at e0 e1
  subst e0 e1
  simp [Lit.wf, IntKind.min, IntKind.max, IntKind.signed, IntKind.bits] at w0 w1
  exact ⟨a.toNat, b.toNat, by rw [Int.toNat_of_nonneg (by omega), Int.toNat_of_nonneg (by omega)], by omega, by omega⟩
end
end Go.Proofs.Ytpoddmkimhkmoaa
