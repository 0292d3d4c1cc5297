/-
  ARGUMENTS OPENED: a test by value; a list of truth values.
  Conditions: none.
-/
import Derived.Test.YtbpgpjmihbmcbaaDoorOpenA
import Derived.Test.YtbpgpjmihbmcbaaDoorHeaP
import Derived.Lib.SmallJoins
namespace Go.Proofs.YtbpgpjmihbmcbaaDoor
open Go.ChangeShapes Go.WideShapes Go.ChangeAt Go.RowKit Go.Sv

section
variable {H : Type} {enc : TypeId × Value → H} {W : World}
set_option maxRecDepth 100000 in
theorem open_tst {v : Value} {d : DataW H} {p : List MemPlace} {base : Nat} (hv : Value.okWide Tryd.prog W .any base 26 v) (h : DataW.Trod enc Tryd.prog W 0 (fun _ => true) true 26 v d p) (hlt : ∀ x ∈ p, x.block < W.heap.size) :
    ∃ (t : Tst) (q : TstP), v = tstV t q ∧ RTst W W.heap.size t q ∧ TBd t := by
  have k1 : Tryd.prog.cellsOf 3 = 1 := by kernel_rfl
  obtain ⟨v0, v1, y0, y1, n, rfl, rfl, rfl, h0, h1⟩ := Joins.open_agg2 Tryd.underlying26 (by kernel_rfl) (by kernel_rfl) hv h
  obtain ⟨A0, l0, c0, e0, n0, m0, _, r0, _⟩ := trod_iarr Tryd.underlying24 Tryd.underlying3 k1 h0 (fun y hy => hlt y (by simp [hy]))
  obtain ⟨A1, l1, c1, e1, n1, m1, _, r1, _⟩ := trod_iarr Tryd.underlying24 Tryd.underlying3 k1 h1 (fun y hy => hlt y (by simp [hy]))
  simp at e0 e1
  subst e0 e1
  unfold maxLen at m0 m1
  exact ⟨⟨l0, l1⟩, ⟨A0, c0, A1, c1⟩, rfl, ⟨r0, r1⟩, ⟨show l0.length ≤ _ by omega, show l1.length ≤ _ by omega⟩⟩
set_option maxRecDepth 100000 in
theorem open_bools {v : Value} {d : DataW H} {p : List MemPlace} {base : Nat} (hv : Value.okWide Tryd.prog W .any base 31 v) (h : DataW.Trod enc Tryd.prog W 0 (fun _ => true) true 31 v d p) (hlt : ∀ x ∈ p, x.block < W.heap.size) :
    ∃ (A : Option Addr) (l : List Bool) (c : Nat), v = .slice A l.length c ∧ l.length ≤ 9223372036854775807 ∧ (A = none → l.length = 0 ∧ c = 0) ∧ Arr W W.heap.size A l.length (bv l) := by
  have k : Tryd.prog.cellsOf 4 = 1 := by kernel_rfl
  obtain ⟨A, n, c, rfl, hnc, hcm, _, _, _⟩ := open_rows Tryd.underlying31 k (by omega) hv h hlt
  obtain ⟨fuel, hf⟩ := h
  obtain ⟨A', l, c', e, _, h2, h3, h4⟩ := trod_barr Tryd.underlying31 Tryd.underlying4 k hf hlt
  simp [Value.cells] at e
  obtain ⟨rfl, rfl, rfl⟩ := e
  unfold maxLen at h2
  exact ⟨A, l, c, rfl, by omega, h3, h4⟩
set_option maxRecDepth 100000 in
theorem open_five {v : Value} {d : DataW H} {p : List MemPlace} {base : Nat} (hv : Value.okWide Tryd.prog W .any base 36 v) (h : DataW.Trod enc Tryd.prog W 0 (fun _ => true) true 36 v d p) :
    ∃ a b c e f : Int, v = .agg #[.int .i64 a, .int .i64 b, .int .i64 c, .int .i64 e, .int .i64 f] := by
  obtain ⟨l, hl, rfl, _⟩ := open_ints Tryd.underlying36 Tryd.underlying3 (by kernel_rfl) (by kernel_rfl) hv h
  match l, hl with
  | [a, b, c, e, f], _ => exact ⟨a, b, c, e, f, rfl⟩
end
end Go.Proofs.YtbpgpjmihbmcbaaDoor
