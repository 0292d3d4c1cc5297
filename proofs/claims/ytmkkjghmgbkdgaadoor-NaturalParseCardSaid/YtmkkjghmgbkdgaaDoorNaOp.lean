/-
  THE LISTED VARIABLES: from the row's condition to the contract's fact; a start that meets it. A NUMBER that came in, opened.
  Conditions: none of its own.
-/
import Derived.Test.YtmkkjghmgbkdgaaDoorLawX
import Derived.Test.YtmkkjghmgbkdgaaDoorOpenG
import Derived.Test.YtmkkjghmgbkdgaaDoorNt10
import Derived.LaidMore
import Derived.LaidSub
import Derived.Lib.SmallJoins
namespace Go.Proofs.YtmkkjghmgbkdgaaDoor
open Go.ChangeShapes Go.WideShapes Go.ChangeAt Go.RowKit Go.Sv

theorem own : ownKnob Tryd.prog.godebug = none := by kernel_rfl
theorem laidOut : laidOutB Tryd.prog = true := by kernel_rfl
abbrev laid5 : List (String × DataW Unit) := [("math/bits.deBruijn32tab", Rows.laid_math_bits_deBruijn32tab), ("math/bits.deBruijn64tab", Rows.laid_math_bits_deBruijn64tab), ("internal/strconv.uint64pow10", Rows.laid_internal_strconv_uint64pow10), ("strconv.ErrRange", Rows.laid_strconv_ErrRange), ("strconv.ErrSyntax", Rows.laid_strconv_ErrSyntax)]
theorem tab_of_laid {W : World} (h : laidMetH Tryd.prog laid5 W) : Tab W := by
  have h1 := h.filter (fun x => x.1 == "internal/strconv.uint64pow10")
  have e : laid5.filter (fun x => x.1 == "internal/strconv.uint64pow10") = [("internal/strconv.uint64pow10", Lib.tabData .u64 Lib.pow10Tab)] := rfl
  rw [e] at h1
  have h2 : laidMet Tryd.prog [("internal/strconv.uint64pow10", Lib.tabData .u64 Lib.pow10Tab)] W := h1
  exact Lib.tabIs_of_head (g := 1) (t := 113) (e := 22) (n := 20) (by kernel_rfl) (by kernel_rfl) Tryd.underlying113 Tryd.underlying22 (by kernel_rfl) (by kernel_rfl) h2
theorem door_met (os : Os) (args : Array Value) : laidMetH Tryd.prog laid5 ((World.doorLaid Tryd.prog 800 os).forCall (fun _ _ => 0) ⟨#[], args, []⟩).memory :=
  laidMetH_of_parts3 (fuel := 8) (laidMet_of_run' 8 (by kernel_rfl) (by kernel_rfl)) (by kernel_rfl) (by kernel_rfl)
theorem door_shaped (os : Os) (args : Array Value) : ((World.doorLaid Tryd.prog 800 os).forCall (fun _ _ => 0) ⟨#[], args, []⟩).Shaped Tryd.prog := World.shaped_of_RefB (by kernel_rfl) (by kernel_rfl)

section
variable {H : Type} {enc : TypeId × Value → H} {W : World}
set_option maxRecDepth 100000 in
theorem open_nat {v : Value} {d : DataW H} {p : List MemPlace} {base : Nat} (hv : Value.okWide Tryd.prog W .any base 26 v) (h : DataW.Trod enc Tryd.prog W 0 (fun _ => true) true 26 v d p) (hlt : ∀ x ∈ p, x.block < W.heap.size) :
    ∃ (l : List Int) (q : LmP), v = natV l q ∧ RLm W W.heap.size l q ∧ Lim l := by
  have k1 : Tryd.prog.cellsOf 47 = 1 := by kernel_rfl
  have kN : Tryd.prog.cellsOf 26 = 1 := by kernel_rfl
  obtain ⟨cs, rfl, hsz⟩ := okWide_struct Tryd.underlying26 hv
  rw [kN] at hsz
  obtain ⟨c0, rfl⟩ : ∃ c0, cs = #[c0] := by
    match cs, hsz with
    | ⟨[c0]⟩, _ => exact ⟨c0, rfl⟩
  obtain ⟨fuel, hf⟩ := h
  obtain ⟨y0, n, hx, _, h0⟩ := trod_struct1 Tryd.underlying26 hf
  simp only [Prod.mk.injEq] at hx
  obtain ⟨_, rfl⟩ := hx
  have h0' : DataW.trod enc Tryd.prog W 0 (fun _ => true) true n 24 [c0] = some y0 := h0
  obtain ⟨A, l, c, e0, n0, m0, z0, r0, w0⟩ := trod_iarr Tryd.underlying24 Tryd.underlying47 k1 h0' hlt
  simp at e0
  subst e0
  refine ⟨l, ⟨A, c⟩, rfl, ⟨r0, z0, n0, m0⟩, fun i hi => ?_⟩
  have := w0 i hi
  simp [Lit.wf, IntKind.min, IntKind.max, IntKind.signed, IntKind.bits] at this
  omega
end
end Go.Proofs.YtmkkjghmgbkdgaaDoor
