/-
  THE LISTED VARIABLES: from the row's condition to the contract's fact; a start that meets it. A NUMBER that came in, opened.
  Conditions: none of its own.
-/
import Derived.Test.YtoiokopmpcogbaaGreatDoorLawX
import Derived.Test.YtoiokopmpcogbaaGreatDoorOpenG
import Derived.Test.YtoiokopmpcogbaaGreatDoorNt10
import Derived.LaidMore
import Derived.LaidSub
import Derived.Lib.SmallJoins
namespace Go.Proofs.YtoiokopmpcogbaaGreatDoor
open Go.ChangeShapes Go.WideShapes Go.ChangeAt Go.RowKit Go.Sv

theorem own : ownKnob Tryz.prog.godebug = none := by kernel_rfl
theorem laidOut : laidOutB Tryz.prog = true := by kernel_rfl
abbrev laid5 : List (String × DataW Unit) := [("math/bits.deBruijn32tab", Rows.laid_math_bits_deBruijn32tab), ("math/bits.deBruijn64tab", Rows.laid_math_bits_deBruijn64tab), ("internal/strconv.uint64pow10", Rows.laid_internal_strconv_uint64pow10), ("strconv.ErrRange", Rows.laid_strconv_ErrRange), ("strconv.ErrSyntax", Rows.laid_strconv_ErrSyntax)]
theorem tab_of_laid {W : World} (h : laidMetH Tryz.prog laid5 W) : Tab W := by
  have h1 := h.filter (fun x => x.1 == "internal/strconv.uint64pow10")
  have e : laid5.filter (fun x => x.1 == "internal/strconv.uint64pow10") = [("internal/strconv.uint64pow10", Lib.tabData .u64 Lib.pow10Tab)] := rfl
  rw [e] at h1
  have h2 : laidMet Tryz.prog [("internal/strconv.uint64pow10", Lib.tabData .u64 Lib.pow10Tab)] W := h1
  exact Lib.tabIs_of_head (g := 2) (t := 143) (e := 34) (n := 20) (by kernel_rfl) (by kernel_rfl) Tryz.underlying143 Tryz.underlying34 (by kernel_rfl) (by kernel_rfl) h2
theorem door_met (os : Os) (args : Array Value) : laidMetH Tryz.prog laid5 ((World.doorLaid Tryz.prog 800 os).forCall (fun _ _ => 0) ⟨#[], args, []⟩).memory :=
  laidMetH_of_parts3 (fuel := 8) (laidMet_of_run' 8 (by kernel_rfl) (by kernel_rfl)) (by kernel_rfl) (by kernel_rfl)
theorem door_shaped (os : Os) (args : Array Value) : ((World.doorLaid Tryz.prog 800 os).forCall (fun _ _ => 0) ⟨#[], args, []⟩).Shaped Tryz.prog := World.shaped_of_RefB (by kernel_rfl) (by kernel_rfl)

section
variable {H : Type} {enc : TypeId × Value → H} {W : World}
set_option maxRecDepth 100000 in
theorem open_nat {v : Value} {d : DataW H} {p : List MemPlace} {base : Nat} (hv : Value.okWide Tryz.prog W .any base 24 v) (h : DataW.Trod enc Tryz.prog W 0 (fun _ => true) true 24 v d p) (hlt : ∀ x ∈ p, x.block < W.heap.size) :
    ∃ (l : List Int) (q : LmP), v = natV l q ∧ RLm W W.heap.size l q ∧ Lim l := by
  have k1 : Tryz.prog.cellsOf 46 = 1 := by kernel_rfl
  have kN : Tryz.prog.cellsOf 24 = 1 := by kernel_rfl
  obtain ⟨cs, rfl, hsz⟩ := okWide_struct Tryz.underlying24 hv
  rw [kN] at hsz
  obtain ⟨c0, rfl⟩ : ∃ c0, cs = #[c0] := by
    match cs, hsz with
    | ⟨[c0]⟩, _ => exact ⟨c0, rfl⟩
  obtain ⟨fuel, hf⟩ := h
  obtain ⟨y0, n, hx, _, h0⟩ := trod_struct1 Tryz.underlying24 hf
  simp only [Prod.mk.injEq] at hx
  obtain ⟨_, rfl⟩ := hx
  have h0' : DataW.trod enc Tryz.prog W 0 (fun _ => true) true n 22 [c0] = some y0 := h0
  obtain ⟨A, l, c, e0, n0, m0, z0, r0, w0⟩ := trod_iarr Tryz.underlying22 Tryz.underlying46 k1 h0' hlt
  simp at e0
  subst e0
  refine ⟨l, ⟨A, c⟩, rfl, ⟨r0, z0, n0, m0⟩, fun i hi => ?_⟩
  have := w0 i hi
  simp [Lit.wf, IntKind.min, IntKind.max, IntKind.signed, IntKind.bits] at this
  omega
end
end Go.Proofs.YtoiokopmpcogbaaGreatDoor
