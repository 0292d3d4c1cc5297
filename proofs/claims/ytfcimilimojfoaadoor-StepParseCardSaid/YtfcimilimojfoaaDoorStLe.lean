/-
  THE LISTED VARIABLES of the laws of texts: from the row's condition to the contracts' facts; a start that meets it; a step opened.
  Conditions: none of its own.
-/
import Derived.Test.YtfcimilimojfoaaDoorLawY
import Derived.Test.YtfcimilimojfoaaDoorStT8
import Derived.LaidMore
import Derived.LaidSub
import Derived.Stop.LaidErr
import Derived.Lib.SmallJoins
import Derived.ChangeMaps5
import Derived.Shelf.Vars
import Derived.Lay
namespace Go.Proofs.YtfcimilimojfoaaDoor
open Go.ChangeShapes Go.WideShapes Go.ChangeAt Go.RowKit Go.Sv Go.Lx

theorem own : ownKnob Tryd.prog.godebug = none := by kernel_rfl
theorem laidOut : laidOutB Tryd.prog = true := by kernel_rfl
abbrev laid7 : List (String × DataW Unit) := [("math/bits.deBruijn32tab", Rows.laid_math_bits_deBruijn32tab), ("math/bits.deBruijn64tab", Rows.laid_math_bits_deBruijn64tab), ("internal/strconv.uint64pow10", Rows.laid_internal_strconv_uint64pow10), ("unicode/utf8.acceptRanges", Rows.laid_unicode_utf8_acceptRanges), ("strconv.ErrRange", Rows.laid_strconv_ErrRange), ("strconv.ErrSyntax", Rows.laid_strconv_ErrSyntax), ("unicode/utf8.first", Rows.laid_unicode_utf8_first)]
theorem pow_of_laid {W : World} (h : laidMetH Tryd.prog laid7 W) : Lib.TabIs Tryd.prog W "internal/strconv.uint64pow10" .u64 Lib.pow10Tab := by
  have h1 := h.filter (fun x => x.1 == "internal/strconv.uint64pow10")
  have e : laid7.filter (fun x => x.1 == "internal/strconv.uint64pow10") = [("internal/strconv.uint64pow10", Lib.tabData .u64 Lib.pow10Tab)] := rfl
  rw [e] at h1
  have h2 : laidMet Tryd.prog [("internal/strconv.uint64pow10", Lib.tabData .u64 Lib.pow10Tab)] W := h1
  exact Lib.tabIs_of_head (g := 2) (t := 172) (e := 152) (n := 20) (by kernel_rfl) (by kernel_rfl) Tryd.underlying172 Tryd.underlying152 (by kernel_rfl) (by kernel_rfl) h2
theorem starEs : "*" ++ "errors.errorString" = "*errors.errorString" := by decide
theorem rowEs (u : TypeId) (h : Tryd.prog.typeName? 3 u = some "*errors.errorString") : u = 178 :=
  typeName_ptr_named (nm := "errors.errorString") (by rw [starEs]; kernel_rfl) (by kernel_rfl) (by decide) u (by rw [starEs]; exact h)
theorem syn_of_laid {W : World} (h : laidMetH Tryd.prog laid7 W) : ErrC W 0 := by
  have h1 := h.filter (fun x => x.1 == "strconv.ErrSyntax")
  have e : laid7.filter (fun x => x.1 == "strconv.ErrSyntax") = [("strconv.ErrSyntax", Rows.laid_strconv_ErrSyntax)] := rfl
  rw [e] at h1
  have h2 : laidMet Tryd.prog [("strconv.ErrSyntax", Rows.laid_strconv_ErrSyntax)] W := h1
  have hg : Tryd.prog.globalNamed "strconv.ErrSyntax" = some 0 := by kernel_rfl
  obtain ⟨a0, s0, hv0, -, -, -⟩ := laid_sentinel h2 hg (ti := 110) (by kernel_rfl) Tryd.underlying110 rowEs Tryd.underlying178 Tryd.underlying180 rfl rfl Tryd.underlying9 (by kernel_rfl) (by kernel_rfl)
  exact ⟨_, by have h0 := World.var?_cell hg hv0 0; simpa using h0, Or.inr ⟨_, _, rfl⟩⟩
theorem ran_of_laid {W : World} (h : laidMetH Tryd.prog laid7 W) : ErrC W 1 := by
  have h1 := h.filter (fun x => x.1 == "strconv.ErrRange")
  have e : laid7.filter (fun x => x.1 == "strconv.ErrRange") = [("strconv.ErrRange", Rows.laid_strconv_ErrRange)] := rfl
  rw [e] at h1
  have h2 : laidMet Tryd.prog [("strconv.ErrRange", Rows.laid_strconv_ErrRange)] W := h1
  have hg : Tryd.prog.globalNamed "strconv.ErrRange" = some 1 := by kernel_rfl
  obtain ⟨a0, s0, hv0, -, -, -⟩ := laid_sentinel h2 hg (ti := 110) (by kernel_rfl) Tryd.underlying110 rowEs Tryd.underlying178 Tryd.underlying180 rfl rfl Tryd.underlying9 (by kernel_rfl) (by kernel_rfl)
  exact ⟨_, by have h0 := World.var?_cell hg hv0 0; simpa using h0, Or.inr ⟨_, _, rfl⟩⟩
theorem maxL_of {W : World} (h : W.ShapedOpen Tryd.prog) : MaxL W := Go.Proofs.cell_of_shapedOpen_int (zero := #[.int .i64 0]) (t := 3) h (of_decide_eq_true (by kernel_rfl)) (by kernel_rfl) rfl (by kernel_rfl) (by kernel_rfl) Tryd.underlying3
theorem tb_of {W : World} (h : laidMetH Tryd.prog laid7 W) (hs : W.ShapedOpen Tryd.prog) : Tb W := ⟨pow_of_laid h, syn_of_laid h, ran_of_laid h, maxL_of hs⟩
theorem door_met (os : Os) (args : Array Value) : laidMetH Tryd.prog laid7 ((World.laidAll Tryd.prog os laid7).forCall (fun _ _ => 0) ⟨#[], args, []⟩).memory :=
  laidMetH_of_parts3 (fuel := 8) (laidMet_laidAll args (by kernel_rfl) (by kernel_rfl)) (by kernel_rfl) (by kernel_rfl)
theorem door_shaped (os : Os) (args : Array Value) : ((World.laidAll Tryd.prog os laid7).forCall (fun _ _ => 0) ⟨#[], args, []⟩).Shaped Tryd.prog := World.shaped_of_ZipB (by kernel_rfl) (by kernel_rfl)
theorem bytes_len (s : ByteArray) : s.data.toList.length = s.size := rfl
theorem maxLen_le : maxLen ≤ 9223372036854775807 := by unfold maxLen; omega
section
variable {H : Type} {enc : TypeId × Value → H} {W : World}
set_option maxRecDepth 100000 in
theorem open_step {v : Value} {d : DataW H} {p : List MemPlace} {base : Nat} (hv : Value.okWide Tryd.prog W .any base 52 v) (h : DataW.Trod enc Tryd.prog W 0 (fun _ => true) true 52 v d p) :
    ∃ s : Sp, v = stepV s ∧ (-9223372036854775808 ≤ s.kind ∧ s.kind ≤ 9223372036854775807) ∧ (-9223372036854775808 ≤ s.ix ∧ s.ix ≤ 9223372036854775807) ∧ (-9223372036854775808 ≤ s.ver ∧ s.ver ≤ 9223372036854775807) := by
  obtain ⟨v0, v1, v2, y0, y1, y2, n, rfl, rfl, rfl, h0, h1, h2⟩ := Joins.open_agg3 Tryd.underlying52 (by kernel_rfl) (by kernel_rfl) hv h
  obtain ⟨z0, e0, _, w0⟩ := DataW.trod_int Tryd.underlying3 h0
  obtain ⟨z1, e1, _, w1⟩ := DataW.trod_int Tryd.underlying3 h1
  obtain ⟨z2, e2, _, w2⟩ := DataW.trod_int Tryd.underlying3 h2
  simp at e0 e1 e2
  subst e0 e1 e2
  simp [Lit.wf, IntKind.min, IntKind.max, IntKind.signed, IntKind.bits] at w0 w1 w2
  exact ⟨⟨z0, z1, z2⟩, rfl, w0, w1, w2⟩
end
end Go.Proofs.YtfcimilimojfoaaDoor
