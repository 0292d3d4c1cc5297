/-
  THE LISTED VARIABLES of the law of texts: from the row's condition to the contracts' facts; a start that meets it.
  Conditions: none of its own.
-/
import Derived.Test.YtbpgpjmihbmcbaaDoorLawY
import Derived.Test.YtbpgpjmihbmcbaaDoorHeT4
import Derived.LaidMore
import Derived.LaidSub
import Derived.Shelf.Vars
import Derived.Lay
namespace Go.Proofs.YtbpgpjmihbmcbaaDoor
open Go.ChangeShapes Go.WideShapes Go.ChangeAt Go.RowKit Go.Sv Go.Lx

theorem own : ownKnob Tryd.prog.godebug = none := by kernel_rfl
theorem laidOut : laidOutB Tryd.prog = true := by kernel_rfl
abbrev laid7 : List (String × DataW Unit) := [("math/bits.deBruijn32tab", Rows.laid_math_bits_deBruijn32tab), ("math/bits.deBruijn64tab", Rows.laid_math_bits_deBruijn64tab), ("internal/strconv.uint64pow10", Rows.laid_internal_strconv_uint64pow10), ("unicode/utf8.acceptRanges", Rows.laid_unicode_utf8_acceptRanges), ("strconv.ErrRange", Rows.laid_strconv_ErrRange), ("strconv.ErrSyntax", Rows.laid_strconv_ErrSyntax), ("unicode/utf8.first", Rows.laid_unicode_utf8_first)]
theorem pow_of_laid {W : World} (h : laidMetH Tryd.prog laid7 W) : Tab W := by
  have h1 := h.filter (fun x => x.1 == "internal/strconv.uint64pow10")
  have e : laid7.filter (fun x => x.1 == "internal/strconv.uint64pow10") = [("internal/strconv.uint64pow10", Lib.tabData .u64 Lib.pow10Tab)] := rfl
  rw [e] at h1
  have h2 : laidMet Tryd.prog [("internal/strconv.uint64pow10", Lib.tabData .u64 Lib.pow10Tab)] W := h1
  exact Lib.tabIs_of_head (g := 1) (t := 107) (e := 85) (n := 20) (by kernel_rfl) (by kernel_rfl) Tryd.underlying107 Tryd.underlying85 (by kernel_rfl) (by kernel_rfl) h2
theorem maxL_of {W : World} (h : W.ShapedOpen Tryd.prog) : MaxL W := Go.Proofs.cell_of_shapedOpen_int (zero := #[.int .i64 0]) (t := 3) h (of_decide_eq_true (by kernel_rfl)) (by kernel_rfl) rfl (by kernel_rfl) (by kernel_rfl) Tryd.underlying3
theorem door_met (os : Os) (args : Array Value) : laidMetH Tryd.prog laid7 ((World.laidAll Tryd.prog os laid7).forCall (fun _ _ => 0) ⟨#[], args, []⟩).memory :=
  laidMetH_of_parts3 (fuel := 8) (laidMet_laidAll args (by kernel_rfl) (by kernel_rfl)) (by kernel_rfl) (by kernel_rfl)
theorem door_shaped (os : Os) (args : Array Value) : ((World.laidAll Tryd.prog os laid7).forCall (fun _ _ => 0) ⟨#[], args, []⟩).Shaped Tryd.prog := World.shaped_of_ZipB (by kernel_rfl) (by kernel_rfl)
end Go.Proofs.YtbpgpjmihbmcbaaDoor
