/-
  NARROWER THAN 'FOR EVERY INPUT', by the rows' own cells (each row's printed sentence says how): StepEnabled: laid · StepRun: laid · StepApply: laid · StepDirect: laid · StepHeld: laid · StepErrors: laid · StepCommute: laid · StepText: laid · StepParse: laid.
  DERIVED. THE GIVEN ROWS OF THIS SEAT. 9 by the template 'for every input the law returns true; each argument reads behind the call as it read before'; 0 by the template 'total and deterministic' (their statements: YtfcimilimojfoaaDoorTotals.lean).
  GIVEN WITH THE SEED: the statements are not yours to turn. If you find one false, say at which input.
  Laid BY PROGRAM, IN A SANDBOX (cutbox-rows.mjs): the forced cells as the released guide's own fill.sh prints them over the translation e5748fa3c7dc39c1… (all of the seat's roots in one cut). By AI agents, Wed Nov 11 2026. No macro, syntax, notation, axiom, sorry.
-/
import Derived.Test.YtfcimilimojfoaaDoorChecked
import GoSem.PinnedTables
import GoSem.Claim
import GoSem.ClaimJoined
import GoSem.ClaimMapViews
import Derived.JoinedTies
import Derived.KernelRfl
namespace Go.Proofs.YtfcimilimojfoaaDoor
/- THE CELL 'sum', in the pinned program and in every row, IS THE sha256 OF THE DUMP (.gsa) THAT YtfcimilimojfoaaDoorProg.lean LOADS. Nothing in Lean hashes anything: it is a label: what it is worth is what the hold of that sum in a sandbox is worth. -/
noncomputable def Tryd.pinned : Pinned := { name := "ytfcimilimojfoaadoor", sum := "e5748fa3c7dc39c10a33926023f9df12bae715b73b39e6823a6d7b7cdc172ba2", checked := Tryd.checked }
namespace Rows
def none {H : Type} : Left H := { results := [], args := [] }

/- WHAT THE LISTED PACKAGE-LEVEL VARIABLES READ AS WHEN THE CALL BEGINS. Each datum BY PROGRAM (the guide's laid-datum.mjs) off the statement by which the dump's own 'gosem.cut.vars' lays the variable. In a bare row this is a premise. The card (YtfcimilimojfoaaDoorCards.lean) ties it to the program's text. -/
def laid_math_bits_deBruijn32tab {H : Type} : DataW H := .agg [.lit (.int .u8 0), .lit (.int .u8 1), .lit (.int .u8 28), .lit (.int .u8 2), .lit (.int .u8 29), .lit (.int .u8 14), .lit (.int .u8 24), .lit (.int .u8 3), .lit (.int .u8 30), .lit (.int .u8 22), .lit (.int .u8 20), .lit (.int .u8 15), .lit (.int .u8 25), .lit (.int .u8 17), .lit (.int .u8 4), .lit (.int .u8 8), .lit (.int .u8 31), .lit (.int .u8 27), .lit (.int .u8 13), .lit (.int .u8 23), .lit (.int .u8 21), .lit (.int .u8 19), .lit (.int .u8 16), .lit (.int .u8 7), .lit (.int .u8 26), .lit (.int .u8 12), .lit (.int .u8 18), .lit (.int .u8 6), .lit (.int .u8 11), .lit (.int .u8 5), .lit (.int .u8 10), .lit (.int .u8 9)]
def laid_math_bits_deBruijn64tab {H : Type} : DataW H := .agg [.lit (.int .u8 0), .lit (.int .u8 1), .lit (.int .u8 56), .lit (.int .u8 2), .lit (.int .u8 57), .lit (.int .u8 49), .lit (.int .u8 28), .lit (.int .u8 3), .lit (.int .u8 61), .lit (.int .u8 58), .lit (.int .u8 42), .lit (.int .u8 50), .lit (.int .u8 38), .lit (.int .u8 29), .lit (.int .u8 17), .lit (.int .u8 4), .lit (.int .u8 62), .lit (.int .u8 47), .lit (.int .u8 59), .lit (.int .u8 36), .lit (.int .u8 45), .lit (.int .u8 43), .lit (.int .u8 51), .lit (.int .u8 22), .lit (.int .u8 53), .lit (.int .u8 39), .lit (.int .u8 33), .lit (.int .u8 30), .lit (.int .u8 24), .lit (.int .u8 18), .lit (.int .u8 12), .lit (.int .u8 5), .lit (.int .u8 63), .lit (.int .u8 55), .lit (.int .u8 48), .lit (.int .u8 27), .lit (.int .u8 60), .lit (.int .u8 41), .lit (.int .u8 37), .lit (.int .u8 16), .lit (.int .u8 46), .lit (.int .u8 35), .lit (.int .u8 44), .lit (.int .u8 21), .lit (.int .u8 52), .lit (.int .u8 32), .lit (.int .u8 23), .lit (.int .u8 11), .lit (.int .u8 54), .lit (.int .u8 26), .lit (.int .u8 40), .lit (.int .u8 15), .lit (.int .u8 34), .lit (.int .u8 20), .lit (.int .u8 31), .lit (.int .u8 10), .lit (.int .u8 25), .lit (.int .u8 14), .lit (.int .u8 19), .lit (.int .u8 9), .lit (.int .u8 13), .lit (.int .u8 8), .lit (.int .u8 7), .lit (.int .u8 6)]
def laid_internal_strconv_uint64pow10 {H : Type} : DataW H := .agg [.lit (.int .u64 1), .lit (.int .u64 10), .lit (.int .u64 100), .lit (.int .u64 1000), .lit (.int .u64 10000), .lit (.int .u64 100000), .lit (.int .u64 1000000), .lit (.int .u64 10000000), .lit (.int .u64 100000000), .lit (.int .u64 1000000000), .lit (.int .u64 10000000000), .lit (.int .u64 100000000000), .lit (.int .u64 1000000000000), .lit (.int .u64 10000000000000), .lit (.int .u64 100000000000000), .lit (.int .u64 1000000000000000), .lit (.int .u64 10000000000000000), .lit (.int .u64 100000000000000000), .lit (.int .u64 1000000000000000000), .lit (.int .u64 10000000000000000000)]
def laid_unicode_utf8_acceptRanges {H : Type} : DataW H := .agg [.agg [.lit (.int .u8 128), .lit (.int .u8 191)], .agg [.lit (.int .u8 160), .lit (.int .u8 191)], .agg [.lit (.int .u8 128), .lit (.int .u8 159)], .agg [.lit (.int .u8 144), .lit (.int .u8 191)], .agg [.lit (.int .u8 128), .lit (.int .u8 143)], .agg [.lit (.int .u8 0), .lit (.int .u8 0)], .agg [.lit (.int .u8 0), .lit (.int .u8 0)], .agg [.lit (.int .u8 0), .lit (.int .u8 0)], .agg [.lit (.int .u8 0), .lit (.int .u8 0)], .agg [.lit (.int .u8 0), .lit (.int .u8 0)], .agg [.lit (.int .u8 0), .lit (.int .u8 0)], .agg [.lit (.int .u8 0), .lit (.int .u8 0)], .agg [.lit (.int .u8 0), .lit (.int .u8 0)], .agg [.lit (.int .u8 0), .lit (.int .u8 0)], .agg [.lit (.int .u8 0), .lit (.int .u8 0)], .agg [.lit (.int .u8 0), .lit (.int .u8 0)]]
def laid_strconv_ErrRange {H : Type} : DataW H := .iface "*errors.errorString" (.ptr (.agg [.lit (.string [118, 97, 108, 117, 101, 32, 111, 117, 116, 32, 111, 102, 32, 114, 97, 110, 103, 101])]))
def laid_strconv_ErrSyntax {H : Type} : DataW H := .iface "*errors.errorString" (.ptr (.agg [.lit (.string [105, 110, 118, 97, 108, 105, 100, 32, 115, 121, 110, 116, 97, 120])]))
/-- One of Go's own tables, pinned by name: the form's constant. -/
def laid_unicode_utf8_first : DataW Unit := Go.Pinned.utf8First

/-- 'sheavelaw37.StepEnabled': WHATEVER THE INPUT: true; the input reads as it did. -/
def stepEnabledSpec : ChangeSpec := { name := "stepEnabled", fn := fun _ => fun
  | [d] => { results := [.lit (.bool true)], args := [d] }
  | _ => none }
def stepEnabledRow : OpenClaim := { program := "ytfcimilimojfoaadoor", sum := "e5748fa3c7dc39c10a33926023f9df12bae715b73b39e6823a6d7b7cdc172ba2", func := "sheave/sheavelaw37.StepEnabled", spec := "stepEnabled", unfollowed := true, recurses := true, named := ["internal/strconv.uint64pow10", "math/bits.deBruijn32tab", "math/bits.deBruijn64tab"], apart := false, laid := [("math/bits.deBruijn32tab", laid_math_bits_deBruijn32tab), ("math/bits.deBruijn64tab", laid_math_bits_deBruijn64tab), ("internal/strconv.uint64pow10", laid_internal_strconv_uint64pow10)] }
def StepEnabledSaid : Prop := stepEnabledRow.holds Tryd.pinned (OpenSpec.ofChange stepEnabledSpec)

/-- ITS FALSE NEIGHBOUR: 'it returns false'. Refute it at one input. -/
def stepEnabledWrong : ChangeSpec := { name := "stepEnabled", fn := fun _ => fun
  | [d] => { results := [.lit (.bool false)], args := [d] }
  | _ => none }
def StepEnabledWrongFalsely : Prop := stepEnabledRow.holds Tryd.pinned (OpenSpec.ofChange stepEnabledWrong)

/-- 'sheavelaw37.StepRun': WHATEVER THE INPUT: true; the input reads as it did. -/
def stepRunSpec : ChangeSpec := { name := "stepRun", fn := fun _ => fun
  | [d1, d2] => { results := [.lit (.bool true)], args := [d1, d2] }
  | _ => none }
def stepRunRow : OpenClaim := { program := "ytfcimilimojfoaadoor", sum := "e5748fa3c7dc39c10a33926023f9df12bae715b73b39e6823a6d7b7cdc172ba2", func := "sheave/sheavelaw37.StepRun", spec := "stepRun", unfollowed := true, recurses := true, named := ["internal/strconv.uint64pow10", "math/bits.deBruijn32tab", "math/bits.deBruijn64tab"], apart := false, laid := [("math/bits.deBruijn32tab", laid_math_bits_deBruijn32tab), ("math/bits.deBruijn64tab", laid_math_bits_deBruijn64tab), ("internal/strconv.uint64pow10", laid_internal_strconv_uint64pow10)] }
def StepRunSaid : Prop := stepRunRow.holds Tryd.pinned (OpenSpec.ofChange stepRunSpec)

/-- ITS FALSE NEIGHBOUR: 'it returns false'. Refute it at one input. -/
def stepRunWrong : ChangeSpec := { name := "stepRun", fn := fun _ => fun
  | [d1, d2] => { results := [.lit (.bool false)], args := [d1, d2] }
  | _ => none }
def StepRunWrongFalsely : Prop := stepRunRow.holds Tryd.pinned (OpenSpec.ofChange stepRunWrong)

/-- 'sheavelaw37.StepApply': WHATEVER THE INPUT: true; the input reads as it did. -/
def stepApplySpec : ChangeSpec := { name := "stepApply", fn := fun _ => fun
  | [d1, d2] => { results := [.lit (.bool true)], args := [d1, d2] }
  | _ => none }
def stepApplyRow : OpenClaim := { program := "ytfcimilimojfoaadoor", sum := "e5748fa3c7dc39c10a33926023f9df12bae715b73b39e6823a6d7b7cdc172ba2", func := "sheave/sheavelaw37.StepApply", spec := "stepApply", unfollowed := true, recurses := true, named := ["internal/strconv.uint64pow10", "math/bits.deBruijn32tab", "math/bits.deBruijn64tab"], apart := false, laid := [("math/bits.deBruijn32tab", laid_math_bits_deBruijn32tab), ("math/bits.deBruijn64tab", laid_math_bits_deBruijn64tab), ("internal/strconv.uint64pow10", laid_internal_strconv_uint64pow10)] }
def StepApplySaid : Prop := stepApplyRow.holds Tryd.pinned (OpenSpec.ofChange stepApplySpec)

/-- ITS FALSE NEIGHBOUR: 'it returns false'. Refute it at one input. -/
def stepApplyWrong : ChangeSpec := { name := "stepApply", fn := fun _ => fun
  | [d1, d2] => { results := [.lit (.bool false)], args := [d1, d2] }
  | _ => none }
def StepApplyWrongFalsely : Prop := stepApplyRow.holds Tryd.pinned (OpenSpec.ofChange stepApplyWrong)

/-- 'sheavelaw37.StepDirect': WHATEVER THE INPUT: true; the input reads as it did. -/
def stepDirectSpec : ChangeSpec := { name := "stepDirect", fn := fun _ => fun
  | [d1, d2] => { results := [.lit (.bool true)], args := [d1, d2] }
  | _ => none }
def stepDirectRow : OpenClaim := { program := "ytfcimilimojfoaadoor", sum := "e5748fa3c7dc39c10a33926023f9df12bae715b73b39e6823a6d7b7cdc172ba2", func := "sheave/sheavelaw37.StepDirect", spec := "stepDirect", unfollowed := true, recurses := true, named := ["internal/strconv.uint64pow10", "math/bits.deBruijn32tab", "math/bits.deBruijn64tab"], apart := false, laid := [("math/bits.deBruijn32tab", laid_math_bits_deBruijn32tab), ("math/bits.deBruijn64tab", laid_math_bits_deBruijn64tab), ("internal/strconv.uint64pow10", laid_internal_strconv_uint64pow10)] }
def StepDirectSaid : Prop := stepDirectRow.holds Tryd.pinned (OpenSpec.ofChange stepDirectSpec)

/-- ITS FALSE NEIGHBOUR: 'it returns false'. Refute it at one input. -/
def stepDirectWrong : ChangeSpec := { name := "stepDirect", fn := fun _ => fun
  | [d1, d2] => { results := [.lit (.bool false)], args := [d1, d2] }
  | _ => none }
def StepDirectWrongFalsely : Prop := stepDirectRow.holds Tryd.pinned (OpenSpec.ofChange stepDirectWrong)

/-- 'sheavelaw37.StepHeld': WHATEVER THE INPUT: true; the input reads as it did. -/
def stepHeldSpec : ChangeSpec := { name := "stepHeld", fn := fun _ => fun
  | [d1, d2] => { results := [.lit (.bool true)], args := [d1, d2] }
  | _ => none }
def stepHeldRow : OpenClaim := { program := "ytfcimilimojfoaadoor", sum := "e5748fa3c7dc39c10a33926023f9df12bae715b73b39e6823a6d7b7cdc172ba2", func := "sheave/sheavelaw37.StepHeld", spec := "stepHeld", unfollowed := true, recurses := true, named := ["internal/strconv.uint64pow10", "math/bits.deBruijn32tab", "math/bits.deBruijn64tab"], apart := false, laid := [("math/bits.deBruijn32tab", laid_math_bits_deBruijn32tab), ("math/bits.deBruijn64tab", laid_math_bits_deBruijn64tab), ("internal/strconv.uint64pow10", laid_internal_strconv_uint64pow10)] }
def StepHeldSaid : Prop := stepHeldRow.holds Tryd.pinned (OpenSpec.ofChange stepHeldSpec)

/-- ITS FALSE NEIGHBOUR: 'it returns false'. Refute it at one input. -/
def stepHeldWrong : ChangeSpec := { name := "stepHeld", fn := fun _ => fun
  | [d1, d2] => { results := [.lit (.bool false)], args := [d1, d2] }
  | _ => none }
def StepHeldWrongFalsely : Prop := stepHeldRow.holds Tryd.pinned (OpenSpec.ofChange stepHeldWrong)

/-- 'sheavelaw37.StepErrors': WHATEVER THE INPUT: true; the input reads as it did. -/
def stepErrorsSpec : ChangeSpec := { name := "stepErrors", fn := fun _ => fun
  | [d1, d2, d3] => { results := [.lit (.bool true)], args := [d1, d2, d3] }
  | _ => none }
def stepErrorsRow : OpenClaim := { program := "ytfcimilimojfoaadoor", sum := "e5748fa3c7dc39c10a33926023f9df12bae715b73b39e6823a6d7b7cdc172ba2", func := "sheave/sheavelaw37.StepErrors", spec := "stepErrors", unfollowed := true, recurses := true, named := ["internal/strconv.uint64pow10", "math/bits.deBruijn32tab", "math/bits.deBruijn64tab"], apart := false, laid := [("math/bits.deBruijn32tab", laid_math_bits_deBruijn32tab), ("math/bits.deBruijn64tab", laid_math_bits_deBruijn64tab), ("internal/strconv.uint64pow10", laid_internal_strconv_uint64pow10)] }
def StepErrorsSaid : Prop := stepErrorsRow.holds Tryd.pinned (OpenSpec.ofChange stepErrorsSpec)

/-- ITS FALSE NEIGHBOUR: 'it returns false'. Refute it at one input. -/
def stepErrorsWrong : ChangeSpec := { name := "stepErrors", fn := fun _ => fun
  | [d1, d2, d3] => { results := [.lit (.bool false)], args := [d1, d2, d3] }
  | _ => none }
def StepErrorsWrongFalsely : Prop := stepErrorsRow.holds Tryd.pinned (OpenSpec.ofChange stepErrorsWrong)

/-- 'sheavelaw37.StepCommute': WHATEVER THE INPUT: true; the input reads as it did. -/
def stepCommuteSpec : ChangeSpec := { name := "stepCommute", fn := fun _ => fun
  | [d1, d2] => { results := [.lit (.bool true)], args := [d1, d2] }
  | _ => none }
def stepCommuteRow : OpenClaim := { program := "ytfcimilimojfoaadoor", sum := "e5748fa3c7dc39c10a33926023f9df12bae715b73b39e6823a6d7b7cdc172ba2", func := "sheave/sheavelaw37.StepCommute", spec := "stepCommute", unfollowed := true, recurses := true, named := ["internal/strconv.uint64pow10", "math/bits.deBruijn32tab", "math/bits.deBruijn64tab"], apart := false, laid := [("math/bits.deBruijn32tab", laid_math_bits_deBruijn32tab), ("math/bits.deBruijn64tab", laid_math_bits_deBruijn64tab), ("internal/strconv.uint64pow10", laid_internal_strconv_uint64pow10)] }
def StepCommuteSaid : Prop := stepCommuteRow.holds Tryd.pinned (OpenSpec.ofChange stepCommuteSpec)

/-- ITS FALSE NEIGHBOUR: 'it returns false'. Refute it at one input. -/
def stepCommuteWrong : ChangeSpec := { name := "stepCommute", fn := fun _ => fun
  | [d1, d2] => { results := [.lit (.bool false)], args := [d1, d2] }
  | _ => none }
def StepCommuteWrongFalsely : Prop := stepCommuteRow.holds Tryd.pinned (OpenSpec.ofChange stepCommuteWrong)

/-- 'sheavelaw37.StepText': WHATEVER THE INPUT: true; the input reads as it did. -/
def stepTextSpec : ChangeSpec := { name := "stepText", fn := fun _ => fun
  | [d] => { results := [.lit (.bool true)], args := [d] }
  | _ => none }
def stepTextRow : OpenClaim := { program := "ytfcimilimojfoaadoor", sum := "e5748fa3c7dc39c10a33926023f9df12bae715b73b39e6823a6d7b7cdc172ba2", func := "sheave/sheavelaw37.StepText", spec := "stepText", inPlace := ["internal/bytealg.CountString", "internal/bytealg.IndexByteString", "internal/bytealg.IndexString"], unfollowed := true, recurses := true, named := ["internal/strconv.uint64pow10", "math/bits.deBruijn32tab", "math/bits.deBruijn64tab", "unicode/utf8.first", "unicode/utf8.acceptRanges", "internal/bytealg.MaxLen", "strconv.ErrSyntax", "strconv.ErrRange"], apart := false, laid := [("math/bits.deBruijn32tab", laid_math_bits_deBruijn32tab), ("math/bits.deBruijn64tab", laid_math_bits_deBruijn64tab), ("internal/strconv.uint64pow10", laid_internal_strconv_uint64pow10), ("unicode/utf8.acceptRanges", laid_unicode_utf8_acceptRanges), ("strconv.ErrRange", laid_strconv_ErrRange), ("strconv.ErrSyntax", laid_strconv_ErrSyntax), ("unicode/utf8.first", laid_unicode_utf8_first)] }
def StepTextSaid : Prop := stepTextRow.holds Tryd.pinned (OpenSpec.ofChange stepTextSpec)

/-- ITS FALSE NEIGHBOUR: 'it returns false'. Refute it at one input. -/
def stepTextWrong : ChangeSpec := { name := "stepText", fn := fun _ => fun
  | [d] => { results := [.lit (.bool false)], args := [d] }
  | _ => none }
def StepTextWrongFalsely : Prop := stepTextRow.holds Tryd.pinned (OpenSpec.ofChange stepTextWrong)

/-- 'sheavelaw37.StepParse': WHATEVER THE INPUT: true; the input reads as it did. -/
def stepParseSpec : ChangeSpec := { name := "stepParse", fn := fun _ => fun
  | [d] => { results := [.lit (.bool true)], args := [d] }
  | _ => none }
def stepParseRow : OpenClaim := { program := "ytfcimilimojfoaadoor", sum := "e5748fa3c7dc39c10a33926023f9df12bae715b73b39e6823a6d7b7cdc172ba2", func := "sheave/sheavelaw37.StepParse", spec := "stepParse", inPlace := ["internal/bytealg.CountString", "internal/bytealg.IndexByteString", "internal/bytealg.IndexString"], unfollowed := true, recurses := true, named := ["internal/strconv.uint64pow10", "math/bits.deBruijn32tab", "math/bits.deBruijn64tab", "unicode/utf8.first", "unicode/utf8.acceptRanges", "internal/bytealg.MaxLen", "strconv.ErrSyntax", "strconv.ErrRange"], apart := false, laid := [("math/bits.deBruijn32tab", laid_math_bits_deBruijn32tab), ("math/bits.deBruijn64tab", laid_math_bits_deBruijn64tab), ("internal/strconv.uint64pow10", laid_internal_strconv_uint64pow10), ("unicode/utf8.acceptRanges", laid_unicode_utf8_acceptRanges), ("strconv.ErrRange", laid_strconv_ErrRange), ("strconv.ErrSyntax", laid_strconv_ErrSyntax), ("unicode/utf8.first", laid_unicode_utf8_first)] }
def StepParseSaid : Prop := stepParseRow.holds Tryd.pinned (OpenSpec.ofChange stepParseSpec)

/-- ITS FALSE NEIGHBOUR: 'it returns false'. Refute it at one input. -/
def stepParseWrong : ChangeSpec := { name := "stepParse", fn := fun _ => fun
  | [d] => { results := [.lit (.bool false)], args := [d] }
  | _ => none }
def StepParseWrongFalsely : Prop := stepParseRow.holds Tryd.pinned (OpenSpec.ofChange stepParseWrong)

/- THE SECOND FORM. 'bulk': how many values and letters a reading holds, each counted each time it is reached (what is shared counts as often as it is met; a slice's spare places count too). A statement '..UptoSaid' is the law's where the arguments, and the package variables that the reading takes, are together of bulk at most 1048576: NARROWER than '..Said'. Prove '..Said' where nothing that the law and all that it calls make is longer than what came in: it says more and counts as full. Else prove '..UptoSaid'. A law counts once. -/
mutual
def uptoBulk {H : Type} : DataW H → Nat
  | .lit (.string bytes) => bytes.length + 1
  | .lit _ => 1
  | .nil => 1
  | .ptr d => uptoBulk d + 1
  | .slice elems spare => uptoBulkAll elems + uptoBulkAll spare + 1
  | .agg parts => uptoBulkAll parts + 1
  | .iface _ d => uptoBulk d + 1
  | .map entries => uptoBulkEntries entries + 1
  | .held _ => 1
def uptoBulkAll {H : Type} : List (DataW H) → Nat
  | [] => 0
  | d :: r => uptoBulk d + uptoBulkAll r
def uptoBulkEntries {H : Type} : List (Lit × DataW H) → Nat
  | [] => 0
  | x :: r => uptoBulkEntry x + uptoBulkEntries r
def uptoBulkEntry {H : Type} : Lit × DataW H → Nat
  | (.string bytes, d) => bytes.length + uptoBulk d + 1
  | (_, d) => uptoBulk d + 1
 end
def uptoSmall : (H : Type) → List (DataW H) → Bool := fun _ ds => decide (uptoBulkAll ds ≤ 1048576)
def OpenSpec.upto (s : _root_.Go.ChangeSpec) : _root_.Go.OpenSpec := { _root_.Go.OpenSpec.ofChange s with cond := some uptoSmall }

/-- 'sheavelaw37.StepEnabled', WHERE WHAT IT READS IS OF BULK AT MOST 1048576: true; the input reads as it did. -/
def stepEnabledUptoRow : OpenClaim := { program := "ytfcimilimojfoaadoor", sum := "e5748fa3c7dc39c10a33926023f9df12bae715b73b39e6823a6d7b7cdc172ba2", func := "sheave/sheavelaw37.StepEnabled", spec := "stepEnabled", unfollowed := true, recurses := true, named := ["internal/strconv.uint64pow10", "math/bits.deBruijn32tab", "math/bits.deBruijn64tab"], apart := false, laid := [("math/bits.deBruijn32tab", laid_math_bits_deBruijn32tab), ("math/bits.deBruijn64tab", laid_math_bits_deBruijn64tab), ("internal/strconv.uint64pow10", laid_internal_strconv_uint64pow10)], narrowed := true }
def StepEnabledUptoSaid : Prop := stepEnabledUptoRow.holds Tryd.pinned (OpenSpec.upto stepEnabledSpec)

/-- 'sheavelaw37.StepRun', WHERE WHAT IT READS IS OF BULK AT MOST 1048576: true; the input reads as it did. -/
def stepRunUptoRow : OpenClaim := { program := "ytfcimilimojfoaadoor", sum := "e5748fa3c7dc39c10a33926023f9df12bae715b73b39e6823a6d7b7cdc172ba2", func := "sheave/sheavelaw37.StepRun", spec := "stepRun", unfollowed := true, recurses := true, named := ["internal/strconv.uint64pow10", "math/bits.deBruijn32tab", "math/bits.deBruijn64tab"], apart := false, laid := [("math/bits.deBruijn32tab", laid_math_bits_deBruijn32tab), ("math/bits.deBruijn64tab", laid_math_bits_deBruijn64tab), ("internal/strconv.uint64pow10", laid_internal_strconv_uint64pow10)], narrowed := true }
def StepRunUptoSaid : Prop := stepRunUptoRow.holds Tryd.pinned (OpenSpec.upto stepRunSpec)

/-- 'sheavelaw37.StepApply', WHERE WHAT IT READS IS OF BULK AT MOST 1048576: true; the input reads as it did. -/
def stepApplyUptoRow : OpenClaim := { program := "ytfcimilimojfoaadoor", sum := "e5748fa3c7dc39c10a33926023f9df12bae715b73b39e6823a6d7b7cdc172ba2", func := "sheave/sheavelaw37.StepApply", spec := "stepApply", unfollowed := true, recurses := true, named := ["internal/strconv.uint64pow10", "math/bits.deBruijn32tab", "math/bits.deBruijn64tab"], apart := false, laid := [("math/bits.deBruijn32tab", laid_math_bits_deBruijn32tab), ("math/bits.deBruijn64tab", laid_math_bits_deBruijn64tab), ("internal/strconv.uint64pow10", laid_internal_strconv_uint64pow10)], narrowed := true }
def StepApplyUptoSaid : Prop := stepApplyUptoRow.holds Tryd.pinned (OpenSpec.upto stepApplySpec)

/-- 'sheavelaw37.StepDirect', WHERE WHAT IT READS IS OF BULK AT MOST 1048576: true; the input reads as it did. -/
def stepDirectUptoRow : OpenClaim := { program := "ytfcimilimojfoaadoor", sum := "e5748fa3c7dc39c10a33926023f9df12bae715b73b39e6823a6d7b7cdc172ba2", func := "sheave/sheavelaw37.StepDirect", spec := "stepDirect", unfollowed := true, recurses := true, named := ["internal/strconv.uint64pow10", "math/bits.deBruijn32tab", "math/bits.deBruijn64tab"], apart := false, laid := [("math/bits.deBruijn32tab", laid_math_bits_deBruijn32tab), ("math/bits.deBruijn64tab", laid_math_bits_deBruijn64tab), ("internal/strconv.uint64pow10", laid_internal_strconv_uint64pow10)], narrowed := true }
def StepDirectUptoSaid : Prop := stepDirectUptoRow.holds Tryd.pinned (OpenSpec.upto stepDirectSpec)

/-- 'sheavelaw37.StepHeld', WHERE WHAT IT READS IS OF BULK AT MOST 1048576: true; the input reads as it did. -/
def stepHeldUptoRow : OpenClaim := { program := "ytfcimilimojfoaadoor", sum := "e5748fa3c7dc39c10a33926023f9df12bae715b73b39e6823a6d7b7cdc172ba2", func := "sheave/sheavelaw37.StepHeld", spec := "stepHeld", unfollowed := true, recurses := true, named := ["internal/strconv.uint64pow10", "math/bits.deBruijn32tab", "math/bits.deBruijn64tab"], apart := false, laid := [("math/bits.deBruijn32tab", laid_math_bits_deBruijn32tab), ("math/bits.deBruijn64tab", laid_math_bits_deBruijn64tab), ("internal/strconv.uint64pow10", laid_internal_strconv_uint64pow10)], narrowed := true }
def StepHeldUptoSaid : Prop := stepHeldUptoRow.holds Tryd.pinned (OpenSpec.upto stepHeldSpec)

/-- 'sheavelaw37.StepErrors', WHERE WHAT IT READS IS OF BULK AT MOST 1048576: true; the input reads as it did. -/
def stepErrorsUptoRow : OpenClaim := { program := "ytfcimilimojfoaadoor", sum := "e5748fa3c7dc39c10a33926023f9df12bae715b73b39e6823a6d7b7cdc172ba2", func := "sheave/sheavelaw37.StepErrors", spec := "stepErrors", unfollowed := true, recurses := true, named := ["internal/strconv.uint64pow10", "math/bits.deBruijn32tab", "math/bits.deBruijn64tab"], apart := false, laid := [("math/bits.deBruijn32tab", laid_math_bits_deBruijn32tab), ("math/bits.deBruijn64tab", laid_math_bits_deBruijn64tab), ("internal/strconv.uint64pow10", laid_internal_strconv_uint64pow10)], narrowed := true }
def StepErrorsUptoSaid : Prop := stepErrorsUptoRow.holds Tryd.pinned (OpenSpec.upto stepErrorsSpec)

/-- 'sheavelaw37.StepCommute', WHERE WHAT IT READS IS OF BULK AT MOST 1048576: true; the input reads as it did. -/
def stepCommuteUptoRow : OpenClaim := { program := "ytfcimilimojfoaadoor", sum := "e5748fa3c7dc39c10a33926023f9df12bae715b73b39e6823a6d7b7cdc172ba2", func := "sheave/sheavelaw37.StepCommute", spec := "stepCommute", unfollowed := true, recurses := true, named := ["internal/strconv.uint64pow10", "math/bits.deBruijn32tab", "math/bits.deBruijn64tab"], apart := false, laid := [("math/bits.deBruijn32tab", laid_math_bits_deBruijn32tab), ("math/bits.deBruijn64tab", laid_math_bits_deBruijn64tab), ("internal/strconv.uint64pow10", laid_internal_strconv_uint64pow10)], narrowed := true }
def StepCommuteUptoSaid : Prop := stepCommuteUptoRow.holds Tryd.pinned (OpenSpec.upto stepCommuteSpec)

/-- 'sheavelaw37.StepText', WHERE WHAT IT READS IS OF BULK AT MOST 1048576: true; the input reads as it did. -/
def stepTextUptoRow : OpenClaim := { program := "ytfcimilimojfoaadoor", sum := "e5748fa3c7dc39c10a33926023f9df12bae715b73b39e6823a6d7b7cdc172ba2", func := "sheave/sheavelaw37.StepText", spec := "stepText", inPlace := ["internal/bytealg.CountString", "internal/bytealg.IndexByteString", "internal/bytealg.IndexString"], unfollowed := true, recurses := true, named := ["internal/strconv.uint64pow10", "math/bits.deBruijn32tab", "math/bits.deBruijn64tab", "unicode/utf8.first", "unicode/utf8.acceptRanges", "internal/bytealg.MaxLen", "strconv.ErrSyntax", "strconv.ErrRange"], apart := false, laid := [("math/bits.deBruijn32tab", laid_math_bits_deBruijn32tab), ("math/bits.deBruijn64tab", laid_math_bits_deBruijn64tab), ("internal/strconv.uint64pow10", laid_internal_strconv_uint64pow10), ("unicode/utf8.acceptRanges", laid_unicode_utf8_acceptRanges), ("strconv.ErrRange", laid_strconv_ErrRange), ("strconv.ErrSyntax", laid_strconv_ErrSyntax), ("unicode/utf8.first", laid_unicode_utf8_first)], narrowed := true }
def StepTextUptoSaid : Prop := stepTextUptoRow.holds Tryd.pinned (OpenSpec.upto stepTextSpec)

/-- 'sheavelaw37.StepParse', WHERE WHAT IT READS IS OF BULK AT MOST 1048576: true; the input reads as it did. -/
def stepParseUptoRow : OpenClaim := { program := "ytfcimilimojfoaadoor", sum := "e5748fa3c7dc39c10a33926023f9df12bae715b73b39e6823a6d7b7cdc172ba2", func := "sheave/sheavelaw37.StepParse", spec := "stepParse", inPlace := ["internal/bytealg.CountString", "internal/bytealg.IndexByteString", "internal/bytealg.IndexString"], unfollowed := true, recurses := true, named := ["internal/strconv.uint64pow10", "math/bits.deBruijn32tab", "math/bits.deBruijn64tab", "unicode/utf8.first", "unicode/utf8.acceptRanges", "internal/bytealg.MaxLen", "strconv.ErrSyntax", "strconv.ErrRange"], apart := false, laid := [("math/bits.deBruijn32tab", laid_math_bits_deBruijn32tab), ("math/bits.deBruijn64tab", laid_math_bits_deBruijn64tab), ("internal/strconv.uint64pow10", laid_internal_strconv_uint64pow10), ("unicode/utf8.acceptRanges", laid_unicode_utf8_acceptRanges), ("strconv.ErrRange", laid_strconv_ErrRange), ("strconv.ErrSyntax", laid_strconv_ErrSyntax), ("unicode/utf8.first", laid_unicode_utf8_first)], narrowed := true }
def StepParseUptoSaid : Prop := stepParseUptoRow.holds Tryd.pinned (OpenSpec.upto stepParseSpec)

end Rows
end Go.Proofs.YtfcimilimojfoaaDoor
