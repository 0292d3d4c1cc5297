/-
  NARROWER THAN 'FOR EVERY INPUT', by the rows' own cells (each row's printed sentence says how): LexerNames: laid · LexerValid: laid · LexerSpace: laid · LexerJoin: laid · LexerQuote: laid · LexerUnquote: laid · LexerTokens: laid · LexerStatements: laid.
  DERIVED. THE GIVEN ROWS OF THIS SEAT. 8 by the template 'for every input the law returns true; each argument reads behind the call as it read before'; 0 by the template 'total and deterministic' (their statements: YtmhnocgoknmljaaDoorTotals.lean).
  GIVEN WITH THE SEED: the statements are not yours to turn. If you find one false, say at which input.
  Laid BY PROGRAM, IN A SANDBOX (cutbox-rows.mjs): the forced cells as the released guide's own fill.sh prints them over the translation f8e97c0c61c0de6b… (all of the seat's roots in one cut). By AI agents, Wed Nov 11 2026. No macro, syntax, notation, axiom, sorry.
-/
import Derived.Test.YtmhnocgoknmljaaDoorChecked
import GoSem.Claim
import GoSem.ClaimJoined
import GoSem.ClaimMapViews
import Derived.JoinedTies
import Derived.KernelRfl
namespace Go.Proofs.YtmhnocgoknmljaaDoor
/- THE CELL 'sum', in the pinned program and in every row, IS THE sha256 OF THE DUMP (.gsa) THAT YtmhnocgoknmljaaDoorProg.lean LOADS. Nothing in Lean hashes anything: it is a label: what it is worth is what the hold of that sum in a sandbox is worth. -/
noncomputable def Tryd.pinned : Pinned := { name := "ytmhnocgoknmljaadoor", sum := "f8e97c0c61c0de6b7d6fda6279bfc5b61640a3099d8d712fd3d598d0cae09fed", checked := Tryd.checked }
namespace Rows
def none {H : Type} : Left H := { results := [], args := [] }

/- WHAT THE LISTED PACKAGE-LEVEL VARIABLES READ AS WHEN THE CALL BEGINS. Each datum BY PROGRAM (the guide's laid-datum.mjs) off the statement by which the dump's own 'gosem.cut.vars' lays the variable. In a bare row this is a premise. The card (YtmhnocgoknmljaaDoorCards.lean) ties it to the program's text. -/
def laid_math_bits_deBruijn32tab {H : Type} : DataW H := .agg [.lit (.int .u8 0), .lit (.int .u8 1), .lit (.int .u8 28), .lit (.int .u8 2), .lit (.int .u8 29), .lit (.int .u8 14), .lit (.int .u8 24), .lit (.int .u8 3), .lit (.int .u8 30), .lit (.int .u8 22), .lit (.int .u8 20), .lit (.int .u8 15), .lit (.int .u8 25), .lit (.int .u8 17), .lit (.int .u8 4), .lit (.int .u8 8), .lit (.int .u8 31), .lit (.int .u8 27), .lit (.int .u8 13), .lit (.int .u8 23), .lit (.int .u8 21), .lit (.int .u8 19), .lit (.int .u8 16), .lit (.int .u8 7), .lit (.int .u8 26), .lit (.int .u8 12), .lit (.int .u8 18), .lit (.int .u8 6), .lit (.int .u8 11), .lit (.int .u8 5), .lit (.int .u8 10), .lit (.int .u8 9)]
def laid_math_bits_deBruijn64tab {H : Type} : DataW H := .agg [.lit (.int .u8 0), .lit (.int .u8 1), .lit (.int .u8 56), .lit (.int .u8 2), .lit (.int .u8 57), .lit (.int .u8 49), .lit (.int .u8 28), .lit (.int .u8 3), .lit (.int .u8 61), .lit (.int .u8 58), .lit (.int .u8 42), .lit (.int .u8 50), .lit (.int .u8 38), .lit (.int .u8 29), .lit (.int .u8 17), .lit (.int .u8 4), .lit (.int .u8 62), .lit (.int .u8 47), .lit (.int .u8 59), .lit (.int .u8 36), .lit (.int .u8 45), .lit (.int .u8 43), .lit (.int .u8 51), .lit (.int .u8 22), .lit (.int .u8 53), .lit (.int .u8 39), .lit (.int .u8 33), .lit (.int .u8 30), .lit (.int .u8 24), .lit (.int .u8 18), .lit (.int .u8 12), .lit (.int .u8 5), .lit (.int .u8 63), .lit (.int .u8 55), .lit (.int .u8 48), .lit (.int .u8 27), .lit (.int .u8 60), .lit (.int .u8 41), .lit (.int .u8 37), .lit (.int .u8 16), .lit (.int .u8 46), .lit (.int .u8 35), .lit (.int .u8 44), .lit (.int .u8 21), .lit (.int .u8 52), .lit (.int .u8 32), .lit (.int .u8 23), .lit (.int .u8 11), .lit (.int .u8 54), .lit (.int .u8 26), .lit (.int .u8 40), .lit (.int .u8 15), .lit (.int .u8 34), .lit (.int .u8 20), .lit (.int .u8 31), .lit (.int .u8 10), .lit (.int .u8 25), .lit (.int .u8 14), .lit (.int .u8 19), .lit (.int .u8 9), .lit (.int .u8 13), .lit (.int .u8 8), .lit (.int .u8 7), .lit (.int .u8 6)]
def laid_internal_strconv_uint64pow10 {H : Type} : DataW H := .agg [.lit (.int .u64 1), .lit (.int .u64 10), .lit (.int .u64 100), .lit (.int .u64 1000), .lit (.int .u64 10000), .lit (.int .u64 100000), .lit (.int .u64 1000000), .lit (.int .u64 10000000), .lit (.int .u64 100000000), .lit (.int .u64 1000000000), .lit (.int .u64 10000000000), .lit (.int .u64 100000000000), .lit (.int .u64 1000000000000), .lit (.int .u64 10000000000000), .lit (.int .u64 100000000000000), .lit (.int .u64 1000000000000000), .lit (.int .u64 10000000000000000), .lit (.int .u64 100000000000000000), .lit (.int .u64 1000000000000000000), .lit (.int .u64 10000000000000000000)]
def laid_strconv_ErrRange {H : Type} : DataW H := .iface "*errors.errorString" (.ptr (.agg [.lit (.string [118, 97, 108, 117, 101, 32, 111, 117, 116, 32, 111, 102, 32, 114, 97, 110, 103, 101])]))
def laid_strconv_ErrSyntax {H : Type} : DataW H := .iface "*errors.errorString" (.ptr (.agg [.lit (.string [105, 110, 118, 97, 108, 105, 100, 32, 115, 121, 110, 116, 97, 120])]))
def laid_sheave_lexer_symbols {H : Type} : DataW H := .slice [.lit (.string [45, 62]), .lit (.string [46, 46]), .lit (.string [123]), .lit (.string [125]), .lit (.string [40]), .lit (.string [41]), .lit (.string [91]), .lit (.string [93]), .lit (.string [44]), .lit (.string [59]), .lit (.string [58]), .lit (.string [61]), .lit (.string [46]), .lit (.string [33]), .lit (.string [63]), .lit (.string [64]), .lit (.string [42]), .lit (.string [124])] []

/-- 'sheavelaw06.LexerNames': WHATEVER THE INPUT: true; the input reads as it did. -/
def lexerNamesSpec : ChangeSpec := { name := "lexerNames", fn := fun _ => fun
  | [d] => { results := [.lit (.bool true)], args := [d] }
  | _ => none }
def lexerNamesRow : OpenClaim := { program := "ytmhnocgoknmljaadoor", sum := "f8e97c0c61c0de6b7d6fda6279bfc5b61640a3099d8d712fd3d598d0cae09fed", func := "sheave/sheavelaw06.LexerNames", spec := "lexerNames", inPlace := ["internal/bytealg.IndexByteString", "internal/abi.NoEscape"], unfollowed := true, recurses := true, named := ["sheave/lexer.symbols", "strconv.ErrSyntax", "strconv.ErrRange", "internal/strconv.uint64pow10", "math/bits.deBruijn32tab", "math/bits.deBruijn64tab"], apart := false, laid := [("math/bits.deBruijn32tab", laid_math_bits_deBruijn32tab), ("math/bits.deBruijn64tab", laid_math_bits_deBruijn64tab), ("internal/strconv.uint64pow10", laid_internal_strconv_uint64pow10), ("strconv.ErrRange", laid_strconv_ErrRange), ("strconv.ErrSyntax", laid_strconv_ErrSyntax), ("sheave/lexer.symbols", laid_sheave_lexer_symbols)] }
def LexerNamesSaid : Prop := lexerNamesRow.holds Tryd.pinned (OpenSpec.ofChange lexerNamesSpec)

/-- ITS FALSE NEIGHBOUR: 'it returns false'. Refute it at one input. -/
def lexerNamesWrong : ChangeSpec := { name := "lexerNames", fn := fun _ => fun
  | [d] => { results := [.lit (.bool false)], args := [d] }
  | _ => none }
def LexerNamesWrongFalsely : Prop := lexerNamesRow.holds Tryd.pinned (OpenSpec.ofChange lexerNamesWrong)

/-- 'sheavelaw06.LexerValid': WHATEVER THE INPUT: true; the input reads as it did. -/
def lexerValidSpec : ChangeSpec := { name := "lexerValid", fn := fun _ => fun
  | [d] => { results := [.lit (.bool true)], args := [d] }
  | _ => none }
def lexerValidRow : OpenClaim := { program := "ytmhnocgoknmljaadoor", sum := "f8e97c0c61c0de6b7d6fda6279bfc5b61640a3099d8d712fd3d598d0cae09fed", func := "sheave/sheavelaw06.LexerValid", spec := "lexerValid", inPlace := ["internal/bytealg.IndexByteString", "internal/abi.NoEscape"], unfollowed := true, recurses := true, named := ["sheave/lexer.symbols", "strconv.ErrSyntax", "strconv.ErrRange", "internal/strconv.uint64pow10", "math/bits.deBruijn32tab", "math/bits.deBruijn64tab"], apart := false, laid := [("math/bits.deBruijn32tab", laid_math_bits_deBruijn32tab), ("math/bits.deBruijn64tab", laid_math_bits_deBruijn64tab), ("internal/strconv.uint64pow10", laid_internal_strconv_uint64pow10), ("strconv.ErrRange", laid_strconv_ErrRange), ("strconv.ErrSyntax", laid_strconv_ErrSyntax), ("sheave/lexer.symbols", laid_sheave_lexer_symbols)] }
def LexerValidSaid : Prop := lexerValidRow.holds Tryd.pinned (OpenSpec.ofChange lexerValidSpec)

/-- ITS FALSE NEIGHBOUR: 'it returns false'. Refute it at one input. -/
def lexerValidWrong : ChangeSpec := { name := "lexerValid", fn := fun _ => fun
  | [d] => { results := [.lit (.bool false)], args := [d] }
  | _ => none }
def LexerValidWrongFalsely : Prop := lexerValidRow.holds Tryd.pinned (OpenSpec.ofChange lexerValidWrong)

/-- 'sheavelaw06.LexerSpace': WHATEVER THE INPUT: true; the input reads as it did. -/
def lexerSpaceSpec : ChangeSpec := { name := "lexerSpace", fn := fun _ => fun
  | [d1, d2] => { results := [.lit (.bool true)], args := [d1, d2] }
  | _ => none }
def lexerSpaceRow : OpenClaim := { program := "ytmhnocgoknmljaadoor", sum := "f8e97c0c61c0de6b7d6fda6279bfc5b61640a3099d8d712fd3d598d0cae09fed", func := "sheave/sheavelaw06.LexerSpace", spec := "lexerSpace", inPlace := ["internal/bytealg.IndexByteString", "internal/abi.NoEscape"], unfollowed := true, recurses := true, named := ["sheave/lexer.symbols", "strconv.ErrSyntax", "strconv.ErrRange", "internal/strconv.uint64pow10", "math/bits.deBruijn32tab", "math/bits.deBruijn64tab"], apart := false, laid := [("math/bits.deBruijn32tab", laid_math_bits_deBruijn32tab), ("math/bits.deBruijn64tab", laid_math_bits_deBruijn64tab), ("internal/strconv.uint64pow10", laid_internal_strconv_uint64pow10), ("strconv.ErrRange", laid_strconv_ErrRange), ("strconv.ErrSyntax", laid_strconv_ErrSyntax), ("sheave/lexer.symbols", laid_sheave_lexer_symbols)] }
def LexerSpaceSaid : Prop := lexerSpaceRow.holds Tryd.pinned (OpenSpec.ofChange lexerSpaceSpec)

/-- ITS FALSE NEIGHBOUR: 'it returns false'. Refute it at one input. -/
def lexerSpaceWrong : ChangeSpec := { name := "lexerSpace", fn := fun _ => fun
  | [d1, d2] => { results := [.lit (.bool false)], args := [d1, d2] }
  | _ => none }
def LexerSpaceWrongFalsely : Prop := lexerSpaceRow.holds Tryd.pinned (OpenSpec.ofChange lexerSpaceWrong)

/-- 'sheavelaw06.LexerJoin': WHATEVER THE INPUT: true; the input reads as it did. -/
def lexerJoinSpec : ChangeSpec := { name := "lexerJoin", fn := fun _ => fun
  | [d] => { results := [.lit (.bool true)], args := [d] }
  | _ => none }
def lexerJoinRow : OpenClaim := { program := "ytmhnocgoknmljaadoor", sum := "f8e97c0c61c0de6b7d6fda6279bfc5b61640a3099d8d712fd3d598d0cae09fed", func := "sheave/sheavelaw06.LexerJoin", spec := "lexerJoin", inPlace := ["internal/bytealg.IndexByteString", "internal/abi.NoEscape"], unfollowed := true, recurses := true, named := ["sheave/lexer.symbols", "strconv.ErrSyntax", "strconv.ErrRange", "internal/strconv.uint64pow10", "math/bits.deBruijn32tab", "math/bits.deBruijn64tab"], apart := false, laid := [("math/bits.deBruijn32tab", laid_math_bits_deBruijn32tab), ("math/bits.deBruijn64tab", laid_math_bits_deBruijn64tab), ("internal/strconv.uint64pow10", laid_internal_strconv_uint64pow10), ("strconv.ErrRange", laid_strconv_ErrRange), ("strconv.ErrSyntax", laid_strconv_ErrSyntax), ("sheave/lexer.symbols", laid_sheave_lexer_symbols)] }
def LexerJoinSaid : Prop := lexerJoinRow.holds Tryd.pinned (OpenSpec.ofChange lexerJoinSpec)

/-- ITS FALSE NEIGHBOUR: 'it returns false'. Refute it at one input. -/
def lexerJoinWrong : ChangeSpec := { name := "lexerJoin", fn := fun _ => fun
  | [d] => { results := [.lit (.bool false)], args := [d] }
  | _ => none }
def LexerJoinWrongFalsely : Prop := lexerJoinRow.holds Tryd.pinned (OpenSpec.ofChange lexerJoinWrong)

/-- 'sheavelaw06.LexerQuote': WHATEVER THE INPUT: true; the input reads as it did. -/
def lexerQuoteSpec : ChangeSpec := { name := "lexerQuote", fn := fun _ => fun
  | [d] => { results := [.lit (.bool true)], args := [d] }
  | _ => none }
def lexerQuoteRow : OpenClaim := { program := "ytmhnocgoknmljaadoor", sum := "f8e97c0c61c0de6b7d6fda6279bfc5b61640a3099d8d712fd3d598d0cae09fed", func := "sheave/sheavelaw06.LexerQuote", spec := "lexerQuote", inPlace := ["internal/bytealg.IndexByteString", "internal/abi.NoEscape"], unfollowed := true, recurses := true, named := ["sheave/lexer.symbols", "strconv.ErrSyntax", "strconv.ErrRange", "internal/strconv.uint64pow10", "math/bits.deBruijn32tab", "math/bits.deBruijn64tab"], apart := false, laid := [("math/bits.deBruijn32tab", laid_math_bits_deBruijn32tab), ("math/bits.deBruijn64tab", laid_math_bits_deBruijn64tab), ("internal/strconv.uint64pow10", laid_internal_strconv_uint64pow10), ("strconv.ErrRange", laid_strconv_ErrRange), ("strconv.ErrSyntax", laid_strconv_ErrSyntax), ("sheave/lexer.symbols", laid_sheave_lexer_symbols)] }
def LexerQuoteSaid : Prop := lexerQuoteRow.holds Tryd.pinned (OpenSpec.ofChange lexerQuoteSpec)

/-- ITS FALSE NEIGHBOUR: 'it returns false'. Refute it at one input. -/
def lexerQuoteWrong : ChangeSpec := { name := "lexerQuote", fn := fun _ => fun
  | [d] => { results := [.lit (.bool false)], args := [d] }
  | _ => none }
def LexerQuoteWrongFalsely : Prop := lexerQuoteRow.holds Tryd.pinned (OpenSpec.ofChange lexerQuoteWrong)

/-- 'sheavelaw06.LexerUnquote': WHATEVER THE INPUT: true; the input reads as it did. -/
def lexerUnquoteSpec : ChangeSpec := { name := "lexerUnquote", fn := fun _ => fun
  | [d] => { results := [.lit (.bool true)], args := [d] }
  | _ => none }
def lexerUnquoteRow : OpenClaim := { program := "ytmhnocgoknmljaadoor", sum := "f8e97c0c61c0de6b7d6fda6279bfc5b61640a3099d8d712fd3d598d0cae09fed", func := "sheave/sheavelaw06.LexerUnquote", spec := "lexerUnquote", inPlace := ["internal/bytealg.IndexByteString", "internal/abi.NoEscape"], unfollowed := true, recurses := true, named := ["sheave/lexer.symbols", "strconv.ErrSyntax", "strconv.ErrRange", "internal/strconv.uint64pow10", "math/bits.deBruijn32tab", "math/bits.deBruijn64tab"], apart := false, laid := [("math/bits.deBruijn32tab", laid_math_bits_deBruijn32tab), ("math/bits.deBruijn64tab", laid_math_bits_deBruijn64tab), ("internal/strconv.uint64pow10", laid_internal_strconv_uint64pow10), ("strconv.ErrRange", laid_strconv_ErrRange), ("strconv.ErrSyntax", laid_strconv_ErrSyntax), ("sheave/lexer.symbols", laid_sheave_lexer_symbols)] }
def LexerUnquoteSaid : Prop := lexerUnquoteRow.holds Tryd.pinned (OpenSpec.ofChange lexerUnquoteSpec)

/-- ITS FALSE NEIGHBOUR: 'it returns false'. Refute it at one input. -/
def lexerUnquoteWrong : ChangeSpec := { name := "lexerUnquote", fn := fun _ => fun
  | [d] => { results := [.lit (.bool false)], args := [d] }
  | _ => none }
def LexerUnquoteWrongFalsely : Prop := lexerUnquoteRow.holds Tryd.pinned (OpenSpec.ofChange lexerUnquoteWrong)

/-- 'sheavelaw06.LexerTokens': WHATEVER THE INPUT: true; the input reads as it did. -/
def lexerTokensSpec : ChangeSpec := { name := "lexerTokens", fn := fun _ => fun
  | [d] => { results := [.lit (.bool true)], args := [d] }
  | _ => none }
def lexerTokensRow : OpenClaim := { program := "ytmhnocgoknmljaadoor", sum := "f8e97c0c61c0de6b7d6fda6279bfc5b61640a3099d8d712fd3d598d0cae09fed", func := "sheave/sheavelaw06.LexerTokens", spec := "lexerTokens", inPlace := ["internal/bytealg.IndexByteString", "internal/abi.NoEscape"], unfollowed := true, recurses := true, named := ["sheave/lexer.symbols", "strconv.ErrSyntax", "strconv.ErrRange", "internal/strconv.uint64pow10", "math/bits.deBruijn32tab", "math/bits.deBruijn64tab"], apart := false, laid := [("math/bits.deBruijn32tab", laid_math_bits_deBruijn32tab), ("math/bits.deBruijn64tab", laid_math_bits_deBruijn64tab), ("internal/strconv.uint64pow10", laid_internal_strconv_uint64pow10), ("strconv.ErrRange", laid_strconv_ErrRange), ("strconv.ErrSyntax", laid_strconv_ErrSyntax), ("sheave/lexer.symbols", laid_sheave_lexer_symbols)] }
def LexerTokensSaid : Prop := lexerTokensRow.holds Tryd.pinned (OpenSpec.ofChange lexerTokensSpec)

/-- ITS FALSE NEIGHBOUR: 'it returns false'. Refute it at one input. -/
def lexerTokensWrong : ChangeSpec := { name := "lexerTokens", fn := fun _ => fun
  | [d] => { results := [.lit (.bool false)], args := [d] }
  | _ => none }
def LexerTokensWrongFalsely : Prop := lexerTokensRow.holds Tryd.pinned (OpenSpec.ofChange lexerTokensWrong)

/-- 'sheavelaw06.LexerStatements': WHATEVER THE INPUT: true; the input reads as it did. -/
def lexerStatementsSpec : ChangeSpec := { name := "lexerStatements", fn := fun _ => fun
  | [d] => { results := [.lit (.bool true)], args := [d] }
  | _ => none }
def lexerStatementsRow : OpenClaim := { program := "ytmhnocgoknmljaadoor", sum := "f8e97c0c61c0de6b7d6fda6279bfc5b61640a3099d8d712fd3d598d0cae09fed", func := "sheave/sheavelaw06.LexerStatements", spec := "lexerStatements", inPlace := ["internal/bytealg.IndexByteString", "internal/abi.NoEscape"], unfollowed := true, recurses := true, named := ["sheave/lexer.symbols", "strconv.ErrSyntax", "strconv.ErrRange", "internal/strconv.uint64pow10", "math/bits.deBruijn32tab", "math/bits.deBruijn64tab"], apart := false, laid := [("math/bits.deBruijn32tab", laid_math_bits_deBruijn32tab), ("math/bits.deBruijn64tab", laid_math_bits_deBruijn64tab), ("internal/strconv.uint64pow10", laid_internal_strconv_uint64pow10), ("strconv.ErrRange", laid_strconv_ErrRange), ("strconv.ErrSyntax", laid_strconv_ErrSyntax), ("sheave/lexer.symbols", laid_sheave_lexer_symbols)] }
def LexerStatementsSaid : Prop := lexerStatementsRow.holds Tryd.pinned (OpenSpec.ofChange lexerStatementsSpec)

/-- ITS FALSE NEIGHBOUR: 'it returns false'. Refute it at one input. -/
def lexerStatementsWrong : ChangeSpec := { name := "lexerStatements", fn := fun _ => fun
  | [d] => { results := [.lit (.bool false)], args := [d] }
  | _ => none }
def LexerStatementsWrongFalsely : Prop := lexerStatementsRow.holds Tryd.pinned (OpenSpec.ofChange lexerStatementsWrong)

/- THE SECOND FORM. 'bulk': how many values and letters a reading holds, each counted each time it is reached (what is shared counts as often as it is met; a slice's spare places count too). A statement '..UptoSaid' is the law's where the arguments, and the package variables that the reading takes, are together of bulk at most 1048576: NARROWER than '..Said'. Prove '..Said' where nothing that the law and all that it calls make is longer than what came in: it says more and counts as full. Else prove '..UptoSaid'. A law counts once. -/
mutual
def uptoBulk {H : Type} : DataW H → Nat
  | .lit (.string bytes) => bytes.length + 1
  | .lit _ => 1
  | .nil => 1
  | .ptr d => uptoBulk d + 1
  | .slice elems spare => uptoBulkAll elems + uptoBulkAll spare + 1
  | .agg parts => uptoBulkAll parts + 1
  | .iface _ d => uptoBulk d + 1
  | .map entries => uptoBulkEntries entries + 1
  | .held _ => 1
def uptoBulkAll {H : Type} : List (DataW H) → Nat
  | [] => 0
  | d :: r => uptoBulk d + uptoBulkAll r
def uptoBulkEntries {H : Type} : List (Lit × DataW H) → Nat
  | [] => 0
  | x :: r => uptoBulkEntry x + uptoBulkEntries r
def uptoBulkEntry {H : Type} : Lit × DataW H → Nat
  | (.string bytes, d) => bytes.length + uptoBulk d + 1
  | (_, d) => uptoBulk d + 1
 end
def uptoSmall : (H : Type) → List (DataW H) → Bool := fun _ ds => decide (uptoBulkAll ds ≤ 1048576)
def OpenSpec.upto (s : _root_.Go.ChangeSpec) : _root_.Go.OpenSpec := { _root_.Go.OpenSpec.ofChange s with cond := some uptoSmall }

/-- 'sheavelaw06.LexerNames', WHERE WHAT IT READS IS OF BULK AT MOST 1048576: true; the input reads as it did. -/
def lexerNamesUptoRow : OpenClaim := { program := "ytmhnocgoknmljaadoor", sum := "f8e97c0c61c0de6b7d6fda6279bfc5b61640a3099d8d712fd3d598d0cae09fed", func := "sheave/sheavelaw06.LexerNames", spec := "lexerNames", inPlace := ["internal/bytealg.IndexByteString", "internal/abi.NoEscape"], unfollowed := true, recurses := true, named := ["sheave/lexer.symbols", "strconv.ErrSyntax", "strconv.ErrRange", "internal/strconv.uint64pow10", "math/bits.deBruijn32tab", "math/bits.deBruijn64tab"], apart := false, laid := [("math/bits.deBruijn32tab", laid_math_bits_deBruijn32tab), ("math/bits.deBruijn64tab", laid_math_bits_deBruijn64tab), ("internal/strconv.uint64pow10", laid_internal_strconv_uint64pow10), ("strconv.ErrRange", laid_strconv_ErrRange), ("strconv.ErrSyntax", laid_strconv_ErrSyntax), ("sheave/lexer.symbols", laid_sheave_lexer_symbols)], narrowed := true }
def LexerNamesUptoSaid : Prop := lexerNamesUptoRow.holds Tryd.pinned (OpenSpec.upto lexerNamesSpec)

/-- 'sheavelaw06.LexerValid', WHERE WHAT IT READS IS OF BULK AT MOST 1048576: true; the input reads as it did. -/
def lexerValidUptoRow : OpenClaim := { program := "ytmhnocgoknmljaadoor", sum := "f8e97c0c61c0de6b7d6fda6279bfc5b61640a3099d8d712fd3d598d0cae09fed", func := "sheave/sheavelaw06.LexerValid", spec := "lexerValid", inPlace := ["internal/bytealg.IndexByteString", "internal/abi.NoEscape"], unfollowed := true, recurses := true, named := ["sheave/lexer.symbols", "strconv.ErrSyntax", "strconv.ErrRange", "internal/strconv.uint64pow10", "math/bits.deBruijn32tab", "math/bits.deBruijn64tab"], apart := false, laid := [("math/bits.deBruijn32tab", laid_math_bits_deBruijn32tab), ("math/bits.deBruijn64tab", laid_math_bits_deBruijn64tab), ("internal/strconv.uint64pow10", laid_internal_strconv_uint64pow10), ("strconv.ErrRange", laid_strconv_ErrRange), ("strconv.ErrSyntax", laid_strconv_ErrSyntax), ("sheave/lexer.symbols", laid_sheave_lexer_symbols)], narrowed := true }
def LexerValidUptoSaid : Prop := lexerValidUptoRow.holds Tryd.pinned (OpenSpec.upto lexerValidSpec)

/-- 'sheavelaw06.LexerSpace', WHERE WHAT IT READS IS OF BULK AT MOST 1048576: true; the input reads as it did. -/
def lexerSpaceUptoRow : OpenClaim := { program := "ytmhnocgoknmljaadoor", sum := "f8e97c0c61c0de6b7d6fda6279bfc5b61640a3099d8d712fd3d598d0cae09fed", func := "sheave/sheavelaw06.LexerSpace", spec := "lexerSpace", inPlace := ["internal/bytealg.IndexByteString", "internal/abi.NoEscape"], unfollowed := true, recurses := true, named := ["sheave/lexer.symbols", "strconv.ErrSyntax", "strconv.ErrRange", "internal/strconv.uint64pow10", "math/bits.deBruijn32tab", "math/bits.deBruijn64tab"], apart := false, laid := [("math/bits.deBruijn32tab", laid_math_bits_deBruijn32tab), ("math/bits.deBruijn64tab", laid_math_bits_deBruijn64tab), ("internal/strconv.uint64pow10", laid_internal_strconv_uint64pow10), ("strconv.ErrRange", laid_strconv_ErrRange), ("strconv.ErrSyntax", laid_strconv_ErrSyntax), ("sheave/lexer.symbols", laid_sheave_lexer_symbols)], narrowed := true }
def LexerSpaceUptoSaid : Prop := lexerSpaceUptoRow.holds Tryd.pinned (OpenSpec.upto lexerSpaceSpec)

/-- 'sheavelaw06.LexerJoin', WHERE WHAT IT READS IS OF BULK AT MOST 1048576: true; the input reads as it did. -/
def lexerJoinUptoRow : OpenClaim := { program := "ytmhnocgoknmljaadoor", sum := "f8e97c0c61c0de6b7d6fda6279bfc5b61640a3099d8d712fd3d598d0cae09fed", func := "sheave/sheavelaw06.LexerJoin", spec := "lexerJoin", inPlace := ["internal/bytealg.IndexByteString", "internal/abi.NoEscape"], unfollowed := true, recurses := true, named := ["sheave/lexer.symbols", "strconv.ErrSyntax", "strconv.ErrRange", "internal/strconv.uint64pow10", "math/bits.deBruijn32tab", "math/bits.deBruijn64tab"], apart := false, laid := [("math/bits.deBruijn32tab", laid_math_bits_deBruijn32tab), ("math/bits.deBruijn64tab", laid_math_bits_deBruijn64tab), ("internal/strconv.uint64pow10", laid_internal_strconv_uint64pow10), ("strconv.ErrRange", laid_strconv_ErrRange), ("strconv.ErrSyntax", laid_strconv_ErrSyntax), ("sheave/lexer.symbols", laid_sheave_lexer_symbols)], narrowed := true }
def LexerJoinUptoSaid : Prop := lexerJoinUptoRow.holds Tryd.pinned (OpenSpec.upto lexerJoinSpec)

/-- 'sheavelaw06.LexerQuote', WHERE WHAT IT READS IS OF BULK AT MOST 1048576: true; the input reads as it did. -/
def lexerQuoteUptoRow : OpenClaim := { program := "ytmhnocgoknmljaadoor", sum := "f8e97c0c61c0de6b7d6fda6279bfc5b61640a3099d8d712fd3d598d0cae09fed", func := "sheave/sheavelaw06.LexerQuote", spec := "lexerQuote", inPlace := ["internal/bytealg.IndexByteString", "internal/abi.NoEscape"], unfollowed := true, recurses := true, named := ["sheave/lexer.symbols", "strconv.ErrSyntax", "strconv.ErrRange", "internal/strconv.uint64pow10", "math/bits.deBruijn32tab", "math/bits.deBruijn64tab"], apart := false, laid := [("math/bits.deBruijn32tab", laid_math_bits_deBruijn32tab), ("math/bits.deBruijn64tab", laid_math_bits_deBruijn64tab), ("internal/strconv.uint64pow10", laid_internal_strconv_uint64pow10), ("strconv.ErrRange", laid_strconv_ErrRange), ("strconv.ErrSyntax", laid_strconv_ErrSyntax), ("sheave/lexer.symbols", laid_sheave_lexer_symbols)], narrowed := true }
def LexerQuoteUptoSaid : Prop := lexerQuoteUptoRow.holds Tryd.pinned (OpenSpec.upto lexerQuoteSpec)

/-- 'sheavelaw06.LexerUnquote', WHERE WHAT IT READS IS OF BULK AT MOST 1048576: true; the input reads as it did. -/
def lexerUnquoteUptoRow : OpenClaim := { program := "ytmhnocgoknmljaadoor", sum := "f8e97c0c61c0de6b7d6fda6279bfc5b61640a3099d8d712fd3d598d0cae09fed", func := "sheave/sheavelaw06.LexerUnquote", spec := "lexerUnquote", inPlace := ["internal/bytealg.IndexByteString", "internal/abi.NoEscape"], unfollowed := true, recurses := true, named := ["sheave/lexer.symbols", "strconv.ErrSyntax", "strconv.ErrRange", "internal/strconv.uint64pow10", "math/bits.deBruijn32tab", "math/bits.deBruijn64tab"], apart := false, laid := [("math/bits.deBruijn32tab", laid_math_bits_deBruijn32tab), ("math/bits.deBruijn64tab", laid_math_bits_deBruijn64tab), ("internal/strconv.uint64pow10", laid_internal_strconv_uint64pow10), ("strconv.ErrRange", laid_strconv_ErrRange), ("strconv.ErrSyntax", laid_strconv_ErrSyntax), ("sheave/lexer.symbols", laid_sheave_lexer_symbols)], narrowed := true }
def LexerUnquoteUptoSaid : Prop := lexerUnquoteUptoRow.holds Tryd.pinned (OpenSpec.upto lexerUnquoteSpec)

/-- 'sheavelaw06.LexerTokens', WHERE WHAT IT READS IS OF BULK AT MOST 1048576: true; the input reads as it did. -/
def lexerTokensUptoRow : OpenClaim := { program := "ytmhnocgoknmljaadoor", sum := "f8e97c0c61c0de6b7d6fda6279bfc5b61640a3099d8d712fd3d598d0cae09fed", func := "sheave/sheavelaw06.LexerTokens", spec := "lexerTokens", inPlace := ["internal/bytealg.IndexByteString", "internal/abi.NoEscape"], unfollowed := true, recurses := true, named := ["sheave/lexer.symbols", "strconv.ErrSyntax", "strconv.ErrRange", "internal/strconv.uint64pow10", "math/bits.deBruijn32tab", "math/bits.deBruijn64tab"], apart := false, laid := [("math/bits.deBruijn32tab", laid_math_bits_deBruijn32tab), ("math/bits.deBruijn64tab", laid_math_bits_deBruijn64tab), ("internal/strconv.uint64pow10", laid_internal_strconv_uint64pow10), ("strconv.ErrRange", laid_strconv_ErrRange), ("strconv.ErrSyntax", laid_strconv_ErrSyntax), ("sheave/lexer.symbols", laid_sheave_lexer_symbols)], narrowed := true }
def LexerTokensUptoSaid : Prop := lexerTokensUptoRow.holds Tryd.pinned (OpenSpec.upto lexerTokensSpec)

/-- 'sheavelaw06.LexerStatements', WHERE WHAT IT READS IS OF BULK AT MOST 1048576: true; the input reads as it did. -/
def lexerStatementsUptoRow : OpenClaim := { program := "ytmhnocgoknmljaadoor", sum := "f8e97c0c61c0de6b7d6fda6279bfc5b61640a3099d8d712fd3d598d0cae09fed", func := "sheave/sheavelaw06.LexerStatements", spec := "lexerStatements", inPlace := ["internal/bytealg.IndexByteString", "internal/abi.NoEscape"], unfollowed := true, recurses := true, named := ["sheave/lexer.symbols", "strconv.ErrSyntax", "strconv.ErrRange", "internal/strconv.uint64pow10", "math/bits.deBruijn32tab", "math/bits.deBruijn64tab"], apart := false, laid := [("math/bits.deBruijn32tab", laid_math_bits_deBruijn32tab), ("math/bits.deBruijn64tab", laid_math_bits_deBruijn64tab), ("internal/strconv.uint64pow10", laid_internal_strconv_uint64pow10), ("strconv.ErrRange", laid_strconv_ErrRange), ("strconv.ErrSyntax", laid_strconv_ErrSyntax), ("sheave/lexer.symbols", laid_sheave_lexer_symbols)], narrowed := true }
def LexerStatementsUptoSaid : Prop := lexerStatementsUptoRow.holds Tryd.pinned (OpenSpec.upto lexerStatementsSpec)

end Rows
end Go.Proofs.YtmhnocgoknmljaaDoor
