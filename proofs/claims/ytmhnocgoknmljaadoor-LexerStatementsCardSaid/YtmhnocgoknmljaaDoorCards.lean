/-
  DERIVED. GIVEN WITH THE SEED: THE CARDS: each row of YtmhnocgoknmljaaDoorRows.lean that lists a variable, with what it lists TIED to the program's text (the seventh form; the later family's looks); each row that meets fmt, with fmt's text TOLD by the authors' own Lean function (tested against real Go, not proved from fmt's source: count such statements apart). THE CARD IS WHAT COUNTS. Prove the row's statement (the work); the ties are given (YtmhnocgoknmljaaDoorTie.lean); close each card by the builder's one call (the guide's Derived/Test/ToyasCard.lean, 'card_holds'). Laid BY PROGRAM, IN A SANDBOX (cutbox-door.mjs). By AI agents, Wed Nov 11 2026. No macro, syntax, notation, axiom, sorry.
-/
import Derived.Test.YtmhnocgoknmljaaDoorRows
import GoSem.ClaimSeven
namespace Go.Proofs.YtmhnocgoknmljaaDoor
namespace Rows

/-- THE TIED CARD OF 'sheavelaw06.LexerNames'. -/
def lexerNamesCard : Claim7 := { stood := { row := lexerNamesRow, standIns := [], harness := (true, "3b41e3d4cb1daca3d24ad5742c685117d126b9dc38cf1f73770da3daadb803ee"), looks := true }, kinds := [], alts := [], laidByText := true, laidKinds := [.data, .data, .data, .sentinel, .sentinel, .widerDeep], laidTests := true, laidLooks := .later }
def LexerNamesCardSaid : Prop := Claim7.holds Tryd.pinned (.plain (OpenSpec.ofChange lexerNamesSpec)) lexerNamesCard

/-- THE TIED CARD OF 'sheavelaw06.LexerValid'. -/
def lexerValidCard : Claim7 := { stood := { row := lexerValidRow, standIns := [], harness := (true, "3b41e3d4cb1daca3d24ad5742c685117d126b9dc38cf1f73770da3daadb803ee"), looks := true }, kinds := [], alts := [], laidByText := true, laidKinds := [.data, .data, .data, .sentinel, .sentinel, .widerDeep], laidTests := true, laidLooks := .later }
def LexerValidCardSaid : Prop := Claim7.holds Tryd.pinned (.plain (OpenSpec.ofChange lexerValidSpec)) lexerValidCard

/-- THE TIED CARD OF 'sheavelaw06.LexerSpace'. -/
def lexerSpaceCard : Claim7 := { stood := { row := lexerSpaceRow, standIns := [], harness := (true, "3b41e3d4cb1daca3d24ad5742c685117d126b9dc38cf1f73770da3daadb803ee"), looks := true }, kinds := [], alts := [], laidByText := true, laidKinds := [.data, .data, .data, .sentinel, .sentinel, .widerDeep], laidTests := true, laidLooks := .later }
def LexerSpaceCardSaid : Prop := Claim7.holds Tryd.pinned (.plain (OpenSpec.ofChange lexerSpaceSpec)) lexerSpaceCard

/-- THE TIED CARD OF 'sheavelaw06.LexerJoin'. -/
def lexerJoinCard : Claim7 := { stood := { row := lexerJoinRow, standIns := [], harness := (true, "3b41e3d4cb1daca3d24ad5742c685117d126b9dc38cf1f73770da3daadb803ee"), looks := true }, kinds := [], alts := [], laidByText := true, laidKinds := [.data, .data, .data, .sentinel, .sentinel, .widerDeep], laidTests := true, laidLooks := .later }
def LexerJoinCardSaid : Prop := Claim7.holds Tryd.pinned (.plain (OpenSpec.ofChange lexerJoinSpec)) lexerJoinCard

/-- THE TIED CARD OF 'sheavelaw06.LexerQuote'. -/
def lexerQuoteCard : Claim7 := { stood := { row := lexerQuoteRow, standIns := [], harness := (true, "3b41e3d4cb1daca3d24ad5742c685117d126b9dc38cf1f73770da3daadb803ee"), looks := true }, kinds := [], alts := [], laidByText := true, laidKinds := [.data, .data, .data, .sentinel, .sentinel, .widerDeep], laidTests := true, laidLooks := .later }
def LexerQuoteCardSaid : Prop := Claim7.holds Tryd.pinned (.plain (OpenSpec.ofChange lexerQuoteSpec)) lexerQuoteCard

/-- THE TIED CARD OF 'sheavelaw06.LexerUnquote'. -/
def lexerUnquoteCard : Claim7 := { stood := { row := lexerUnquoteRow, standIns := [], harness := (true, "3b41e3d4cb1daca3d24ad5742c685117d126b9dc38cf1f73770da3daadb803ee"), looks := true }, kinds := [], alts := [], laidByText := true, laidKinds := [.data, .data, .data, .sentinel, .sentinel, .widerDeep], laidTests := true, laidLooks := .later }
def LexerUnquoteCardSaid : Prop := Claim7.holds Tryd.pinned (.plain (OpenSpec.ofChange lexerUnquoteSpec)) lexerUnquoteCard

/-- THE TIED CARD OF 'sheavelaw06.LexerTokens'. -/
def lexerTokensCard : Claim7 := { stood := { row := lexerTokensRow, standIns := [], harness := (true, "3b41e3d4cb1daca3d24ad5742c685117d126b9dc38cf1f73770da3daadb803ee"), looks := true }, kinds := [], alts := [], laidByText := true, laidKinds := [.data, .data, .data, .sentinel, .sentinel, .widerDeep], laidTests := true, laidLooks := .later }
def LexerTokensCardSaid : Prop := Claim7.holds Tryd.pinned (.plain (OpenSpec.ofChange lexerTokensSpec)) lexerTokensCard

/-- THE TIED CARD OF 'sheavelaw06.LexerStatements'. -/
def lexerStatementsCard : Claim7 := { stood := { row := lexerStatementsRow, standIns := [], harness := (true, "3b41e3d4cb1daca3d24ad5742c685117d126b9dc38cf1f73770da3daadb803ee"), looks := true }, kinds := [], alts := [], laidByText := true, laidKinds := [.data, .data, .data, .sentinel, .sentinel, .widerDeep], laidTests := true, laidLooks := .later }
def LexerStatementsCardSaid : Prop := Claim7.holds Tryd.pinned (.plain (OpenSpec.ofChange lexerStatementsSpec)) lexerStatementsCard

/-- THE SECOND FORM's CARD OF 'sheavelaw06.LexerNames'. -/
def lexerNamesUptoCard : Claim7 := { stood := { row := lexerNamesUptoRow, standIns := [], harness := (true, "3b41e3d4cb1daca3d24ad5742c685117d126b9dc38cf1f73770da3daadb803ee"), looks := true }, kinds := [], alts := [], laidByText := true, laidKinds := [.data, .data, .data, .sentinel, .sentinel, .widerDeep], laidTests := true, laidLooks := .later }
def LexerNamesUptoCardSaid : Prop := Claim7.holds Tryd.pinned (.plain (OpenSpec.upto lexerNamesSpec)) lexerNamesUptoCard

/-- THE SECOND FORM's CARD OF 'sheavelaw06.LexerValid'. -/
def lexerValidUptoCard : Claim7 := { stood := { row := lexerValidUptoRow, standIns := [], harness := (true, "3b41e3d4cb1daca3d24ad5742c685117d126b9dc38cf1f73770da3daadb803ee"), looks := true }, kinds := [], alts := [], laidByText := true, laidKinds := [.data, .data, .data, .sentinel, .sentinel, .widerDeep], laidTests := true, laidLooks := .later }
def LexerValidUptoCardSaid : Prop := Claim7.holds Tryd.pinned (.plain (OpenSpec.upto lexerValidSpec)) lexerValidUptoCard

/-- THE SECOND FORM's CARD OF 'sheavelaw06.LexerSpace'. -/
def lexerSpaceUptoCard : Claim7 := { stood := { row := lexerSpaceUptoRow, standIns := [], harness := (true, "3b41e3d4cb1daca3d24ad5742c685117d126b9dc38cf1f73770da3daadb803ee"), looks := true }, kinds := [], alts := [], laidByText := true, laidKinds := [.data, .data, .data, .sentinel, .sentinel, .widerDeep], laidTests := true, laidLooks := .later }
def LexerSpaceUptoCardSaid : Prop := Claim7.holds Tryd.pinned (.plain (OpenSpec.upto lexerSpaceSpec)) lexerSpaceUptoCard

/-- THE SECOND FORM's CARD OF 'sheavelaw06.LexerJoin'. -/
def lexerJoinUptoCard : Claim7 := { stood := { row := lexerJoinUptoRow, standIns := [], harness := (true, "3b41e3d4cb1daca3d24ad5742c685117d126b9dc38cf1f73770da3daadb803ee"), looks := true }, kinds := [], alts := [], laidByText := true, laidKinds := [.data, .data, .data, .sentinel, .sentinel, .widerDeep], laidTests := true, laidLooks := .later }
def LexerJoinUptoCardSaid : Prop := Claim7.holds Tryd.pinned (.plain (OpenSpec.upto lexerJoinSpec)) lexerJoinUptoCard

/-- THE SECOND FORM's CARD OF 'sheavelaw06.LexerQuote'. -/
def lexerQuoteUptoCard : Claim7 := { stood := { row := lexerQuoteUptoRow, standIns := [], harness := (true, "3b41e3d4cb1daca3d24ad5742c685117d126b9dc38cf1f73770da3daadb803ee"), looks := true }, kinds := [], alts := [], laidByText := true, laidKinds := [.data, .data, .data, .sentinel, .sentinel, .widerDeep], laidTests := true, laidLooks := .later }
def LexerQuoteUptoCardSaid : Prop := Claim7.holds Tryd.pinned (.plain (OpenSpec.upto lexerQuoteSpec)) lexerQuoteUptoCard

/-- THE SECOND FORM's CARD OF 'sheavelaw06.LexerUnquote'. -/
def lexerUnquoteUptoCard : Claim7 := { stood := { row := lexerUnquoteUptoRow, standIns := [], harness := (true, "3b41e3d4cb1daca3d24ad5742c685117d126b9dc38cf1f73770da3daadb803ee"), looks := true }, kinds := [], alts := [], laidByText := true, laidKinds := [.data, .data, .data, .sentinel, .sentinel, .widerDeep], laidTests := true, laidLooks := .later }
def LexerUnquoteUptoCardSaid : Prop := Claim7.holds Tryd.pinned (.plain (OpenSpec.upto lexerUnquoteSpec)) lexerUnquoteUptoCard

/-- THE SECOND FORM's CARD OF 'sheavelaw06.LexerTokens'. -/
def lexerTokensUptoCard : Claim7 := { stood := { row := lexerTokensUptoRow, standIns := [], harness := (true, "3b41e3d4cb1daca3d24ad5742c685117d126b9dc38cf1f73770da3daadb803ee"), looks := true }, kinds := [], alts := [], laidByText := true, laidKinds := [.data, .data, .data, .sentinel, .sentinel, .widerDeep], laidTests := true, laidLooks := .later }
def LexerTokensUptoCardSaid : Prop := Claim7.holds Tryd.pinned (.plain (OpenSpec.upto lexerTokensSpec)) lexerTokensUptoCard

/-- THE SECOND FORM's CARD OF 'sheavelaw06.LexerStatements'. -/
def lexerStatementsUptoCard : Claim7 := { stood := { row := lexerStatementsUptoRow, standIns := [], harness := (true, "3b41e3d4cb1daca3d24ad5742c685117d126b9dc38cf1f73770da3daadb803ee"), looks := true }, kinds := [], alts := [], laidByText := true, laidKinds := [.data, .data, .data, .sentinel, .sentinel, .widerDeep], laidTests := true, laidLooks := .later }
def LexerStatementsUptoCardSaid : Prop := Claim7.holds Tryd.pinned (.plain (OpenSpec.upto lexerStatementsSpec)) lexerStatementsUptoCard
end Rows
end Go.Proofs.YtmhnocgoknmljaaDoor
