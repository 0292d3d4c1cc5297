/-
  DERIVED. GIVEN WITH THE SEED: THE CARDS: each row of YtoiokopmpcogbaaGreatDoorRows.lean that lists a variable, with what it lists TIED to the program's text (the seventh form; the later family's looks); each row that meets fmt, with fmt's text TOLD by the authors' own Lean function (tested against real Go, not proved from fmt's source: count such statements apart). THE CARD IS WHAT COUNTS. Prove the row's statement (the work); the ties are given (YtoiokopmpcogbaaGreatDoorTie.lean); close each card by the builder's one call (the guide's Derived/Test/ToyasCard.lean, 'card_holds'). Laid BY PROGRAM, IN A SANDBOX (cutbox-door.mjs). By AI agents, Wed Nov 11 2026. No macro, syntax, notation, axiom, sorry.
-/
import Derived.Test.YtoiokopmpcogbaaGreatDoorRows
import GoSem.ClaimSeven
namespace Go.Proofs.YtoiokopmpcogbaaGreatDoor
namespace Rows

/-- THE TIED CARD OF 'sheavelaw02.RatioMake'. -/
def ratioMakeCard : Claim7 := { stood := { row := ratioMakeRow, standIns := [], harness := (true, "aa0bf01c8a9a4406ac033a6cfdc55644ee00c70b1fd0cd3330a83b30248ad9c2"), looks := true }, kinds := [], alts := [], laidByText := true, laidKinds := [.data, .data, .data, .sentinel, .sentinel], laidTests := true, laidLooks := .later }
def RatioMakeCardSaid : Prop := Claim7.holds Tryz.pinned (.plain (OpenSpec.ofChange ratioMakeSpec)) ratioMakeCard

/-- THE TIED CARD OF 'sheavelaw02.RatioOf'. -/
def ratioOfCard : Claim7 := { stood := { row := ratioOfRow, standIns := [], harness := (true, "aa0bf01c8a9a4406ac033a6cfdc55644ee00c70b1fd0cd3330a83b30248ad9c2"), looks := true }, kinds := [], alts := [], laidByText := true, laidKinds := [.data, .data, .data, .sentinel, .sentinel], laidTests := true, laidLooks := .later }
def RatioOfCardSaid : Prop := Claim7.holds Tryz.pinned (.plain (OpenSpec.ofChange ratioOfSpec)) ratioOfCard

/-- THE TIED CARD OF 'sheavelaw02.RatioSums'. -/
def ratioSumsCard : Claim7 := { stood := { row := ratioSumsRow, standIns := [], harness := (true, "aa0bf01c8a9a4406ac033a6cfdc55644ee00c70b1fd0cd3330a83b30248ad9c2"), looks := true }, kinds := [], alts := [], laidByText := true, laidKinds := [.data, .data, .data, .sentinel, .sentinel], laidTests := true, laidLooks := .later }
def RatioSumsCardSaid : Prop := Claim7.holds Tryz.pinned (.plain (OpenSpec.ofChange ratioSumsSpec)) ratioSumsCard

/-- THE TIED CARD OF 'sheavelaw02.RatioDecimal'. -/
def ratioDecimalCard : Claim7 := { stood := { row := ratioDecimalRow, standIns := [], harness := (true, "aa0bf01c8a9a4406ac033a6cfdc55644ee00c70b1fd0cd3330a83b30248ad9c2"), looks := true }, kinds := [], alts := [], laidByText := true, laidKinds := [.data, .data, .data, .sentinel, .sentinel], laidTests := true, laidLooks := .later }
def RatioDecimalCardSaid : Prop := Claim7.holds Tryz.pinned (.plain (OpenSpec.ofChange ratioDecimalSpec)) ratioDecimalCard

/-- THE TIED CARD OF 'sheavelaw02.RatioCompare'. -/
def ratioCompareCard : Claim7 := { stood := { row := ratioCompareRow, standIns := [], harness := (true, "aa0bf01c8a9a4406ac033a6cfdc55644ee00c70b1fd0cd3330a83b30248ad9c2"), looks := true }, kinds := [], alts := [], laidByText := true, laidKinds := [.data, .data, .data, .sentinel, .sentinel], laidTests := true, laidLooks := .later }
def RatioCompareCardSaid : Prop := Claim7.holds Tryz.pinned (.plain (OpenSpec.ofChange ratioCompareSpec)) ratioCompareCard

/-- THE TIED CARD OF 'sheavelaw02.RatioValid'. -/
def ratioValidCard : Claim7 := { stood := { row := ratioValidRow, standIns := [], harness := (true, "aa0bf01c8a9a4406ac033a6cfdc55644ee00c70b1fd0cd3330a83b30248ad9c2"), looks := true }, kinds := [], alts := [], laidByText := true, laidKinds := [.data, .data, .data, .sentinel, .sentinel], laidTests := true, laidLooks := .later }
def RatioValidCardSaid : Prop := Claim7.holds Tryz.pinned (.plain (OpenSpec.ofChange ratioValidSpec)) ratioValidCard

/-- THE TIED CARD OF 'sheavelaw02.RatioMul'. -/
def ratioMulCard : Claim7 := { stood := { row := ratioMulRow, standIns := [], harness := (true, "aa0bf01c8a9a4406ac033a6cfdc55644ee00c70b1fd0cd3330a83b30248ad9c2"), looks := true }, kinds := [], alts := [], laidByText := true, laidKinds := [.data, .data, .data, .sentinel, .sentinel], laidTests := true, laidLooks := .later }
def RatioMulCardSaid : Prop := Claim7.holds Tryz.pinned (.plain (OpenSpec.ofChange ratioMulSpec)) ratioMulCard

/-- THE TIED CARD OF 'sheavelaw02.RatioParse'. -/
def ratioParseCard : Claim7 := { stood := { row := ratioParseRow, standIns := [], harness := (true, "aa0bf01c8a9a4406ac033a6cfdc55644ee00c70b1fd0cd3330a83b30248ad9c2"), looks := true }, kinds := [], alts := [], laidByText := true, laidKinds := [.data, .data, .data, .sentinel, .sentinel], laidTests := true, laidLooks := .later }
def RatioParseCardSaid : Prop := Claim7.holds Tryz.pinned (.plain (OpenSpec.ofChange ratioParseSpec)) ratioParseCard

/-- THE TIED CARD OF 'sheavelaw02.RatioText'. -/
def ratioTextCard : Claim7 := { stood := { row := ratioTextRow, standIns := [], harness := (true, "aa0bf01c8a9a4406ac033a6cfdc55644ee00c70b1fd0cd3330a83b30248ad9c2"), looks := true }, kinds := [], alts := [], laidByText := true, laidKinds := [.data, .data, .data, .sentinel, .sentinel], laidTests := true, laidLooks := .later }
def RatioTextCardSaid : Prop := Claim7.holds Tryz.pinned (.plain (OpenSpec.ofChange ratioTextSpec)) ratioTextCard

/-- THE TIED CARD OF 'sheavelaw02.RatioField'. -/
def ratioFieldCard : Claim7 := { stood := { row := ratioFieldRow, standIns := [], harness := (true, "aa0bf01c8a9a4406ac033a6cfdc55644ee00c70b1fd0cd3330a83b30248ad9c2"), looks := true }, kinds := [], alts := [], laidByText := true, laidKinds := [.data, .data, .data, .sentinel, .sentinel], laidTests := true, laidLooks := .later }
def RatioFieldCardSaid : Prop := Claim7.holds Tryz.pinned (.plain (OpenSpec.ofChange ratioFieldSpec)) ratioFieldCard

/-- THE SECOND FORM's CARD OF 'sheavelaw02.RatioMake'. -/
def ratioMakeUptoCard : Claim7 := { stood := { row := ratioMakeUptoRow, standIns := [], harness := (true, "aa0bf01c8a9a4406ac033a6cfdc55644ee00c70b1fd0cd3330a83b30248ad9c2"), looks := true }, kinds := [], alts := [], laidByText := true, laidKinds := [.data, .data, .data, .sentinel, .sentinel], laidTests := true, laidLooks := .later }
def RatioMakeUptoCardSaid : Prop := Claim7.holds Tryz.pinned (.plain (OpenSpec.upto ratioMakeSpec)) ratioMakeUptoCard

/-- THE SECOND FORM's CARD OF 'sheavelaw02.RatioOf'. -/
def ratioOfUptoCard : Claim7 := { stood := { row := ratioOfUptoRow, standIns := [], harness := (true, "aa0bf01c8a9a4406ac033a6cfdc55644ee00c70b1fd0cd3330a83b30248ad9c2"), looks := true }, kinds := [], alts := [], laidByText := true, laidKinds := [.data, .data, .data, .sentinel, .sentinel], laidTests := true, laidLooks := .later }
def RatioOfUptoCardSaid : Prop := Claim7.holds Tryz.pinned (.plain (OpenSpec.upto ratioOfSpec)) ratioOfUptoCard

/-- THE SECOND FORM's CARD OF 'sheavelaw02.RatioSums'. -/
def ratioSumsUptoCard : Claim7 := { stood := { row := ratioSumsUptoRow, standIns := [], harness := (true, "aa0bf01c8a9a4406ac033a6cfdc55644ee00c70b1fd0cd3330a83b30248ad9c2"), looks := true }, kinds := [], alts := [], laidByText := true, laidKinds := [.data, .data, .data, .sentinel, .sentinel], laidTests := true, laidLooks := .later }
def RatioSumsUptoCardSaid : Prop := Claim7.holds Tryz.pinned (.plain (OpenSpec.upto ratioSumsSpec)) ratioSumsUptoCard

/-- THE SECOND FORM's CARD OF 'sheavelaw02.RatioDecimal'. -/
def ratioDecimalUptoCard : Claim7 := { stood := { row := ratioDecimalUptoRow, standIns := [], harness := (true, "aa0bf01c8a9a4406ac033a6cfdc55644ee00c70b1fd0cd3330a83b30248ad9c2"), looks := true }, kinds := [], alts := [], laidByText := true, laidKinds := [.data, .data, .data, .sentinel, .sentinel], laidTests := true, laidLooks := .later }
def RatioDecimalUptoCardSaid : Prop := Claim7.holds Tryz.pinned (.plain (OpenSpec.upto ratioDecimalSpec)) ratioDecimalUptoCard

/-- THE SECOND FORM's CARD OF 'sheavelaw02.RatioCompare'. -/
def ratioCompareUptoCard : Claim7 := { stood := { row := ratioCompareUptoRow, standIns := [], harness := (true, "aa0bf01c8a9a4406ac033a6cfdc55644ee00c70b1fd0cd3330a83b30248ad9c2"), looks := true }, kinds := [], alts := [], laidByText := true, laidKinds := [.data, .data, .data, .sentinel, .sentinel], laidTests := true, laidLooks := .later }
def RatioCompareUptoCardSaid : Prop := Claim7.holds Tryz.pinned (.plain (OpenSpec.upto ratioCompareSpec)) ratioCompareUptoCard

/-- THE SECOND FORM's CARD OF 'sheavelaw02.RatioValid'. -/
def ratioValidUptoCard : Claim7 := { stood := { row := ratioValidUptoRow, standIns := [], harness := (true, "aa0bf01c8a9a4406ac033a6cfdc55644ee00c70b1fd0cd3330a83b30248ad9c2"), looks := true }, kinds := [], alts := [], laidByText := true, laidKinds := [.data, .data, .data, .sentinel, .sentinel], laidTests := true, laidLooks := .later }
def RatioValidUptoCardSaid : Prop := Claim7.holds Tryz.pinned (.plain (OpenSpec.upto ratioValidSpec)) ratioValidUptoCard

/-- THE SECOND FORM's CARD OF 'sheavelaw02.RatioMul'. -/
def ratioMulUptoCard : Claim7 := { stood := { row := ratioMulUptoRow, standIns := [], harness := (true, "aa0bf01c8a9a4406ac033a6cfdc55644ee00c70b1fd0cd3330a83b30248ad9c2"), looks := true }, kinds := [], alts := [], laidByText := true, laidKinds := [.data, .data, .data, .sentinel, .sentinel], laidTests := true, laidLooks := .later }
def RatioMulUptoCardSaid : Prop := Claim7.holds Tryz.pinned (.plain (OpenSpec.upto ratioMulSpec)) ratioMulUptoCard

/-- THE SECOND FORM's CARD OF 'sheavelaw02.RatioParse'. -/
def ratioParseUptoCard : Claim7 := { stood := { row := ratioParseUptoRow, standIns := [], harness := (true, "aa0bf01c8a9a4406ac033a6cfdc55644ee00c70b1fd0cd3330a83b30248ad9c2"), looks := true }, kinds := [], alts := [], laidByText := true, laidKinds := [.data, .data, .data, .sentinel, .sentinel], laidTests := true, laidLooks := .later }
def RatioParseUptoCardSaid : Prop := Claim7.holds Tryz.pinned (.plain (OpenSpec.upto ratioParseSpec)) ratioParseUptoCard

/-- THE SECOND FORM's CARD OF 'sheavelaw02.RatioText'. -/
def ratioTextUptoCard : Claim7 := { stood := { row := ratioTextUptoRow, standIns := [], harness := (true, "aa0bf01c8a9a4406ac033a6cfdc55644ee00c70b1fd0cd3330a83b30248ad9c2"), looks := true }, kinds := [], alts := [], laidByText := true, laidKinds := [.data, .data, .data, .sentinel, .sentinel], laidTests := true, laidLooks := .later }
def RatioTextUptoCardSaid : Prop := Claim7.holds Tryz.pinned (.plain (OpenSpec.upto ratioTextSpec)) ratioTextUptoCard

/-- THE SECOND FORM's CARD OF 'sheavelaw02.RatioField'. -/
def ratioFieldUptoCard : Claim7 := { stood := { row := ratioFieldUptoRow, standIns := [], harness := (true, "aa0bf01c8a9a4406ac033a6cfdc55644ee00c70b1fd0cd3330a83b30248ad9c2"), looks := true }, kinds := [], alts := [], laidByText := true, laidKinds := [.data, .data, .data, .sentinel, .sentinel], laidTests := true, laidLooks := .later }
def RatioFieldUptoCardSaid : Prop := Claim7.holds Tryz.pinned (.plain (OpenSpec.upto ratioFieldSpec)) ratioFieldUptoCard
end Rows
end Go.Proofs.YtoiokopmpcogbaaGreatDoor
