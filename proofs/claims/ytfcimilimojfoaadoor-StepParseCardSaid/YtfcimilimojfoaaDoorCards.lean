/-
  DERIVED. GIVEN WITH THE SEED: THE CARDS: each row of YtfcimilimojfoaaDoorRows.lean that lists a variable, with what it lists TIED to the program's text (the seventh form; the later family's looks); each row that meets fmt, with fmt's text TOLD by the authors' own Lean function (tested against real Go, not proved from fmt's source: count such statements apart). THE CARD IS WHAT COUNTS. Prove the row's statement (the work); the ties are given (YtfcimilimojfoaaDoorTie.lean); close each card by the builder's one call (the guide's Derived/Test/ToyasCard.lean, 'card_holds'). Laid BY PROGRAM, IN A SANDBOX (cutbox-door.mjs). By AI agents, Wed Nov 11 2026. No macro, syntax, notation, axiom, sorry.
-/
import Derived.Test.YtfcimilimojfoaaDoorRows
import GoSem.ClaimSeven
namespace Go.Proofs.YtfcimilimojfoaaDoor
namespace Rows

/-- THE TIED CARD OF 'sheavelaw37.StepEnabled'. -/
def stepEnabledCard : Claim7 := { stood := { row := stepEnabledRow, standIns := [], harness := (true, "ee55dc67238f08ef23a8cfe83403ceeb0dfbf2bf0a21886511c221c8037ac696"), looks := true }, kinds := [], alts := [], laidByText := true, laidKinds := [.data, .data, .data], laidTests := true, laidLooks := .later }
def StepEnabledCardSaid : Prop := Claim7.holds Tryd.pinned (.plain (OpenSpec.ofChange stepEnabledSpec)) stepEnabledCard

/-- THE TIED CARD OF 'sheavelaw37.StepRun'. -/
def stepRunCard : Claim7 := { stood := { row := stepRunRow, standIns := [], harness := (true, "ee55dc67238f08ef23a8cfe83403ceeb0dfbf2bf0a21886511c221c8037ac696"), looks := true }, kinds := [], alts := [], laidByText := true, laidKinds := [.data, .data, .data], laidTests := true, laidLooks := .later }
def StepRunCardSaid : Prop := Claim7.holds Tryd.pinned (.plain (OpenSpec.ofChange stepRunSpec)) stepRunCard

/-- THE TIED CARD OF 'sheavelaw37.StepApply'. -/
def stepApplyCard : Claim7 := { stood := { row := stepApplyRow, standIns := [], harness := (true, "ee55dc67238f08ef23a8cfe83403ceeb0dfbf2bf0a21886511c221c8037ac696"), looks := true }, kinds := [], alts := [], laidByText := true, laidKinds := [.data, .data, .data], laidTests := true, laidLooks := .later }
def StepApplyCardSaid : Prop := Claim7.holds Tryd.pinned (.plain (OpenSpec.ofChange stepApplySpec)) stepApplyCard

/-- THE TIED CARD OF 'sheavelaw37.StepDirect'. -/
def stepDirectCard : Claim7 := { stood := { row := stepDirectRow, standIns := [], harness := (true, "ee55dc67238f08ef23a8cfe83403ceeb0dfbf2bf0a21886511c221c8037ac696"), looks := true }, kinds := [], alts := [], laidByText := true, laidKinds := [.data, .data, .data], laidTests := true, laidLooks := .later }
def StepDirectCardSaid : Prop := Claim7.holds Tryd.pinned (.plain (OpenSpec.ofChange stepDirectSpec)) stepDirectCard

/-- THE TIED CARD OF 'sheavelaw37.StepHeld'. -/
def stepHeldCard : Claim7 := { stood := { row := stepHeldRow, standIns := [], harness := (true, "ee55dc67238f08ef23a8cfe83403ceeb0dfbf2bf0a21886511c221c8037ac696"), looks := true }, kinds := [], alts := [], laidByText := true, laidKinds := [.data, .data, .data], laidTests := true, laidLooks := .later }
def StepHeldCardSaid : Prop := Claim7.holds Tryd.pinned (.plain (OpenSpec.ofChange stepHeldSpec)) stepHeldCard

/-- THE TIED CARD OF 'sheavelaw37.StepErrors'. -/
def stepErrorsCard : Claim7 := { stood := { row := stepErrorsRow, standIns := [], harness := (true, "ee55dc67238f08ef23a8cfe83403ceeb0dfbf2bf0a21886511c221c8037ac696"), looks := true }, kinds := [], alts := [], laidByText := true, laidKinds := [.data, .data, .data], laidTests := true, laidLooks := .later }
def StepErrorsCardSaid : Prop := Claim7.holds Tryd.pinned (.plain (OpenSpec.ofChange stepErrorsSpec)) stepErrorsCard

/-- THE TIED CARD OF 'sheavelaw37.StepCommute'. -/
def stepCommuteCard : Claim7 := { stood := { row := stepCommuteRow, standIns := [], harness := (true, "ee55dc67238f08ef23a8cfe83403ceeb0dfbf2bf0a21886511c221c8037ac696"), looks := true }, kinds := [], alts := [], laidByText := true, laidKinds := [.data, .data, .data], laidTests := true, laidLooks := .later }
def StepCommuteCardSaid : Prop := Claim7.holds Tryd.pinned (.plain (OpenSpec.ofChange stepCommuteSpec)) stepCommuteCard

/-- THE TIED CARD OF 'sheavelaw37.StepText'. -/
def stepTextCard : Claim7 := { stood := { row := stepTextRow, standIns := [], harness := (true, "ee55dc67238f08ef23a8cfe83403ceeb0dfbf2bf0a21886511c221c8037ac696"), looks := true }, kinds := [], alts := [], laidByText := true, laidKinds := [.data, .data, .data, .data, .sentinel, .sentinel, .pinned], laidTests := true, laidLooks := .later }
def StepTextCardSaid : Prop := Claim7.holds Tryd.pinned (.plain (OpenSpec.ofChange stepTextSpec)) stepTextCard

/-- THE TIED CARD OF 'sheavelaw37.StepParse'. -/
def stepParseCard : Claim7 := { stood := { row := stepParseRow, standIns := [], harness := (true, "ee55dc67238f08ef23a8cfe83403ceeb0dfbf2bf0a21886511c221c8037ac696"), looks := true }, kinds := [], alts := [], laidByText := true, laidKinds := [.data, .data, .data, .data, .sentinel, .sentinel, .pinned], laidTests := true, laidLooks := .later }
def StepParseCardSaid : Prop := Claim7.holds Tryd.pinned (.plain (OpenSpec.ofChange stepParseSpec)) stepParseCard

/-- THE SECOND FORM's CARD OF 'sheavelaw37.StepEnabled'. -/
def stepEnabledUptoCard : Claim7 := { stood := { row := stepEnabledUptoRow, standIns := [], harness := (true, "ee55dc67238f08ef23a8cfe83403ceeb0dfbf2bf0a21886511c221c8037ac696"), looks := true }, kinds := [], alts := [], laidByText := true, laidKinds := [.data, .data, .data], laidTests := true, laidLooks := .later }
def StepEnabledUptoCardSaid : Prop := Claim7.holds Tryd.pinned (.plain (OpenSpec.upto stepEnabledSpec)) stepEnabledUptoCard

/-- THE SECOND FORM's CARD OF 'sheavelaw37.StepRun'. -/
def stepRunUptoCard : Claim7 := { stood := { row := stepRunUptoRow, standIns := [], harness := (true, "ee55dc67238f08ef23a8cfe83403ceeb0dfbf2bf0a21886511c221c8037ac696"), looks := true }, kinds := [], alts := [], laidByText := true, laidKinds := [.data, .data, .data], laidTests := true, laidLooks := .later }
def StepRunUptoCardSaid : Prop := Claim7.holds Tryd.pinned (.plain (OpenSpec.upto stepRunSpec)) stepRunUptoCard

/-- THE SECOND FORM's CARD OF 'sheavelaw37.StepApply'. -/
def stepApplyUptoCard : Claim7 := { stood := { row := stepApplyUptoRow, standIns := [], harness := (true, "ee55dc67238f08ef23a8cfe83403ceeb0dfbf2bf0a21886511c221c8037ac696"), looks := true }, kinds := [], alts := [], laidByText := true, laidKinds := [.data, .data, .data], laidTests := true, laidLooks := .later }
def StepApplyUptoCardSaid : Prop := Claim7.holds Tryd.pinned (.plain (OpenSpec.upto stepApplySpec)) stepApplyUptoCard

/-- THE SECOND FORM's CARD OF 'sheavelaw37.StepDirect'. -/
def stepDirectUptoCard : Claim7 := { stood := { row := stepDirectUptoRow, standIns := [], harness := (true, "ee55dc67238f08ef23a8cfe83403ceeb0dfbf2bf0a21886511c221c8037ac696"), looks := true }, kinds := [], alts := [], laidByText := true, laidKinds := [.data, .data, .data], laidTests := true, laidLooks := .later }
def StepDirectUptoCardSaid : Prop := Claim7.holds Tryd.pinned (.plain (OpenSpec.upto stepDirectSpec)) stepDirectUptoCard

/-- THE SECOND FORM's CARD OF 'sheavelaw37.StepHeld'. -/
def stepHeldUptoCard : Claim7 := { stood := { row := stepHeldUptoRow, standIns := [], harness := (true, "ee55dc67238f08ef23a8cfe83403ceeb0dfbf2bf0a21886511c221c8037ac696"), looks := true }, kinds := [], alts := [], laidByText := true, laidKinds := [.data, .data, .data], laidTests := true, laidLooks := .later }
def StepHeldUptoCardSaid : Prop := Claim7.holds Tryd.pinned (.plain (OpenSpec.upto stepHeldSpec)) stepHeldUptoCard

/-- THE SECOND FORM's CARD OF 'sheavelaw37.StepErrors'. -/
def stepErrorsUptoCard : Claim7 := { stood := { row := stepErrorsUptoRow, standIns := [], harness := (true, "ee55dc67238f08ef23a8cfe83403ceeb0dfbf2bf0a21886511c221c8037ac696"), looks := true }, kinds := [], alts := [], laidByText := true, laidKinds := [.data, .data, .data], laidTests := true, laidLooks := .later }
def StepErrorsUptoCardSaid : Prop := Claim7.holds Tryd.pinned (.plain (OpenSpec.upto stepErrorsSpec)) stepErrorsUptoCard

/-- THE SECOND FORM's CARD OF 'sheavelaw37.StepCommute'. -/
def stepCommuteUptoCard : Claim7 := { stood := { row := stepCommuteUptoRow, standIns := [], harness := (true, "ee55dc67238f08ef23a8cfe83403ceeb0dfbf2bf0a21886511c221c8037ac696"), looks := true }, kinds := [], alts := [], laidByText := true, laidKinds := [.data, .data, .data], laidTests := true, laidLooks := .later }
def StepCommuteUptoCardSaid : Prop := Claim7.holds Tryd.pinned (.plain (OpenSpec.upto stepCommuteSpec)) stepCommuteUptoCard

/-- THE SECOND FORM's CARD OF 'sheavelaw37.StepText'. -/
def stepTextUptoCard : Claim7 := { stood := { row := stepTextUptoRow, standIns := [], harness := (true, "ee55dc67238f08ef23a8cfe83403ceeb0dfbf2bf0a21886511c221c8037ac696"), looks := true }, kinds := [], alts := [], laidByText := true, laidKinds := [.data, .data, .data, .data, .sentinel, .sentinel, .pinned], laidTests := true, laidLooks := .later }
def StepTextUptoCardSaid : Prop := Claim7.holds Tryd.pinned (.plain (OpenSpec.upto stepTextSpec)) stepTextUptoCard

/-- THE SECOND FORM's CARD OF 'sheavelaw37.StepParse'. -/
def stepParseUptoCard : Claim7 := { stood := { row := stepParseUptoRow, standIns := [], harness := (true, "ee55dc67238f08ef23a8cfe83403ceeb0dfbf2bf0a21886511c221c8037ac696"), looks := true }, kinds := [], alts := [], laidByText := true, laidKinds := [.data, .data, .data, .data, .sentinel, .sentinel, .pinned], laidTests := true, laidLooks := .later }
def StepParseUptoCardSaid : Prop := Claim7.holds Tryd.pinned (.plain (OpenSpec.upto stepParseSpec)) stepParseUptoCard
end Rows
end Go.Proofs.YtfcimilimojfoaaDoor
