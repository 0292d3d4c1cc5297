/-
  DERIVED. GIVEN WITH THE SEED: THE CARDS: each row of YtmkkjghmgbkdgaaDoorRows.lean that lists a variable, with what it lists TIED to the program's text (the seventh form; the later family's looks); each row that meets fmt, with fmt's text TOLD by the authors' own Lean function (tested against real Go, not proved from fmt's source: count such statements apart). THE CARD IS WHAT COUNTS. Prove the row's statement (the work); the ties are given (YtmkkjghmgbkdgaaDoorTie.lean); close each card by the builder's one call (the guide's Derived/Test/ToyasCard.lean, 'card_holds'). Laid BY PROGRAM, IN A SANDBOX (cutbox-door.mjs). By AI agents, Wed Nov 11 2026. No macro, syntax, notation, axiom, sorry.
-/
import Derived.Test.YtmkkjghmgbkdgaaDoorRows
import GoSem.ClaimSeven
namespace Go.Proofs.YtmkkjghmgbkdgaaDoor
namespace Rows

/-- THE TIED CARD OF 'sheavelaw01.NaturalOf'. -/
def naturalOfCard : Claim7 := { stood := { row := naturalOfRow, standIns := [], harness := (true, "4f5fae836c0706df07f189959de3c9fd2e77175eaeb497a600d8a197b6251759"), looks := true }, kinds := [], alts := [], laidByText := true, laidKinds := [.data, .data, .data, .sentinel, .sentinel], laidTests := true, laidLooks := .later }
def NaturalOfCardSaid : Prop := Claim7.holds Tryd.pinned (.plain (OpenSpec.ofChange naturalOfSpec)) naturalOfCard

/-- THE TIED CARD OF 'sheavelaw01.NaturalProduct'. -/
def naturalProductCard : Claim7 := { stood := { row := naturalProductRow, standIns := [], harness := (true, "4f5fae836c0706df07f189959de3c9fd2e77175eaeb497a600d8a197b6251759"), looks := true }, kinds := [], alts := [], laidByText := true, laidKinds := [.data, .data, .data, .sentinel, .sentinel], laidTests := true, laidLooks := .later }
def NaturalProductCardSaid : Prop := Claim7.holds Tryd.pinned (.plain (OpenSpec.ofChange naturalProductSpec)) naturalProductCard

/-- THE TIED CARD OF 'sheavelaw01.NaturalPower'. -/
def naturalPowerCard : Claim7 := { stood := { row := naturalPowerRow, standIns := [], harness := (true, "4f5fae836c0706df07f189959de3c9fd2e77175eaeb497a600d8a197b6251759"), looks := true }, kinds := [], alts := [], laidByText := true, laidKinds := [.data, .data, .data, .sentinel, .sentinel], laidTests := true, laidLooks := .later }
def NaturalPowerCardSaid : Prop := Claim7.holds Tryd.pinned (.plain (OpenSpec.ofChange naturalPowerSpec)) naturalPowerCard

/-- THE TIED CARD OF 'sheavelaw01.NaturalGcd'. -/
def naturalGcdCard : Claim7 := { stood := { row := naturalGcdRow, standIns := [], harness := (true, "4f5fae836c0706df07f189959de3c9fd2e77175eaeb497a600d8a197b6251759"), looks := true }, kinds := [], alts := [], laidByText := true, laidKinds := [.data, .data, .data, .sentinel, .sentinel], laidTests := true, laidLooks := .later }
def NaturalGcdCardSaid : Prop := Claim7.holds Tryd.pinned (.plain (OpenSpec.ofChange naturalGcdSpec)) naturalGcdCard

/-- THE TIED CARD OF 'sheavelaw01.NaturalText'. -/
def naturalTextCard : Claim7 := { stood := { row := naturalTextRow, standIns := [], harness := (true, "4f5fae836c0706df07f189959de3c9fd2e77175eaeb497a600d8a197b6251759"), looks := true }, kinds := [], alts := [], laidByText := true, laidKinds := [.data, .data, .data, .sentinel, .sentinel], laidTests := true, laidLooks := .later }
def NaturalTextCardSaid : Prop := Claim7.holds Tryd.pinned (.plain (OpenSpec.ofChange naturalTextSpec)) naturalTextCard

/-- THE TIED CARD OF 'sheavelaw01.NaturalParse'. -/
def naturalParseCard : Claim7 := { stood := { row := naturalParseRow, standIns := [], harness := (true, "4f5fae836c0706df07f189959de3c9fd2e77175eaeb497a600d8a197b6251759"), looks := true }, kinds := [], alts := [], laidByText := true, laidKinds := [.data, .data, .data, .sentinel, .sentinel], laidTests := true, laidLooks := .later }
def NaturalParseCardSaid : Prop := Claim7.holds Tryd.pinned (.plain (OpenSpec.ofChange naturalParseSpec)) naturalParseCard

/-- THE TIED CARD OF 'sheavelaw01.NaturalValid'. -/
def naturalValidCard : Claim7 := { stood := { row := naturalValidRow, standIns := [], harness := (true, "4f5fae836c0706df07f189959de3c9fd2e77175eaeb497a600d8a197b6251759"), looks := true }, kinds := [], alts := [], laidByText := true, laidKinds := [.data, .data, .data, .sentinel, .sentinel], laidTests := true, laidLooks := .later }
def NaturalValidCardSaid : Prop := Claim7.holds Tryd.pinned (.plain (OpenSpec.ofChange naturalValidSpec)) naturalValidCard

/-- THE TIED CARD OF 'sheavelaw01.NaturalDivision'. -/
def naturalDivisionCard : Claim7 := { stood := { row := naturalDivisionRow, standIns := [], harness := (true, "4f5fae836c0706df07f189959de3c9fd2e77175eaeb497a600d8a197b6251759"), looks := true }, kinds := [], alts := [], laidByText := true, laidKinds := [.data, .data, .data, .sentinel, .sentinel], laidTests := true, laidLooks := .later }
def NaturalDivisionCardSaid : Prop := Claim7.holds Tryd.pinned (.plain (OpenSpec.ofChange naturalDivisionSpec)) naturalDivisionCard

/-- THE TIED CARD OF 'sheavelaw01.NaturalSum'. -/
def naturalSumCard : Claim7 := { stood := { row := naturalSumRow, standIns := [], harness := (true, "4f5fae836c0706df07f189959de3c9fd2e77175eaeb497a600d8a197b6251759"), looks := true }, kinds := [], alts := [], laidByText := true, laidKinds := [.data, .data, .data, .sentinel, .sentinel], laidTests := true, laidLooks := .later }
def NaturalSumCardSaid : Prop := Claim7.holds Tryd.pinned (.plain (OpenSpec.ofChange naturalSumSpec)) naturalSumCard

/-- THE SECOND FORM's CARD OF 'sheavelaw01.NaturalOf'. -/
def naturalOfUptoCard : Claim7 := { stood := { row := naturalOfUptoRow, standIns := [], harness := (true, "4f5fae836c0706df07f189959de3c9fd2e77175eaeb497a600d8a197b6251759"), looks := true }, kinds := [], alts := [], laidByText := true, laidKinds := [.data, .data, .data, .sentinel, .sentinel], laidTests := true, laidLooks := .later }
def NaturalOfUptoCardSaid : Prop := Claim7.holds Tryd.pinned (.plain (OpenSpec.upto naturalOfSpec)) naturalOfUptoCard

/-- THE SECOND FORM's CARD OF 'sheavelaw01.NaturalProduct'. -/
def naturalProductUptoCard : Claim7 := { stood := { row := naturalProductUptoRow, standIns := [], harness := (true, "4f5fae836c0706df07f189959de3c9fd2e77175eaeb497a600d8a197b6251759"), looks := true }, kinds := [], alts := [], laidByText := true, laidKinds := [.data, .data, .data, .sentinel, .sentinel], laidTests := true, laidLooks := .later }
def NaturalProductUptoCardSaid : Prop := Claim7.holds Tryd.pinned (.plain (OpenSpec.upto naturalProductSpec)) naturalProductUptoCard

/-- THE SECOND FORM's CARD OF 'sheavelaw01.NaturalPower'. -/
def naturalPowerUptoCard : Claim7 := { stood := { row := naturalPowerUptoRow, standIns := [], harness := (true, "4f5fae836c0706df07f189959de3c9fd2e77175eaeb497a600d8a197b6251759"), looks := true }, kinds := [], alts := [], laidByText := true, laidKinds := [.data, .data, .data, .sentinel, .sentinel], laidTests := true, laidLooks := .later }
def NaturalPowerUptoCardSaid : Prop := Claim7.holds Tryd.pinned (.plain (OpenSpec.upto naturalPowerSpec)) naturalPowerUptoCard

/-- THE SECOND FORM's CARD OF 'sheavelaw01.NaturalGcd'. -/
def naturalGcdUptoCard : Claim7 := { stood := { row := naturalGcdUptoRow, standIns := [], harness := (true, "4f5fae836c0706df07f189959de3c9fd2e77175eaeb497a600d8a197b6251759"), looks := true }, kinds := [], alts := [], laidByText := true, laidKinds := [.data, .data, .data, .sentinel, .sentinel], laidTests := true, laidLooks := .later }
def NaturalGcdUptoCardSaid : Prop := Claim7.holds Tryd.pinned (.plain (OpenSpec.upto naturalGcdSpec)) naturalGcdUptoCard

/-- THE SECOND FORM's CARD OF 'sheavelaw01.NaturalText'. -/
def naturalTextUptoCard : Claim7 := { stood := { row := naturalTextUptoRow, standIns := [], harness := (true, "4f5fae836c0706df07f189959de3c9fd2e77175eaeb497a600d8a197b6251759"), looks := true }, kinds := [], alts := [], laidByText := true, laidKinds := [.data, .data, .data, .sentinel, .sentinel], laidTests := true, laidLooks := .later }
def NaturalTextUptoCardSaid : Prop := Claim7.holds Tryd.pinned (.plain (OpenSpec.upto naturalTextSpec)) naturalTextUptoCard

/-- THE SECOND FORM's CARD OF 'sheavelaw01.NaturalParse'. -/
def naturalParseUptoCard : Claim7 := { stood := { row := naturalParseUptoRow, standIns := [], harness := (true, "4f5fae836c0706df07f189959de3c9fd2e77175eaeb497a600d8a197b6251759"), looks := true }, kinds := [], alts := [], laidByText := true, laidKinds := [.data, .data, .data, .sentinel, .sentinel], laidTests := true, laidLooks := .later }
def NaturalParseUptoCardSaid : Prop := Claim7.holds Tryd.pinned (.plain (OpenSpec.upto naturalParseSpec)) naturalParseUptoCard

/-- THE SECOND FORM's CARD OF 'sheavelaw01.NaturalValid'. -/
def naturalValidUptoCard : Claim7 := { stood := { row := naturalValidUptoRow, standIns := [], harness := (true, "4f5fae836c0706df07f189959de3c9fd2e77175eaeb497a600d8a197b6251759"), looks := true }, kinds := [], alts := [], laidByText := true, laidKinds := [.data, .data, .data, .sentinel, .sentinel], laidTests := true, laidLooks := .later }
def NaturalValidUptoCardSaid : Prop := Claim7.holds Tryd.pinned (.plain (OpenSpec.upto naturalValidSpec)) naturalValidUptoCard

/-- THE SECOND FORM's CARD OF 'sheavelaw01.NaturalDivision'. -/
def naturalDivisionUptoCard : Claim7 := { stood := { row := naturalDivisionUptoRow, standIns := [], harness := (true, "4f5fae836c0706df07f189959de3c9fd2e77175eaeb497a600d8a197b6251759"), looks := true }, kinds := [], alts := [], laidByText := true, laidKinds := [.data, .data, .data, .sentinel, .sentinel], laidTests := true, laidLooks := .later }
def NaturalDivisionUptoCardSaid : Prop := Claim7.holds Tryd.pinned (.plain (OpenSpec.upto naturalDivisionSpec)) naturalDivisionUptoCard

/-- THE SECOND FORM's CARD OF 'sheavelaw01.NaturalSum'. -/
def naturalSumUptoCard : Claim7 := { stood := { row := naturalSumUptoRow, standIns := [], harness := (true, "4f5fae836c0706df07f189959de3c9fd2e77175eaeb497a600d8a197b6251759"), looks := true }, kinds := [], alts := [], laidByText := true, laidKinds := [.data, .data, .data, .sentinel, .sentinel], laidTests := true, laidLooks := .later }
def NaturalSumUptoCardSaid : Prop := Claim7.holds Tryd.pinned (.plain (OpenSpec.upto naturalSumSpec)) naturalSumUptoCard
end Rows
end Go.Proofs.YtmkkjghmgbkdgaaDoor
