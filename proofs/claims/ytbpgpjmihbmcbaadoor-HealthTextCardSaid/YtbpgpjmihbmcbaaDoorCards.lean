/-
  DERIVED. GIVEN WITH THE SEED: THE CARDS: each row of YtbpgpjmihbmcbaaDoorRows.lean that lists a variable, with what it lists TIED to the program's text (the seventh form; the later family's looks); each row that meets fmt, with fmt's text TOLD by the authors' own Lean function (tested against real Go, not proved from fmt's source: count such statements apart). THE CARD IS WHAT COUNTS. Prove the row's statement (the work); the ties are given (YtbpgpjmihbmcbaaDoorTie.lean); close each card by the builder's one call (the guide's Derived/Test/ToyasCard.lean, 'card_holds'). Laid BY PROGRAM, IN A SANDBOX (cutbox-door.mjs). By AI agents, Wed Nov 11 2026. No macro, syntax, notation, axiom, sorry.
-/
import Derived.Test.YtbpgpjmihbmcbaaDoorRows
import GoSem.ClaimSeven
namespace Go.Proofs.YtbpgpjmihbmcbaaDoor
namespace Rows

/-- THE TIED CARD OF 'sheavelaw45.HealthFixed'. -/
def healthFixedCard : Claim7 := { stood := { row := healthFixedRow, standIns := [], harness := (true, "72ffc916d6e89cd0ec0da4f759f17396dcf84690b5983015d3c8469528ae22c9"), looks := true }, kinds := [], alts := [], laidByText := true, laidKinds := [.data, .data, .data], laidTests := true, laidLooks := .later }
def HealthFixedCardSaid : Prop := Claim7.holds Tryd.pinned (.plain (OpenSpec.ofChange healthFixedSpec)) healthFixedCard

/-- THE TIED CARD OF 'sheavelaw45.HealthLinear'. -/
def healthLinearCard : Claim7 := { stood := { row := healthLinearRow, standIns := [], harness := (true, "72ffc916d6e89cd0ec0da4f759f17396dcf84690b5983015d3c8469528ae22c9"), looks := true }, kinds := [], alts := [], laidByText := true, laidKinds := [.data, .data, .data], laidTests := true, laidLooks := .later }
def HealthLinearCardSaid : Prop := Claim7.holds Tryd.pinned (.plain (OpenSpec.ofChange healthLinearSpec)) healthLinearCard

/-- THE TIED CARD OF 'sheavelaw45.HealthCurtail'. -/
def healthCurtailCard : Claim7 := { stood := { row := healthCurtailRow, standIns := [], harness := (true, "72ffc916d6e89cd0ec0da4f759f17396dcf84690b5983015d3c8469528ae22c9"), looks := true }, kinds := [], alts := [], laidByText := true, laidKinds := [.data, .data, .data], laidTests := true, laidLooks := .later }
def HealthCurtailCardSaid : Prop := Claim7.holds Tryd.pinned (.plain (OpenSpec.ofChange healthCurtailSpec)) healthCurtailCard

/-- THE TIED CARD OF 'sheavelaw45.HealthEarlier'. -/
def healthEarlierCard : Claim7 := { stood := { row := healthEarlierRow, standIns := [], harness := (true, "72ffc916d6e89cd0ec0da4f759f17396dcf84690b5983015d3c8469528ae22c9"), looks := true }, kinds := [], alts := [], laidByText := true, laidKinds := [.data, .data, .data], laidTests := true, laidLooks := .later }
def HealthEarlierCardSaid : Prop := Claim7.holds Tryd.pinned (.plain (OpenSpec.ofChange healthEarlierSpec)) healthEarlierCard

/-- THE TIED CARD OF 'sheavelaw45.HealthVerdict'. -/
def healthVerdictCard : Claim7 := { stood := { row := healthVerdictRow, standIns := [], harness := (true, "72ffc916d6e89cd0ec0da4f759f17396dcf84690b5983015d3c8469528ae22c9"), looks := true }, kinds := [], alts := [], laidByText := true, laidKinds := [.data, .data, .data], laidTests := true, laidLooks := .later }
def HealthVerdictCardSaid : Prop := Claim7.holds Tryd.pinned (.plain (OpenSpec.ofChange healthVerdictSpec)) healthVerdictCard

/-- THE TIED CARD OF 'sheavelaw45.HealthDecide'. -/
def healthDecideCard : Claim7 := { stood := { row := healthDecideRow, standIns := [], harness := (true, "72ffc916d6e89cd0ec0da4f759f17396dcf84690b5983015d3c8469528ae22c9"), looks := true }, kinds := [], alts := [], laidByText := true, laidKinds := [.data, .data, .data], laidTests := true, laidLooks := .later }
def HealthDecideCardSaid : Prop := Claim7.holds Tryd.pinned (.plain (OpenSpec.ofChange healthDecideSpec)) healthDecideCard

/-- THE TIED CARD OF 'sheavelaw45.HealthAlways'. -/
def healthAlwaysCard : Claim7 := { stood := { row := healthAlwaysRow, standIns := [], harness := (true, "72ffc916d6e89cd0ec0da4f759f17396dcf84690b5983015d3c8469528ae22c9"), looks := true }, kinds := [], alts := [], laidByText := true, laidKinds := [.data, .data, .data], laidTests := true, laidLooks := .later }
def HealthAlwaysCardSaid : Prop := Claim7.holds Tryd.pinned (.plain (OpenSpec.ofChange healthAlwaysSpec)) healthAlwaysCard

/-- THE TIED CARD OF 'sheavelaw45.HealthText'. -/
def healthTextCard : Claim7 := { stood := { row := healthTextRow, standIns := [], harness := (true, "72ffc916d6e89cd0ec0da4f759f17396dcf84690b5983015d3c8469528ae22c9"), looks := true }, kinds := [], alts := [], laidByText := true, laidKinds := [.data, .data, .data, .data, .sentinel, .sentinel, .pinned], laidTests := true, laidLooks := .later }
def HealthTextCardSaid : Prop := Claim7.holds Tryd.pinned (.plain (OpenSpec.ofChange healthTextSpec)) healthTextCard

/-- THE SECOND FORM's CARD OF 'sheavelaw45.HealthFixed'. -/
def healthFixedUptoCard : Claim7 := { stood := { row := healthFixedUptoRow, standIns := [], harness := (true, "72ffc916d6e89cd0ec0da4f759f17396dcf84690b5983015d3c8469528ae22c9"), looks := true }, kinds := [], alts := [], laidByText := true, laidKinds := [.data, .data, .data], laidTests := true, laidLooks := .later }
def HealthFixedUptoCardSaid : Prop := Claim7.holds Tryd.pinned (.plain (OpenSpec.upto healthFixedSpec)) healthFixedUptoCard

/-- THE SECOND FORM's CARD OF 'sheavelaw45.HealthLinear'. -/
def healthLinearUptoCard : Claim7 := { stood := { row := healthLinearUptoRow, standIns := [], harness := (true, "72ffc916d6e89cd0ec0da4f759f17396dcf84690b5983015d3c8469528ae22c9"), looks := true }, kinds := [], alts := [], laidByText := true, laidKinds := [.data, .data, .data], laidTests := true, laidLooks := .later }
def HealthLinearUptoCardSaid : Prop := Claim7.holds Tryd.pinned (.plain (OpenSpec.upto healthLinearSpec)) healthLinearUptoCard

/-- THE SECOND FORM's CARD OF 'sheavelaw45.HealthCurtail'. -/
def healthCurtailUptoCard : Claim7 := { stood := { row := healthCurtailUptoRow, standIns := [], harness := (true, "72ffc916d6e89cd0ec0da4f759f17396dcf84690b5983015d3c8469528ae22c9"), looks := true }, kinds := [], alts := [], laidByText := true, laidKinds := [.data, .data, .data], laidTests := true, laidLooks := .later }
def HealthCurtailUptoCardSaid : Prop := Claim7.holds Tryd.pinned (.plain (OpenSpec.upto healthCurtailSpec)) healthCurtailUptoCard

/-- THE SECOND FORM's CARD OF 'sheavelaw45.HealthEarlier'. -/
def healthEarlierUptoCard : Claim7 := { stood := { row := healthEarlierUptoRow, standIns := [], harness := (true, "72ffc916d6e89cd0ec0da4f759f17396dcf84690b5983015d3c8469528ae22c9"), looks := true }, kinds := [], alts := [], laidByText := true, laidKinds := [.data, .data, .data], laidTests := true, laidLooks := .later }
def HealthEarlierUptoCardSaid : Prop := Claim7.holds Tryd.pinned (.plain (OpenSpec.upto healthEarlierSpec)) healthEarlierUptoCard

/-- THE SECOND FORM's CARD OF 'sheavelaw45.HealthVerdict'. -/
def healthVerdictUptoCard : Claim7 := { stood := { row := healthVerdictUptoRow, standIns := [], harness := (true, "72ffc916d6e89cd0ec0da4f759f17396dcf84690b5983015d3c8469528ae22c9"), looks := true }, kinds := [], alts := [], laidByText := true, laidKinds := [.data, .data, .data], laidTests := true, laidLooks := .later }
def HealthVerdictUptoCardSaid : Prop := Claim7.holds Tryd.pinned (.plain (OpenSpec.upto healthVerdictSpec)) healthVerdictUptoCard

/-- THE SECOND FORM's CARD OF 'sheavelaw45.HealthDecide'. -/
def healthDecideUptoCard : Claim7 := { stood := { row := healthDecideUptoRow, standIns := [], harness := (true, "72ffc916d6e89cd0ec0da4f759f17396dcf84690b5983015d3c8469528ae22c9"), looks := true }, kinds := [], alts := [], laidByText := true, laidKinds := [.data, .data, .data], laidTests := true, laidLooks := .later }
def HealthDecideUptoCardSaid : Prop := Claim7.holds Tryd.pinned (.plain (OpenSpec.upto healthDecideSpec)) healthDecideUptoCard

/-- THE SECOND FORM's CARD OF 'sheavelaw45.HealthAlways'. -/
def healthAlwaysUptoCard : Claim7 := { stood := { row := healthAlwaysUptoRow, standIns := [], harness := (true, "72ffc916d6e89cd0ec0da4f759f17396dcf84690b5983015d3c8469528ae22c9"), looks := true }, kinds := [], alts := [], laidByText := true, laidKinds := [.data, .data, .data], laidTests := true, laidLooks := .later }
def HealthAlwaysUptoCardSaid : Prop := Claim7.holds Tryd.pinned (.plain (OpenSpec.upto healthAlwaysSpec)) healthAlwaysUptoCard

/-- THE SECOND FORM's CARD OF 'sheavelaw45.HealthText'. -/
def healthTextUptoCard : Claim7 := { stood := { row := healthTextUptoRow, standIns := [], harness := (true, "72ffc916d6e89cd0ec0da4f759f17396dcf84690b5983015d3c8469528ae22c9"), looks := true }, kinds := [], alts := [], laidByText := true, laidKinds := [.data, .data, .data, .data, .sentinel, .sentinel, .pinned], laidTests := true, laidLooks := .later }
def HealthTextUptoCardSaid : Prop := Claim7.holds Tryd.pinned (.plain (OpenSpec.upto healthTextSpec)) healthTextUptoCard
end Rows
end Go.Proofs.YtbpgpjmihbmcbaaDoor
