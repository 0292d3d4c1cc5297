/-
  No cell of these rows narrows 'for every input' (looked for: loops, veiled, ifaces, maps, wideKeys, modest, calm, conditions, laid).
  DERIVED. THE GIVEN ROWS OF THIS SEAT. 5 by the template 'for every input the law returns true; each argument reads behind the call as it read before'; 0 by the template 'total and deterministic' (their statements: YtpoddmkimhkmoaaTotals.lean).
  GIVEN WITH THE SEED: the statements are not yours to turn. If you find one false, say at which input.
  Laid BY PROGRAM, IN A SANDBOX (cutbox-rows.mjs): the forced cells as the released guide's own fill.sh prints them over the translation 5166842b53945caf… (all of the seat's roots in one cut). By AI agents, Wed Nov 11 2026. No macro, syntax, notation, axiom, sorry.
-/
import Derived.Test.YtpoddmkimhkmoaaChecked
import GoSem.Claim
import GoSem.ClaimJoined
import GoSem.ClaimMapViews
import Derived.JoinedTies
import Derived.KernelRfl
namespace Go.Proofs.Ytpoddmkimhkmoaa
/- THE CELL 'sum', in the pinned program and in every row, IS THE sha256 OF THE DUMP (.gsa) THAT YtpoddmkimhkmoaaProg.lean LOADS. Nothing in Lean hashes anything: it is a label: what it is worth is what the hold of that sum in a sandbox is worth. -/
noncomputable def Try.pinned : Pinned := { name := "ytpoddmkimhkmoaa", sum := "5166842b53945caf459a8a2525446c43cdb8f254941b5e80f4a7e50ac81ad7f8", checked := Try.checked }
namespace Rows
def none {H : Type} : Left H := { results := [], args := [] }

/-- 'sheavelaw46.PowerPaths': WHATEVER THE INPUT: true; the input reads as it did. -/
def powerPathsSpec : ChangeSpec := { name := "powerPaths", fn := fun _ => fun
  | [d] => { results := [.lit (.bool true)], args := [d] }
  | _ => none }
def powerPathsRow : OpenClaim := { program := "ytpoddmkimhkmoaa", sum := "5166842b53945caf459a8a2525446c43cdb8f254941b5e80f4a7e50ac81ad7f8", func := "sheave/sheavelaw46.PowerPaths", spec := "powerPaths", named := ["math/bits.overflowError"], apart := false }
def PowerPathsSaid : Prop := powerPathsRow.holds Try.pinned (OpenSpec.ofChange powerPathsSpec)

/-- ITS FALSE NEIGHBOUR: 'it returns false'. Refute it at one input. -/
def powerPathsWrong : ChangeSpec := { name := "powerPaths", fn := fun _ => fun
  | [d] => { results := [.lit (.bool false)], args := [d] }
  | _ => none }
def PowerPathsWrongFalsely : Prop := powerPathsRow.holds Try.pinned (OpenSpec.ofChange powerPathsWrong)

/-- 'sheavelaw46.PowerExpected': WHATEVER THE INPUT: true; the input reads as it did. -/
def powerExpectedSpec : ChangeSpec := { name := "powerExpected", fn := fun _ => fun
  | [d1, d2] => { results := [.lit (.bool true)], args := [d1, d2] }
  | _ => none }
def powerExpectedRow : OpenClaim := { program := "ytpoddmkimhkmoaa", sum := "5166842b53945caf459a8a2525446c43cdb8f254941b5e80f4a7e50ac81ad7f8", func := "sheave/sheavelaw46.PowerExpected", spec := "powerExpected", named := ["math/bits.overflowError"], apart := false }
def PowerExpectedSaid : Prop := powerExpectedRow.holds Try.pinned (OpenSpec.ofChange powerExpectedSpec)

/-- ITS FALSE NEIGHBOUR: 'it returns false'. Refute it at one input. -/
def powerExpectedWrong : ChangeSpec := { name := "powerExpected", fn := fun _ => fun
  | [d1, d2] => { results := [.lit (.bool false)], args := [d1, d2] }
  | _ => none }
def PowerExpectedWrongFalsely : Prop := powerExpectedRow.holds Try.pinned (OpenSpec.ofChange powerExpectedWrong)

/-- 'sheavelaw46.PowerFixed': WHATEVER THE INPUT: true; the input reads as it did. -/
def powerFixedSpec : ChangeSpec := { name := "powerFixed", fn := fun _ => fun
  | [d1, d2] => { results := [.lit (.bool true)], args := [d1, d2] }
  | _ => none }
def powerFixedRow : OpenClaim := { program := "ytpoddmkimhkmoaa", sum := "5166842b53945caf459a8a2525446c43cdb8f254941b5e80f4a7e50ac81ad7f8", func := "sheave/sheavelaw46.PowerFixed", spec := "powerFixed", named := ["math/bits.overflowError"], apart := false }
def PowerFixedSaid : Prop := powerFixedRow.holds Try.pinned (OpenSpec.ofChange powerFixedSpec)

/-- ITS FALSE NEIGHBOUR: 'it returns false'. Refute it at one input. -/
def powerFixedWrong : ChangeSpec := { name := "powerFixed", fn := fun _ => fun
  | [d1, d2] => { results := [.lit (.bool false)], args := [d1, d2] }
  | _ => none }
def PowerFixedWrongFalsely : Prop := powerFixedRow.holds Try.pinned (OpenSpec.ofChange powerFixedWrong)

/-- 'sheavelaw46.PowerErrors': WHATEVER THE INPUT: true; the input reads as it did. -/
def powerErrorsSpec : ChangeSpec := { name := "powerErrors", fn := fun _ => fun
  | [d1, d2] => { results := [.lit (.bool true)], args := [d1, d2] }
  | _ => none }
def powerErrorsRow : OpenClaim := { program := "ytpoddmkimhkmoaa", sum := "5166842b53945caf459a8a2525446c43cdb8f254941b5e80f4a7e50ac81ad7f8", func := "sheave/sheavelaw46.PowerErrors", spec := "powerErrors", named := ["math/bits.overflowError"], apart := false }
def PowerErrorsSaid : Prop := powerErrorsRow.holds Try.pinned (OpenSpec.ofChange powerErrorsSpec)

/-- ITS FALSE NEIGHBOUR: 'it returns false'. Refute it at one input. -/
def powerErrorsWrong : ChangeSpec := { name := "powerErrors", fn := fun _ => fun
  | [d1, d2] => { results := [.lit (.bool false)], args := [d1, d2] }
  | _ => none }
def PowerErrorsWrongFalsely : Prop := powerErrorsRow.holds Try.pinned (OpenSpec.ofChange powerErrorsWrong)

/-- 'sheavelaw46.PowerVerdicts': WHATEVER THE INPUT: true; the input reads as it did. -/
def powerVerdictsSpec : ChangeSpec := { name := "powerVerdicts", fn := fun _ => fun
  | [d1, d2] => { results := [.lit (.bool true)], args := [d1, d2] }
  | _ => none }
def powerVerdictsRow : OpenClaim := { program := "ytpoddmkimhkmoaa", sum := "5166842b53945caf459a8a2525446c43cdb8f254941b5e80f4a7e50ac81ad7f8", func := "sheave/sheavelaw46.PowerVerdicts", spec := "powerVerdicts", named := ["math/bits.overflowError"], apart := false }
def PowerVerdictsSaid : Prop := powerVerdictsRow.holds Try.pinned (OpenSpec.ofChange powerVerdictsSpec)

/-- ITS FALSE NEIGHBOUR: 'it returns false'. Refute it at one input. -/
def powerVerdictsWrong : ChangeSpec := { name := "powerVerdicts", fn := fun _ => fun
  | [d1, d2] => { results := [.lit (.bool false)], args := [d1, d2] }
  | _ => none }
def PowerVerdictsWrongFalsely : Prop := powerVerdictsRow.holds Try.pinned (OpenSpec.ofChange powerVerdictsWrong)

/- THE SECOND FORM. 'bulk': how many values and letters a reading holds, each counted each time it is reached (what is shared counts as often as it is met; a slice's spare places count too). A statement '..UptoSaid' is the law's where the arguments, and the package variables that the reading takes, are together of bulk at most 1048576: NARROWER than '..Said'. Prove '..Said' where nothing that the law and all that it calls make is longer than what came in: it says more and counts as full. Else prove '..UptoSaid'. A law counts once. -/
mutual
def uptoBulk {H : Type} : DataW H → Nat
  | .lit (.string bytes) => bytes.length + 1
  | .lit _ => 1
  | .nil => 1
  | .ptr d => uptoBulk d + 1
  | .slice elems spare => uptoBulkAll elems + uptoBulkAll spare + 1
  | .agg parts => uptoBulkAll parts + 1
  | .iface _ d => uptoBulk d + 1
  | .map entries => uptoBulkEntries entries + 1
  | .held _ => 1
def uptoBulkAll {H : Type} : List (DataW H) → Nat
  | [] => 0
  | d :: r => uptoBulk d + uptoBulkAll r
def uptoBulkEntries {H : Type} : List (Lit × DataW H) → Nat
  | [] => 0
  | x :: r => uptoBulkEntry x + uptoBulkEntries r
def uptoBulkEntry {H : Type} : Lit × DataW H → Nat
  | (.string bytes, d) => bytes.length + uptoBulk d + 1
  | (_, d) => uptoBulk d + 1
 end
def uptoSmall : (H : Type) → List (DataW H) → Bool := fun _ ds => decide (uptoBulkAll ds ≤ 1048576)
def OpenSpec.upto (s : _root_.Go.ChangeSpec) : _root_.Go.OpenSpec := { _root_.Go.OpenSpec.ofChange s with cond := some uptoSmall }

/-- 'sheavelaw46.PowerPaths', WHERE WHAT IT READS IS OF BULK AT MOST 1048576: true; the input reads as it did. -/
def powerPathsUptoRow : OpenClaim := { program := "ytpoddmkimhkmoaa", sum := "5166842b53945caf459a8a2525446c43cdb8f254941b5e80f4a7e50ac81ad7f8", func := "sheave/sheavelaw46.PowerPaths", spec := "powerPaths", named := ["math/bits.overflowError"], apart := false, narrowed := true }
def PowerPathsUptoSaid : Prop := powerPathsUptoRow.holds Try.pinned (OpenSpec.upto powerPathsSpec)

/-- 'sheavelaw46.PowerExpected', WHERE WHAT IT READS IS OF BULK AT MOST 1048576: true; the input reads as it did. -/
def powerExpectedUptoRow : OpenClaim := { program := "ytpoddmkimhkmoaa", sum := "5166842b53945caf459a8a2525446c43cdb8f254941b5e80f4a7e50ac81ad7f8", func := "sheave/sheavelaw46.PowerExpected", spec := "powerExpected", named := ["math/bits.overflowError"], apart := false, narrowed := true }
def PowerExpectedUptoSaid : Prop := powerExpectedUptoRow.holds Try.pinned (OpenSpec.upto powerExpectedSpec)

/-- 'sheavelaw46.PowerFixed', WHERE WHAT IT READS IS OF BULK AT MOST 1048576: true; the input reads as it did. -/
def powerFixedUptoRow : OpenClaim := { program := "ytpoddmkimhkmoaa", sum := "5166842b53945caf459a8a2525446c43cdb8f254941b5e80f4a7e50ac81ad7f8", func := "sheave/sheavelaw46.PowerFixed", spec := "powerFixed", named := ["math/bits.overflowError"], apart := false, narrowed := true }
def PowerFixedUptoSaid : Prop := powerFixedUptoRow.holds Try.pinned (OpenSpec.upto powerFixedSpec)

/-- 'sheavelaw46.PowerErrors', WHERE WHAT IT READS IS OF BULK AT MOST 1048576: true; the input reads as it did. -/
def powerErrorsUptoRow : OpenClaim := { program := "ytpoddmkimhkmoaa", sum := "5166842b53945caf459a8a2525446c43cdb8f254941b5e80f4a7e50ac81ad7f8", func := "sheave/sheavelaw46.PowerErrors", spec := "powerErrors", named := ["math/bits.overflowError"], apart := false, narrowed := true }
def PowerErrorsUptoSaid : Prop := powerErrorsUptoRow.holds Try.pinned (OpenSpec.upto powerErrorsSpec)

/-- 'sheavelaw46.PowerVerdicts', WHERE WHAT IT READS IS OF BULK AT MOST 1048576: true; the input reads as it did. -/
def powerVerdictsUptoRow : OpenClaim := { program := "ytpoddmkimhkmoaa", sum := "5166842b53945caf459a8a2525446c43cdb8f254941b5e80f4a7e50ac81ad7f8", func := "sheave/sheavelaw46.PowerVerdicts", spec := "powerVerdicts", named := ["math/bits.overflowError"], apart := false, narrowed := true }
def PowerVerdictsUptoSaid : Prop := powerVerdictsUptoRow.holds Try.pinned (OpenSpec.upto powerVerdictsSpec)

end Rows
end Go.Proofs.Ytpoddmkimhkmoaa
