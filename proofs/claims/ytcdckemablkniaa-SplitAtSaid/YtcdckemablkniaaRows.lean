/-
  No cell of these rows narrows 'for every input' (looked for: loops, veiled, ifaces, maps, wideKeys, modest, calm, conditions, laid).
  DERIVED. THE GIVEN ROWS OF THIS SEAT. 7 by the template 'for every input the law returns true; each argument reads behind the call as it read before'; 0 by the template 'total and deterministic' (their statements: YtcdckemablkniaaTotals.lean).
  GIVEN WITH THE SEED: the statements are not yours to turn. If you find one false, say at which input.
  Laid BY PROGRAM, IN A SANDBOX (cutbox-rows.mjs): the forced cells as the released guide's own fill.sh prints them over the translation 6b27554f3489e5d6… (all of the seat's roots in one cut). By AI agents, Wed Nov 11 2026. No macro, syntax, notation, axiom, sorry.
-/
import Derived.Test.YtcdckemablkniaaChecked
import GoSem.Claim
import GoSem.ClaimJoined
import GoSem.ClaimMapViews
import Derived.JoinedTies
import Derived.KernelRfl
namespace Go.Proofs.Ytcdckemablkniaa
/- THE CELL 'sum', in the pinned program and in every row, IS THE sha256 OF THE DUMP (.gsa) THAT YtcdckemablkniaaProg.lean LOADS. Nothing in Lean hashes anything: it is a label: what it is worth is what the hold of that sum in a sandbox is worth. -/
noncomputable def Try.pinned : Pinned := { name := "ytcdckemablkniaa", sum := "6b27554f3489e5d6e93af1aefa2c3e40367c863d85ed2364715e28e35b996328", checked := Try.checked }
namespace Rows
def none {H : Type} : Left H := { results := [], args := [] }

/-- 'sheavelaw44.SplitNext': WHATEVER THE INPUT: true; the input reads as it did. -/
def splitNextSpec : ChangeSpec := { name := "splitNext", fn := fun _ => fun
  | [d1, d2] => { results := [.lit (.bool true)], args := [d1, d2] }
  | _ => none }
def splitNextRow : OpenClaim := { program := "ytcdckemablkniaa", sum := "6b27554f3489e5d6e93af1aefa2c3e40367c863d85ed2364715e28e35b996328", func := "sheave/sheavelaw44.SplitNext", spec := "splitNext", apart := false }
def SplitNextSaid : Prop := splitNextRow.holds Try.pinned (OpenSpec.ofChange splitNextSpec)

/-- ITS FALSE NEIGHBOUR: 'it returns false'. Refute it at one input. -/
def splitNextWrong : ChangeSpec := { name := "splitNext", fn := fun _ => fun
  | [d1, d2] => { results := [.lit (.bool false)], args := [d1, d2] }
  | _ => none }
def SplitNextWrongFalsely : Prop := splitNextRow.holds Try.pinned (OpenSpec.ofChange splitNextWrong)

/-- 'sheavelaw44.SplitCount': WHATEVER THE INPUT: true; the input reads as it did. -/
def splitCountSpec : ChangeSpec := { name := "splitCount", fn := fun _ => fun
  | [d1, d2] => { results := [.lit (.bool true)], args := [d1, d2] }
  | _ => none }
def splitCountRow : OpenClaim := { program := "ytcdckemablkniaa", sum := "6b27554f3489e5d6e93af1aefa2c3e40367c863d85ed2364715e28e35b996328", func := "sheave/sheavelaw44.SplitCount", spec := "splitCount", apart := false }
def SplitCountSaid : Prop := splitCountRow.holds Try.pinned (OpenSpec.ofChange splitCountSpec)

/-- ITS FALSE NEIGHBOUR: 'it returns false'. Refute it at one input. -/
def splitCountWrong : ChangeSpec := { name := "splitCount", fn := fun _ => fun
  | [d1, d2] => { results := [.lit (.bool false)], args := [d1, d2] }
  | _ => none }
def SplitCountWrongFalsely : Prop := splitCountRow.holds Try.pinned (OpenSpec.ofChange splitCountWrong)

/-- 'sheavelaw44.SplitPeriod': WHATEVER THE INPUT: true; the input reads as it did. -/
def splitPeriodSpec : ChangeSpec := { name := "splitPeriod", fn := fun _ => fun
  | [d1, d2] => { results := [.lit (.bool true)], args := [d1, d2] }
  | _ => none }
def splitPeriodRow : OpenClaim := { program := "ytcdckemablkniaa", sum := "6b27554f3489e5d6e93af1aefa2c3e40367c863d85ed2364715e28e35b996328", func := "sheave/sheavelaw44.SplitPeriod", spec := "splitPeriod", apart := false }
def SplitPeriodSaid : Prop := splitPeriodRow.holds Try.pinned (OpenSpec.ofChange splitPeriodSpec)

/-- ITS FALSE NEIGHBOUR: 'it returns false'. Refute it at one input. -/
def splitPeriodWrong : ChangeSpec := { name := "splitPeriod", fn := fun _ => fun
  | [d1, d2] => { results := [.lit (.bool false)], args := [d1, d2] }
  | _ => none }
def SplitPeriodWrongFalsely : Prop := splitPeriodRow.holds Try.pinned (OpenSpec.ofChange splitPeriodWrong)

/-- 'sheavelaw44.SplitStages': WHATEVER THE INPUT: true; the input reads as it did. -/
def splitStagesSpec : ChangeSpec := { name := "splitStages", fn := fun _ => fun
  | [d] => { results := [.lit (.bool true)], args := [d] }
  | _ => none }
def splitStagesRow : OpenClaim := { program := "ytcdckemablkniaa", sum := "6b27554f3489e5d6e93af1aefa2c3e40367c863d85ed2364715e28e35b996328", func := "sheave/sheavelaw44.SplitStages", spec := "splitStages", apart := false }
def SplitStagesSaid : Prop := splitStagesRow.holds Try.pinned (OpenSpec.ofChange splitStagesSpec)

/-- ITS FALSE NEIGHBOUR: 'it returns false'. Refute it at one input. -/
def splitStagesWrong : ChangeSpec := { name := "splitStages", fn := fun _ => fun
  | [d] => { results := [.lit (.bool false)], args := [d] }
  | _ => none }
def SplitStagesWrongFalsely : Prop := splitStagesRow.holds Try.pinned (OpenSpec.ofChange splitStagesWrong)

/-- 'sheavelaw44.SplitSticky': WHATEVER THE INPUT: true; the input reads as it did. -/
def splitStickySpec : ChangeSpec := { name := "splitSticky", fn := fun _ => fun
  | [d1, d2, d3] => { results := [.lit (.bool true)], args := [d1, d2, d3] }
  | _ => none }
def splitStickyRow : OpenClaim := { program := "ytcdckemablkniaa", sum := "6b27554f3489e5d6e93af1aefa2c3e40367c863d85ed2364715e28e35b996328", func := "sheave/sheavelaw44.SplitSticky", spec := "splitSticky", apart := false }
def SplitStickySaid : Prop := splitStickyRow.holds Try.pinned (OpenSpec.ofChange splitStickySpec)

/-- ITS FALSE NEIGHBOUR: 'it returns false'. Refute it at one input. -/
def splitStickyWrong : ChangeSpec := { name := "splitSticky", fn := fun _ => fun
  | [d1, d2, d3] => { results := [.lit (.bool false)], args := [d1, d2, d3] }
  | _ => none }
def SplitStickyWrongFalsely : Prop := splitStickyRow.holds Try.pinned (OpenSpec.ofChange splitStickyWrong)

/-- 'sheavelaw44.SplitRamp': WHATEVER THE INPUT: true; the input reads as it did. -/
def splitRampSpec : ChangeSpec := { name := "splitRamp", fn := fun _ => fun
  | [d] => { results := [.lit (.bool true)], args := [d] }
  | _ => none }
def splitRampRow : OpenClaim := { program := "ytcdckemablkniaa", sum := "6b27554f3489e5d6e93af1aefa2c3e40367c863d85ed2364715e28e35b996328", func := "sheave/sheavelaw44.SplitRamp", spec := "splitRamp", apart := false }
def SplitRampSaid : Prop := splitRampRow.holds Try.pinned (OpenSpec.ofChange splitRampSpec)

/-- ITS FALSE NEIGHBOUR: 'it returns false'. Refute it at one input. -/
def splitRampWrong : ChangeSpec := { name := "splitRamp", fn := fun _ => fun
  | [d] => { results := [.lit (.bool false)], args := [d] }
  | _ => none }
def SplitRampWrongFalsely : Prop := splitRampRow.holds Try.pinned (OpenSpec.ofChange splitRampWrong)

/-- 'sheavelaw44.SplitAt': WHATEVER THE INPUT: true; the input reads as it did. -/
def splitAtSpec : ChangeSpec := { name := "splitAt", fn := fun _ => fun
  | [d1, d2] => { results := [.lit (.bool true)], args := [d1, d2] }
  | _ => none }
def splitAtRow : OpenClaim := { program := "ytcdckemablkniaa", sum := "6b27554f3489e5d6e93af1aefa2c3e40367c863d85ed2364715e28e35b996328", func := "sheave/sheavelaw44.SplitAt", spec := "splitAt", apart := false }
def SplitAtSaid : Prop := splitAtRow.holds Try.pinned (OpenSpec.ofChange splitAtSpec)

/-- ITS FALSE NEIGHBOUR: 'it returns false'. Refute it at one input. -/
def splitAtWrong : ChangeSpec := { name := "splitAt", fn := fun _ => fun
  | [d1, d2] => { results := [.lit (.bool false)], args := [d1, d2] }
  | _ => none }
def SplitAtWrongFalsely : Prop := splitAtRow.holds Try.pinned (OpenSpec.ofChange splitAtWrong)

/- THE SECOND FORM. 'bulk': how many values and letters a reading holds, each counted each time it is reached (what is shared counts as often as it is met; a slice's spare places count too). A statement '..UptoSaid' is the law's where the arguments, and the package variables that the reading takes, are together of bulk at most 1048576: NARROWER than '..Said'. Prove '..Said' where nothing that the law and all that it calls make is longer than what came in: it says more and counts as full. Else prove '..UptoSaid'. A law counts once. -/
mutual
def uptoBulk {H : Type} : DataW H → Nat
  | .lit (.string bytes) => bytes.length + 1
  | .lit _ => 1
  | .nil => 1
  | .ptr d => uptoBulk d + 1
  | .slice elems spare => uptoBulkAll elems + uptoBulkAll spare + 1
  | .agg parts => uptoBulkAll parts + 1
  | .iface _ d => uptoBulk d + 1
  | .map entries => uptoBulkEntries entries + 1
  | .held _ => 1
def uptoBulkAll {H : Type} : List (DataW H) → Nat
  | [] => 0
  | d :: r => uptoBulk d + uptoBulkAll r
def uptoBulkEntries {H : Type} : List (Lit × DataW H) → Nat
  | [] => 0
  | x :: r => uptoBulkEntry x + uptoBulkEntries r
def uptoBulkEntry {H : Type} : Lit × DataW H → Nat
  | (.string bytes, d) => bytes.length + uptoBulk d + 1
  | (_, d) => uptoBulk d + 1
 end
def uptoSmall : (H : Type) → List (DataW H) → Bool := fun _ ds => decide (uptoBulkAll ds ≤ 1048576)
def OpenSpec.upto (s : _root_.Go.ChangeSpec) : _root_.Go.OpenSpec := { _root_.Go.OpenSpec.ofChange s with cond := some uptoSmall }

/-- 'sheavelaw44.SplitNext', WHERE WHAT IT READS IS OF BULK AT MOST 1048576: true; the input reads as it did. -/
def splitNextUptoRow : OpenClaim := { program := "ytcdckemablkniaa", sum := "6b27554f3489e5d6e93af1aefa2c3e40367c863d85ed2364715e28e35b996328", func := "sheave/sheavelaw44.SplitNext", spec := "splitNext", apart := false, narrowed := true }
def SplitNextUptoSaid : Prop := splitNextUptoRow.holds Try.pinned (OpenSpec.upto splitNextSpec)

/-- 'sheavelaw44.SplitCount', WHERE WHAT IT READS IS OF BULK AT MOST 1048576: true; the input reads as it did. -/
def splitCountUptoRow : OpenClaim := { program := "ytcdckemablkniaa", sum := "6b27554f3489e5d6e93af1aefa2c3e40367c863d85ed2364715e28e35b996328", func := "sheave/sheavelaw44.SplitCount", spec := "splitCount", apart := false, narrowed := true }
def SplitCountUptoSaid : Prop := splitCountUptoRow.holds Try.pinned (OpenSpec.upto splitCountSpec)

/-- 'sheavelaw44.SplitPeriod', WHERE WHAT IT READS IS OF BULK AT MOST 1048576: true; the input reads as it did. -/
def splitPeriodUptoRow : OpenClaim := { program := "ytcdckemablkniaa", sum := "6b27554f3489e5d6e93af1aefa2c3e40367c863d85ed2364715e28e35b996328", func := "sheave/sheavelaw44.SplitPeriod", spec := "splitPeriod", apart := false, narrowed := true }
def SplitPeriodUptoSaid : Prop := splitPeriodUptoRow.holds Try.pinned (OpenSpec.upto splitPeriodSpec)

/-- 'sheavelaw44.SplitStages', WHERE WHAT IT READS IS OF BULK AT MOST 1048576: true; the input reads as it did. -/
def splitStagesUptoRow : OpenClaim := { program := "ytcdckemablkniaa", sum := "6b27554f3489e5d6e93af1aefa2c3e40367c863d85ed2364715e28e35b996328", func := "sheave/sheavelaw44.SplitStages", spec := "splitStages", apart := false, narrowed := true }
def SplitStagesUptoSaid : Prop := splitStagesUptoRow.holds Try.pinned (OpenSpec.upto splitStagesSpec)

/-- 'sheavelaw44.SplitSticky', WHERE WHAT IT READS IS OF BULK AT MOST 1048576: true; the input reads as it did. -/
def splitStickyUptoRow : OpenClaim := { program := "ytcdckemablkniaa", sum := "6b27554f3489e5d6e93af1aefa2c3e40367c863d85ed2364715e28e35b996328", func := "sheave/sheavelaw44.SplitSticky", spec := "splitSticky", apart := false, narrowed := true }
def SplitStickyUptoSaid : Prop := splitStickyUptoRow.holds Try.pinned (OpenSpec.upto splitStickySpec)

/-- 'sheavelaw44.SplitRamp', WHERE WHAT IT READS IS OF BULK AT MOST 1048576: true; the input reads as it did. -/
def splitRampUptoRow : OpenClaim := { program := "ytcdckemablkniaa", sum := "6b27554f3489e5d6e93af1aefa2c3e40367c863d85ed2364715e28e35b996328", func := "sheave/sheavelaw44.SplitRamp", spec := "splitRamp", apart := false, narrowed := true }
def SplitRampUptoSaid : Prop := splitRampUptoRow.holds Try.pinned (OpenSpec.upto splitRampSpec)

/-- 'sheavelaw44.SplitAt', WHERE WHAT IT READS IS OF BULK AT MOST 1048576: true; the input reads as it did. -/
def splitAtUptoRow : OpenClaim := { program := "ytcdckemablkniaa", sum := "6b27554f3489e5d6e93af1aefa2c3e40367c863d85ed2364715e28e35b996328", func := "sheave/sheavelaw44.SplitAt", spec := "splitAt", apart := false, narrowed := true }
def SplitAtUptoSaid : Prop := splitAtUptoRow.holds Try.pinned (OpenSpec.upto splitAtSpec)

end Rows
end Go.Proofs.Ytcdckemablkniaa
