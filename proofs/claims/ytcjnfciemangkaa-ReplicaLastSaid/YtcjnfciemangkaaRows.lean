/-
  No cell of these rows narrows 'for every input' (looked for: loops, veiled, ifaces, maps, wideKeys, modest, calm, conditions, laid).
  DERIVED. THE GIVEN ROWS OF THIS SEAT. 7 by the template 'for every input the law returns true; each argument reads behind the call as it read before'; 0 by the template 'total and deterministic' (their statements: YtcjnfciemangkaaTotals.lean).
  GIVEN WITH THE SEED: the statements are not yours to turn. If you find one false, say at which input.
  Laid BY PROGRAM, IN A SANDBOX (cutbox-rows.mjs): the forced cells as the released guide's own fill.sh prints them over the translation 24c13af5910cc655… (all of the seat's roots in one cut). By AI agents, Wed Nov 11 2026. No macro, syntax, notation, axiom, sorry.
-/
import Derived.Test.YtcjnfciemangkaaChecked
import GoSem.Claim
import GoSem.ClaimJoined
import GoSem.ClaimMapViews
import Derived.JoinedTies
import Derived.KernelRfl
namespace Go.Proofs.Ytcjnfciemangkaa
/- THE CELL 'sum', in the pinned program and in every row, IS THE sha256 OF THE DUMP (.gsa) THAT YtcjnfciemangkaaProg.lean LOADS. Nothing in Lean hashes anything: it is a label: what it is worth is what the hold of that sum in a sandbox is worth. -/
noncomputable def Try.pinned : Pinned := { name := "ytcjnfciemangkaa", sum := "24c13af5910cc655016b63927d32c4db3a4af07d7e70f89231a89f6a9a28f051", checked := Try.checked }
namespace Rows
def none {H : Type} : Left H := { results := [], args := [] }

/-- 'sheavelaw50.ReplicaStart': WHATEVER THE INPUT: true; the input reads as it did. -/
def replicaStartSpec : ChangeSpec := { name := "replicaStart", fn := fun _ => fun
  | [d1, d2] => { results := [.lit (.bool true)], args := [d1, d2] }
  | _ => none }
def replicaStartRow : OpenClaim := { program := "ytcjnfciemangkaa", sum := "24c13af5910cc655016b63927d32c4db3a4af07d7e70f89231a89f6a9a28f051", func := "sheave/sheavelaw50.ReplicaStart", spec := "replicaStart", unfollowed := true, recurses := true, apart := false }
def ReplicaStartSaid : Prop := replicaStartRow.holds Try.pinned (OpenSpec.ofChange replicaStartSpec)

/-- ITS FALSE NEIGHBOUR: 'it returns false'. Refute it at one input. -/
def replicaStartWrong : ChangeSpec := { name := "replicaStart", fn := fun _ => fun
  | [d1, d2] => { results := [.lit (.bool false)], args := [d1, d2] }
  | _ => none }
def ReplicaStartWrongFalsely : Prop := replicaStartRow.holds Try.pinned (OpenSpec.ofChange replicaStartWrong)

/-- 'sheavelaw50.ReplicaApply': WHATEVER THE INPUT: true; the input reads as it did. -/
def replicaApplySpec : ChangeSpec := { name := "replicaApply", fn := fun _ => fun
  | [d1, d2, d3] => { results := [.lit (.bool true)], args := [d1, d2, d3] }
  | _ => none }
def replicaApplyRow : OpenClaim := { program := "ytcjnfciemangkaa", sum := "24c13af5910cc655016b63927d32c4db3a4af07d7e70f89231a89f6a9a28f051", func := "sheave/sheavelaw50.ReplicaApply", spec := "replicaApply", unfollowed := true, recurses := true, apart := false }
def ReplicaApplySaid : Prop := replicaApplyRow.holds Try.pinned (OpenSpec.ofChange replicaApplySpec)

/-- ITS FALSE NEIGHBOUR: 'it returns false'. Refute it at one input. -/
def replicaApplyWrong : ChangeSpec := { name := "replicaApply", fn := fun _ => fun
  | [d1, d2, d3] => { results := [.lit (.bool false)], args := [d1, d2, d3] }
  | _ => none }
def ReplicaApplyWrongFalsely : Prop := replicaApplyRow.holds Try.pinned (OpenSpec.ofChange replicaApplyWrong)

/-- 'sheavelaw50.ReplicaPower': WHATEVER THE INPUT: true; the input reads as it did. -/
def replicaPowerSpec : ChangeSpec := { name := "replicaPower", fn := fun _ => fun
  | [d1, d2, d3] => { results := [.lit (.bool true)], args := [d1, d2, d3] }
  | _ => none }
def replicaPowerRow : OpenClaim := { program := "ytcjnfciemangkaa", sum := "24c13af5910cc655016b63927d32c4db3a4af07d7e70f89231a89f6a9a28f051", func := "sheave/sheavelaw50.ReplicaPower", spec := "replicaPower", unfollowed := true, recurses := true, apart := false }
def ReplicaPowerSaid : Prop := replicaPowerRow.holds Try.pinned (OpenSpec.ofChange replicaPowerSpec)

/-- ITS FALSE NEIGHBOUR: 'it returns false'. Refute it at one input. -/
def replicaPowerWrong : ChangeSpec := { name := "replicaPower", fn := fun _ => fun
  | [d1, d2, d3] => { results := [.lit (.bool false)], args := [d1, d2, d3] }
  | _ => none }
def ReplicaPowerWrongFalsely : Prop := replicaPowerRow.holds Try.pinned (OpenSpec.ofChange replicaPowerWrong)

/-- 'sheavelaw50.ReplicaRounds': WHATEVER THE INPUT: true; the input reads as it did. -/
def replicaRoundsSpec : ChangeSpec := { name := "replicaRounds", fn := fun _ => fun
  | [d1, d2, d3] => { results := [.lit (.bool true)], args := [d1, d2, d3] }
  | _ => none }
def replicaRoundsRow : OpenClaim := { program := "ytcjnfciemangkaa", sum := "24c13af5910cc655016b63927d32c4db3a4af07d7e70f89231a89f6a9a28f051", func := "sheave/sheavelaw50.ReplicaRounds", spec := "replicaRounds", unfollowed := true, recurses := true, apart := false }
def ReplicaRoundsSaid : Prop := replicaRoundsRow.holds Try.pinned (OpenSpec.ofChange replicaRoundsSpec)

/-- ITS FALSE NEIGHBOUR: 'it returns false'. Refute it at one input. -/
def replicaRoundsWrong : ChangeSpec := { name := "replicaRounds", fn := fun _ => fun
  | [d1, d2, d3] => { results := [.lit (.bool false)], args := [d1, d2, d3] }
  | _ => none }
def ReplicaRoundsWrongFalsely : Prop := replicaRoundsRow.holds Try.pinned (OpenSpec.ofChange replicaRoundsWrong)

/-- 'sheavelaw50.ReplicaLast': WHATEVER THE INPUT: true; the input reads as it did. -/
def replicaLastSpec : ChangeSpec := { name := "replicaLast", fn := fun _ => fun
  | [d1, d2, d3] => { results := [.lit (.bool true)], args := [d1, d2, d3] }
  | _ => none }
def replicaLastRow : OpenClaim := { program := "ytcjnfciemangkaa", sum := "24c13af5910cc655016b63927d32c4db3a4af07d7e70f89231a89f6a9a28f051", func := "sheave/sheavelaw50.ReplicaLast", spec := "replicaLast", unfollowed := true, recurses := true, apart := false }
def ReplicaLastSaid : Prop := replicaLastRow.holds Try.pinned (OpenSpec.ofChange replicaLastSpec)

/-- ITS FALSE NEIGHBOUR: 'it returns false'. Refute it at one input. -/
def replicaLastWrong : ChangeSpec := { name := "replicaLast", fn := fun _ => fun
  | [d1, d2, d3] => { results := [.lit (.bool false)], args := [d1, d2, d3] }
  | _ => none }
def ReplicaLastWrongFalsely : Prop := replicaLastRow.holds Try.pinned (OpenSpec.ofChange replicaLastWrong)

/-- 'sheavelaw50.ReplicaCrash': WHATEVER THE INPUT: true; the input reads as it did. -/
def replicaCrashSpec : ChangeSpec := { name := "replicaCrash", fn := fun _ => fun
  | [d1, d2, d3] => { results := [.lit (.bool true)], args := [d1, d2, d3] }
  | _ => none }
def replicaCrashRow : OpenClaim := { program := "ytcjnfciemangkaa", sum := "24c13af5910cc655016b63927d32c4db3a4af07d7e70f89231a89f6a9a28f051", func := "sheave/sheavelaw50.ReplicaCrash", spec := "replicaCrash", unfollowed := true, recurses := true, apart := false }
def ReplicaCrashSaid : Prop := replicaCrashRow.holds Try.pinned (OpenSpec.ofChange replicaCrashSpec)

/-- ITS FALSE NEIGHBOUR: 'it returns false'. Refute it at one input. -/
def replicaCrashWrong : ChangeSpec := { name := "replicaCrash", fn := fun _ => fun
  | [d1, d2, d3] => { results := [.lit (.bool false)], args := [d1, d2, d3] }
  | _ => none }
def ReplicaCrashWrongFalsely : Prop := replicaCrashRow.holds Try.pinned (OpenSpec.ofChange replicaCrashWrong)

/-- 'sheavelaw50.ReplicaOf': WHATEVER THE INPUT: true; the input reads as it did. -/
def replicaOfSpec : ChangeSpec := { name := "replicaOf", fn := fun _ => fun
  | [d1, d2, d3] => { results := [.lit (.bool true)], args := [d1, d2, d3] }
  | _ => none }
def replicaOfRow : OpenClaim := { program := "ytcjnfciemangkaa", sum := "24c13af5910cc655016b63927d32c4db3a4af07d7e70f89231a89f6a9a28f051", func := "sheave/sheavelaw50.ReplicaOf", spec := "replicaOf", unfollowed := true, recurses := true, apart := false }
def ReplicaOfSaid : Prop := replicaOfRow.holds Try.pinned (OpenSpec.ofChange replicaOfSpec)

/-- ITS FALSE NEIGHBOUR: 'it returns false'. Refute it at one input. -/
def replicaOfWrong : ChangeSpec := { name := "replicaOf", fn := fun _ => fun
  | [d1, d2, d3] => { results := [.lit (.bool false)], args := [d1, d2, d3] }
  | _ => none }
def ReplicaOfWrongFalsely : Prop := replicaOfRow.holds Try.pinned (OpenSpec.ofChange replicaOfWrong)

/- THE SECOND FORM. 'bulk': how many values and letters a reading holds, each counted each time it is reached (what is shared counts as often as it is met; a slice's spare places count too). A statement '..UptoSaid' is the law's where the arguments, and the package variables that the reading takes, are together of bulk at most 1048576: NARROWER than '..Said'. Prove '..Said' where nothing that the law and all that it calls make is longer than what came in: it says more and counts as full. Else prove '..UptoSaid'. A law counts once. -/
mutual
def uptoBulk {H : Type} : DataW H → Nat
  | .lit (.string bytes) => bytes.length + 1
  | .lit _ => 1
  | .nil => 1
  | .ptr d => uptoBulk d + 1
  | .slice elems spare => uptoBulkAll elems + uptoBulkAll spare + 1
  | .agg parts => uptoBulkAll parts + 1
  | .iface _ d => uptoBulk d + 1
  | .map entries => uptoBulkEntries entries + 1
  | .held _ => 1
def uptoBulkAll {H : Type} : List (DataW H) → Nat
  | [] => 0
  | d :: r => uptoBulk d + uptoBulkAll r
def uptoBulkEntries {H : Type} : List (Lit × DataW H) → Nat
  | [] => 0
  | x :: r => uptoBulkEntry x + uptoBulkEntries r
def uptoBulkEntry {H : Type} : Lit × DataW H → Nat
  | (.string bytes, d) => bytes.length + uptoBulk d + 1
  | (_, d) => uptoBulk d + 1
 end
def uptoSmall : (H : Type) → List (DataW H) → Bool := fun _ ds => decide (uptoBulkAll ds ≤ 1048576)
def OpenSpec.upto (s : _root_.Go.ChangeSpec) : _root_.Go.OpenSpec := { _root_.Go.OpenSpec.ofChange s with cond := some uptoSmall }

/-- 'sheavelaw50.ReplicaStart', WHERE WHAT IT READS IS OF BULK AT MOST 1048576: true; the input reads as it did. -/
def replicaStartUptoRow : OpenClaim := { program := "ytcjnfciemangkaa", sum := "24c13af5910cc655016b63927d32c4db3a4af07d7e70f89231a89f6a9a28f051", func := "sheave/sheavelaw50.ReplicaStart", spec := "replicaStart", unfollowed := true, recurses := true, apart := false, narrowed := true }
def ReplicaStartUptoSaid : Prop := replicaStartUptoRow.holds Try.pinned (OpenSpec.upto replicaStartSpec)

/-- 'sheavelaw50.ReplicaApply', WHERE WHAT IT READS IS OF BULK AT MOST 1048576: true; the input reads as it did. -/
def replicaApplyUptoRow : OpenClaim := { program := "ytcjnfciemangkaa", sum := "24c13af5910cc655016b63927d32c4db3a4af07d7e70f89231a89f6a9a28f051", func := "sheave/sheavelaw50.ReplicaApply", spec := "replicaApply", unfollowed := true, recurses := true, apart := false, narrowed := true }
def ReplicaApplyUptoSaid : Prop := replicaApplyUptoRow.holds Try.pinned (OpenSpec.upto replicaApplySpec)

/-- 'sheavelaw50.ReplicaPower', WHERE WHAT IT READS IS OF BULK AT MOST 1048576: true; the input reads as it did. -/
def replicaPowerUptoRow : OpenClaim := { program := "ytcjnfciemangkaa", sum := "24c13af5910cc655016b63927d32c4db3a4af07d7e70f89231a89f6a9a28f051", func := "sheave/sheavelaw50.ReplicaPower", spec := "replicaPower", unfollowed := true, recurses := true, apart := false, narrowed := true }
def ReplicaPowerUptoSaid : Prop := replicaPowerUptoRow.holds Try.pinned (OpenSpec.upto replicaPowerSpec)

/-- 'sheavelaw50.ReplicaRounds', WHERE WHAT IT READS IS OF BULK AT MOST 1048576: true; the input reads as it did. -/
def replicaRoundsUptoRow : OpenClaim := { program := "ytcjnfciemangkaa", sum := "24c13af5910cc655016b63927d32c4db3a4af07d7e70f89231a89f6a9a28f051", func := "sheave/sheavelaw50.ReplicaRounds", spec := "replicaRounds", unfollowed := true, recurses := true, apart := false, narrowed := true }
def ReplicaRoundsUptoSaid : Prop := replicaRoundsUptoRow.holds Try.pinned (OpenSpec.upto replicaRoundsSpec)

/-- 'sheavelaw50.ReplicaLast', WHERE WHAT IT READS IS OF BULK AT MOST 1048576: true; the input reads as it did. -/
def replicaLastUptoRow : OpenClaim := { program := "ytcjnfciemangkaa", sum := "24c13af5910cc655016b63927d32c4db3a4af07d7e70f89231a89f6a9a28f051", func := "sheave/sheavelaw50.ReplicaLast", spec := "replicaLast", unfollowed := true, recurses := true, apart := false, narrowed := true }
def ReplicaLastUptoSaid : Prop := replicaLastUptoRow.holds Try.pinned (OpenSpec.upto replicaLastSpec)

/-- 'sheavelaw50.ReplicaCrash', WHERE WHAT IT READS IS OF BULK AT MOST 1048576: true; the input reads as it did. -/
def replicaCrashUptoRow : OpenClaim := { program := "ytcjnfciemangkaa", sum := "24c13af5910cc655016b63927d32c4db3a4af07d7e70f89231a89f6a9a28f051", func := "sheave/sheavelaw50.ReplicaCrash", spec := "replicaCrash", unfollowed := true, recurses := true, apart := false, narrowed := true }
def ReplicaCrashUptoSaid : Prop := replicaCrashUptoRow.holds Try.pinned (OpenSpec.upto replicaCrashSpec)

/-- 'sheavelaw50.ReplicaOf', WHERE WHAT IT READS IS OF BULK AT MOST 1048576: true; the input reads as it did. -/
def replicaOfUptoRow : OpenClaim := { program := "ytcjnfciemangkaa", sum := "24c13af5910cc655016b63927d32c4db3a4af07d7e70f89231a89f6a9a28f051", func := "sheave/sheavelaw50.ReplicaOf", spec := "replicaOf", unfollowed := true, recurses := true, apart := false, narrowed := true }
def ReplicaOfUptoSaid : Prop := replicaOfUptoRow.holds Try.pinned (OpenSpec.upto replicaOfSpec)

end Rows
end Go.Proofs.Ytcjnfciemangkaa
