/-
  No cell of these rows narrows 'for every input' (looked for: loops, veiled, ifaces, maps, wideKeys, modest, calm, conditions, laid).
  DERIVED. THE GIVEN ROWS OF THIS SEAT. 3 by the template 'for every input the law returns true; each argument reads behind the call as it read before'; 0 by the template 'total and deterministic' (their statements: YtickckehhfdoeaaTotals.lean).
  GIVEN WITH THE SEED: the statements are not yours to turn. If you find one false, say at which input.
  Laid BY PROGRAM, IN A SANDBOX (cutbox-rows.mjs): the forced cells as the released guide's own fill.sh prints them over the translation 609d7cd43520eeac… (all of the seat's roots in one cut). By AI agents, Wed Nov 11 2026. No macro, syntax, notation, axiom, sorry.
-/
import Derived.Test.YtickckehhfdoeaaChecked
import GoSem.Claim
import GoSem.ClaimJoined
import GoSem.ClaimMapViews
import Derived.JoinedTies
import Derived.KernelRfl
namespace Go.Proofs.Ytickckehhfdoeaa
/- THE CELL 'sum', in the pinned program and in every row, IS THE sha256 OF THE DUMP (.gsa) THAT YtickckehhfdoeaaProg.lean LOADS. Nothing in Lean hashes anything: it is a label: what it is worth is what the hold of that sum in a sandbox is worth. -/
noncomputable def Try.pinned : Pinned := { name := "ytickckehhfdoeaa", sum := "609d7cd43520eeac0c887ce8b77142950b40043cf70b3f52339664db4b18b141", checked := Try.checked }
namespace Rows
def none {H : Type} : Left H := { results := [], args := [] }

/-- 'sheavetop.TopShares': WHATEVER THE INPUT: true; the input reads as it did. -/
def topSharesSpec : ChangeSpec := { name := "topShares", fn := fun _ => fun
  | [d1, d2, d3] => { results := [.lit (.bool true)], args := [d1, d2, d3] }
  | _ => none }
def topSharesRow : OpenClaim := { program := "ytickckehhfdoeaa", sum := "609d7cd43520eeac0c887ce8b77142950b40043cf70b3f52339664db4b18b141", func := "sheave/sheavetop.TopShares", spec := "topShares", unfollowed := true, recurses := true, apart := false }
def TopSharesSaid : Prop := topSharesRow.holds Try.pinned (OpenSpec.ofChange topSharesSpec)

/-- ITS FALSE NEIGHBOUR: 'it returns false'. Refute it at one input. -/
def topSharesWrong : ChangeSpec := { name := "topShares", fn := fun _ => fun
  | [d1, d2, d3] => { results := [.lit (.bool false)], args := [d1, d2, d3] }
  | _ => none }
def TopSharesWrongFalsely : Prop := topSharesRow.holds Try.pinned (OpenSpec.ofChange topSharesWrong)

/-- 'sheavetop.TopRelaxed': WHATEVER THE INPUT: true; the input reads as it did. -/
def topRelaxedSpec : ChangeSpec := { name := "topRelaxed", fn := fun _ => fun
  | [d1, d2, d3] => { results := [.lit (.bool true)], args := [d1, d2, d3] }
  | _ => none }
def topRelaxedRow : OpenClaim := { program := "ytickckehhfdoeaa", sum := "609d7cd43520eeac0c887ce8b77142950b40043cf70b3f52339664db4b18b141", func := "sheave/sheavetop.TopRelaxed", spec := "topRelaxed", unfollowed := true, recurses := true, apart := false }
def TopRelaxedSaid : Prop := topRelaxedRow.holds Try.pinned (OpenSpec.ofChange topRelaxedSpec)

/-- ITS FALSE NEIGHBOUR: 'it returns false'. Refute it at one input. -/
def topRelaxedWrong : ChangeSpec := { name := "topRelaxed", fn := fun _ => fun
  | [d1, d2, d3] => { results := [.lit (.bool false)], args := [d1, d2, d3] }
  | _ => none }
def TopRelaxedWrongFalsely : Prop := topRelaxedRow.holds Try.pinned (OpenSpec.ofChange topRelaxedWrong)

/-- 'sheavetop.TopAlong': WHATEVER THE INPUT: true; the input reads as it did. -/
def topAlongSpec : ChangeSpec := { name := "topAlong", fn := fun _ => fun
  | [d1, d2] => { results := [.lit (.bool true)], args := [d1, d2] }
  | _ => none }
def topAlongRow : OpenClaim := { program := "ytickckehhfdoeaa", sum := "609d7cd43520eeac0c887ce8b77142950b40043cf70b3f52339664db4b18b141", func := "sheave/sheavetop.TopAlong", spec := "topAlong", unfollowed := true, recurses := true, apart := false }
def TopAlongSaid : Prop := topAlongRow.holds Try.pinned (OpenSpec.ofChange topAlongSpec)

/-- ITS FALSE NEIGHBOUR: 'it returns false'. Refute it at one input. -/
def topAlongWrong : ChangeSpec := { name := "topAlong", fn := fun _ => fun
  | [d1, d2] => { results := [.lit (.bool false)], args := [d1, d2] }
  | _ => none }
def TopAlongWrongFalsely : Prop := topAlongRow.holds Try.pinned (OpenSpec.ofChange topAlongWrong)

/- THE SECOND FORM. 'bulk': how many values and letters a reading holds, each counted each time it is reached (what is shared counts as often as it is met; a slice's spare places count too). A statement '..UptoSaid' is the law's where the arguments, and the package variables that the reading takes, are together of bulk at most 1048576: NARROWER than '..Said'. Prove '..Said' where nothing that the law and all that it calls make is longer than what came in: it says more and counts as full. Else prove '..UptoSaid'. A law counts once. -/
mutual
def uptoBulk {H : Type} : DataW H → Nat
  | .lit (.string bytes) => bytes.length + 1
  | .lit _ => 1
  | .nil => 1
  | .ptr d => uptoBulk d + 1
  | .slice elems spare => uptoBulkAll elems + uptoBulkAll spare + 1
  | .agg parts => uptoBulkAll parts + 1
  | .iface _ d => uptoBulk d + 1
  | .map entries => uptoBulkEntries entries + 1
  | .held _ => 1
def uptoBulkAll {H : Type} : List (DataW H) → Nat
  | [] => 0
  | d :: r => uptoBulk d + uptoBulkAll r
def uptoBulkEntries {H : Type} : List (Lit × DataW H) → Nat
  | [] => 0
  | x :: r => uptoBulkEntry x + uptoBulkEntries r
def uptoBulkEntry {H : Type} : Lit × DataW H → Nat
  | (.string bytes, d) => bytes.length + uptoBulk d + 1
  | (_, d) => uptoBulk d + 1
 end
def uptoSmall : (H : Type) → List (DataW H) → Bool := fun _ ds => decide (uptoBulkAll ds ≤ 1048576)
def OpenSpec.upto (s : _root_.Go.ChangeSpec) : _root_.Go.OpenSpec := { _root_.Go.OpenSpec.ofChange s with cond := some uptoSmall }

/-- 'sheavetop.TopShares', WHERE WHAT IT READS IS OF BULK AT MOST 1048576: true; the input reads as it did. -/
def topSharesUptoRow : OpenClaim := { program := "ytickckehhfdoeaa", sum := "609d7cd43520eeac0c887ce8b77142950b40043cf70b3f52339664db4b18b141", func := "sheave/sheavetop.TopShares", spec := "topShares", unfollowed := true, recurses := true, apart := false, narrowed := true }
def TopSharesUptoSaid : Prop := topSharesUptoRow.holds Try.pinned (OpenSpec.upto topSharesSpec)

/-- 'sheavetop.TopRelaxed', WHERE WHAT IT READS IS OF BULK AT MOST 1048576: true; the input reads as it did. -/
def topRelaxedUptoRow : OpenClaim := { program := "ytickckehhfdoeaa", sum := "609d7cd43520eeac0c887ce8b77142950b40043cf70b3f52339664db4b18b141", func := "sheave/sheavetop.TopRelaxed", spec := "topRelaxed", unfollowed := true, recurses := true, apart := false, narrowed := true }
def TopRelaxedUptoSaid : Prop := topRelaxedUptoRow.holds Try.pinned (OpenSpec.upto topRelaxedSpec)

/-- 'sheavetop.TopAlong', WHERE WHAT IT READS IS OF BULK AT MOST 1048576: true; the input reads as it did. -/
def topAlongUptoRow : OpenClaim := { program := "ytickckehhfdoeaa", sum := "609d7cd43520eeac0c887ce8b77142950b40043cf70b3f52339664db4b18b141", func := "sheave/sheavetop.TopAlong", spec := "topAlong", unfollowed := true, recurses := true, apart := false, narrowed := true }
def TopAlongUptoSaid : Prop := topAlongUptoRow.holds Try.pinned (OpenSpec.upto topAlongSpec)

end Rows
end Go.Proofs.Ytickckehhfdoeaa
