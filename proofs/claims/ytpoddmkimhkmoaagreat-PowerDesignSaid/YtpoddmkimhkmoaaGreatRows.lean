/-
  No cell of these rows narrows 'for every input' (looked for: loops, veiled, ifaces, maps, wideKeys, modest, calm, conditions, laid).
  DERIVED. THE GIVEN ROWS OF THIS SEAT. 2 by the template 'for every input the law returns true; each argument reads behind the call as it read before'; 0 by the template 'total and deterministic' (their statements: YtpoddmkimhkmoaaGreatTotals.lean).
  GIVEN WITH THE SEED: the statements are not yours to turn. If you find one false, say at which input.
  Laid BY PROGRAM, IN A SANDBOX (cutbox-rows.mjs): the forced cells as the released guide's own fill.sh prints them over the translation 123e931cb9d7d989… (all of the seat's roots in one cut). By AI agents, Wed Nov 11 2026. No macro, syntax, notation, axiom, sorry.
-/
import Derived.Test.YtpoddmkimhkmoaaGreatChecked
import GoSem.Claim
import GoSem.ClaimJoined
import GoSem.ClaimMapViews
import Derived.JoinedTies
import Derived.KernelRfl
namespace Go.Proofs.YtpoddmkimhkmoaaGreat
/- THE CELL 'sum', in the pinned program and in every row, IS THE sha256 OF THE DUMP (.gsa) THAT YtpoddmkimhkmoaaGreatProg.lean LOADS. Nothing in Lean hashes anything: it is a label: what it is worth is what the hold of that sum in a sandbox is worth. -/
noncomputable def Tryz.pinned : Pinned := { name := "ytpoddmkimhkmoaagreat", sum := "123e931cb9d7d989a1457a3e216e147c6d6d2d6a37591bef93bcc7f56175253c", checked := Tryz.checked }
namespace Rows
def none {H : Type} : Left H := { results := [], args := [] }

/-- 'sheavelaw46.PowerDesign': WHATEVER THE INPUT: true; the input reads as it did. -/
def powerDesignSpec : ChangeSpec := { name := "powerDesign", fn := fun _ => fun
  | [d1, d2] => { results := [.lit (.bool true)], args := [d1, d2] }
  | _ => none }
def powerDesignRow : OpenClaim := { program := "ytpoddmkimhkmoaagreat", sum := "123e931cb9d7d989a1457a3e216e147c6d6d2d6a37591bef93bcc7f56175253c", func := "sheave/sheavelaw46.PowerDesign", spec := "powerDesign", named := ["math/bits.overflowError"], apart := false }
def PowerDesignSaid : Prop := powerDesignRow.holds Tryz.pinned (OpenSpec.ofChange powerDesignSpec)

/-- ITS FALSE NEIGHBOUR: 'it returns false'. Refute it at one input. -/
def powerDesignWrong : ChangeSpec := { name := "powerDesign", fn := fun _ => fun
  | [d1, d2] => { results := [.lit (.bool false)], args := [d1, d2] }
  | _ => none }
def PowerDesignWrongFalsely : Prop := powerDesignRow.holds Tryz.pinned (OpenSpec.ofChange powerDesignWrong)

/-- 'sheavelaw46.PowerCheck': WHATEVER THE INPUT: true; the input reads as it did. -/
def powerCheckSpec : ChangeSpec := { name := "powerCheck", fn := fun _ => fun
  | [d1, d2] => { results := [.lit (.bool true)], args := [d1, d2] }
  | _ => none }
def powerCheckRow : OpenClaim := { program := "ytpoddmkimhkmoaagreat", sum := "123e931cb9d7d989a1457a3e216e147c6d6d2d6a37591bef93bcc7f56175253c", func := "sheave/sheavelaw46.PowerCheck", spec := "powerCheck", named := ["math/bits.overflowError"], apart := false }
def PowerCheckSaid : Prop := powerCheckRow.holds Tryz.pinned (OpenSpec.ofChange powerCheckSpec)

/-- ITS FALSE NEIGHBOUR: 'it returns false'. Refute it at one input. -/
def powerCheckWrong : ChangeSpec := { name := "powerCheck", fn := fun _ => fun
  | [d1, d2] => { results := [.lit (.bool false)], args := [d1, d2] }
  | _ => none }
def PowerCheckWrongFalsely : Prop := powerCheckRow.holds Tryz.pinned (OpenSpec.ofChange powerCheckWrong)

/- THE SECOND FORM. 'bulk': how many values and letters a reading holds, each counted each time it is reached (what is shared counts as often as it is met; a slice's spare places count too). A statement '..UptoSaid' is the law's where the arguments, and the package variables that the reading takes, are together of bulk at most 1048576: NARROWER than '..Said'. Prove '..Said' where nothing that the law and all that it calls make is longer than what came in: it says more and counts as full. Else prove '..UptoSaid'. A law counts once. -/
mutual
def uptoBulk {H : Type} : DataW H → Nat
  | .lit (.string bytes) => bytes.length + 1
  | .lit _ => 1
  | .nil => 1
  | .ptr d => uptoBulk d + 1
  | .slice elems spare => uptoBulkAll elems + uptoBulkAll spare + 1
  | .agg parts => uptoBulkAll parts + 1
  | .iface _ d => uptoBulk d + 1
  | .map entries => uptoBulkEntries entries + 1
  | .held _ => 1
def uptoBulkAll {H : Type} : List (DataW H) → Nat
  | [] => 0
  | d :: r => uptoBulk d + uptoBulkAll r
def uptoBulkEntries {H : Type} : List (Lit × DataW H) → Nat
  | [] => 0
  | x :: r => uptoBulkEntry x + uptoBulkEntries r
def uptoBulkEntry {H : Type} : Lit × DataW H → Nat
  | (.string bytes, d) => bytes.length + uptoBulk d + 1
  | (_, d) => uptoBulk d + 1
 end
def uptoSmall : (H : Type) → List (DataW H) → Bool := fun _ ds => decide (uptoBulkAll ds ≤ 1048576)
def OpenSpec.upto (s : _root_.Go.ChangeSpec) : _root_.Go.OpenSpec := { _root_.Go.OpenSpec.ofChange s with cond := some uptoSmall }

/-- 'sheavelaw46.PowerDesign', WHERE WHAT IT READS IS OF BULK AT MOST 1048576: true; the input reads as it did. -/
def powerDesignUptoRow : OpenClaim := { program := "ytpoddmkimhkmoaagreat", sum := "123e931cb9d7d989a1457a3e216e147c6d6d2d6a37591bef93bcc7f56175253c", func := "sheave/sheavelaw46.PowerDesign", spec := "powerDesign", named := ["math/bits.overflowError"], apart := false, narrowed := true }
def PowerDesignUptoSaid : Prop := powerDesignUptoRow.holds Tryz.pinned (OpenSpec.upto powerDesignSpec)

/-- 'sheavelaw46.PowerCheck', WHERE WHAT IT READS IS OF BULK AT MOST 1048576: true; the input reads as it did. -/
def powerCheckUptoRow : OpenClaim := { program := "ytpoddmkimhkmoaagreat", sum := "123e931cb9d7d989a1457a3e216e147c6d6d2d6a37591bef93bcc7f56175253c", func := "sheave/sheavelaw46.PowerCheck", spec := "powerCheck", named := ["math/bits.overflowError"], apart := false, narrowed := true }
def PowerCheckUptoSaid : Prop := powerCheckUptoRow.holds Tryz.pinned (OpenSpec.upto powerCheckSpec)

end Rows
end Go.Proofs.YtpoddmkimhkmoaaGreat
