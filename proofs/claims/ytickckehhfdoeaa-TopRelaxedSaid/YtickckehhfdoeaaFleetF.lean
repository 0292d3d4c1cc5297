/-
  CONTRACT of the reference's Few: it answers, whatever the problem.
  Conditions: those that each theorem names.
-/
import Derived.Test.YtickckehhfdoeaaFleetE
namespace Go.Proofs.Ytickckehhfdoeaa
open Go.RowKit Go.Sv

def BoolR (w : World) (v : Value) (w' : World) : Prop := ∃ b : Bool, v = .bool b ∧ Below w.heap.size w w'
theorem BoolR.mk {w w' : World} {b : Bool} (h : Below w.heap.size w w') : BoolR w (.bool b) w' := ⟨b, rfl, h⟩

end Go.Proofs.Ytickckehhfdoeaa
