/-
  THE ROW of the law TopAlong: it returns true for every input, and the input reads behind the call as before.
  Conditions: none.
-/
import Derived.Test.YtickckehhfdoeaaLaw
import Derived.Test.YtickckehhfdoeaaOpenDt
import Derived.Test.YtickckehhfdoeaaTopZ
import Derived.Lib.SmallJoins
namespace Go.Proofs.Ytickckehhfdoeaa
open Go.ChangeShapes Go.WideShapes Go.ChangeAt Go.RowKit Go.Joins Go.Sv

theorem own : ownKnob Try.prog.godebug = none := by kernel_rfl
theorem laidOut : laidOutB Try.prog = true := by kernel_rfl
theorem ok32 : Try.prog.readableRec 32 = true ∧ 32 < Try.prog.types.size := ⟨by kernel_rfl, of_decide_eq_true (by kernel_rfl)⟩
theorem ok29 : Try.prog.readableRec 29 = true ∧ 29 < Try.prog.types.size := ⟨by kernel_rfl, of_decide_eq_true (by kernel_rfl)⟩

set_option maxRecDepth 100000 in
theorem topAlong_lifted (os : Os) (started : os.Started) (H : Type) (enc : TypeId × Value → H) :
    ReturnsInHanded {} Try.checked os 5 .any (Rows.topAlongSpec.pre6 enc Try.prog Try.f5 Rows.topAlongRow.domain false) (Rows.topAlongSpec.post enc Try.prog Try.f5 false true false false) := by
  refine law_ret (C := Try.checked) (tb := 4) own started (by kernel_rfl) Try.func5
    (ChangeSpec.witness6 (enc := enc) (C := Try.checked) false ⟨#[], #[.agg #[.slice none 0 0, .slice none 0 0, .slice none 0 0, .slice none 0 0], .slice none 0 0], []⟩ 8 (by kernel_rfl) (by kernel_rfl) (by kernel_rfl) (by kernel_rfl))
    laidOut ?_ rfl Try.underlying4 rfl ?_ ?_
  · intro t ht
    have ht : t ∈ [32, 29] := ht
    simp at ht
    rcases ht with rfl | rfl
    · exact ok32
    · exact ok29
  · intro ds hl
    match ds, hl with
    | [d1, d2], _ => rfl
  · intro W base args ds ps hval hA hlt hz
    have hA : DataW.TrodAll enc Try.prog W 0 (fun _ => true) true [32, 29] args.toList ds ps := hA
    have hval : ∀ (j : Nat) t v, #[32, 29][j]? = some t → args[j]? = some v → Value.okWide Try.prog W .any base t v := hval
    obtain ⟨v0, v1, d0, d1, p0, p1, rfl, rfl, rfl, h0, h1⟩ := trodAll_two hA
    obtain ⟨d, q, rfl, hd, hbd⟩ := open_dra (hval 0 32 v0 rfl rfl) h0 (fun x hx => hlt x (by simp [hx]))
    obtain ⟨Ac, cs, cc, rfl, h8, hc⟩ := open_codes (hval 1 29 v1 rfl rfl) h1 (fun x hx => hlt x (by simp [hx]))
    exact law_along d q Ac cc cs W hd hbd hc h8

theorem topAlong_holds : Rows.TopAlongSaid :=
  OpenClaim.holds_of_wide 5 Try.f5 rfl rfl rfl rfl rfl rfl rfl ⟨rfl, rfl, rfl, rfl, rfl⟩ rfl rfl rfl rfl rfl (by kernel_rfl) Try.func5 (by kernel_rfl)
    (of_decide_eq_true (by kernel_rfl)) (by unfold Func.isWrapper; first | (rw [if_pos (by decide +kernel)]; kernel_rfl) | (rw [if_neg (by decide +kernel)]; exact ⟨rfl, rfl⟩))
    (fun os started H enc _ => topAlong_lifted os started H enc)
#print axioms topAlong_holds

end Go.Proofs.Ytickckehhfdoeaa
