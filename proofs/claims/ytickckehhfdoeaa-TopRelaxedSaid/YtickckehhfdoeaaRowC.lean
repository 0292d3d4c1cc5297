/-
  THE ROW of the law TopRelaxed: it returns true for every input, and the input reads behind the call as before.
  Conditions: none.
-/
import Derived.Test.YtickckehhfdoeaaLaw
import Derived.Test.YtickckehhfdoeaaOpenDu
import Derived.Test.YtickckehhfdoeaaTopRo
import Derived.Lib.SmallJoins
namespace Go.Proofs.Ytickckehhfdoeaa
open Go.ChangeShapes Go.WideShapes Go.ChangeAt Go.RowKit Go.Joins Go.Sv

theorem own : ownKnob Try.prog.godebug = none := by kernel_rfl
theorem laidOut : laidOutB Try.prog = true := by kernel_rfl
theorem ok32 : Try.prog.readableRec 32 = true ∧ 32 < Try.prog.types.size := ⟨by kernel_rfl, of_decide_eq_true (by kernel_rfl)⟩
theorem ok34 : Try.prog.readableRec 34 = true ∧ 34 < Try.prog.types.size := ⟨by kernel_rfl, of_decide_eq_true (by kernel_rfl)⟩
theorem ok35 : Try.prog.readableRec 35 = true ∧ 35 < Try.prog.types.size := ⟨by kernel_rfl, of_decide_eq_true (by kernel_rfl)⟩

set_option maxRecDepth 100000 in
theorem topRelaxed_lifted (os : Os) (started : os.Started) (H : Type) (enc : TypeId × Value → H) :
    ReturnsInHanded {} Try.checked os 4 .any (Rows.topRelaxedSpec.pre6 enc Try.prog Try.f4 Rows.topRelaxedRow.domain false) (Rows.topRelaxedSpec.post enc Try.prog Try.f4 false true false false) := by
  refine law_ret (C := Try.checked) (tb := 4) own started (by kernel_rfl) Try.func4
    (ChangeSpec.witness6 (enc := enc) (C := Try.checked) false ⟨#[], #[.agg #[.slice none 0 0, .slice none 0 0, .slice none 0 0, .slice none 0 0], .agg #[.slice none 0 0, .slice none 0 0, .slice none 0 0], .slice none 0 0], []⟩ 8 (by kernel_rfl) (by kernel_rfl) (by kernel_rfl) (by kernel_rfl))
    laidOut ?_ rfl Try.underlying4 rfl ?_ ?_
  · intro t ht
    have ht : t ∈ [32, 34, 35] := ht
    simp at ht
    rcases ht with rfl | rfl | rfl
    · exact ok32
    · exact ok34
    · exact ok35
  · intro ds hl
    match ds, hl with
    | [d1, d2, d3], _ => rfl
  · intro W base args ds ps hval hA hlt hz
    have hA : DataW.TrodAll enc Try.prog W 0 (fun _ => true) true [32, 34, 35] args.toList ds ps := hA
    have hval : ∀ (j : Nat) t v, #[32, 34, 35][j]? = some t → args[j]? = some v → Value.okWide Try.prog W .any base t v := hval
    obtain ⟨v0, v1, v2, d0, d1, d2, p0, p1, p2, rfl, rfl, rfl, h0, h1, h2⟩ := trodAll_three hA
    obtain ⟨d, q, rfl, hd, hbd⟩ := open_dra (hval 0 32 v0 rfl rfl) h0 (fun x hx => hlt x (by simp [hx]))
    obtain ⟨x, r, rfl, hx, hxb⟩ := open_dmx (hval 1 34 v1 rfl rfl) h1 (fun x hx => hlt x (by simp [hx]))
    obtain ⟨Am, ms, cm, rfl, h16, hm⟩ := open_u16s (hval 2 35 v2 rfl rfl) h2 (fun x hx => hlt x (by simp [hx]))
    exact law_relaxed d q x r Am cm ms W hd hbd hx hxb hm h16

theorem topRelaxed_holds : Rows.TopRelaxedSaid :=
  OpenClaim.holds_of_wide 4 Try.f4 rfl rfl rfl rfl rfl rfl rfl ⟨rfl, rfl, rfl, rfl, rfl⟩ rfl rfl rfl rfl rfl (by kernel_rfl) Try.func4 (by kernel_rfl)
    (of_decide_eq_true (by kernel_rfl)) (by unfold Func.isWrapper; first | (rw [if_pos (by decide +kernel)]; kernel_rfl) | (rw [if_neg (by decide +kernel)]; exact ⟨rfl, rfl⟩))
    (fun os started H enc _ => topRelaxed_lifted os started H enc)
#print axioms topRelaxed_holds

end Go.Proofs.Ytickckehhfdoeaa
