/-
  THE ROW of the law PowerVerdicts: it returns true for every input, and the input reads behind the call as before.
  Conditions: none.
-/
import Derived.Test.YtpoddmkimhkmoaaLaw
import Derived.Test.YtpoddmkimhkmoaaPwOq
import Derived.Test.YtpoddmkimhkmoaaPwLc
namespace Go.Proofs.Ytpoddmkimhkmoaa
open Go.ChangeShapes Go.WideShapes Go.ChangeAt Go.RowKit Go.Sv

theorem own : ownKnob Try.prog.godebug = none := by kernel_rfl
theorem laidOut : laidOutB Try.prog = true := by kernel_rfl
theorem ok22 : Try.prog.readableRec 22 = true ∧ 22 < Try.prog.types.size := ⟨by kernel_rfl, of_decide_eq_true (by kernel_rfl)⟩
theorem ok38 : Try.prog.readableRec 38 = true ∧ 38 < Try.prog.types.size := ⟨by kernel_rfl, of_decide_eq_true (by kernel_rfl)⟩

set_option maxRecDepth 100000 in
theorem powerVerdicts_lifted (os : Os) (started : os.Started) (H : Type) (enc : TypeId × Value → H) :
    ReturnsInHanded {} Try.checked os 7 .any (Rows.powerVerdictsSpec.pre6 enc Try.prog Try.f7 Rows.powerVerdictsRow.domain false) (Rows.powerVerdictsSpec.post enc Try.prog Try.f7 false true false false) := by
  refine law_ret (C := Try.checked) (tb := 4) own started (by kernel_rfl) Try.func7
    (ChangeSpec.witness6 (enc := enc) (C := Try.checked) false ⟨#[], #[.slice none 0 0, .agg #[.int .u16 0, .int .u16 0]], []⟩ 8 (by kernel_rfl) (by kernel_rfl) (by kernel_rfl) (by kernel_rfl))
    laidOut ?_ rfl Try.underlying4 rfl ?_ ?_
  · intro t ht
    have ht : t ∈ [22, 38] := ht
    simp at ht
    rcases ht with rfl | rfl
    · exact ok22
    · exact ok38
  · intro ds hl
    match ds, hl with
    | [d1, d2], _ => rfl
  · intro W base args ds ps hval hA hlt _
    have hA : DataW.TrodAll enc Try.prog W 0 (fun _ => true) true [22, 38] args.toList ds ps := hA
    have hval : ∀ (j : Nat) t v, #[22, 38][j]? = some t → args[j]? = some v → Value.okWide Try.prog W .any base t v := hval
    obtain ⟨v0, v1, d0, d1, p0, p1, rfl, rfl, rfl, h0, h1⟩ := trodAll_two hA
    obtain ⟨A, l, c, rfl, hn, hb, ha⟩ := open_bytes (hval 0 22 v0 rfl rfl) h0 (fun x hx => hlt x (by simp [hx]))
    obtain ⟨cn, cd, rfl, hcn, hcd⟩ := open_chance (hval 1 38 v1 rfl rfl) h1
    exact law_verdicts l A c cn cd W hn hb ha hcn hcd

theorem powerVerdicts_holds : Rows.PowerVerdictsSaid :=
  OpenClaim.holds_of_wide 7 Try.f7 rfl rfl rfl rfl rfl rfl rfl ⟨rfl, rfl, rfl, rfl, rfl⟩ rfl rfl rfl rfl rfl (by kernel_rfl) Try.func7 (by kernel_rfl)
    (of_decide_eq_true (by kernel_rfl)) (by unfold Func.isWrapper; first | (rw [if_pos (by decide +kernel)]; kernel_rfl) | (rw [if_neg (by decide +kernel)]; exact ⟨rfl, rfl⟩))
    (fun os started H enc _ => powerVerdicts_lifted os started H enc)
#print axioms powerVerdicts_holds

end Go.Proofs.Ytpoddmkimhkmoaa
