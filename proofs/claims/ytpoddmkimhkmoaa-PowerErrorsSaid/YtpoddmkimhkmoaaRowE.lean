/-
  THE ROW of the law PowerErrors: it returns true for every input, and the input reads behind the call as before.
  Conditions: none.
-/
import Derived.Test.YtpoddmkimhkmoaaLaw
import Derived.Test.YtpoddmkimhkmoaaPwOp
import Derived.Test.YtpoddmkimhkmoaaPwLe
namespace Go.Proofs.Ytpoddmkimhkmoaa
open Go.ChangeShapes Go.WideShapes Go.ChangeAt Go.RowKit Go.Sv

theorem own : ownKnob Try.prog.godebug = none := by kernel_rfl
theorem laidOut : laidOutB Try.prog = true := by kernel_rfl
theorem ok25 : Try.prog.readableRec 25 = true ∧ 25 < Try.prog.types.size := ⟨by kernel_rfl, of_decide_eq_true (by kernel_rfl)⟩
theorem ok43 : Try.prog.readableRec 43 = true ∧ 43 < Try.prog.types.size := ⟨by kernel_rfl, of_decide_eq_true (by kernel_rfl)⟩

set_option maxRecDepth 100000 in
theorem powerErrors_lifted (os : Os) (started : os.Started) (H : Type) (enc : TypeId × Value → H) :
    ReturnsInHanded {} Try.checked os 6 .any (Rows.powerErrorsSpec.pre6 enc Try.prog Try.f6 Rows.powerErrorsRow.domain false) (Rows.powerErrorsSpec.post enc Try.prog Try.f6 false true false false) := by
  refine law_ret (C := Try.checked) (tb := 4) own started (by kernel_rfl) Try.func6
    (ChangeSpec.witness6 (enc := enc) (C := Try.checked) false ⟨#[], #[.agg #[.slice none 0 0, .slice none 0 0], .agg #[.slice none 0 0, .slice none 0 0]], []⟩ 8 (by kernel_rfl) (by kernel_rfl) (by kernel_rfl) (by kernel_rfl))
    laidOut ?_ rfl Try.underlying4 rfl ?_ ?_
  · intro t ht
    have ht : t ∈ [25, 43] := ht
    simp at ht
    rcases ht with rfl | rfl
    · exact ok25
    · exact ok43
  · intro ds hl
    match ds, hl with
    | [d1, d2], _ => rfl
  · intro W base args ds ps hval hA hlt _
    have hA : DataW.TrodAll enc Try.prog W 0 (fun _ => true) true [25, 43] args.toList ds ps := hA
    have hval : ∀ (j : Nat) t v, #[25, 43][j]? = some t → args[j]? = some v → Value.okWide Try.prog W .any base t v := hval
    obtain ⟨v0, v1, d0, d1, p0, p1, rfl, rfl, rfl, h0, h1⟩ := trodAll_two hA
    obtain ⟨tt, q, rfl, ht, hbd⟩ := open_tst (hval 0 25 v0 rfl rfl) h0 (fun x hx => hlt x (by simp [hx]))
    obtain ⟨n, qn, d, qd, rfl, hn, ln, hd, ld⟩ := open_rat (hval 1 43 v1 rfl rfl) h1 (fun x hx => hlt x (by simp [hx]))
    have bn : n.length ≤ 9223372036854775807 := by have h1 := hn.cap; have h2 := hn.cmx; unfold maxLen at h2; omega
    have bd : d.length ≤ 9223372036854775807 := by have h1 := hd.cap; have h2 := hd.cmx; unfold maxLen at h2; omega
    exact law_errors tt q n d qn qd W ht hbd hn hd ln ld bn bd

theorem powerErrors_holds : Rows.PowerErrorsSaid :=
  OpenClaim.holds_of_wide 6 Try.f6 rfl rfl rfl rfl rfl rfl rfl ⟨rfl, rfl, rfl, rfl, rfl⟩ rfl rfl rfl rfl rfl (by kernel_rfl) Try.func6 (by kernel_rfl)
    (of_decide_eq_true (by kernel_rfl)) (by unfold Func.isWrapper; first | (rw [if_pos (by decide +kernel)]; kernel_rfl) | (rw [if_neg (by decide +kernel)]; exact ⟨rfl, rfl⟩))
    (fun os started H enc _ => powerErrors_lifted os started H enc)
#print axioms powerErrors_holds

end Go.Proofs.Ytpoddmkimhkmoaa
