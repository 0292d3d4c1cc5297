/-
  THE ROW of the law PowerFixed: it returns true for every input, and the input reads behind the call as before.
  Conditions: none.
-/
import Derived.Test.YtpoddmkimhkmoaaLaw
import Derived.Test.YtpoddmkimhkmoaaPwOq
import Derived.Test.YtpoddmkimhkmoaaPwLd
namespace Go.Proofs.Ytpoddmkimhkmoaa
open Go.ChangeShapes Go.WideShapes Go.ChangeAt Go.RowKit Go.Sv

theorem own : ownKnob Try.prog.godebug = none := by kernel_rfl
theorem laidOut : laidOutB Try.prog = true := by kernel_rfl
theorem ok5 : Try.prog.readableRec 5 = true ∧ 5 < Try.prog.types.size := ⟨by kernel_rfl, of_decide_eq_true (by kernel_rfl)⟩
theorem ok38 : Try.prog.readableRec 38 = true ∧ 38 < Try.prog.types.size := ⟨by kernel_rfl, of_decide_eq_true (by kernel_rfl)⟩

set_option maxRecDepth 100000 in
theorem powerFixed_lifted (os : Os) (started : os.Started) (H : Type) (enc : TypeId × Value → H) :
    ReturnsInHanded {} Try.checked os 5 .any (Rows.powerFixedSpec.pre6 enc Try.prog Try.f5 Rows.powerFixedRow.domain false) (Rows.powerFixedSpec.post enc Try.prog Try.f5 false true false false) := by
  refine law_ret (C := Try.checked) (tb := 4) own started (by kernel_rfl) Try.func5
    (ChangeSpec.witness6 (enc := enc) (C := Try.checked) false ⟨#[], #[.int .u8 0, .agg #[.int .u16 0, .int .u16 0]], []⟩ 8 (by kernel_rfl) (by kernel_rfl) (by kernel_rfl) (by kernel_rfl))
    laidOut ?_ rfl Try.underlying4 rfl ?_ ?_
  · intro t ht
    have ht : t ∈ [5, 38] := ht
    simp at ht
    rcases ht with rfl | rfl
    · exact ok5
    · exact ok38
  · intro ds hl
    match ds, hl with
    | [d1, d2], _ => rfl
  · intro W base args ds ps hval hA hlt _
    have hA : DataW.TrodAll enc Try.prog W 0 (fun _ => true) true [5, 38] args.toList ds ps := hA
    have hval : ∀ (j : Nat) t v, #[5, 38][j]? = some t → args[j]? = some v → Value.okWide Try.prog W .any base t v := hval
    obtain ⟨v0, v1, d0, d1, p0, p1, rfl, rfl, rfl, h0, h1⟩ := trodAll_two hA
    obtain ⟨z, rfl, rfl, rfl, w0⟩ := open_int Try.underlying5 (hval 0 5 v0 rfl rfl) h0
    obtain ⟨cn, cd, rfl, hcn, hcd⟩ := open_chance (hval 1 38 v1 rfl rfl) h1
    simp [Lit.wf, IntKind.min, IntKind.max, IntKind.signed, IntKind.bits] at w0
    obtain ⟨n, rfl⟩ := Int.eq_ofNat_of_zero_le w0.1
    exact law_fixed n cn cd W (by omega) hcn hcd

theorem powerFixed_holds : Rows.PowerFixedSaid :=
  OpenClaim.holds_of_wide 5 Try.f5 rfl rfl rfl rfl rfl rfl rfl ⟨rfl, rfl, rfl, rfl, rfl⟩ rfl rfl rfl rfl rfl (by kernel_rfl) Try.func5 (by kernel_rfl)
    (of_decide_eq_true (by kernel_rfl)) (by unfold Func.isWrapper; first | (rw [if_pos (by decide +kernel)]; kernel_rfl) | (rw [if_neg (by decide +kernel)]; exact ⟨rfl, rfl⟩))
    (fun os started H enc _ => powerFixed_lifted os started H enc)
#print axioms powerFixed_holds

end Go.Proofs.Ytpoddmkimhkmoaa
