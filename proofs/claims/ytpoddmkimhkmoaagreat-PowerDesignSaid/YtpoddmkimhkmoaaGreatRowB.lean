/-
  THE ROW of the law PowerDesign: it returns true for every input, and the input reads behind the call as before.
  Conditions: none.
-/
import Derived.Test.YtpoddmkimhkmoaaGreatLaw
import Derived.Test.YtpoddmkimhkmoaaGreatPgOp
import Derived.Test.YtpoddmkimhkmoaaGreatPgF
namespace Go.Proofs.YtpoddmkimhkmoaaGreat
open Go.ChangeShapes Go.WideShapes Go.ChangeAt Go.RowKit Go.Sv

theorem own : ownKnob Tryz.prog.godebug = none := by kernel_rfl
theorem laidOut : laidOutB Tryz.prog = true := by kernel_rfl
theorem ok3 : Tryz.prog.readableRec 3 = true ∧ 3 < Tryz.prog.types.size := ⟨by kernel_rfl, of_decide_eq_true (by kernel_rfl)⟩
theorem ok28 : Tryz.prog.readableRec 28 = true ∧ 28 < Tryz.prog.types.size := ⟨by kernel_rfl, of_decide_eq_true (by kernel_rfl)⟩

set_option maxRecDepth 100000 in
theorem powerDesign_lifted (os : Os) (started : os.Started) (H : Type) (enc : TypeId × Value → H) :
    ReturnsInHanded {} Tryz.checked os 3 .any (Rows.powerDesignSpec.pre6 enc Tryz.prog Tryz.f3 Rows.powerDesignRow.domain false) (Rows.powerDesignSpec.post enc Tryz.prog Tryz.f3 false true false false) := by
  refine law_ret (C := Tryz.checked) (tb := 4) own started (by kernel_rfl) Tryz.func3
    (ChangeSpec.witness6 (enc := enc) (C := Tryz.checked) false ⟨#[], #[.agg #[.slice none 0 0, .slice none 0 0, .slice none 0 0, .slice none 0 0, .slice none 0 0, .slice none 0 0, .slice none 0 0, .slice none 0 0], .int .i64 0], []⟩ 8 (by kernel_rfl) (by kernel_rfl) (by kernel_rfl) (by kernel_rfl))
    laidOut ?_ rfl Tryz.underlying4 rfl ?_ ?_
  · intro t ht
    have ht : t ∈ [28, 3] := ht
    simp at ht
    rcases ht with rfl | rfl
    · exact ok28
    · exact ok3
  · intro ds hl
    match ds, hl with
    | [d1, d2], _ => rfl
  · intro W base args ds ps hval hA hlt _
    have hA : DataW.TrodAll enc Tryz.prog W 0 (fun _ => true) true [28, 3] args.toList ds ps := hA
    have hval : ∀ (j : Nat) t v, #[28, 3][j]? = some t → args[j]? = some v → Value.okWide Tryz.prog W .any base t v := hval
    obtain ⟨v0, v1, d0, d1, p0, p1, rfl, rfl, rfl, h0, h1⟩ := trodAll_two hA
    obtain ⟨n0, m0, n1, m1, n2, m2, n3, m3, q0, r0, q1, r1, q2, r2, q3, r3, rfl, ⟨g0, l0, h0', k0⟩, ⟨g1, l1, h1', k1⟩, ⟨g2, l2, h2', k2⟩, g3, l3, h3', k3⟩ := open_goal (hval 0 28 v0 rfl rfl) h0 (fun x hx => hlt x (by simp [hx]))
    obtain ⟨mo, rfl, rfl, rfl, w0⟩ := open_int Tryz.underlying3 (hval 1 3 v1 rfl rfl) h1
    exact law_design n0 m0 n1 m1 n2 m2 n3 m3 q0 r0 q1 r1 q2 r2 q3 r3 mo W g0 h0' l0 k0 g1 h1' l1 k1 g2 h2' l2 k2 g3 h3' l3 k3

theorem powerDesign_holds : Rows.PowerDesignSaid :=
  OpenClaim.holds_of_wide 3 Tryz.f3 rfl rfl rfl rfl rfl rfl rfl ⟨rfl, rfl, rfl, rfl, rfl⟩ rfl rfl rfl rfl rfl (by kernel_rfl) Tryz.func3 (by kernel_rfl)
    (of_decide_eq_true (by kernel_rfl)) (by unfold Func.isWrapper; first | (rw [if_pos (by decide +kernel)]; kernel_rfl) | (rw [if_neg (by decide +kernel)]; exact ⟨rfl, rfl⟩))
    (fun os started H enc _ => powerDesign_lifted os started H enc)
#print axioms powerDesign_holds

end Go.Proofs.YtpoddmkimhkmoaaGreat
