/-
  THE ROW of the law PowerCheck: it returns true for every input, and the input reads behind the call as before.
  Conditions: none.
-/
import Derived.Test.YtpoddmkimhkmoaaGreatLaw
import Derived.Test.YtpoddmkimhkmoaaGreatPgOp
import Derived.Test.YtpoddmkimhkmoaaGreatPgE
namespace Go.Proofs.YtpoddmkimhkmoaaGreat
open Go.ChangeShapes Go.WideShapes Go.ChangeAt Go.RowKit Go.Sv

theorem own : ownKnob Tryz.prog.godebug = none := by kernel_rfl
theorem laidOut : laidOutB Tryz.prog = true := by kernel_rfl
theorem ok28 : Tryz.prog.readableRec 28 = true ∧ 28 < Tryz.prog.types.size := ⟨by kernel_rfl, of_decide_eq_true (by kernel_rfl)⟩
theorem ok32 : Tryz.prog.readableRec 32 = true ∧ 32 < Tryz.prog.types.size := ⟨by kernel_rfl, of_decide_eq_true (by kernel_rfl)⟩

set_option maxRecDepth 100000 in
theorem powerCheck_lifted (os : Os) (started : os.Started) (H : Type) (enc : TypeId × Value → H) :
    ReturnsInHanded {} Tryz.checked os 4 .any (Rows.powerCheckSpec.pre6 enc Tryz.prog Tryz.f4 Rows.powerCheckRow.domain false) (Rows.powerCheckSpec.post enc Tryz.prog Tryz.f4 false true false false) := by
  refine law_ret (C := Tryz.checked) (tb := 4) own started (by kernel_rfl) Tryz.func4
    (ChangeSpec.witness6 (enc := enc) (C := Tryz.checked) false ⟨#[], #[.agg #[.slice none 0 0, .slice none 0 0], .agg #[.slice none 0 0, .slice none 0 0, .slice none 0 0, .slice none 0 0, .slice none 0 0, .slice none 0 0, .slice none 0 0, .slice none 0 0]], []⟩ 8 (by kernel_rfl) (by kernel_rfl) (by kernel_rfl) (by kernel_rfl))
    laidOut ?_ rfl Tryz.underlying4 rfl ?_ ?_
  · intro t ht
    have ht : t ∈ [32, 28] := ht
    simp at ht
    rcases ht with rfl | rfl
    · exact ok32
    · exact ok28
  · intro ds hl
    match ds, hl with
    | [d1, d2], _ => rfl
  · intro W base args ds ps hval hA hlt _
    have hA : DataW.TrodAll enc Tryz.prog W 0 (fun _ => true) true [32, 28] args.toList ds ps := hA
    have hval : ∀ (j : Nat) t v, #[32, 28][j]? = some t → args[j]? = some v → Value.okWide Tryz.prog W .any base t v := hval
    obtain ⟨v0, v1, d0, d1, p0, p1, rfl, rfl, rfl, h0, h1⟩ := trodAll_two hA
    obtain ⟨tt, q, rfl, ht, hbd⟩ := open_tst (hval 0 32 v0 rfl rfl) h0 (fun x hx => hlt x (by simp [hx]))
    obtain ⟨n0, m0, n1, m1, n2, m2, n3, m3, q0, r0, q1, r1, q2, r2, q3, r3, rfl, ⟨g0, l0, h0', k0⟩, ⟨g1, l1, h1', k1⟩, ⟨g2, l2, h2', k2⟩, g3, l3, h3', k3⟩ := open_goal (hval 1 28 v1 rfl rfl) h1 (fun x hx => hlt x (by simp [hx]))
    exact law_check tt q n0 m0 n1 m1 n2 m2 n3 m3 q0 r0 q1 r1 q2 r2 q3 r3 W ht hbd g0 h0' l0 k0 g1 h1' l1 k1 g2 h2' l2 k2 g3 h3' l3 k3

theorem powerCheck_holds : Rows.PowerCheckSaid :=
  OpenClaim.holds_of_wide 4 Tryz.f4 rfl rfl rfl rfl rfl rfl rfl ⟨rfl, rfl, rfl, rfl, rfl⟩ rfl rfl rfl rfl rfl (by kernel_rfl) Tryz.func4 (by kernel_rfl)
    (of_decide_eq_true (by kernel_rfl)) (by unfold Func.isWrapper; first | (rw [if_pos (by decide +kernel)]; kernel_rfl) | (rw [if_neg (by decide +kernel)]; exact ⟨rfl, rfl⟩))
    (fun os started H enc _ => powerCheck_lifted os started H enc)
#print axioms powerCheck_holds

end Go.Proofs.YtpoddmkimhkmoaaGreat
