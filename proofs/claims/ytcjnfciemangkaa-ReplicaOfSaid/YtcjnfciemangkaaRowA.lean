/-
  THE ROWS of the laws ReplicaPower and ReplicaOf: each returns true for every input, and the input reads behind the call as before.
  Conditions: none.
-/
import Derived.Test.YtcjnfciemangkaaOpenR
import Derived.Test.YtcjnfciemangkaaRepI
namespace Go.Proofs.Ytcjnfciemangkaa
open Go.ChangeShapes Go.WideShapes Go.ChangeAt Go.RowKit Go.Sv

theorem own : ownKnob Try.prog.godebug = none := by kernel_rfl
theorem laidOut : laidOutB Try.prog = true := by kernel_rfl
theorem ok28 : Try.prog.readableRec 28 = true ∧ 28 < Try.prog.types.size := ⟨by kernel_rfl, of_decide_eq_true (by kernel_rfl)⟩
theorem ok3 : Try.prog.readableRec 3 = true ∧ 3 < Try.prog.types.size := ⟨by kernel_rfl, of_decide_eq_true (by kernel_rfl)⟩
theorem ok4 : Try.prog.readableRec 4 = true ∧ 4 < Try.prog.types.size := ⟨by kernel_rfl, of_decide_eq_true (by kernel_rfl)⟩

set_option maxRecDepth 100000 in
theorem replicaPower_lifted (os : Os) (started : os.Started) (H : Type) (enc : TypeId × Value → H) :
    ReturnsInHanded {} Try.checked os 5 .any (Rows.replicaPowerSpec.pre6 enc Try.prog Try.f5 Rows.replicaPowerRow.domain false) (Rows.replicaPowerSpec.post enc Try.prog Try.f5 false true false false) := by
  refine law_ret (C := Try.checked) (tb := 4) own started (by kernel_rfl) Try.func5
    (ChangeSpec.witness6 (enc := enc) (C := Try.checked) false ⟨#[], #[.slice none 0 0, .int .i64 0, .bool false], []⟩ 8 (by kernel_rfl) (by kernel_rfl) (by kernel_rfl) (by kernel_rfl))
    laidOut ?_ rfl Try.underlying4 rfl ?_ ?_
  · intro t ht
    have ht : t ∈ [28, 3, 4] := ht
    simp at ht
    rcases ht with rfl | rfl | rfl
    · exact ok28
    · exact ok3
    · exact ok4
  · intro ds hl
    match ds, hl with
    | [d1, d2, d3], _ => rfl
  · intro W base args ds ps hval hA hlt hz
    have hA : DataW.TrodAll enc Try.prog W 0 (fun _ => true) true [28, 3, 4] args.toList ds ps := hA
    have hval : ∀ (j : Nat) t v, #[28, 3, 4][j]? = some t → args[j]? = some v → Value.okWide Try.prog W .any base t v := hval
    obtain ⟨v0, v1, v2, d0, d1, d2, p0, p1, p2, rfl, rfl, rfl, h0, h1, h2⟩ := trodAll_three hA
    obtain ⟨A, l, c, rfl, hn, hAn, hl⟩ := open_reps (hval 0 28 v0 rfl rfl) h0 (fun x hx => hlt x (by simp [hx]))
    obtain ⟨z1, rfl, rfl, rfl, w1⟩ := open_int Try.underlying3 (hval 1 3 v1 rfl rfl) h1
    obtain ⟨b2, rfl, rfl, rfl⟩ := open_bool Try.underlying4 (hval 2 4 v2 rfl rfl) h2
    exact law_power A c l z1 b2 W hl hAn hn

theorem replicaPower_holds : Rows.ReplicaPowerSaid :=
  OpenClaim.holds_of_wide 5 Try.f5 rfl rfl rfl rfl rfl rfl rfl ⟨rfl, rfl, rfl, rfl, rfl⟩ rfl rfl rfl rfl rfl (by kernel_rfl) Try.func5 (by kernel_rfl)
    (of_decide_eq_true (by kernel_rfl)) (by unfold Func.isWrapper; first | (rw [if_pos (by decide +kernel)]; kernel_rfl) | (rw [if_neg (by decide +kernel)]; exact ⟨rfl, rfl⟩))
    (fun os started H enc _ => replicaPower_lifted os started H enc)
#print axioms replicaPower_holds

set_option maxRecDepth 100000 in
theorem replicaOf_lifted (os : Os) (started : os.Started) (H : Type) (enc : TypeId × Value → H) :
    ReturnsInHanded {} Try.checked os 9 .any (Rows.replicaOfSpec.pre6 enc Try.prog Try.f9 Rows.replicaOfRow.domain false) (Rows.replicaOfSpec.post enc Try.prog Try.f9 false true false false) := by
  refine law_ret (C := Try.checked) (tb := 4) own started (by kernel_rfl) Try.func9
    (ChangeSpec.witness6 (enc := enc) (C := Try.checked) false ⟨#[], #[.slice none 0 0, .int .i64 0, .int .i64 0], []⟩ 8 (by kernel_rfl) (by kernel_rfl) (by kernel_rfl) (by kernel_rfl))
    laidOut ?_ rfl Try.underlying4 rfl ?_ ?_
  · intro t ht
    have ht : t ∈ [28, 3, 3] := ht
    simp at ht
    rcases ht with rfl | rfl
    · exact ok28
    · exact ok3
  · intro ds hl
    match ds, hl with
    | [d1, d2, d3], _ => rfl
  · intro W base args ds ps hval hA hlt hz
    have hA : DataW.TrodAll enc Try.prog W 0 (fun _ => true) true [28, 3, 3] args.toList ds ps := hA
    have hval : ∀ (j : Nat) t v, #[28, 3, 3][j]? = some t → args[j]? = some v → Value.okWide Try.prog W .any base t v := hval
    obtain ⟨v0, v1, v2, d0, d1, d2, p0, p1, p2, rfl, rfl, rfl, h0, h1, h2⟩ := trodAll_three hA
    obtain ⟨A, l, c, rfl, hn, hAn, hl⟩ := open_reps (hval 0 28 v0 rfl rfl) h0 (fun x hx => hlt x (by simp [hx]))
    obtain ⟨z1, rfl, rfl, rfl, w1⟩ := open_int Try.underlying3 (hval 1 3 v1 rfl rfl) h1
    obtain ⟨z2, rfl, rfl, rfl, w2⟩ := open_int Try.underlying3 (hval 2 3 v2 rfl rfl) h2
    exact law_of A c l z1 z2 W hl hn

theorem replicaOf_holds : Rows.ReplicaOfSaid :=
  OpenClaim.holds_of_wide 9 Try.f9 rfl rfl rfl rfl rfl rfl rfl ⟨rfl, rfl, rfl, rfl, rfl⟩ rfl rfl rfl rfl rfl (by kernel_rfl) Try.func9 (by kernel_rfl)
    (of_decide_eq_true (by kernel_rfl)) (by unfold Func.isWrapper; first | (rw [if_pos (by decide +kernel)]; kernel_rfl) | (rw [if_neg (by decide +kernel)]; exact ⟨rfl, rfl⟩))
    (fun os started H enc _ => replicaOf_lifted os started H enc)
#print axioms replicaOf_holds

end Go.Proofs.Ytcjnfciemangkaa
