/-
  THE ROWS of the laws ReplicaStart, ReplicaApply and ReplicaCrash: each returns true for every input, and the input reads behind the call as before.
  Conditions: none.
-/
import Derived.Test.YtcjnfciemangkaaOpenR
import Derived.Test.YtcjnfciemangkaaOpenP
import Derived.Test.YtcjnfciemangkaaRepK
namespace Go.Proofs.Ytcjnfciemangkaa
open Go.ChangeShapes Go.WideShapes Go.ChangeAt Go.RowKit Go.Sv

theorem own : ownKnob Try.prog.godebug = none := by kernel_rfl
theorem laidOut : laidOutB Try.prog = true := by kernel_rfl
theorem ok25 : Try.prog.readableRec 25 = true ∧ 25 < Try.prog.types.size := ⟨by kernel_rfl, of_decide_eq_true (by kernel_rfl)⟩
theorem ok22 : Try.prog.readableRec 22 = true ∧ 22 < Try.prog.types.size := ⟨by kernel_rfl, of_decide_eq_true (by kernel_rfl)⟩
theorem ok28 : Try.prog.readableRec 28 = true ∧ 28 < Try.prog.types.size := ⟨by kernel_rfl, of_decide_eq_true (by kernel_rfl)⟩
theorem ok36 : Try.prog.readableRec 36 = true ∧ 36 < Try.prog.types.size := ⟨by kernel_rfl, of_decide_eq_true (by kernel_rfl)⟩
theorem ok4 : Try.prog.readableRec 4 = true ∧ 4 < Try.prog.types.size := ⟨by kernel_rfl, of_decide_eq_true (by kernel_rfl)⟩


section
variable {H : Type} {enc : TypeId × Value → H} {W : World}
theorem open_cmd {v : Value} {d : DataW H} {p : List MemPlace} {base : Nat} (hv : Value.okWide Try.prog W .any base 36 v) (h : DataW.Trod enc Try.prog W 0 (fun _ => true) true 36 v d p) : ∃ c : Cmd, v = cmdV c := by
  obtain ⟨v0, v1, v2, y0, y1, y2, n, rfl, rfl, rfl, h0, h1, h2⟩ := Joins.open_agg3 Try.underlying36 (by kernel_rfl) (by kernel_rfl) hv h
  obtain ⟨z0, e0, _⟩ := DataW.trod_int Try.underlying3 h0
  obtain ⟨z1, e1, _⟩ := DataW.trod_int Try.underlying3 h1
  obtain ⟨z2, e2, _⟩ := DataW.trod_int Try.underlying3 h2
  simp at e0 e1 e2
  subst e0 e1 e2
  exact ⟨⟨z0, z1, z2⟩, rfl⟩
end

set_option maxRecDepth 100000 in
theorem replicaStart_lifted (os : Os) (started : os.Started) (H : Type) (enc : TypeId × Value → H) :
    ReturnsInHanded {} Try.checked os 3 .any (Rows.replicaStartSpec.pre6 enc Try.prog Try.f3 Rows.replicaStartRow.domain false) (Rows.replicaStartSpec.post enc Try.prog Try.f3 false true false false) := by
  refine law_ret (C := Try.checked) (tb := 4) own started (by kernel_rfl) Try.func3
    (ChangeSpec.witness6 (enc := enc) (C := Try.checked) false ⟨#[], #[.agg #[.slice none 0 0, .slice none 0 0, .slice none 0 0, .slice none 0 0], .slice none 0 0], []⟩ 8 (by kernel_rfl) (by kernel_rfl) (by kernel_rfl) (by kernel_rfl))
    laidOut ?_ rfl Try.underlying4 rfl ?_ ?_
  · intro t ht
    have ht : t ∈ [25, 22] := ht
    simp at ht
    rcases ht with rfl | rfl
    · exact ok25
    · exact ok22
  · intro ds hl
    match ds, hl with
    | [d1, d2], _ => rfl
  · intro W base args ds ps hval hA hlt hz
    have hA : DataW.TrodAll enc Try.prog W 0 (fun _ => true) true [25, 22] args.toList ds ps := hA
    have hval : ∀ (j : Nat) t v, #[25, 22][j]? = some t → args[j]? = some v → Value.okWide Try.prog W .any base t v := hval
    obtain ⟨v0, v1, d0, d1, p0, p1, rfl, rfl, rfl, h0, h1⟩ := trodAll_two hA
    obtain ⟨P, q, rfl, hp, hbd⟩ := open_prob (hval 0 25 v0 rfl rfl) h0 (fun x hx => hlt x (by simp [hx]))
    obtain ⟨A, l, c, rfl, hnc, hcm, hAn, _, hl, _⟩ := open_iarr Try.underlying22 Try.underlying3 (by kernel_rfl) (hval 1 22 v1 rfl rfl) h1 (fun x hx => hlt x (by simp [hx]))
    unfold maxLen at hcm
    exact law_start P q A c l W hp hbd hl hAn (by omega)

theorem replicaStart_holds : Rows.ReplicaStartSaid :=
  OpenClaim.holds_of_wide 3 Try.f3 rfl rfl rfl rfl rfl rfl rfl ⟨rfl, rfl, rfl, rfl, rfl⟩ rfl rfl rfl rfl rfl (by kernel_rfl) Try.func3 (by kernel_rfl)
    (of_decide_eq_true (by kernel_rfl)) (by unfold Func.isWrapper; first | (rw [if_pos (by decide +kernel)]; kernel_rfl) | (rw [if_neg (by decide +kernel)]; exact ⟨rfl, rfl⟩))
    (fun os started H enc _ => replicaStart_lifted os started H enc)
#print axioms replicaStart_holds

set_option maxRecDepth 100000 in
theorem replicaApply_lifted (os : Os) (started : os.Started) (H : Type) (enc : TypeId × Value → H) :
    ReturnsInHanded {} Try.checked os 4 .any (Rows.replicaApplySpec.pre6 enc Try.prog Try.f4 Rows.replicaApplyRow.domain false) (Rows.replicaApplySpec.post enc Try.prog Try.f4 false true false false) := by
  refine law_ret (C := Try.checked) (tb := 4) own started (by kernel_rfl) Try.func4
    (ChangeSpec.witness6 (enc := enc) (C := Try.checked) false ⟨#[], #[.agg #[.slice none 0 0, .slice none 0 0, .slice none 0 0, .slice none 0 0], .slice none 0 0, .agg #[.int .i64 0, .int .i64 0, .int .i64 0]], []⟩ 8 (by kernel_rfl) (by kernel_rfl) (by kernel_rfl) (by kernel_rfl))
    laidOut ?_ rfl Try.underlying4 rfl ?_ ?_
  · intro t ht
    have ht : t ∈ [25, 28, 36] := ht
    simp at ht
    rcases ht with rfl | rfl | rfl
    · exact ok25
    · exact ok28
    · exact ok36
  · intro ds hl
    match ds, hl with
    | [d1, d2, d3], _ => rfl
  · intro W base args ds ps hval hA hlt hz
    have hA : DataW.TrodAll enc Try.prog W 0 (fun _ => true) true [25, 28, 36] args.toList ds ps := hA
    have hval : ∀ (j : Nat) t v, #[25, 28, 36][j]? = some t → args[j]? = some v → Value.okWide Try.prog W .any base t v := hval
    obtain ⟨v0, v1, v2, d0, d1, d2, p0, p1, p2, rfl, rfl, rfl, h0, h1, h2⟩ := trodAll_three hA
    obtain ⟨P, q, rfl, hp, hbd⟩ := open_prob (hval 0 25 v0 rfl rfl) h0 (fun x hx => hlt x (by simp [hx]))
    obtain ⟨A, l, c, rfl, hn, hAn, hl⟩ := open_reps (hval 1 28 v1 rfl rfl) h1 (fun x hx => hlt x (by simp [hx]))
    obtain ⟨cm, rfl⟩ := open_cmd (hval 2 36 v2 rfl rfl) h2
    exact law_apply P q A c l cm W hp hbd hl hAn hn

theorem replicaApply_holds : Rows.ReplicaApplySaid :=
  OpenClaim.holds_of_wide 4 Try.f4 rfl rfl rfl rfl rfl rfl rfl ⟨rfl, rfl, rfl, rfl, rfl⟩ rfl rfl rfl rfl rfl (by kernel_rfl) Try.func4 (by kernel_rfl)
    (of_decide_eq_true (by kernel_rfl)) (by unfold Func.isWrapper; first | (rw [if_pos (by decide +kernel)]; kernel_rfl) | (rw [if_neg (by decide +kernel)]; exact ⟨rfl, rfl⟩))
    (fun os started H enc _ => replicaApply_lifted os started H enc)
#print axioms replicaApply_holds

set_option maxRecDepth 100000 in
theorem replicaCrash_lifted (os : Os) (started : os.Started) (H : Type) (enc : TypeId × Value → H) :
    ReturnsInHanded {} Try.checked os 8 .any (Rows.replicaCrashSpec.pre6 enc Try.prog Try.f8 Rows.replicaCrashRow.domain false) (Rows.replicaCrashSpec.post enc Try.prog Try.f8 false true false false) := by
  refine law_ret (C := Try.checked) (tb := 4) own started (by kernel_rfl) Try.func8
    (ChangeSpec.witness6 (enc := enc) (C := Try.checked) false ⟨#[], #[.agg #[.slice none 0 0, .slice none 0 0, .slice none 0 0, .slice none 0 0], .slice none 0 0, .agg #[.int .i64 0, .int .i64 0, .int .i64 0]], []⟩ 8 (by kernel_rfl) (by kernel_rfl) (by kernel_rfl) (by kernel_rfl))
    laidOut ?_ rfl Try.underlying4 rfl ?_ ?_
  · intro t ht
    have ht : t ∈ [25, 28, 36] := ht
    simp at ht
    rcases ht with rfl | rfl | rfl
    · exact ok25
    · exact ok28
    · exact ok36
  · intro ds hl
    match ds, hl with
    | [d1, d2, d3], _ => rfl
  · intro W base args ds ps hval hA hlt hz
    have hA : DataW.TrodAll enc Try.prog W 0 (fun _ => true) true [25, 28, 36] args.toList ds ps := hA
    have hval : ∀ (j : Nat) t v, #[25, 28, 36][j]? = some t → args[j]? = some v → Value.okWide Try.prog W .any base t v := hval
    obtain ⟨v0, v1, v2, d0, d1, d2, p0, p1, p2, rfl, rfl, rfl, h0, h1, h2⟩ := trodAll_three hA
    obtain ⟨P, q, rfl, hp, hbd⟩ := open_prob (hval 0 25 v0 rfl rfl) h0 (fun x hx => hlt x (by simp [hx]))
    obtain ⟨A, l, c, rfl, hn, hAn, hl⟩ := open_reps (hval 1 28 v1 rfl rfl) h1 (fun x hx => hlt x (by simp [hx]))
    obtain ⟨cm, rfl⟩ := open_cmd (hval 2 36 v2 rfl rfl) h2
    exact law_crash P q A c l cm W hp hbd hl hAn hn

theorem replicaCrash_holds : Rows.ReplicaCrashSaid :=
  OpenClaim.holds_of_wide 8 Try.f8 rfl rfl rfl rfl rfl rfl rfl ⟨rfl, rfl, rfl, rfl, rfl⟩ rfl rfl rfl rfl rfl (by kernel_rfl) Try.func8 (by kernel_rfl)
    (of_decide_eq_true (by kernel_rfl)) (by unfold Func.isWrapper; first | (rw [if_pos (by decide +kernel)]; kernel_rfl) | (rw [if_neg (by decide +kernel)]; exact ⟨rfl, rfl⟩))
    (fun os started H enc _ => replicaCrash_lifted os started H enc)
#print axioms replicaCrash_holds

end Go.Proofs.Ytcjnfciemangkaa
