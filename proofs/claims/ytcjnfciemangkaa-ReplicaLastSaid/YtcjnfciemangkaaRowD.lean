/-
  THE ROW of the law ReplicaLast: it returns true for every input, and the input reads behind the call as before.
  Conditions: none.
-/
import Derived.Test.YtcjnfciemangkaaOpenD
import Derived.Test.YtcjnfciemangkaaRepY
namespace Go.Proofs.Ytcjnfciemangkaa
open Go.ChangeShapes Go.WideShapes Go.ChangeAt Go.RowKit Go.Sv

theorem own : ownKnob Try.prog.godebug = none := by kernel_rfl
theorem laidOut : laidOutB Try.prog = true := by kernel_rfl
theorem ok48 : Try.prog.readableRec 48 = true ∧ 48 < Try.prog.types.size := ⟨by kernel_rfl, of_decide_eq_true (by kernel_rfl)⟩
theorem ok45 : Try.prog.readableRec 45 = true ∧ 45 < Try.prog.types.size := ⟨by kernel_rfl, of_decide_eq_true (by kernel_rfl)⟩
theorem ok49 : Try.prog.readableRec 49 = true ∧ 49 < Try.prog.types.size := ⟨by kernel_rfl, of_decide_eq_true (by kernel_rfl)⟩

set_option maxRecDepth 100000 in
theorem replicaLast_lifted (os : Os) (started : os.Started) (H : Type) (enc : TypeId × Value → H) :
    ReturnsInHanded {} Try.checked os 7 .any (Rows.replicaLastSpec.pre6 enc Try.prog Try.f7 Rows.replicaLastRow.domain false) (Rows.replicaLastSpec.post enc Try.prog Try.f7 false true false false) := by
  refine law_ret (C := Try.checked) (tb := 4) own started (by kernel_rfl) Try.func7
    (ChangeSpec.witness6 (enc := enc) (C := Try.checked) false ⟨#[], #[.agg #[.slice none 0 0, .slice none 0 0, .slice none 0 0, .slice none 0 0], .slice none 0 0, .slice none 0 0], []⟩ 8 (by kernel_rfl) (by kernel_rfl) (by kernel_rfl) (by kernel_rfl))
    laidOut ?_ rfl Try.underlying4 rfl ?_ ?_
  · intro t ht
    have ht : t ∈ [48, 45, 49] := ht
    simp at ht
    rcases ht with rfl | rfl | rfl
    · exact ok48
    · exact ok45
    · exact ok49
  · intro ds hl
    match ds, hl with
    | [d1, d2, d3], _ => rfl
  · intro W base args ds ps hval hA hlt hz
    have hA : DataW.TrodAll enc Try.prog W 0 (fun _ => true) true [48, 45, 49] args.toList ds ps := hA
    have hval : ∀ (j : Nat) t v, #[48, 45, 49][j]? = some t → args[j]? = some v → Value.okWide Try.prog W .any base t v := hval
    obtain ⟨v0, v1, v2, d0, d1, d2, p0, p1, p2, rfl, rfl, rfl, h0, h1, h2⟩ := trodAll_three hA
    obtain ⟨d, q, rfl, hd, hbd⟩ := open_dra (hval 0 48 v0 rfl rfl) h0 (fun x hx => hlt x (by simp [hx]))
    obtain ⟨Ac, cs, cc, rfl, h8, hc⟩ := open_codes (hval 1 45 v1 rfl rfl) h1 (fun x hx => hlt x (by simp [hx]))
    obtain ⟨Ao, ops, co, rfl, hol, hcap, hAo, ho, hob⟩ := open_ops (hval 2 49 v2 rfl rfl) h2 (fun x hx => hlt x (by simp [hx]))
    exact law_last d q Ac cc cs Ao co ops W hd hbd hc h8 ho hAo hob hol hcap

theorem replicaLast_holds : Rows.ReplicaLastSaid :=
  OpenClaim.holds_of_wide 7 Try.f7 rfl rfl rfl rfl rfl rfl rfl ⟨rfl, rfl, rfl, rfl, rfl⟩ rfl rfl rfl rfl rfl (by kernel_rfl) Try.func7 (by kernel_rfl)
    (of_decide_eq_true (by kernel_rfl)) (by unfold Func.isWrapper; first | (rw [if_pos (by decide +kernel)]; kernel_rfl) | (rw [if_neg (by decide +kernel)]; exact ⟨rfl, rfl⟩))
    (fun os started H enc _ => replicaLast_lifted os started H enc)
#print axioms replicaLast_holds

end Go.Proofs.Ytcjnfciemangkaa
