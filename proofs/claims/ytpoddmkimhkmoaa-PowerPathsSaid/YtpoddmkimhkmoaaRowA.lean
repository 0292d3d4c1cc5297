/-
  THE ROW of the law PowerPaths: it returns true for every input, and the input reads behind the call as before.
  Conditions: none.
-/
import Derived.Test.YtpoddmkimhkmoaaLaw
import Derived.Test.YtpoddmkimhkmoaaPwOq
import Derived.Test.YtpoddmkimhkmoaaPwLa
namespace Go.Proofs.Ytpoddmkimhkmoaa
open Go.ChangeShapes Go.WideShapes Go.ChangeAt Go.RowKit Go.Sv

theorem own : ownKnob Try.prog.godebug = none := by kernel_rfl
theorem laidOut : laidOutB Try.prog = true := by kernel_rfl
theorem ok22 : Try.prog.readableRec 22 = true ∧ 22 < Try.prog.types.size := ⟨by kernel_rfl, of_decide_eq_true (by kernel_rfl)⟩

set_option maxRecDepth 100000 in
theorem powerPaths_lifted (os : Os) (started : os.Started) (H : Type) (enc : TypeId × Value → H) :
    ReturnsInHanded {} Try.checked os 3 .any (Rows.powerPathsSpec.pre6 enc Try.prog Try.f3 Rows.powerPathsRow.domain false) (Rows.powerPathsSpec.post enc Try.prog Try.f3 false true false false) := by
  refine law_ret (C := Try.checked) (tb := 4) own started (by kernel_rfl) Try.func3
    (ChangeSpec.witness6 (enc := enc) (C := Try.checked) false ⟨#[], #[.slice none 0 0], []⟩ 8 (by kernel_rfl) (by kernel_rfl) (by kernel_rfl) (by kernel_rfl))
    laidOut ?_ rfl Try.underlying4 rfl ?_ ?_
  · intro t ht
    have ht : t ∈ [22] := ht
    simp at ht
    obtain rfl := ht
    exact ok22
  · intro ds hl
    match ds, hl with
    | [d1], _ => rfl
  · intro W base args ds ps hval hA hlt _
    have hA : DataW.TrodAll enc Try.prog W 0 (fun _ => true) true [22] args.toList ds ps := hA
    have hval : ∀ (j : Nat) t v, #[22][j]? = some t → args[j]? = some v → Value.okWide Try.prog W .any base t v := hval
    obtain ⟨v0, d0, rfl, rfl, h0⟩ := trodAll_one hA
    obtain ⟨A, l, c, rfl, hn, hb, ha⟩ := open_bytes (hval 0 22 v0 rfl rfl) h0 (fun x hx => hlt x (by simp [hx]))
    exact law_paths l A c W hn hb ha

theorem powerPaths_holds : Rows.PowerPathsSaid :=
  OpenClaim.holds_of_wide 3 Try.f3 rfl rfl rfl rfl rfl rfl rfl ⟨rfl, rfl, rfl, rfl, rfl⟩ rfl rfl rfl rfl rfl (by kernel_rfl) Try.func3 (by kernel_rfl)
    (of_decide_eq_true (by kernel_rfl)) (by unfold Func.isWrapper; first | (rw [if_pos (by decide +kernel)]; kernel_rfl) | (rw [if_neg (by decide +kernel)]; exact ⟨rfl, rfl⟩))
    (fun os started H enc _ => powerPaths_lifted os started H enc)
#print axioms powerPaths_holds

end Go.Proofs.Ytpoddmkimhkmoaa
