/-
  THE ROW AND THE CARD of the law StepText.
  Conditions: none.
-/
import Derived.Test.YtfcimilimojfoaaDoorStLe
import Derived.Test.YtfcimilimojfoaaDoorCards
import Derived.Test.YtfcimilimojfoaaDoorTie
import Derived.SevenTiedAt
namespace Go.Proofs.YtfcimilimojfoaaDoor
open Go.ChangeShapes Go.WideShapes Go.ChangeAt Go.RowKit Go.Sv

theorem ok52 : Tryd.prog.readableRec 52 = true ∧ 52 < Tryd.prog.types.size := ⟨by kernel_rfl, of_decide_eq_true (by kernel_rfl)⟩

set_option maxRecDepth 100000 in
theorem stepText_lifted (os : Os) (started : os.Started) (H : Type) (enc : TypeId × Value → H) :
    ReturnsInHanded {} Tryd.checked os 10 .any (fun w args => (Rows.stepTextSpec.pre enc Tryd.prog Tryd.f10 [] false w args ∧ laidMetH Tryd.prog laid7 w) ∧ sizedMet enc Tryd.prog Tryd.f10 (OpenSpec.ofChange Rows.stepTextSpec) false w args)
      (Rows.stepTextSpec.post enc Tryd.prog Tryd.f10 false true false false) := by
  refine law_retXS (C := Tryd.checked) (X := fun w _ => laidMetH Tryd.prog laid7 w) (tb := 4) (fun _ _ _ hh h => h.of_heap hh) own started (by kernel_rfl) Tryd.func10
    (ChangeSpec.witness_shaped (enc := enc) (C := Tryd.checked) (os := os) (X := fun w _ => laidMetH Tryd.prog laid7 w) false (World.laidAll Tryd.prog os laid7) #[.agg #[.int .i64 0, .int .i64 0, .int .i64 0]] 8 (World.laidAll_os _ _ _) (door_shaped os _) (by kernel_rfl) (by kernel_rfl) (by kernel_rfl) (door_met os _))
    laidOut ?_ rfl Tryd.underlying4 rfl ?_ ?_
  · intro t ht
    have ht : t ∈ [52] := ht
    simp at ht
    obtain rfl := ht
    exact ok52
  · intro ds hl
    match ds, hl with
    | [d1], _ => rfl
  · intro W base args ds ps hval hA hlt hz hX hsh
    have hA : DataW.TrodAll enc Tryd.prog W 0 (fun _ => true) true [52] args.toList ds ps := hA
    have hval : ∀ (j : Nat) t v, #[52][j]? = some t → args[j]? = some v → Value.okWide Tryd.prog W .any base t v := hval
    obtain ⟨v0, d0, rfl, rfl, h0⟩ := trodAll_one hA
    obtain ⟨s, rfl, b0, b1, b2⟩ := open_step (hval 0 52 v0 rfl rfl) h0
    exact law_text s W (tb_of hX hsh) b1.2 b2.2

theorem stepText_holds : Rows.StepTextSaid :=
  OpenClaim.holds_of_wide 10 Tryd.f10 rfl rfl rfl rfl rfl rfl rfl ⟨rfl, rfl, rfl, rfl, rfl⟩ rfl rfl rfl rfl rfl (by kernel_rfl) Tryd.func10 (by kernel_rfl)
    (of_decide_eq_true (by kernel_rfl)) (by unfold Func.isWrapper; first | (rw [if_pos (by decide +kernel)]; kernel_rfl) | (rw [if_neg (by decide +kernel)]; exact ⟨rfl, rfl⟩))
    (fun os started H enc _ => stepText_lifted os started H enc)

set_option maxRecDepth 100000 in
theorem stepText_card : Rows.StepTextCardSaid :=
  Claim7.holds_tied_plain_at .later [] [.data, .data, .data, .data, .sentinel, .sentinel, .pinned] true (true, "ee55dc67238f08ef23a8cfe83403ceeb0dfbf2bf0a21886511c221c8037ac696") true
    stepText_holds (fun _ h => by cases h) (by kernel_rfl) (fun _ h => by cases h) stepText_row_tie rfl ⟨rfl, rfl⟩ (by kernel_rfl) rfl
    (fun f fn hf hfn => by
      obtain rfl : f = 10 := Option.some.inj ((show Tryd.prog.funcNamed "sheave/sheavelaw37.StepText" = some 10 by kernel_rfl).symm.trans hf) |>.symm
      obtain rfl : fn = Tryd.f10 := (Option.some.inj (Tryd.func10.symm.trans hfn)).symm
      exact ⟨by kernel_rfl, fun j t ht => by
        rw [Tryd.params10] at ht
        have hm : t ∈ [52] := by
          have h1 := Array.mem_of_getElem? ht
          simpa using h1
        simp at hm
        obtain rfl : t = 52 := by simpa using hm
        exact (show Tryd.prog.wantsStandIn 52 = false by kernel_rfl)⟩)
    (by kernel_rfl)
#print axioms stepText_card
end Go.Proofs.YtfcimilimojfoaaDoor
