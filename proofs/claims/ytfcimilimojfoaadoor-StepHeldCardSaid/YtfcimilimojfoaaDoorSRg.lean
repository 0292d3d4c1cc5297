/-
  THE ROW AND THE CARD of the law StepHeld.
  Conditions: none.
-/
import Derived.Test.YtfcimilimojfoaaDoorStLd
import Derived.Test.YtfcimilimojfoaaDoorStOp
import Derived.Test.YtfcimilimojfoaaDoorStSg
import Derived.Test.YtfcimilimojfoaaDoorCards
import Derived.Test.YtfcimilimojfoaaDoorTie
import Derived.SevenTiedAt
namespace Go.Proofs.YtfcimilimojfoaaDoor
open Go.ChangeShapes Go.WideShapes Go.ChangeAt Go.RowKit Go.Sv

theorem ok29 : Tryd.prog.readableRec 29 = true ∧ 29 < Tryd.prog.types.size := ⟨by kernel_rfl, of_decide_eq_true (by kernel_rfl)⟩
theorem ok52 : Tryd.prog.readableRec 52 = true ∧ 52 < Tryd.prog.types.size := ⟨by kernel_rfl, of_decide_eq_true (by kernel_rfl)⟩

set_option maxRecDepth 100000 in
theorem stepHeld_lifted (os : Os) (started : os.Started) (H : Type) (enc : TypeId × Value → H) :
    ReturnsInHanded {} Tryd.checked os 7 .any (fun w args => (Rows.stepHeldSpec.pre enc Tryd.prog Tryd.f7 [] false w args ∧ laidMetH Tryd.prog laid3 w) ∧ sizedMet enc Tryd.prog Tryd.f7 (OpenSpec.ofChange Rows.stepHeldSpec) false w args)
      (Rows.stepHeldSpec.post enc Tryd.prog Tryd.f7 false true false false) := by
  refine law_retX (C := Tryd.checked) (X := fun w _ => laidMetH Tryd.prog laid3 w) (tb := 4) (fun _ _ _ hh h => h.of_heap hh) own started (by kernel_rfl) Tryd.func7
    (ChangeSpec.witness_shaped (enc := enc) (C := Tryd.checked) (os := os) (X := fun w _ => laidMetH Tryd.prog laid3 w) false (World.doorLaid Tryd.prog 1200 os) #[.agg #[.slice none 0 0, .slice none 0 0, .slice none 0 0, .slice none 0 0, .slice none 0 0, .slice none 0 0, .slice none 0 0], .agg #[.int .i64 0, .int .i64 0, .int .i64 0]] 8 rfl (door_shaped os _) (by kernel_rfl) (by kernel_rfl) (by kernel_rfl) (door_met os _))
    laidOut ?_ rfl Tryd.underlying4 rfl ?_ ?_
  · intro t ht
    have ht : t ∈ [29, 52] := ht
    simp at ht
    rcases ht with rfl | rfl
    · exact ok29
    · exact ok52
  · intro ds hl
    match ds, hl with
    | [d1, d2], _ => rfl
  · intro W base args ds ps hval hA hlt hz hX
    have hA : DataW.TrodAll enc Tryd.prog W 0 (fun _ => true) true [29, 52] args.toList ds ps := hA
    have hval : ∀ (j : Nat) t v, #[29, 52][j]? = some t → args[j]? = some v → Value.okWide Tryd.prog W .any base t v := hval
    obtain ⟨v0, v1, d0, d1, p0, p1, rfl, rfl, rfl, h0, h1⟩ := trodAll_two hA
    obtain ⟨d, q, dm, r, rfl, hd, hbd, he, heb⟩ := open_case (hval 0 29 v0 rfl rfl) h0 (fun x hx => hlt x (by simp [hx]))
    obtain ⟨s, rfl, b0, b1, b2⟩ := open_step (hval 1 52 v1 rfl rfl) h1
    exact law_held d q dm r s W hd hbd he heb

theorem stepHeld_holds : Rows.StepHeldSaid :=
  OpenClaim.holds_of_wide 7 Tryd.f7 rfl rfl rfl rfl rfl rfl rfl ⟨rfl, rfl, rfl, rfl, rfl⟩ rfl rfl rfl rfl rfl (by kernel_rfl) Tryd.func7 (by kernel_rfl)
    (of_decide_eq_true (by kernel_rfl)) (by unfold Func.isWrapper; first | (rw [if_pos (by decide +kernel)]; kernel_rfl) | (rw [if_neg (by decide +kernel)]; exact ⟨rfl, rfl⟩))
    (fun os started H enc _ => stepHeld_lifted os started H enc)

set_option maxRecDepth 100000 in
theorem stepHeld_card : Rows.StepHeldCardSaid :=
  Claim7.holds_tied_plain_at .later [] [.data, .data, .data] true (true, "ee55dc67238f08ef23a8cfe83403ceeb0dfbf2bf0a21886511c221c8037ac696") true
    stepHeld_holds (fun _ h => by cases h) (by kernel_rfl) (fun _ h => by cases h) stepHeld_row_tie rfl ⟨rfl, rfl⟩ (by kernel_rfl) rfl
    (fun f fn hf hfn => by
      obtain rfl : f = 7 := Option.some.inj ((show Tryd.prog.funcNamed "sheave/sheavelaw37.StepHeld" = some 7 by kernel_rfl).symm.trans hf) |>.symm
      obtain rfl : fn = Tryd.f7 := (Option.some.inj (Tryd.func7.symm.trans hfn)).symm
      exact ⟨by kernel_rfl, fun j t ht => by
        rw [Tryd.params7] at ht
        have hm : t ∈ [29, 52] := by
          have h1 := Array.mem_of_getElem? ht
          simpa using h1
        simp at hm
        rcases hm with rfl | rfl
        · exact (show Tryd.prog.wantsStandIn 29 = false by kernel_rfl)
        · exact (show Tryd.prog.wantsStandIn 52 = false by kernel_rfl)⟩)
    (by kernel_rfl)
#print axioms stepHeld_card
end Go.Proofs.YtfcimilimojfoaaDoor
