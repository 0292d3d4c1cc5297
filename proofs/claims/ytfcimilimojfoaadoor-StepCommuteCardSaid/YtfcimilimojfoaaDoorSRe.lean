/-
  THE ROW AND THE CARD of the law StepCommute.
  Conditions: none.
-/
import Derived.Test.YtfcimilimojfoaaDoorStLd
import Derived.Test.YtfcimilimojfoaaDoorStOp
import Derived.Test.YtfcimilimojfoaaDoorStOt
import Derived.Test.YtfcimilimojfoaaDoorCards
import Derived.Test.YtfcimilimojfoaaDoorTie
import Derived.SevenTiedAt
namespace Go.Proofs.YtfcimilimojfoaaDoor
open Go.ChangeShapes Go.WideShapes Go.ChangeAt Go.RowKit Go.Sv

theorem ok29 : Tryd.prog.readableRec 29 = true ∧ 29 < Tryd.prog.types.size := ⟨by kernel_rfl, of_decide_eq_true (by kernel_rfl)⟩
theorem ok75 : Tryd.prog.readableRec 75 = true ∧ 75 < Tryd.prog.types.size := ⟨by kernel_rfl, of_decide_eq_true (by kernel_rfl)⟩

set_option maxRecDepth 100000 in
theorem stepCommute_lifted (os : Os) (started : os.Started) (H : Type) (enc : TypeId × Value → H) :
    ReturnsInHanded {} Tryd.checked os 9 .any (fun w args => (Rows.stepCommuteSpec.pre enc Tryd.prog Tryd.f9 [] false w args ∧ laidMetH Tryd.prog laid3 w) ∧ sizedMet enc Tryd.prog Tryd.f9 (OpenSpec.ofChange Rows.stepCommuteSpec) false w args)
      (Rows.stepCommuteSpec.post enc Tryd.prog Tryd.f9 false true false false) := by
  refine law_retX (C := Tryd.checked) (X := fun w _ => laidMetH Tryd.prog laid3 w) (tb := 4) (fun _ _ _ hh h => h.of_heap hh) own started (by kernel_rfl) Tryd.func9
    (ChangeSpec.witness_shaped (enc := enc) (C := Tryd.checked) (os := os) (X := fun w _ => laidMetH Tryd.prog laid3 w) false (World.doorLaid Tryd.prog 1200 os) #[.agg #[.slice none 0 0, .slice none 0 0, .slice none 0 0, .slice none 0 0, .slice none 0 0, .slice none 0 0, .slice none 0 0], .agg #[.int .i64 0, .int .i64 0, .int .i64 0, .int .i64 0, .int .i64 0, .int .i64 0]] 8 rfl (door_shaped os _) (by kernel_rfl) (by kernel_rfl) (by kernel_rfl) (door_met os _))
    laidOut ?_ rfl Tryd.underlying4 rfl ?_ ?_
  · intro t ht
    have ht : t ∈ [29, 75] := ht
    simp at ht
    rcases ht with rfl | rfl
    · exact ok29
    · exact ok75
  · intro ds hl
    match ds, hl with
    | [d1, d2], _ => rfl
  · intro W base args ds ps hval hA hlt hz hX
    have hA : DataW.TrodAll enc Tryd.prog W 0 (fun _ => true) true [29, 75] args.toList ds ps := hA
    have hval : ∀ (j : Nat) t v, #[29, 75][j]? = some t → args[j]? = some v → Value.okWide Tryd.prog W .any base t v := hval
    obtain ⟨v0, v1, d0, d1, p0, p1, rfl, rfl, rfl, h0, h1⟩ := trodAll_two hA
    obtain ⟨d, q, dm, r, rfl, hd, hbd, he, heb⟩ := open_case (hval 0 29 v0 rfl rfl) h0 (fun x hx => hlt x (by simp [hx]))
    obtain ⟨s, s2, rfl⟩ := open_two (hval 1 75 v1 rfl rfl) h1 (fun x hx => hlt x (by simp [hx]))
    exact law_commute d q dm r s s2 W hd hbd he heb

theorem stepCommute_holds : Rows.StepCommuteSaid :=
  OpenClaim.holds_of_wide 9 Tryd.f9 rfl rfl rfl rfl rfl rfl rfl ⟨rfl, rfl, rfl, rfl, rfl⟩ rfl rfl rfl rfl rfl (by kernel_rfl) Tryd.func9 (by kernel_rfl)
    (of_decide_eq_true (by kernel_rfl)) (by unfold Func.isWrapper; first | (rw [if_pos (by decide +kernel)]; kernel_rfl) | (rw [if_neg (by decide +kernel)]; exact ⟨rfl, rfl⟩))
    (fun os started H enc _ => stepCommute_lifted os started H enc)

set_option maxRecDepth 100000 in
theorem stepCommute_card : Rows.StepCommuteCardSaid :=
  Claim7.holds_tied_plain_at .later [] [.data, .data, .data] true (true, "ee55dc67238f08ef23a8cfe83403ceeb0dfbf2bf0a21886511c221c8037ac696") true
    stepCommute_holds (fun _ h => by cases h) (by kernel_rfl) (fun _ h => by cases h) stepCommute_row_tie rfl ⟨rfl, rfl⟩ (by kernel_rfl) rfl
    (fun f fn hf hfn => by
      obtain rfl : f = 9 := Option.some.inj ((show Tryd.prog.funcNamed "sheave/sheavelaw37.StepCommute" = some 9 by kernel_rfl).symm.trans hf) |>.symm
      obtain rfl : fn = Tryd.f9 := (Option.some.inj (Tryd.func9.symm.trans hfn)).symm
      exact ⟨by kernel_rfl, fun j t ht => by
        rw [Tryd.params9] at ht
        have hm : t ∈ [29, 75] := by
          have h1 := Array.mem_of_getElem? ht
          simpa using h1
        simp at hm
        rcases hm with rfl | rfl
        · exact (show Tryd.prog.wantsStandIn 29 = false by kernel_rfl)
        · exact (show Tryd.prog.wantsStandIn 75 = false by kernel_rfl)⟩)
    (by kernel_rfl)
#print axioms stepCommute_card
end Go.Proofs.YtfcimilimojfoaaDoor
