/-
  THE ROW AND THE CARD of the law StepErrors.
  Conditions: none.
-/
import Derived.Test.YtfcimilimojfoaaDoorStLd
import Derived.Test.YtfcimilimojfoaaDoorStOp
import Derived.Test.YtfcimilimojfoaaDoorStSf
import Derived.Test.YtfcimilimojfoaaDoorCards
import Derived.Test.YtfcimilimojfoaaDoorTie
import Derived.SevenTiedAt
namespace Go.Proofs.YtfcimilimojfoaaDoor
open Go.ChangeShapes Go.WideShapes Go.ChangeAt Go.RowKit Go.Sv

theorem ok33 : Tryd.prog.readableRec 33 = true ∧ 33 < Tryd.prog.types.size := ⟨by kernel_rfl, of_decide_eq_true (by kernel_rfl)⟩
theorem ok36 : Tryd.prog.readableRec 36 = true ∧ 36 < Tryd.prog.types.size := ⟨by kernel_rfl, of_decide_eq_true (by kernel_rfl)⟩
theorem ok40 : Tryd.prog.readableRec 40 = true ∧ 40 < Tryd.prog.types.size := ⟨by kernel_rfl, of_decide_eq_true (by kernel_rfl)⟩

set_option maxRecDepth 100000 in
theorem stepErrors_lifted (os : Os) (started : os.Started) (H : Type) (enc : TypeId × Value → H) :
    ReturnsInHanded {} Tryd.checked os 8 .any (fun w args => (Rows.stepErrorsSpec.pre enc Tryd.prog Tryd.f8 [] false w args ∧ laidMetH Tryd.prog laid3 w) ∧ sizedMet enc Tryd.prog Tryd.f8 (OpenSpec.ofChange Rows.stepErrorsSpec) false w args)
      (Rows.stepErrorsSpec.post enc Tryd.prog Tryd.f8 false true false false) := by
  refine law_retX (C := Tryd.checked) (X := fun w _ => laidMetH Tryd.prog laid3 w) (tb := 4) (fun _ _ _ hh h => h.of_heap hh) own started (by kernel_rfl) Tryd.func8
    (ChangeSpec.witness_shaped (enc := enc) (C := Tryd.checked) (os := os) (X := fun w _ => laidMetH Tryd.prog laid3 w) false (World.doorLaid Tryd.prog 1200 os) #[.agg #[.slice none 0 0, .slice none 0 0, .slice none 0 0, .slice none 0 0], .agg #[.slice none 0 0, .slice none 0 0, .slice none 0 0], .slice none 0 0] 8 rfl (door_shaped os _) (by kernel_rfl) (by kernel_rfl) (by kernel_rfl) (door_met os _))
    laidOut ?_ rfl Tryd.underlying4 rfl ?_ ?_
  · intro t ht
    have ht : t ∈ [33, 36, 40] := ht
    simp at ht
    rcases ht with rfl | rfl | rfl
    · exact ok33
    · exact ok36
    · exact ok40
  · intro ds hl
    match ds, hl with
    | [d1, d2, d3], _ => rfl
  · intro W base args ds ps hval hA hlt hz hX
    have hA : DataW.TrodAll enc Tryd.prog W 0 (fun _ => true) true [33, 36, 40] args.toList ds ps := hA
    have hval : ∀ (j : Nat) t v, #[33, 36, 40][j]? = some t → args[j]? = some v → Value.okWide Tryd.prog W .any base t v := hval
    obtain ⟨v0, v1, v2, d0, d1, d2, p0, p1, p2, rfl, rfl, rfl, h0, h1, h2⟩ := trodAll_three hA
    obtain ⟨P, q, rfl, hp, hbd⟩ := open_prob (hval 0 33 v0 rfl rfl) h0 (fun x hx => hlt x (by simp [hx]))
    obtain ⟨M, r, rfl, hm, hmb⟩ := open_mix (hval 1 36 v1 rfl rfl) h1 (fun x hx => hlt x (by simp [hx]))
    obtain ⟨A0, l, c0, rfl, hlm, hl0, hl⟩ := open_steps (hval 2 40 v2 rfl rfl) h2 (fun x hx => hlt x (by simp [hx]))
    exact law_errors P q M r A0 c0 l W hp hbd hm hmb hl hl0 hlm

theorem stepErrors_holds : Rows.StepErrorsSaid :=
  OpenClaim.holds_of_wide 8 Tryd.f8 rfl rfl rfl rfl rfl rfl rfl ⟨rfl, rfl, rfl, rfl, rfl⟩ rfl rfl rfl rfl rfl (by kernel_rfl) Tryd.func8 (by kernel_rfl)
    (of_decide_eq_true (by kernel_rfl)) (by unfold Func.isWrapper; first | (rw [if_pos (by decide +kernel)]; kernel_rfl) | (rw [if_neg (by decide +kernel)]; exact ⟨rfl, rfl⟩))
    (fun os started H enc _ => stepErrors_lifted os started H enc)

set_option maxRecDepth 100000 in
theorem stepErrors_card : Rows.StepErrorsCardSaid :=
  Claim7.holds_tied_plain_at .later [] [.data, .data, .data] true (true, "ee55dc67238f08ef23a8cfe83403ceeb0dfbf2bf0a21886511c221c8037ac696") true
    stepErrors_holds (fun _ h => by cases h) (by kernel_rfl) (fun _ h => by cases h) stepErrors_row_tie rfl ⟨rfl, rfl⟩ (by kernel_rfl) rfl
    (fun f fn hf hfn => by
      obtain rfl : f = 8 := Option.some.inj ((show Tryd.prog.funcNamed "sheave/sheavelaw37.StepErrors" = some 8 by kernel_rfl).symm.trans hf) |>.symm
      obtain rfl : fn = Tryd.f8 := (Option.some.inj (Tryd.func8.symm.trans hfn)).symm
      exact ⟨by kernel_rfl, fun j t ht => by
        rw [Tryd.params8] at ht
        have hm : t ∈ [33, 36, 40] := by
          have h1 := Array.mem_of_getElem? ht
          simpa using h1
        simp at hm
        rcases hm with rfl | rfl | rfl
        · exact (show Tryd.prog.wantsStandIn 33 = false by kernel_rfl)
        · exact (show Tryd.prog.wantsStandIn 36 = false by kernel_rfl)
        · exact (show Tryd.prog.wantsStandIn 40 = false by kernel_rfl)⟩)
    (by kernel_rfl)
#print axioms stepErrors_card
end Go.Proofs.YtfcimilimojfoaaDoor
