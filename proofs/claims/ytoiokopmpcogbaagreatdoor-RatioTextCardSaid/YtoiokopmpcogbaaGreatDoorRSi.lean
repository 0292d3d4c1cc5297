/-
  THE ROW AND THE CARD of the law RatioText.
  Conditions: none.
-/
import Derived.Test.YtoiokopmpcogbaaGreatDoorRaOp
import Derived.Test.YtoiokopmpcogbaaGreatDoorRbC
import Derived.Test.YtoiokopmpcogbaaGreatDoorCards
import Derived.Test.YtoiokopmpcogbaaGreatDoorTie
import Derived.SevenTiedAt
namespace Go.Proofs.YtoiokopmpcogbaaGreatDoor
open Go.ChangeShapes Go.WideShapes Go.ChangeAt Go.RowKit Go.Sv

theorem ok28 : Tryz.prog.readableRec 28 = true ∧ 28 < Tryz.prog.types.size := ⟨by kernel_rfl, of_decide_eq_true (by kernel_rfl)⟩

set_option maxRecDepth 100000 in
theorem ratioText_lifted (os : Os) (started : os.Started) (H : Type) (enc : TypeId × Value → H) :
    ReturnsInHanded {} Tryz.checked os 11 .any (fun w args => (Rows.ratioTextSpec.pre enc Tryz.prog Tryz.f11 [] false w args ∧ laidMetH Tryz.prog laid5 w) ∧ sizedMet enc Tryz.prog Tryz.f11 (OpenSpec.ofChange Rows.ratioTextSpec) false w args)
      (Rows.ratioTextSpec.post enc Tryz.prog Tryz.f11 false true false false) := by
  refine law_retXS (C := Tryz.checked) (X := fun w _ => laidMetH Tryz.prog laid5 w) (tb := 4) (fun _ _ _ hh h => h.of_heap hh) own started (by kernel_rfl) Tryz.func11
    (ChangeSpec.witness_shaped (enc := enc) (C := Tryz.checked) (os := os) (X := fun w _ => laidMetH Tryz.prog laid5 w) false (World.doorLaid Tryz.prog 800 os) #[.agg #[.slice none 0 0, .slice none 0 0]] 8 rfl (door_shaped os _) (by kernel_rfl) (by kernel_rfl) (by kernel_rfl) (door_met os _))
    laidOut ?_ rfl Tryz.underlying4 rfl ?_ ?_
  · intro t ht
    have ht : t ∈ [28] := ht
    simp at ht
    obtain rfl := ht
    exact ok28
  · intro ds hl
    match ds, hl with
    | [d1], _ => rfl
  · intro W base args ds ps hval hA hlt hz hX hsh
    have hA : DataW.TrodAll enc Tryz.prog W 0 (fun _ => true) true [28] args.toList ds ps := hA
    have hval : ∀ (j : Nat) t v, #[28][j]? = some t → args[j]? = some v → Value.okWide Tryz.prog W .any base t v := hval
    obtain ⟨v0, d0, rfl, rfl, h0⟩ := trodAll_one hA
    obtain ⟨an, qan, ad, qad, rfl, ran, man, rad, mad⟩ := open_rat (hval 0 28 v0 rfl rfl) h0 hlt
    exact law_text W an qan ran man ad qad rad mad (tab_of_laid hX) (maxL_of hsh)

theorem ratioText_holds : Rows.RatioTextSaid :=
  OpenClaim.holds_of_wide 11 Tryz.f11 rfl rfl rfl rfl rfl rfl rfl ⟨rfl, rfl, rfl, rfl, rfl⟩ rfl rfl rfl rfl rfl (by kernel_rfl) Tryz.func11 (by kernel_rfl)
    (of_decide_eq_true (by kernel_rfl)) (by unfold Func.isWrapper; first | (rw [if_pos (by decide +kernel)]; kernel_rfl) | (rw [if_neg (by decide +kernel)]; exact ⟨rfl, rfl⟩))
    (fun os started H enc _ => ratioText_lifted os started H enc)

set_option maxRecDepth 100000 in
theorem ratioText_card : Rows.RatioTextCardSaid :=
  Claim7.holds_tied_plain_at .later [] [.data, .data, .data, .sentinel, .sentinel] true (true, "aa0bf01c8a9a4406ac033a6cfdc55644ee00c70b1fd0cd3330a83b30248ad9c2") true
    ratioText_holds (fun _ h => by cases h) (by kernel_rfl) (fun _ h => by cases h) ratioText_row_tie rfl ⟨rfl, rfl⟩ (by kernel_rfl) rfl
    (fun f fn hf hfn => by
      obtain rfl : f = 11 := Option.some.inj ((show Tryz.prog.funcNamed "sheave/sheavelaw02.RatioText" = some 11 by kernel_rfl).symm.trans hf) |>.symm
      obtain rfl : fn = Tryz.f11 := (Option.some.inj (Tryz.func11.symm.trans hfn)).symm
      exact ⟨by kernel_rfl, fun j t ht => by
        rw [Tryz.params11] at ht
        have hm : t ∈ [28] := by
          have h1 := Array.mem_of_getElem? ht
          simpa using h1
        simp at hm
        obtain rfl : t = 28 := by simpa using hm
        exact (show Tryz.prog.wantsStandIn 28 = false by kernel_rfl)⟩)
    (by kernel_rfl)
#print axioms ratioText_card
end Go.Proofs.YtoiokopmpcogbaaGreatDoor
