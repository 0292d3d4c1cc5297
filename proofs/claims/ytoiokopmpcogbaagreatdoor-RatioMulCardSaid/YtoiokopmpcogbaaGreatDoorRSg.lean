/-
  THE ROW AND THE CARD of the law RatioMul.
  Conditions: none.
-/
import Derived.Test.YtoiokopmpcogbaaGreatDoorRaOp
import Derived.Test.YtoiokopmpcogbaaGreatDoorCards
import Derived.Test.YtoiokopmpcogbaaGreatDoorTie
import Derived.SevenTiedAt
namespace Go.Proofs.YtoiokopmpcogbaaGreatDoor
open Go.ChangeShapes Go.WideShapes Go.ChangeAt Go.RowKit Go.Sv

theorem ok28 : Tryz.prog.readableRec 28 = true ∧ 28 < Tryz.prog.types.size := ⟨by kernel_rfl, of_decide_eq_true (by kernel_rfl)⟩

set_option maxRecDepth 100000 in
theorem ratioMul_lifted (os : Os) (started : os.Started) (H : Type) (enc : TypeId × Value → H) :
    ReturnsInHanded {} Tryz.checked os 9 .any (fun w args => (Rows.ratioMulSpec.pre enc Tryz.prog Tryz.f9 [] false w args ∧ laidMetH Tryz.prog laid5 w) ∧ sizedMet enc Tryz.prog Tryz.f9 (OpenSpec.ofChange Rows.ratioMulSpec) false w args)
      (Rows.ratioMulSpec.post enc Tryz.prog Tryz.f9 false true false false) := by
  refine law_retXS (C := Tryz.checked) (X := fun w _ => laidMetH Tryz.prog laid5 w) (tb := 4) (fun _ _ _ hh h => h.of_heap hh) own started (by kernel_rfl) Tryz.func9
    (ChangeSpec.witness_shaped (enc := enc) (C := Tryz.checked) (os := os) (X := fun w _ => laidMetH Tryz.prog laid5 w) false (World.doorLaid Tryz.prog 800 os) #[.agg #[.slice none 0 0, .slice none 0 0], .agg #[.slice none 0 0, .slice none 0 0]] 8 rfl (door_shaped os _) (by kernel_rfl) (by kernel_rfl) (by kernel_rfl) (door_met os _))
    laidOut ?_ rfl Tryz.underlying4 rfl ?_ ?_
  · intro t ht
    have ht : t ∈ [28, 28] := ht
    simp at ht
    obtain rfl : t = 28 := by simpa using ht
    exact ok28
  · intro ds hl
    match ds, hl with
    | [d1, d2], _ => rfl
  · intro W base args ds ps hval hA hlt hz hX hsh
    have hA : DataW.TrodAll enc Tryz.prog W 0 (fun _ => true) true [28, 28] args.toList ds ps := hA
    have hval : ∀ (j : Nat) t v, #[28, 28][j]? = some t → args[j]? = some v → Value.okWide Tryz.prog W .any base t v := hval
    obtain ⟨v0, v1, d0, d1, p0, p1, rfl, rfl, rfl, h0, h1⟩ := trodAll_two hA
    obtain ⟨an, qan, ad, qad, rfl, ran, man, rad, mad⟩ := open_rat (hval 0 28 v0 rfl rfl) h0 (fun x hx => hlt x (by simp [hx]))
    obtain ⟨bn, qbn, bd, qbd, rfl, rbn, mbn, rbd, mbd⟩ := open_rat (hval 1 28 v1 rfl rfl) h1 (fun x hx => hlt x (by simp [hx]))
    exact law_mul W an qan ran man ad qad rad mad bn qbn rbn mbn bd qbd rbd mbd (tab_of_laid hX) (maxL_of hsh)

theorem ratioMul_holds : Rows.RatioMulSaid :=
  OpenClaim.holds_of_wide 9 Tryz.f9 rfl rfl rfl rfl rfl rfl rfl ⟨rfl, rfl, rfl, rfl, rfl⟩ rfl rfl rfl rfl rfl (by kernel_rfl) Tryz.func9 (by kernel_rfl)
    (of_decide_eq_true (by kernel_rfl)) (by unfold Func.isWrapper; first | (rw [if_pos (by decide +kernel)]; kernel_rfl) | (rw [if_neg (by decide +kernel)]; exact ⟨rfl, rfl⟩))
    (fun os started H enc _ => ratioMul_lifted os started H enc)

set_option maxRecDepth 100000 in
theorem ratioMul_card : Rows.RatioMulCardSaid :=
  Claim7.holds_tied_plain_at .later [] [.data, .data, .data, .sentinel, .sentinel] true (true, "aa0bf01c8a9a4406ac033a6cfdc55644ee00c70b1fd0cd3330a83b30248ad9c2") true
    ratioMul_holds (fun _ h => by cases h) (by kernel_rfl) (fun _ h => by cases h) ratioMul_row_tie rfl ⟨rfl, rfl⟩ (by kernel_rfl) rfl
    (fun f fn hf hfn => by
      obtain rfl : f = 9 := Option.some.inj ((show Tryz.prog.funcNamed "sheave/sheavelaw02.RatioMul" = some 9 by kernel_rfl).symm.trans hf) |>.symm
      obtain rfl : fn = Tryz.f9 := (Option.some.inj (Tryz.func9.symm.trans hfn)).symm
      exact ⟨by kernel_rfl, fun j t ht => by
        rw [Tryz.params9] at ht
        have hm : t ∈ [28, 28] := by
          have h1 := Array.mem_of_getElem? ht
          simpa using h1
        simp at hm
        obtain rfl : t = 28 := by simpa using hm
        exact (show Tryz.prog.wantsStandIn 28 = false by kernel_rfl)⟩)
    (by kernel_rfl)
#print axioms ratioMul_card
end Go.Proofs.YtoiokopmpcogbaaGreatDoor
