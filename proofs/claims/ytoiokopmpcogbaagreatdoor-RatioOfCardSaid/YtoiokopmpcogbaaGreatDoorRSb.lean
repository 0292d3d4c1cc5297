/-
  THE ROW AND THE CARD of the law RatioOf.
  Conditions: none.
-/
import Derived.Test.YtoiokopmpcogbaaGreatDoorRaOp
import Derived.Test.YtoiokopmpcogbaaGreatDoorCards
import Derived.Test.YtoiokopmpcogbaaGreatDoorTie
import Derived.SevenTiedAt
namespace Go.Proofs.YtoiokopmpcogbaaGreatDoor
open Go.ChangeShapes Go.WideShapes Go.ChangeAt Go.RowKit Go.Sv

theorem ok34 : Tryz.prog.readableRec 34 = true ∧ 34 < Tryz.prog.types.size := ⟨by kernel_rfl, of_decide_eq_true (by kernel_rfl)⟩

set_option maxRecDepth 100000 in
theorem ratioOf_lifted (os : Os) (started : os.Started) (H : Type) (enc : TypeId × Value → H) :
    ReturnsInHanded {} Tryz.checked os 4 .any (fun w args => (Rows.ratioOfSpec.pre enc Tryz.prog Tryz.f4 [] false w args ∧ laidMetH Tryz.prog laid5 w) ∧ sizedMet enc Tryz.prog Tryz.f4 (OpenSpec.ofChange Rows.ratioOfSpec) false w args)
      (Rows.ratioOfSpec.post enc Tryz.prog Tryz.f4 false true false false) := by
  refine law_retXS (C := Tryz.checked) (X := fun w _ => laidMetH Tryz.prog laid5 w) (tb := 4) (fun _ _ _ hh h => h.of_heap hh) own started (by kernel_rfl) Tryz.func4
    (ChangeSpec.witness_shaped (enc := enc) (C := Tryz.checked) (os := os) (X := fun w _ => laidMetH Tryz.prog laid5 w) false (World.doorLaid Tryz.prog 800 os) #[.int .u64 0, .int .u64 0] 8 rfl (door_shaped os _) (by kernel_rfl) (by kernel_rfl) (by kernel_rfl) (door_met os _))
    laidOut ?_ rfl Tryz.underlying4 rfl ?_ ?_
  · intro t ht
    have ht : t ∈ [34, 34] := ht
    simp at ht
    obtain rfl : t = 34 := by simpa using ht
    exact ok34
  · intro ds hl
    match ds, hl with
    | [d1, d2], _ => rfl
  · intro W base args ds ps hval hA hlt hz hX hsh
    have hA : DataW.TrodAll enc Tryz.prog W 0 (fun _ => true) true [34, 34] args.toList ds ps := hA
    have hval : ∀ (j : Nat) t v, #[34, 34][j]? = some t → args[j]? = some v → Value.okWide Tryz.prog W .any base t v := hval
    obtain ⟨v0, v1, d0, d1, p0, p1, rfl, rfl, rfl, h0, h1⟩ := trodAll_two hA
    obtain ⟨z0, rfl, rfl, rfl, w0⟩ := open_int Tryz.underlying34 (hval 0 34 v0 rfl rfl) h0
    have u0 := w0
    simp [Lit.wf, IntKind.min, IntKind.max, IntKind.signed, IntKind.bits] at u0
    obtain ⟨z1, rfl, rfl, rfl, w1⟩ := open_int Tryz.underlying34 (hval 1 34 v1 rfl rfl) h1
    have u1 := w1
    simp [Lit.wf, IntKind.min, IntKind.max, IntKind.signed, IntKind.bits] at u1
    exact law_of W z0 z1 (by omega) (by omega) (by omega) (by omega) (tab_of_laid hX) (maxL_of hsh)

theorem ratioOf_holds : Rows.RatioOfSaid :=
  OpenClaim.holds_of_wide 4 Tryz.f4 rfl rfl rfl rfl rfl rfl rfl ⟨rfl, rfl, rfl, rfl, rfl⟩ rfl rfl rfl rfl rfl (by kernel_rfl) Tryz.func4 (by kernel_rfl)
    (of_decide_eq_true (by kernel_rfl)) (by unfold Func.isWrapper; first | (rw [if_pos (by decide +kernel)]; kernel_rfl) | (rw [if_neg (by decide +kernel)]; exact ⟨rfl, rfl⟩))
    (fun os started H enc _ => ratioOf_lifted os started H enc)

set_option maxRecDepth 100000 in
theorem ratioOf_card : Rows.RatioOfCardSaid :=
  Claim7.holds_tied_plain_at .later [] [.data, .data, .data, .sentinel, .sentinel] true (true, "aa0bf01c8a9a4406ac033a6cfdc55644ee00c70b1fd0cd3330a83b30248ad9c2") true
    ratioOf_holds (fun _ h => by cases h) (by kernel_rfl) (fun _ h => by cases h) ratioOf_row_tie rfl ⟨rfl, rfl⟩ (by kernel_rfl) rfl
    (fun f fn hf hfn => by
      obtain rfl : f = 4 := Option.some.inj ((show Tryz.prog.funcNamed "sheave/sheavelaw02.RatioOf" = some 4 by kernel_rfl).symm.trans hf) |>.symm
      obtain rfl : fn = Tryz.f4 := (Option.some.inj (Tryz.func4.symm.trans hfn)).symm
      exact ⟨by kernel_rfl, fun j t ht => by
        rw [Tryz.params4] at ht
        have hm : t ∈ [34, 34] := by
          have h1 := Array.mem_of_getElem? ht
          simpa using h1
        simp at hm
        obtain rfl : t = 34 := by simpa using hm
        exact (show Tryz.prog.wantsStandIn 34 = false by kernel_rfl)⟩)
    (by kernel_rfl)
#print axioms ratioOf_card
end Go.Proofs.YtoiokopmpcogbaaGreatDoor
