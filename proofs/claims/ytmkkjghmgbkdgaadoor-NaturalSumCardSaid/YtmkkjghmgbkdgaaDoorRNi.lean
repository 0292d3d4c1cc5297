/-
  THE ROW AND THE CARD of the law NaturalSum.
  Conditions: none.
-/
import Derived.Test.YtmkkjghmgbkdgaaDoorNaOp
import Derived.Test.YtmkkjghmgbkdgaaDoorNaY
import Derived.Test.YtmkkjghmgbkdgaaDoorCards
import Derived.Test.YtmkkjghmgbkdgaaDoorTie
import Derived.SevenTiedAt
namespace Go.Proofs.YtmkkjghmgbkdgaaDoor
open Go.ChangeShapes Go.WideShapes Go.ChangeAt Go.RowKit Go.Sv

theorem ok26 : Tryd.prog.readableRec 26 = true ∧ 26 < Tryd.prog.types.size := ⟨by kernel_rfl, of_decide_eq_true (by kernel_rfl)⟩

set_option maxRecDepth 100000 in
theorem naturalSum_lifted (os : Os) (started : os.Started) (H : Type) (enc : TypeId × Value → H) :
    ReturnsInHanded {} Tryd.checked os 11 .any (fun w args => (Rows.naturalSumSpec.pre enc Tryd.prog Tryd.f11 [] false w args ∧ laidMetH Tryd.prog laid5 w) ∧ sizedMet enc Tryd.prog Tryd.f11 (OpenSpec.ofChange Rows.naturalSumSpec) false w args)
      (Rows.naturalSumSpec.post enc Tryd.prog Tryd.f11 false true false false) := by
  refine law_retX (C := Tryd.checked) (X := fun w _ => laidMetH Tryd.prog laid5 w) (tb := 4) (fun _ _ _ hh h => h.of_heap hh) own started (by kernel_rfl) Tryd.func11
    (ChangeSpec.witness_shaped (enc := enc) (C := Tryd.checked) (os := os) (X := fun w _ => laidMetH Tryd.prog laid5 w) false (World.doorLaid Tryd.prog 800 os) #[.agg #[.slice none 0 0], .agg #[.slice none 0 0]] 8 rfl (door_shaped os _) (by kernel_rfl) (by kernel_rfl) (by kernel_rfl) (door_met os _))
    laidOut ?_ rfl Tryd.underlying4 rfl ?_ ?_
  · intro t ht
    have ht : t ∈ [26, 26] := ht
    simp at ht
    obtain rfl : t = 26 := by simpa using ht
    exact ok26
  · intro ds hl
    match ds, hl with
    | [d1, d2], _ => rfl
  · intro W base args ds ps hval hA hlt hz hX
    have hA : DataW.TrodAll enc Tryd.prog W 0 (fun _ => true) true [26, 26] args.toList ds ps := hA
    have hval : ∀ (j : Nat) t v, #[26, 26][j]? = some t → args[j]? = some v → Value.okWide Tryd.prog W .any base t v := hval
    obtain ⟨v0, v1, d0, d1, p0, p1, rfl, rfl, rfl, h0, h1⟩ := trodAll_two hA
    obtain ⟨a, qa, rfl, ra, ma⟩ := open_nat (hval 0 26 v0 rfl rfl) h0 (fun x hx => hlt x (by simp [hx]))
    obtain ⟨b, qb, rfl, rb, mb⟩ := open_nat (hval 1 26 v1 rfl rfl) h1 (fun x hx => hlt x (by simp [hx]))
    exact law_sum W a qa ra ma b qb rb mb (tab_of_laid hX)

theorem naturalSum_holds : Rows.NaturalSumSaid :=
  OpenClaim.holds_of_wide 11 Tryd.f11 rfl rfl rfl rfl rfl rfl rfl ⟨rfl, rfl, rfl, rfl, rfl⟩ rfl rfl rfl rfl rfl (by kernel_rfl) Tryd.func11 (by kernel_rfl)
    (of_decide_eq_true (by kernel_rfl)) (by unfold Func.isWrapper; first | (rw [if_pos (by decide +kernel)]; kernel_rfl) | (rw [if_neg (by decide +kernel)]; exact ⟨rfl, rfl⟩))
    (fun os started H enc _ => naturalSum_lifted os started H enc)

set_option maxRecDepth 100000 in
theorem naturalSum_card : Rows.NaturalSumCardSaid :=
  Claim7.holds_tied_plain_at .later [] [.data, .data, .data, .sentinel, .sentinel] true (true, "4f5fae836c0706df07f189959de3c9fd2e77175eaeb497a600d8a197b6251759") true
    naturalSum_holds (fun _ h => by cases h) (by kernel_rfl) (fun _ h => by cases h) naturalSum_row_tie rfl ⟨rfl, rfl⟩ (by kernel_rfl) rfl
    (fun f fn hf hfn => by
      obtain rfl : f = 11 := Option.some.inj ((show Tryd.prog.funcNamed "sheave/sheavelaw01.NaturalSum" = some 11 by kernel_rfl).symm.trans hf) |>.symm
      obtain rfl : fn = Tryd.f11 := (Option.some.inj (Tryd.func11.symm.trans hfn)).symm
      exact ⟨by kernel_rfl, fun j t ht => by
        rw [Tryd.params11] at ht
        have hm : t ∈ [26, 26] := by
          have h1 := Array.mem_of_getElem? ht
          simpa using h1
        simp at hm
        obtain rfl : t = 26 := by simpa using hm
        exact (show Tryd.prog.wantsStandIn 26 = false by kernel_rfl)⟩)
    (by kernel_rfl)
#print axioms naturalSum_card
end Go.Proofs.YtmkkjghmgbkdgaaDoor
