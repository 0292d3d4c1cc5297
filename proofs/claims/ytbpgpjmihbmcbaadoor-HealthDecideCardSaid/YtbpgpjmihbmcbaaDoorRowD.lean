/-
  THE ROW AND THE CARD of the law HealthDecide.
  Conditions: none.
-/
import Derived.Test.YtbpgpjmihbmcbaaDoorHeaL
import Derived.Test.YtbpgpjmihbmcbaaDoorOpenT
import Derived.Test.YtbpgpjmihbmcbaaDoorHeaS
import Derived.Test.YtbpgpjmihbmcbaaDoorCards
import Derived.Test.YtbpgpjmihbmcbaaDoorTie
import Derived.SevenTiedAt
namespace Go.Proofs.YtbpgpjmihbmcbaaDoor
open Go.ChangeShapes Go.WideShapes Go.ChangeAt Go.RowKit Go.Sv

theorem ok26 : Tryd.prog.readableRec 26 = true ∧ 26 < Tryd.prog.types.size := ⟨by kernel_rfl, of_decide_eq_true (by kernel_rfl)⟩
theorem ok31 : Tryd.prog.readableRec 31 = true ∧ 31 < Tryd.prog.types.size := ⟨by kernel_rfl, of_decide_eq_true (by kernel_rfl)⟩

set_option maxRecDepth 100000 in
theorem healthDecide_lifted (os : Os) (started : os.Started) (H : Type) (enc : TypeId × Value → H) :
    ReturnsInHanded {} Tryd.checked os 8 .any (fun w args => (Rows.healthDecideSpec.pre enc Tryd.prog Tryd.f8 [] false w args ∧ laidMetH Tryd.prog laid3 w) ∧ sizedMet enc Tryd.prog Tryd.f8 (OpenSpec.ofChange Rows.healthDecideSpec) false w args)
      (Rows.healthDecideSpec.post enc Tryd.prog Tryd.f8 false true false false) := by
  refine law_retX (C := Tryd.checked) (X := fun w _ => laidMetH Tryd.prog laid3 w) (tb := 4) (fun _ _ _ hh h => h.of_heap hh) own started (by kernel_rfl) Tryd.func8
    (ChangeSpec.witness_shaped (enc := enc) (C := Tryd.checked) (os := os) (X := fun w _ => laidMetH Tryd.prog laid3 w) false (World.doorLaid Tryd.prog 400 os) #[.agg #[.slice none 0 0, .slice none 0 0], .slice none 0 0] 8 rfl (door_shaped os _) (by kernel_rfl) (by kernel_rfl) (by kernel_rfl) (door_met os _))
    laidOut ?_ rfl Tryd.underlying4 rfl ?_ ?_
  · intro t ht
    have ht : t ∈ [26, 31] := ht
    simp at ht
    rcases ht with rfl | rfl
    · exact ok26
    · exact ok31
  · intro ds hl
    match ds, hl with
    | [d1, d2], _ => rfl
  · intro W base args ds ps hval hA hlt hz hX
    have hA : DataW.TrodAll enc Tryd.prog W 0 (fun _ => true) true [26, 31] args.toList ds ps := hA
    have hval : ∀ (j : Nat) t v, #[26, 31][j]? = some t → args[j]? = some v → Value.okWide Tryd.prog W .any base t v := hval
    obtain ⟨v0, v1, d0, d1, p0, p1, rfl, rfl, rfl, h0, h1⟩ := trodAll_two hA
    obtain ⟨t, q, rfl, hp, hbd⟩ := open_tst (hval 0 26 v0 rfl rfl) h0 (fun x hx => hlt x (by simp [hx]))
    obtain ⟨A, l, c, rfl, hn, hAn, hl⟩ := open_bools (hval 1 31 v1 rfl rfl) h1 (fun x hx => hlt x (by simp [hx]))
    exact law_decide t q A l c W hp hbd (tab_of_laid hX) hl hAn hn

theorem healthDecide_holds : Rows.HealthDecideSaid :=
  OpenClaim.holds_of_wide 8 Tryd.f8 rfl rfl rfl rfl rfl rfl rfl ⟨rfl, rfl, rfl, rfl, rfl⟩ rfl rfl rfl rfl rfl (by kernel_rfl) Tryd.func8 (by kernel_rfl)
    (of_decide_eq_true (by kernel_rfl)) (by unfold Func.isWrapper; first | (rw [if_pos (by decide +kernel)]; kernel_rfl) | (rw [if_neg (by decide +kernel)]; exact ⟨rfl, rfl⟩))
    (fun os started H enc _ => healthDecide_lifted os started H enc)

set_option maxRecDepth 100000 in
theorem healthDecide_card : Rows.HealthDecideCardSaid :=
  Claim7.holds_tied_plain_at .later [] [.data, .data, .data] true (true, "72ffc916d6e89cd0ec0da4f759f17396dcf84690b5983015d3c8469528ae22c9") true
    healthDecide_holds (fun _ h => by cases h) (by kernel_rfl) (fun _ h => by cases h) healthDecide_row_tie rfl ⟨rfl, rfl⟩ (by kernel_rfl) rfl
    (fun f fn hf hfn => by
      obtain rfl : f = 8 := Option.some.inj ((show Tryd.prog.funcNamed "sheave/sheavelaw45.HealthDecide" = some 8 by kernel_rfl).symm.trans hf) |>.symm
      obtain rfl : fn = Tryd.f8 := (Option.some.inj (Tryd.func8.symm.trans hfn)).symm
      exact ⟨by kernel_rfl, fun j t ht => by
        rw [Tryd.params8] at ht
        have hm : t ∈ [26, 31] := by
          have h1 := Array.mem_of_getElem? ht
          simpa using h1
        simp at hm
        rcases hm with rfl | rfl
        · exact (show Tryd.prog.wantsStandIn 26 = false by kernel_rfl)
        · exact (show Tryd.prog.wantsStandIn 31 = false by kernel_rfl)⟩)
    (by kernel_rfl)
#print axioms healthDecide_card
end Go.Proofs.YtbpgpjmihbmcbaaDoor
