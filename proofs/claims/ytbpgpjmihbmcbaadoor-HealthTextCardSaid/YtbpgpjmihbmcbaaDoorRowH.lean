/-
  THE ROW AND THE CARD of the law HealthText.
  Conditions: none.
-/
import Derived.Test.YtbpgpjmihbmcbaaDoorHeT5
import Derived.Test.YtbpgpjmihbmcbaaDoorOpenT
import Derived.Test.YtbpgpjmihbmcbaaDoorCards
import Derived.Test.YtbpgpjmihbmcbaaDoorTie
import Derived.SevenTiedAt
namespace Go.Proofs.YtbpgpjmihbmcbaaDoor
open Go.ChangeShapes Go.WideShapes Go.ChangeAt Go.RowKit Go.Sv

theorem ok26 : Tryd.prog.readableRec 26 = true ∧ 26 < Tryd.prog.types.size := ⟨by kernel_rfl, of_decide_eq_true (by kernel_rfl)⟩

set_option maxRecDepth 100000 in
theorem healthText_lifted (os : Os) (started : os.Started) (H : Type) (enc : TypeId × Value → H) :
    ReturnsInHanded {} Tryd.checked os 10 .any (fun w args => (Rows.healthTextSpec.pre enc Tryd.prog Tryd.f10 [] false w args ∧ laidMetH Tryd.prog laid7 w) ∧ sizedMet enc Tryd.prog Tryd.f10 (OpenSpec.ofChange Rows.healthTextSpec) false w args)
      (Rows.healthTextSpec.post enc Tryd.prog Tryd.f10 false true false false) := by
  refine law_retXS (C := Tryd.checked) (X := fun w _ => laidMetH Tryd.prog laid7 w) (tb := 4) (fun _ _ _ hh h => h.of_heap hh) own started (by kernel_rfl) Tryd.func10
    (ChangeSpec.witness_shaped (enc := enc) (C := Tryd.checked) (os := os) (X := fun w _ => laidMetH Tryd.prog laid7 w) false (World.laidAll Tryd.prog os laid7) #[.agg #[.slice none 0 0, .slice none 0 0]] 8 (World.laidAll_os _ _ _) (door_shaped os _) (by kernel_rfl) (by kernel_rfl) (by kernel_rfl) (door_met os _))
    laidOut ?_ rfl Tryd.underlying4 rfl ?_ ?_
  · intro t ht
    have ht : t ∈ [26] := ht
    simp at ht
    obtain rfl := ht
    exact ok26
  · intro ds hl
    match ds, hl with
    | [d1], _ => rfl
  · intro W base args ds ps hval hA hlt hz hX hsh
    have hA : DataW.TrodAll enc Tryd.prog W 0 (fun _ => true) true [26] args.toList ds ps := hA
    have hval : ∀ (j : Nat) t v, #[26][j]? = some t → args[j]? = some v → Value.okWide Tryd.prog W .any base t v := hval
    obtain ⟨v0, d0, rfl, rfl, h0⟩ := trodAll_one hA
    obtain ⟨t, q, rfl, hp, hbd⟩ := open_tst (hval 0 26 v0 rfl rfl) h0 hlt
    exact law_text t q W hp hbd (pow_of_laid hX) (maxL_of hsh)

theorem healthText_holds : Rows.HealthTextSaid :=
  OpenClaim.holds_of_wide 10 Tryd.f10 rfl rfl rfl rfl rfl rfl rfl ⟨rfl, rfl, rfl, rfl, rfl⟩ rfl rfl rfl rfl rfl (by kernel_rfl) Tryd.func10 (by kernel_rfl)
    (of_decide_eq_true (by kernel_rfl)) (by unfold Func.isWrapper; first | (rw [if_pos (by decide +kernel)]; kernel_rfl) | (rw [if_neg (by decide +kernel)]; exact ⟨rfl, rfl⟩))
    (fun os started H enc _ => healthText_lifted os started H enc)

set_option maxRecDepth 100000 in
theorem healthText_card : Rows.HealthTextCardSaid :=
  Claim7.holds_tied_plain_at .later [] [.data, .data, .data, .data, .sentinel, .sentinel, .pinned] true (true, "72ffc916d6e89cd0ec0da4f759f17396dcf84690b5983015d3c8469528ae22c9") true
    healthText_holds (fun _ h => by cases h) (by kernel_rfl) (fun _ h => by cases h) healthText_row_tie rfl ⟨rfl, rfl⟩ (by kernel_rfl) rfl
    (fun f fn hf hfn => by
      obtain rfl : f = 10 := Option.some.inj ((show Tryd.prog.funcNamed "sheave/sheavelaw45.HealthText" = some 10 by kernel_rfl).symm.trans hf) |>.symm
      obtain rfl : fn = Tryd.f10 := (Option.some.inj (Tryd.func10.symm.trans hfn)).symm
      exact ⟨by kernel_rfl, fun j t ht => by
        rw [Tryd.params10] at ht
        have hm : t ∈ [26] := by
          have h1 := Array.mem_of_getElem? ht
          simpa using h1
        simp at hm
        obtain rfl : t = 26 := by simpa using hm
        exact (show Tryd.prog.wantsStandIn 26 = false by kernel_rfl)⟩)
    (by kernel_rfl)
#print axioms healthText_card
end Go.Proofs.YtbpgpjmihbmcbaaDoor
