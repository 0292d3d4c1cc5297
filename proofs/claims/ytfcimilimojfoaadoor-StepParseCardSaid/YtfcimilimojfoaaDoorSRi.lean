/-
  THE ROW AND THE CARD of the law StepParse.
  Conditions: none.
-/
import Derived.Test.YtfcimilimojfoaaDoorStLe
import Derived.Test.YtfcimilimojfoaaDoorCards
import Derived.Test.YtfcimilimojfoaaDoorTie
import Derived.SevenTiedAt
namespace Go.Proofs.YtfcimilimojfoaaDoor
open Go.ChangeShapes Go.WideShapes Go.ChangeAt Go.RowKit Go.Sv

theorem ok9 : Tryd.prog.readableRec 9 = true ∧ 9 < Tryd.prog.types.size := ⟨by kernel_rfl, of_decide_eq_true (by kernel_rfl)⟩

set_option maxRecDepth 100000 in
theorem stepParse_lifted (os : Os) (started : os.Started) (H : Type) (enc : TypeId × Value → H) :
    ReturnsInHanded {} Tryd.checked os 11 .any (fun w args => (Rows.stepParseSpec.pre enc Tryd.prog Tryd.f11 [] false w args ∧ laidMetH Tryd.prog laid7 w) ∧ sizedMet enc Tryd.prog Tryd.f11 (OpenSpec.ofChange Rows.stepParseSpec) false w args)
      (Rows.stepParseSpec.post enc Tryd.prog Tryd.f11 false true false false) := by
  refine law_retXS (C := Tryd.checked) (X := fun w _ => laidMetH Tryd.prog laid7 w) (tb := 4) (fun _ _ _ hh h => h.of_heap hh) own started (by kernel_rfl) Tryd.func11
    (ChangeSpec.witness_shaped (enc := enc) (C := Tryd.checked) (os := os) (X := fun w _ => laidMetH Tryd.prog laid7 w) false (World.laidAll Tryd.prog os laid7) #[.string ⟨#[]⟩] 8 (World.laidAll_os _ _ _) (door_shaped os _) (by kernel_rfl) (by kernel_rfl) (by kernel_rfl) (door_met os _))
    laidOut ?_ rfl Tryd.underlying4 rfl ?_ ?_
  · intro t ht
    have ht : t ∈ [9] := ht
    simp at ht
    obtain rfl := ht
    exact ok9
  · intro ds hl
    match ds, hl with
    | [d1], _ => rfl
  · intro W base args ds ps hval hA hlt hz hX hsh
    have hA : DataW.TrodAll enc Tryd.prog W 0 (fun _ => true) true [9] args.toList ds ps := hA
    have hval : ∀ (j : Nat) t v, #[9][j]? = some t → args[j]? = some v → Value.okWide Tryd.prog W .any base t v := hval
    obtain ⟨v0, d0, rfl, rfl, h0⟩ := trodAll_one hA
    obtain ⟨s, rfl, rfl, rfl, ws⟩ := Go.ChangeMaps.open_string Tryd.underlying9 (hval 0 9 v0 rfl rfl) h0
    exact law_parse s.data.toList W (tb_of hX hsh) (by rw [bytes_len]; exact Nat.le_trans ws maxLen_le)

theorem stepParse_holds : Rows.StepParseSaid :=
  OpenClaim.holds_of_wide 11 Tryd.f11 rfl rfl rfl rfl rfl rfl rfl ⟨rfl, rfl, rfl, rfl, rfl⟩ rfl rfl rfl rfl rfl (by kernel_rfl) Tryd.func11 (by kernel_rfl)
    (of_decide_eq_true (by kernel_rfl)) (by unfold Func.isWrapper; first | (rw [if_pos (by decide +kernel)]; kernel_rfl) | (rw [if_neg (by decide +kernel)]; exact ⟨rfl, rfl⟩))
    (fun os started H enc _ => stepParse_lifted os started H enc)

set_option maxRecDepth 100000 in
theorem stepParse_card : Rows.StepParseCardSaid :=
  Claim7.holds_tied_plain_at .later [] [.data, .data, .data, .data, .sentinel, .sentinel, .pinned] true (true, "ee55dc67238f08ef23a8cfe83403ceeb0dfbf2bf0a21886511c221c8037ac696") true
    stepParse_holds (fun _ h => by cases h) (by kernel_rfl) (fun _ h => by cases h) stepParse_row_tie rfl ⟨rfl, rfl⟩ (by kernel_rfl) rfl
    (fun f fn hf hfn => by
      obtain rfl : f = 11 := Option.some.inj ((show Tryd.prog.funcNamed "sheave/sheavelaw37.StepParse" = some 11 by kernel_rfl).symm.trans hf) |>.symm
      obtain rfl : fn = Tryd.f11 := (Option.some.inj (Tryd.func11.symm.trans hfn)).symm
      exact ⟨by kernel_rfl, fun j t ht => by
        rw [Tryd.params11] at ht
        have hm : t ∈ [9] := by
          have h1 := Array.mem_of_getElem? ht
          simpa using h1
        simp at hm
        obtain rfl : t = 9 := by simpa using hm
        exact (show Tryd.prog.wantsStandIn 9 = false by kernel_rfl)⟩)
    (by kernel_rfl)
#print axioms stepParse_card
end Go.Proofs.YtfcimilimojfoaaDoor
