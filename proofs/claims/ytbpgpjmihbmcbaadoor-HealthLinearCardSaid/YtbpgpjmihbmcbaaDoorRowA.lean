/-
  THE ROW AND THE CARD of the law HealthLinear.
  Conditions: none.
-/
import Derived.Test.YtbpgpjmihbmcbaaDoorHeaL
import Derived.Test.YtbpgpjmihbmcbaaDoorOpenT
import Derived.Test.YtbpgpjmihbmcbaaDoorHeaM
import Derived.Test.YtbpgpjmihbmcbaaDoorCards
import Derived.Test.YtbpgpjmihbmcbaaDoorTie
import Derived.SevenTiedAt
namespace Go.Proofs.YtbpgpjmihbmcbaaDoor
open Go.ChangeShapes Go.WideShapes Go.ChangeAt Go.RowKit Go.Sv

theorem ok36 : Tryd.prog.readableRec 36 = true ∧ 36 < Tryd.prog.types.size := ⟨by kernel_rfl, of_decide_eq_true (by kernel_rfl)⟩

set_option maxRecDepth 100000 in
theorem healthLinear_lifted (os : Os) (started : os.Started) (H : Type) (enc : TypeId × Value → H) :
    ReturnsInHanded {} Tryd.checked os 4 .any (fun w args => (Rows.healthLinearSpec.pre enc Tryd.prog Tryd.f4 [] false w args ∧ laidMetH Tryd.prog laid3 w) ∧ sizedMet enc Tryd.prog Tryd.f4 (OpenSpec.ofChange Rows.healthLinearSpec) false w args)
      (Rows.healthLinearSpec.post enc Tryd.prog Tryd.f4 false true false false) := by
  refine law_retX (C := Tryd.checked) (X := fun w _ => laidMetH Tryd.prog laid3 w) (tb := 4) (fun _ _ _ hh h => h.of_heap hh) own started (by kernel_rfl) Tryd.func4
    (ChangeSpec.witness_shaped (enc := enc) (C := Tryd.checked) (os := os) (X := fun w _ => laidMetH Tryd.prog laid3 w) false (World.doorLaid Tryd.prog 400 os) #[.agg #[.int .i64 0, .int .i64 0, .int .i64 0, .int .i64 0, .int .i64 0]] 8 rfl (door_shaped os _) (by kernel_rfl) (by kernel_rfl) (by kernel_rfl) (door_met os _))
    laidOut ?_ rfl Tryd.underlying4 rfl ?_ ?_
  · intro t ht
    have ht : t ∈ [36] := ht
    simp at ht
    obtain rfl := ht
    exact ok36
  · intro ds hl
    match ds, hl with
    | [d1], _ => rfl
  · intro W base args ds ps hval hA hlt hz hX
    have hA : DataW.TrodAll enc Tryd.prog W 0 (fun _ => true) true [36] args.toList ds ps := hA
    have hval : ∀ (j : Nat) t v, #[36][j]? = some t → args[j]? = some v → Value.okWide Tryd.prog W .any base t v := hval
    obtain ⟨v0, d0, rfl, rfl, h0⟩ := trodAll_one hA
    obtain ⟨a, b, c, d, e, rfl⟩ := open_five (hval 0 36 v0 rfl rfl) h0
    exact law_linear a b c d e W (tab_of_laid hX)

theorem healthLinear_holds : Rows.HealthLinearSaid :=
  OpenClaim.holds_of_wide 4 Tryd.f4 rfl rfl rfl rfl rfl rfl rfl ⟨rfl, rfl, rfl, rfl, rfl⟩ rfl rfl rfl rfl rfl (by kernel_rfl) Tryd.func4 (by kernel_rfl)
    (of_decide_eq_true (by kernel_rfl)) (by unfold Func.isWrapper; first | (rw [if_pos (by decide +kernel)]; kernel_rfl) | (rw [if_neg (by decide +kernel)]; exact ⟨rfl, rfl⟩))
    (fun os started H enc _ => healthLinear_lifted os started H enc)

set_option maxRecDepth 100000 in
theorem healthLinear_card : Rows.HealthLinearCardSaid :=
  Claim7.holds_tied_plain_at .later [] [.data, .data, .data] true (true, "72ffc916d6e89cd0ec0da4f759f17396dcf84690b5983015d3c8469528ae22c9") true
    healthLinear_holds (fun _ h => by cases h) (by kernel_rfl) (fun _ h => by cases h) healthLinear_row_tie rfl ⟨rfl, rfl⟩ (by kernel_rfl) rfl
    (fun f fn hf hfn => by
      obtain rfl : f = 4 := Option.some.inj ((show Tryd.prog.funcNamed "sheave/sheavelaw45.HealthLinear" = some 4 by kernel_rfl).symm.trans hf) |>.symm
      obtain rfl : fn = Tryd.f4 := (Option.some.inj (Tryd.func4.symm.trans hfn)).symm
      exact ⟨by kernel_rfl, fun j t ht => by
        rw [Tryd.params4] at ht
        have hm : t ∈ [36] := by
          have h1 := Array.mem_of_getElem? ht
          simpa using h1
        simp at hm
        obtain rfl : t = 36 := by simpa using hm
        exact (show Tryd.prog.wantsStandIn 36 = false by kernel_rfl)⟩)
    (by kernel_rfl)
#print axioms healthLinear_card
end Go.Proofs.YtbpgpjmihbmcbaaDoor
