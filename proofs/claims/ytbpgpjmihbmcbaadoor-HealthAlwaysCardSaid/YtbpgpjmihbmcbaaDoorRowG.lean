/-
  THE ROW AND THE CARD of the law HealthAlways.
  Conditions: none.
-/
import Derived.Test.YtbpgpjmihbmcbaaDoorHeaL
import Derived.Test.YtbpgpjmihbmcbaaDoorOpenB
import Derived.Test.YtbpgpjmihbmcbaaDoorHeaY
import Derived.Test.YtbpgpjmihbmcbaaDoorCards
import Derived.Test.YtbpgpjmihbmcbaaDoorTie
import Derived.SevenTiedAt
namespace Go.Proofs.YtbpgpjmihbmcbaaDoor
open Go.ChangeShapes Go.WideShapes Go.ChangeAt Go.RowKit Go.Sv

theorem ok42 : Tryd.prog.readableRec 42 = true ∧ 42 < Tryd.prog.types.size := ⟨by kernel_rfl, of_decide_eq_true (by kernel_rfl)⟩
theorem ok5 : Tryd.prog.readableRec 5 = true ∧ 5 < Tryd.prog.types.size := ⟨by kernel_rfl, of_decide_eq_true (by kernel_rfl)⟩

set_option maxRecDepth 100000 in
theorem healthAlways_lifted (os : Os) (started : os.Started) (H : Type) (enc : TypeId × Value → H) :
    ReturnsInHanded {} Tryd.checked os 9 .any (fun w args => (Rows.healthAlwaysSpec.pre enc Tryd.prog Tryd.f9 [] false w args ∧ laidMetH Tryd.prog laid3 w) ∧ sizedMet enc Tryd.prog Tryd.f9 (OpenSpec.ofChange Rows.healthAlwaysSpec) false w args)
      (Rows.healthAlwaysSpec.post enc Tryd.prog Tryd.f9 false true false false) := by
  refine law_retX (C := Tryd.checked) (X := fun w _ => laidMetH Tryd.prog laid3 w) (tb := 4) (fun _ _ _ hh h => h.of_heap hh) own started (by kernel_rfl) Tryd.func9
    (ChangeSpec.witness_shaped (enc := enc) (C := Tryd.checked) (os := os) (X := fun w _ => laidMetH Tryd.prog laid3 w) false (World.doorLaid Tryd.prog 400 os) #[.slice none 0 0, .int .u8 0] 8 rfl (door_shaped os _) (by kernel_rfl) (by kernel_rfl) (by kernel_rfl) (door_met os _))
    laidOut ?_ rfl Tryd.underlying4 rfl ?_ ?_
  · intro t ht
    have ht : t ∈ [42, 5] := ht
    simp at ht
    rcases ht with rfl | rfl
    · exact ok42
    · exact ok5
  · intro ds hl
    match ds, hl with
    | [d1, d2], _ => rfl
  · intro W base args ds ps hval hA hlt hz hX
    have hA : DataW.TrodAll enc Tryd.prog W 0 (fun _ => true) true [42, 5] args.toList ds ps := hA
    have hval : ∀ (j : Nat) t v, #[42, 5][j]? = some t → args[j]? = some v → Value.okWide Tryd.prog W .any base t v := hval
    obtain ⟨v0, v1, d0, d1, p0, p1, rfl, rfl, rfl, h0, h1⟩ := trodAll_two hA
    obtain ⟨A, l, c, rfl, hn, hb, ha⟩ := open_bytes (hval 0 42 v0 rfl rfl) h0 (fun x hx => hlt x (by simp [hx]))
    obtain ⟨z1, rfl, rfl, rfl, w1⟩ := open_int Tryd.underlying5 (hval 1 5 v1 rfl rfl) h1
    have u2 : 0 ≤ z1 ∧ z1 < 256 := by simp [Lit.wf, IntKind.min, IntKind.max, IntKind.signed, IntKind.bits] at w1; omega
    exact law_always l A c z1 W (tab_of_laid hX) hn hb ha u2.1 u2.2

theorem healthAlways_holds : Rows.HealthAlwaysSaid :=
  OpenClaim.holds_of_wide 9 Tryd.f9 rfl rfl rfl rfl rfl rfl rfl ⟨rfl, rfl, rfl, rfl, rfl⟩ rfl rfl rfl rfl rfl (by kernel_rfl) Tryd.func9 (by kernel_rfl)
    (of_decide_eq_true (by kernel_rfl)) (by unfold Func.isWrapper; first | (rw [if_pos (by decide +kernel)]; kernel_rfl) | (rw [if_neg (by decide +kernel)]; exact ⟨rfl, rfl⟩))
    (fun os started H enc _ => healthAlways_lifted os started H enc)

set_option maxRecDepth 100000 in
theorem healthAlways_card : Rows.HealthAlwaysCardSaid :=
  Claim7.holds_tied_plain_at .later [] [.data, .data, .data] true (true, "72ffc916d6e89cd0ec0da4f759f17396dcf84690b5983015d3c8469528ae22c9") true
    healthAlways_holds (fun _ h => by cases h) (by kernel_rfl) (fun _ h => by cases h) healthAlways_row_tie rfl ⟨rfl, rfl⟩ (by kernel_rfl) rfl
    (fun f fn hf hfn => by
      obtain rfl : f = 9 := Option.some.inj ((show Tryd.prog.funcNamed "sheave/sheavelaw45.HealthAlways" = some 9 by kernel_rfl).symm.trans hf) |>.symm
      obtain rfl : fn = Tryd.f9 := (Option.some.inj (Tryd.func9.symm.trans hfn)).symm
      exact ⟨by kernel_rfl, fun j t ht => by
        rw [Tryd.params9] at ht
        have hm : t ∈ [42, 5] := by
          have h1 := Array.mem_of_getElem? ht
          simpa using h1
        simp at hm
        rcases hm with rfl | rfl
        · exact (show Tryd.prog.wantsStandIn 42 = false by kernel_rfl)
        · exact (show Tryd.prog.wantsStandIn 5 = false by kernel_rfl)⟩)
    (by kernel_rfl)
#print axioms healthAlways_card
end Go.Proofs.YtbpgpjmihbmcbaaDoor
