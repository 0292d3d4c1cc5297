/-
  THE ROW AND THE CARD of the law RatioField.
  Conditions: none.
-/
import Derived.Test.YtoiokopmpcogbaaGreatDoorRaOp
import Derived.Test.YtoiokopmpcogbaaGreatDoorRbD
import Derived.Test.YtoiokopmpcogbaaGreatDoorCards
import Derived.Test.YtoiokopmpcogbaaGreatDoorTie
import Derived.SevenTiedAt
namespace Go.Proofs.YtoiokopmpcogbaaGreatDoor
open Go.ChangeShapes Go.WideShapes Go.ChangeAt Go.RowKit Go.Sv

theorem ok48 : Tryz.prog.readableRec 48 = true ∧ 48 < Tryz.prog.types.size := ⟨by kernel_rfl, of_decide_eq_true (by kernel_rfl)⟩

section
variable {H : Type} {enc : TypeId × Value → H} {W : World}
set_option maxRecDepth 100000 in
theorem open_small {v : Value} {d : DataW H} {p : List MemPlace} {base : Nat} (hv : Value.okWide Tryz.prog W .any base 48 v) (h : DataW.Trod enc Tryz.prog W 0 (fun _ => true) true 48 v d p) :
    ∃ a b : Nat, v = .agg #[.int .u32 (a : Int), .int .u32 (b : Int)] ∧ a < 4294967296 ∧ b < 4294967296 := by
  obtain ⟨v0, v1, y0, y1, n, rfl, rfl, rfl, h0, h1⟩ := Joins.open_agg2 Tryz.underlying48 (by kernel_rfl) (by kernel_rfl) hv h
  obtain ⟨z0, e0, w0⟩ := DataW.trod_int Tryz.underlying46 h0
  obtain ⟨z1, e1, w1⟩ := DataW.trod_int Tryz.underlying46 h1
  simp at e0 e1
  subst e0 e1
  have u0 := w0.2
  have u1 := w1.2
  simp [Lit.wf, IntKind.min, IntKind.max, IntKind.signed, IntKind.bits] at u0 u1
  exact ⟨z0.toNat, z1.toNat, by rw [Int.toNat_of_nonneg (by omega), Int.toNat_of_nonneg (by omega)], by omega, by omega⟩
end

set_option maxRecDepth 100000 in
theorem ratioField_lifted (os : Os) (started : os.Started) (H : Type) (enc : TypeId × Value → H) :
    ReturnsInHanded {} Tryz.checked os 12 .any (fun w args => (Rows.ratioFieldSpec.pre enc Tryz.prog Tryz.f12 [] false w args ∧ laidMetH Tryz.prog laid5 w) ∧ sizedMet enc Tryz.prog Tryz.f12 (OpenSpec.ofChange Rows.ratioFieldSpec) false w args)
      (Rows.ratioFieldSpec.post enc Tryz.prog Tryz.f12 false true false false) := by
  refine law_retXS (C := Tryz.checked) (X := fun w _ => laidMetH Tryz.prog laid5 w) (tb := 4) (fun _ _ _ hh h => h.of_heap hh) own started (by kernel_rfl) Tryz.func12
    (ChangeSpec.witness_shaped (enc := enc) (C := Tryz.checked) (os := os) (X := fun w _ => laidMetH Tryz.prog laid5 w) false (World.doorLaid Tryz.prog 800 os) #[.agg #[.int .u32 0, .int .u32 0], .agg #[.int .u32 0, .int .u32 0], .agg #[.int .u32 0, .int .u32 0]] 8 rfl (door_shaped os _) (by kernel_rfl) (by kernel_rfl) (by kernel_rfl) (door_met os _))
    laidOut ?_ rfl Tryz.underlying4 rfl ?_ ?_
  · intro t ht
    have ht : t ∈ [48, 48, 48] := ht
    simp at ht
    obtain rfl : t = 48 := by simpa using ht
    exact ok48
  · intro ds hl
    match ds, hl with
    | [d1, d2, d3], _ => rfl
  · intro W base args ds ps hval hA hlt hz hX hsh
    have hA : DataW.TrodAll enc Tryz.prog W 0 (fun _ => true) true [48, 48, 48] args.toList ds ps := hA
    have hval : ∀ (j : Nat) t v, #[48, 48, 48][j]? = some t → args[j]? = some v → Value.okWide Tryz.prog W .any base t v := hval
    obtain ⟨v0, v1, v2, d0, d1, d2, p0, p1, p2, rfl, rfl, rfl, h0, h1, h2⟩ := trodAll_three hA
    obtain ⟨a0, b0, rfl, s0, t0⟩ := open_small (hval 0 48 v0 rfl rfl) h0
    obtain ⟨a1, b1, rfl, s1, t1⟩ := open_small (hval 1 48 v1 rfl rfl) h1
    obtain ⟨a2, b2, rfl, s2, t2⟩ := open_small (hval 2 48 v2 rfl rfl) h2
    exact law_field W a0 b0 a1 b1 a2 b2 s0 t0 s1 t1 s2 t2 (tab_of_laid hX) (maxL_of hsh)

theorem ratioField_holds : Rows.RatioFieldSaid :=
  OpenClaim.holds_of_wide 12 Tryz.f12 rfl rfl rfl rfl rfl rfl rfl ⟨rfl, rfl, rfl, rfl, rfl⟩ rfl rfl rfl rfl rfl (by kernel_rfl) Tryz.func12 (by kernel_rfl)
    (of_decide_eq_true (by kernel_rfl)) (by unfold Func.isWrapper; first | (rw [if_pos (by decide +kernel)]; kernel_rfl) | (rw [if_neg (by decide +kernel)]; exact ⟨rfl, rfl⟩))
    (fun os started H enc _ => ratioField_lifted os started H enc)

set_option maxRecDepth 100000 in
theorem ratioField_card : Rows.RatioFieldCardSaid :=
  Claim7.holds_tied_plain_at .later [] [.data, .data, .data, .sentinel, .sentinel] true (true, "aa0bf01c8a9a4406ac033a6cfdc55644ee00c70b1fd0cd3330a83b30248ad9c2") true
    ratioField_holds (fun _ h => by cases h) (by kernel_rfl) (fun _ h => by cases h) ratioField_row_tie rfl ⟨rfl, rfl⟩ (by kernel_rfl) rfl
    (fun f fn hf hfn => by
      obtain rfl : f = 12 := Option.some.inj ((show Tryz.prog.funcNamed "sheave/sheavelaw02.RatioField" = some 12 by kernel_rfl).symm.trans hf) |>.symm
      obtain rfl : fn = Tryz.f12 := (Option.some.inj (Tryz.func12.symm.trans hfn)).symm
      exact ⟨by kernel_rfl, fun j t ht => by
        rw [Tryz.params12] at ht
        have hm : t ∈ [48, 48, 48] := by
          have h1 := Array.mem_of_getElem? ht
          simpa using h1
        simp at hm
        obtain rfl : t = 48 := by simpa using hm
        exact (show Tryz.prog.wantsStandIn 48 = false by kernel_rfl)⟩)
    (by kernel_rfl)
#print axioms ratioField_card
end Go.Proofs.YtoiokopmpcogbaaGreatDoor
