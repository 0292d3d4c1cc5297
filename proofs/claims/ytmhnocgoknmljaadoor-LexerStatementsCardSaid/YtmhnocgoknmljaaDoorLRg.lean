/-
  THE ROW AND THE CARD of the law LexerStatements.
  Conditions: none.
-/
import Derived.Test.YtmhnocgoknmljaaDoorLyOp
import Derived.Test.YtmhnocgoknmljaaDoorLyNP
import Derived.Test.YtmhnocgoknmljaaDoorCards
import Derived.Test.YtmhnocgoknmljaaDoorTie
import Derived.SevenTiedAt
namespace Go.Proofs.YtmhnocgoknmljaaDoor
open Go.ChangeShapes Go.WideShapes Go.ChangeAt Go.RowKit Go.Sv Go.Lx

theorem ok27 : Tryd.prog.readableRec 27 = true ∧ 27 < Tryd.prog.types.size := ⟨by kernel_rfl, of_decide_eq_true (by kernel_rfl)⟩

set_option maxRecDepth 100000 in
theorem lexerStatements_lifted (os : Os) (started : os.Started) (H : Type) (enc : TypeId × Value → H) :
    ReturnsInHanded {} Tryd.checked os 10 .any (fun w args => (Rows.lexerStatementsSpec.pre enc Tryd.prog Tryd.f10 [] false w args ∧ laidMetH Tryd.prog laid6 w) ∧ sizedMet enc Tryd.prog Tryd.f10 (OpenSpec.ofChange Rows.lexerStatementsSpec) false w args)
      (Rows.lexerStatementsSpec.post enc Tryd.prog Tryd.f10 false true false false) := by
  refine law_retX (C := Tryd.checked) (X := fun w _ => laidMetH Tryd.prog laid6 w) (tb := 4) (fun _ _ _ hh h => h.of_heap hh) own started (by kernel_rfl) Tryd.func10
    (ChangeSpec.witness_shaped (enc := enc) (C := Tryd.checked) (os := os) (X := fun w _ => laidMetH Tryd.prog laid6 w) false (World.doorLaid Tryd.prog 1200 os) #[.slice none 0 0] 8 rfl (door_shaped os _) (by kernel_rfl) (by kernel_rfl) (by kernel_rfl) (door_met os _))
    laidOut ?_ rfl Tryd.underlying4 rfl ?_ ?_
  · intro t ht
    have ht : t ∈ [27] := ht
    simp at ht
    obtain rfl := ht
    exact ok27
  · intro ds hl
    match ds, hl with
    | [d1], _ => rfl
  · intro W base args ds ps hval hA hlt hz hX
    have hA : DataW.TrodAll enc Tryd.prog W 0 (fun _ => true) true [27] args.toList ds ps := hA
    have hval : ∀ (j : Nat) t v, #[27][j]? = some t → args[j]? = some v → Value.okWide Tryd.prog W .any base t v := hval
    obtain ⟨v0, d0, rfl, rfl, h0⟩ := trodAll_one hA
    obtain ⟨A0, l, c, rfl, m0, hz0, r0, i0, hc⟩ := open_toks (hval 0 27 v0 rfl rfl) h0 hlt
    exact law_statements A0 c l W (tb_of_laid hX) r0 hz0 hc m0

theorem lexerStatements_holds : Rows.LexerStatementsSaid :=
  OpenClaim.holds_of_wide 10 Tryd.f10 rfl rfl rfl rfl rfl rfl rfl ⟨rfl, rfl, rfl, rfl, rfl⟩ rfl rfl rfl rfl rfl (by kernel_rfl) Tryd.func10 (by kernel_rfl)
    (of_decide_eq_true (by kernel_rfl)) (by unfold Func.isWrapper; first | (rw [if_pos (by decide +kernel)]; kernel_rfl) | (rw [if_neg (by decide +kernel)]; exact ⟨rfl, rfl⟩))
    (fun os started H enc _ => lexerStatements_lifted os started H enc)

set_option maxRecDepth 100000 in
theorem lexerStatements_card : Rows.LexerStatementsCardSaid :=
  Claim7.holds_tied_plain_at .later [] [.data, .data, .data, .sentinel, .sentinel, .widerDeep] true (true, "3b41e3d4cb1daca3d24ad5742c685117d126b9dc38cf1f73770da3daadb803ee") true
    lexerStatements_holds (fun _ h => by cases h) (by kernel_rfl) (fun _ h => by cases h) lexerStatements_row_tie rfl ⟨rfl, rfl⟩ (by kernel_rfl) rfl
    (fun f fn hf hfn => by
      obtain rfl : f = 10 := Option.some.inj ((show Tryd.prog.funcNamed "sheave/sheavelaw06.LexerStatements" = some 10 by kernel_rfl).symm.trans hf) |>.symm
      obtain rfl : fn = Tryd.f10 := (Option.some.inj (Tryd.func10.symm.trans hfn)).symm
      exact ⟨by kernel_rfl, fun j t ht => by
        rw [Tryd.params10] at ht
        have hm : t ∈ [27] := by
          have h1 := Array.mem_of_getElem? ht
          simpa using h1
        simp at hm
        obtain rfl : t = 27 := by simpa using hm
        exact (show Tryd.prog.wantsStandIn 27 = false by kernel_rfl)⟩)
    (by kernel_rfl)
#print axioms lexerStatements_card
end Go.Proofs.YtmhnocgoknmljaaDoor
