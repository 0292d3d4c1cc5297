/-
  THE ROW of the law TopShares: it returns true for every input, and the input reads behind the call as before.
  Conditions: none.
-/
import Derived.Test.YtickckehhfdoeaaLaw
import Derived.Test.YtickckehhfdoeaaTopR
import Derived.Lib.SmallJoins
namespace Go.Proofs.Ytickckehhfdoeaa
open Go.ChangeShapes Go.WideShapes Go.ChangeAt Go.RowKit Go.Joins Go.Sv

theorem own : ownKnob Try.prog.godebug = none := by kernel_rfl
theorem laidOut : laidOutB Try.prog = true := by kernel_rfl
theorem ok2 : Try.prog.readableRec 2 = true ∧ 2 < Try.prog.types.size := ⟨by kernel_rfl, of_decide_eq_true (by kernel_rfl)⟩
theorem ok22 : Try.prog.readableRec 22 = true ∧ 22 < Try.prog.types.size := ⟨by kernel_rfl, of_decide_eq_true (by kernel_rfl)⟩

theorem cellsW : Try.prog.cellsOf 22 = 2 := by kernel_rfl
theorem cellsI : Try.prog.cellsOf 2 = 1 := by kernel_rfl
section
variable {H : Type} {enc : TypeId × Value → H} {W : World} {base : Nat}
set_option maxRecDepth 100000 in
/-- a window that came in -/
theorem open_window {v : Value} {d : DataW H} {p : List MemPlace} (hv : Value.okWide Try.prog W .any base 22 v) (h : DataW.Trod enc Try.prog W 0 (fun _ => true) true 22 v d p) :
    ∃ a b : Int, v = .agg #[.int .i64 a, .int .i64 b] := by
  simp only [Value.okWide, Try.underlying22] at hv
  obtain ⟨cs, rfl, hsz, _⟩ := hv
  obtain ⟨c0, c1, rfl⟩ := array2 (hsz.trans cellsW)
  obtain ⟨fuel, hf⟩ := h
  obtain ⟨xs, m, _, _, _, hl, hel⟩ := DataW.trod_array Try.underlying22 hf
  have e0 := hel 0 (by omega)
  have e1 := hel 1 (by omega)
  rw [cellsI, List.getElem?_eq_getElem (by omega)] at e0 e1
  obtain ⟨a, z0, _⟩ := DataW.trod_int Try.underlying2 e0
  obtain ⟨b, z1, _⟩ := DataW.trod_int Try.underlying2 e1
  simp [Value.cells] at z0 z1
  subst z0 z1
  exact ⟨a, b, rfl⟩
end

set_option maxRecDepth 100000 in
theorem topShares_lifted (os : Os) (started : os.Started) (H : Type) (enc : TypeId × Value → H) :
    ReturnsInHanded {} Try.checked os 3 .any (Rows.topSharesSpec.pre6 enc Try.prog Try.f3 Rows.topSharesRow.domain false) (Rows.topSharesSpec.post enc Try.prog Try.f3 false true false false) := by
  refine law_ret (C := Try.checked) (tb := 4) own started (by kernel_rfl) Try.func3
    (ChangeSpec.witness6 (enc := enc) (C := Try.checked) false ⟨#[], #[.int .i64 0, .int .i64 0, .agg #[.int .i64 0, .int .i64 0]], []⟩ 8 (by kernel_rfl) (by kernel_rfl) (by kernel_rfl) (by kernel_rfl))
    laidOut ?_ rfl Try.underlying4 rfl ?_ ?_
  · intro t ht
    have ht : t ∈ [2, 2, 22] := ht
    simp at ht
    rcases ht with rfl | rfl
    · exact ok2
    · exact ok22
  · intro ds hl
    match ds, hl with
    | [d1, d2, d3], _ => rfl
  · intro W base args ds ps hval hA _ _
    have hA : DataW.TrodAll enc Try.prog W 0 (fun _ => true) true [2, 2, 22] args.toList ds ps := hA
    have hval : ∀ (j : Nat) t v, #[2, 2, 22][j]? = some t → args[j]? = some v → Value.okWide Try.prog W .any base t v := hval
    obtain ⟨v0, v1, v2, d0, d1, d2, p0, p1, p2, rfl, rfl, rfl, h0, h1, h2⟩ := trodAll_three hA
    obtain ⟨a, rfl, rfl, rfl, w0⟩ := open_int Try.underlying2 (hval 0 2 v0 rfl rfl) h0
    obtain ⟨b, rfl, rfl, rfl, w1⟩ := open_int Try.underlying2 (hval 1 2 v1 rfl rfl) h1
    obtain ⟨k, n, rfl⟩ := open_window (hval 2 22 v2 rfl rfl) h2
    exact shares_any a b k n W

theorem topShares_holds : Rows.TopSharesSaid :=
  OpenClaim.holds_of_wide 3 Try.f3 rfl rfl rfl rfl rfl rfl rfl ⟨rfl, rfl, rfl, rfl, rfl⟩ rfl rfl rfl rfl rfl (by kernel_rfl) Try.func3 (by kernel_rfl)
    (of_decide_eq_true (by kernel_rfl)) (by unfold Func.isWrapper; first | (rw [if_pos (by decide +kernel)]; kernel_rfl) | (rw [if_neg (by decide +kernel)]; exact ⟨rfl, rfl⟩))
    (fun os started H enc _ => topShares_lifted os started H enc)
#print axioms topShares_holds

end Go.Proofs.Ytickckehhfdoeaa
