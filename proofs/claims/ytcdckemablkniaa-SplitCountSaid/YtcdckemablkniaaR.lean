/-
  THE ROWS of the laws on a share: SplitNext, SplitCount, SplitPeriod, SplitSticky: each law returns true for every input, and the input reads behind the call as before.
  Conditions: none.
-/
import Derived.Test.YtcdckemablkniaaLaw
import Derived.Test.YtcdckemablkniaaH
import Derived.Lib.SmallJoins
namespace Go.Proofs.Ytcdckemablkniaa
open Go.ChangeShapes Go.WideShapes Go.ChangeAt Go.RowKit Go.Joins Go.Sv

theorem own : ownKnob Try.prog.godebug = none := by kernel_rfl
theorem laidOut : laidOutB Try.prog = true := by kernel_rfl
theorem cells23 : Try.prog.cellsOf 23 = 2 := by kernel_rfl
theorem ok23 : Try.prog.readableRec 23 = true ∧ 23 < Try.prog.types.size := ⟨by kernel_rfl, of_decide_eq_true (by kernel_rfl)⟩
theorem ok2 : Try.prog.readableRec 2 = true ∧ 2 < Try.prog.types.size := ⟨by kernel_rfl, of_decide_eq_true (by kernel_rfl)⟩
theorem ok40 : Try.prog.readableRec 40 = true ∧ 40 < Try.prog.types.size := ⟨by kernel_rfl, of_decide_eq_true (by kernel_rfl)⟩

section
variable {H : Type} {enc : TypeId × Value → H} {W : World} {base : Nat}
/-- a share that came in -/
theorem open_share {v : Value} {d : DataW H} {p : List MemPlace} (hv : Value.okWide Try.prog W .any base 23 v) (h : DataW.Trod enc Try.prog W 0 (fun _ => true) true 23 v d p) :
    ∃ a b : Int, v = .agg #[.int .i64 a, .int .i64 b] := by
  obtain ⟨c0, c1, y0, y1, m, rfl, _, _, hy0, hy1⟩ := open_agg2 Try.underlying23 (by kernel_rfl) cells23 hv h
  obtain ⟨a, e0, _, _⟩ := DataW.trod_int Try.underlying2 hy0
  obtain ⟨b, e1, _, _⟩ := DataW.trod_int Try.underlying2 hy1
  simp at e0 e1
  subst e0 e1
  exact ⟨a, b, rfl⟩
end

set_option maxRecDepth 100000 in
theorem splitNext_lifted (os : Os) (started : os.Started) (H : Type) (enc : TypeId × Value → H) :
    ReturnsInHanded {} Try.checked os 3 .any (Rows.splitNextSpec.pre6 enc Try.prog Try.f3 Rows.splitNextRow.domain false) (Rows.splitNextSpec.post enc Try.prog Try.f3 false true false false) := by
  refine law_ret (C := Try.checked) (tb := 4) own started (by kernel_rfl) Try.func3
    (ChangeSpec.witness6 (enc := enc) (C := Try.checked) false ⟨#[], #[.agg #[.int .i64 0, .int .i64 0], .int .i64 0], []⟩ 8 (by kernel_rfl) (by kernel_rfl) (by kernel_rfl) (by kernel_rfl))
    laidOut ?_ rfl Try.underlying4 rfl ?_ ?_
  · intro t ht
    have ht : t ∈ [23, 2] := ht
    simp at ht
    rcases ht with rfl | rfl
    · exact ok23
    · exact ok2
  · intro ds hl
    match ds, hl with
    | [d1, d2], _ => rfl
  · intro W base args ds ps hval hA _ _
    have hA : DataW.TrodAll enc Try.prog W 0 (fun _ => true) true [23, 2] args.toList ds ps := hA
    have hval : ∀ (j : Nat) t v, #[23, 2][j]? = some t → args[j]? = some v → Value.okWide Try.prog W .any base t v := hval
    obtain ⟨v0, v1, d0, d1, p0, p1, rfl, rfl, rfl, h0, h1⟩ := trodAll_two hA
    obtain ⟨a, b, rfl⟩ := open_share (hval 0 23 v0 rfl rfl) h0
    obtain ⟨k, rfl, rfl, rfl, wk⟩ := open_int Try.underlying2 (hval 1 2 v1 rfl rfl) h1
    exact law_next a b k W

theorem splitNext_holds : Rows.SplitNextSaid :=
  OpenClaim.holds_of_wide 3 Try.f3 rfl rfl rfl rfl rfl rfl rfl ⟨rfl, rfl, rfl, rfl, rfl⟩ rfl rfl rfl rfl rfl (by kernel_rfl) Try.func3 (by kernel_rfl)
    (of_decide_eq_true (by kernel_rfl)) (by unfold Func.isWrapper; first | (rw [if_pos (by decide +kernel)]; kernel_rfl) | (rw [if_neg (by decide +kernel)]; exact ⟨rfl, rfl⟩))
    (fun os started H enc _ => splitNext_lifted os started H enc)
#print axioms splitNext_holds

set_option maxRecDepth 100000 in
theorem splitCount_lifted (os : Os) (started : os.Started) (H : Type) (enc : TypeId × Value → H) :
    ReturnsInHanded {} Try.checked os 4 .any (Rows.splitCountSpec.pre6 enc Try.prog Try.f4 Rows.splitCountRow.domain false) (Rows.splitCountSpec.post enc Try.prog Try.f4 false true false false) := by
  refine law_ret (C := Try.checked) (tb := 4) own started (by kernel_rfl) Try.func4
    (ChangeSpec.witness6 (enc := enc) (C := Try.checked) false ⟨#[], #[.agg #[.int .i64 0, .int .i64 0], .int .i64 0], []⟩ 8 (by kernel_rfl) (by kernel_rfl) (by kernel_rfl) (by kernel_rfl))
    laidOut ?_ rfl Try.underlying4 rfl ?_ ?_
  · intro t ht
    have ht : t ∈ [23, 2] := ht
    simp at ht
    rcases ht with rfl | rfl
    · exact ok23
    · exact ok2
  · intro ds hl
    match ds, hl with
    | [d1, d2], _ => rfl
  · intro W base args ds ps hval hA _ _
    have hA : DataW.TrodAll enc Try.prog W 0 (fun _ => true) true [23, 2] args.toList ds ps := hA
    have hval : ∀ (j : Nat) t v, #[23, 2][j]? = some t → args[j]? = some v → Value.okWide Try.prog W .any base t v := hval
    obtain ⟨v0, v1, d0, d1, p0, p1, rfl, rfl, rfl, h0, h1⟩ := trodAll_two hA
    obtain ⟨a, b, rfl⟩ := open_share (hval 0 23 v0 rfl rfl) h0
    obtain ⟨k, rfl, rfl, rfl, wk⟩ := open_int Try.underlying2 (hval 1 2 v1 rfl rfl) h1
    exact law_count a b k W

theorem splitCount_holds : Rows.SplitCountSaid :=
  OpenClaim.holds_of_wide 4 Try.f4 rfl rfl rfl rfl rfl rfl rfl ⟨rfl, rfl, rfl, rfl, rfl⟩ rfl rfl rfl rfl rfl (by kernel_rfl) Try.func4 (by kernel_rfl)
    (of_decide_eq_true (by kernel_rfl)) (by unfold Func.isWrapper; first | (rw [if_pos (by decide +kernel)]; kernel_rfl) | (rw [if_neg (by decide +kernel)]; exact ⟨rfl, rfl⟩))
    (fun os started H enc _ => splitCount_lifted os started H enc)
#print axioms splitCount_holds

set_option maxRecDepth 100000 in
theorem splitPeriod_lifted (os : Os) (started : os.Started) (H : Type) (enc : TypeId × Value → H) :
    ReturnsInHanded {} Try.checked os 5 .any (Rows.splitPeriodSpec.pre6 enc Try.prog Try.f5 Rows.splitPeriodRow.domain false) (Rows.splitPeriodSpec.post enc Try.prog Try.f5 false true false false) := by
  refine law_ret (C := Try.checked) (tb := 4) own started (by kernel_rfl) Try.func5
    (ChangeSpec.witness6 (enc := enc) (C := Try.checked) false ⟨#[], #[.agg #[.int .i64 0, .int .i64 0], .int .i64 0], []⟩ 8 (by kernel_rfl) (by kernel_rfl) (by kernel_rfl) (by kernel_rfl))
    laidOut ?_ rfl Try.underlying4 rfl ?_ ?_
  · intro t ht
    have ht : t ∈ [23, 2] := ht
    simp at ht
    rcases ht with rfl | rfl
    · exact ok23
    · exact ok2
  · intro ds hl
    match ds, hl with
    | [d1, d2], _ => rfl
  · intro W base args ds ps hval hA _ _
    have hA : DataW.TrodAll enc Try.prog W 0 (fun _ => true) true [23, 2] args.toList ds ps := hA
    have hval : ∀ (j : Nat) t v, #[23, 2][j]? = some t → args[j]? = some v → Value.okWide Try.prog W .any base t v := hval
    obtain ⟨v0, v1, d0, d1, p0, p1, rfl, rfl, rfl, h0, h1⟩ := trodAll_two hA
    obtain ⟨a, b, rfl⟩ := open_share (hval 0 23 v0 rfl rfl) h0
    obtain ⟨k, rfl, rfl, rfl, wk⟩ := open_int Try.underlying2 (hval 1 2 v1 rfl rfl) h1
    have hb := bounds_i64 wk
    exact law_period a b k W hb.1

theorem splitPeriod_holds : Rows.SplitPeriodSaid :=
  OpenClaim.holds_of_wide 5 Try.f5 rfl rfl rfl rfl rfl rfl rfl ⟨rfl, rfl, rfl, rfl, rfl⟩ rfl rfl rfl rfl rfl (by kernel_rfl) Try.func5 (by kernel_rfl)
    (of_decide_eq_true (by kernel_rfl)) (by unfold Func.isWrapper; first | (rw [if_pos (by decide +kernel)]; kernel_rfl) | (rw [if_neg (by decide +kernel)]; exact ⟨rfl, rfl⟩))
    (fun os started H enc _ => splitPeriod_lifted os started H enc)
#print axioms splitPeriod_holds

set_option maxRecDepth 100000 in
theorem splitSticky_lifted (os : Os) (started : os.Started) (H : Type) (enc : TypeId × Value → H) :
    ReturnsInHanded {} Try.checked os 7 .any (Rows.splitStickySpec.pre6 enc Try.prog Try.f7 Rows.splitStickyRow.domain false) (Rows.splitStickySpec.post enc Try.prog Try.f7 false true false false) := by
  refine law_ret (C := Try.checked) (tb := 4) own started (by kernel_rfl) Try.func7
    (ChangeSpec.witness6 (enc := enc) (C := Try.checked) false ⟨#[], #[.agg #[.int .i64 0, .int .i64 0], .int .u64 0, .int .i64 0], []⟩ 8 (by kernel_rfl) (by kernel_rfl) (by kernel_rfl) (by kernel_rfl))
    laidOut ?_ rfl Try.underlying4 rfl ?_ ?_
  · intro t ht
    have ht : t ∈ [23, 40, 2] := ht
    simp at ht
    rcases ht with rfl | rfl | rfl
    · exact ok23
    · exact ok40
    · exact ok2
  · intro ds hl
    match ds, hl with
    | [d1, d2, d3], _ => rfl
  · intro W base args ds ps hval hA _ _
    have hA : DataW.TrodAll enc Try.prog W 0 (fun _ => true) true [23, 40, 2] args.toList ds ps := hA
    have hval : ∀ (j : Nat) t v, #[23, 40, 2][j]? = some t → args[j]? = some v → Value.okWide Try.prog W .any base t v := hval
    obtain ⟨v0, v1, v2, d0, d1, d2, p0, p1, p2, rfl, rfl, rfl, h0, h1, h2⟩ := trodAll_three hA
    obtain ⟨a, b, rfl⟩ := open_share (hval 0 23 v0 rfl rfl) h0
    obtain ⟨u, rfl, rfl, rfl, wu⟩ := open_int Try.underlying40 (hval 1 40 v1 rfl rfl) h1
    obtain ⟨m, rfl, rfl, rfl, wm⟩ := open_int Try.underlying2 (hval 2 2 v2 rfl rfl) h2
    have hb := bounds_u64 wu
    exact law_sticky a b u m W hb

theorem splitSticky_holds : Rows.SplitStickySaid :=
  OpenClaim.holds_of_wide 7 Try.f7 rfl rfl rfl rfl rfl rfl rfl ⟨rfl, rfl, rfl, rfl, rfl⟩ rfl rfl rfl rfl rfl (by kernel_rfl) Try.func7 (by kernel_rfl)
    (of_decide_eq_true (by kernel_rfl)) (by unfold Func.isWrapper; first | (rw [if_pos (by decide +kernel)]; kernel_rfl) | (rw [if_neg (by decide +kernel)]; exact ⟨rfl, rfl⟩))
    (fun os started H enc _ => splitSticky_lifted os started H enc)
#print axioms splitSticky_holds
end Go.Proofs.Ytcdckemablkniaa
