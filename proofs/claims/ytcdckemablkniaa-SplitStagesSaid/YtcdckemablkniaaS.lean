/-
  THE ROWS of the laws on ramps: SplitRamp, SplitAt, SplitStages: each law returns true for every input, and the input reads behind the call as before.
  Conditions: none.
-/
import Derived.Test.YtcdckemablkniaaOpen
import Derived.Test.YtcdckemablkniaaK
import Derived.Deep.Strs
namespace Go.Proofs.Ytcdckemablkniaa
open Go.ChangeShapes Go.WideShapes Go.ChangeAt Go.RowKit Go.Sv

theorem own : ownKnob Try.prog.godebug = none := by kernel_rfl
theorem laidOut : laidOutB Try.prog = true := by kernel_rfl
theorem cells34 : Try.prog.cellsOf 34 = 3 := by kernel_rfl
theorem cells2 : Try.prog.cellsOf 2 = 1 := by kernel_rfl
theorem bytes34 : Try.prog.bytesOf 34 = 24 := by kernel_rfl
theorem ok32 : Try.prog.readableRec 32 = true ∧ 32 < Try.prog.types.size := ⟨by kernel_rfl, of_decide_eq_true (by kernel_rfl)⟩
theorem ok2 : Try.prog.readableRec 2 = true ∧ 2 < Try.prog.types.size := ⟨by kernel_rfl, of_decide_eq_true (by kernel_rfl)⟩

section
variable {H : Type} {enc : TypeId × Value → H} {W : World} {base : Nat}
/-- a ramp that came in -/
theorem open_ramp {v : Value} {d : DataW H} {p : List MemPlace} (hv : Value.okWide Try.prog W .any base 32 v) (h : DataW.Trod enc Try.prog W 0 (fun _ => true) true 32 v d p) (hlt : ∀ x ∈ p, x.block < W.heap.size) :
    ∃ (A : Option Addr) (l : Stg) (c : Nat), v = .slice A l.length c ∧ l.length ≤ c ∧ c ≤ maxLen ∧ (A = none → l.length = 0 ∧ c = 0) ∧
      (∀ (ts : List TypeId) (ds : List (DataW H)) (j : Nat), ts[j]? = some 32 → ds[j]? = some d → (DataW.weightsEach Try.prog ts ds).all (· ≤ reachBytes) = true → c * 24 ≤ reachBytes) ∧ Stages W W.heap.size A l := by
  obtain ⟨A, n, c, rfl, hnc, hcm, hA, hw, hrow⟩ := open_rows Try.underlying32 cells34 (by omega) hv h hlt
  rw [bytes34] at hw
  have hex : ∃ l : Stg, l.length = n ∧ ∀ (j : Nat) (x : Int × Int × Int), l[j]? = some x → ∀ b off, A = some ⟨b, off, none⟩ →
      W.cell? ⟨b, off + j * 3, none⟩ = some (.int .i64 x.1) ∧ W.cell? ⟨b, off + j * 3 + 1, none⟩ = some (.int .i64 x.2.1) ∧ W.cell? ⟨b, off + j * 3 + 2, none⟩ = some (.int .i64 x.2.2) := by
    refine exists_list (fun j (x : Int × Int × Int) => ∀ b off, A = some ⟨b, off, none⟩ →
      W.cell? ⟨b, off + j * 3, none⟩ = some (.int .i64 x.1) ∧ W.cell? ⟨b, off + j * 3 + 1, none⟩ = some (.int .i64 x.2.1) ∧ W.cell? ⟨b, off + j * 3 + 2, none⟩ = some (.int .i64 x.2.2)) n (fun j hj => ?_)
    obtain ⟨b, off, rfl, hb, hcells⟩ := hrow (by omega)
    obtain ⟨cs, fuel, x, hl, hc, htr⟩ := hcells j (by omega)
    obtain ⟨c0, c1, c2, rfl⟩ : ∃ c0 c1 c2, cs = [c0, c1, c2] := by
      match cs, hl with
      | [c0, c1, c2], _ => exact ⟨c0, c1, c2, rfl⟩
    obtain ⟨y0, y1, y2, m, _, _, h0, h1, h2⟩ := Deep.trod_struct3 Try.underlying34 htr
    simp only [cells2] at h0 h1 h2
    obtain ⟨z0, e0, _, _⟩ := DataW.trod_int Try.underlying2 h0
    obtain ⟨z1, e1, _, _⟩ := DataW.trod_int Try.underlying2 h1
    obtain ⟨z2, e2, _, _⟩ := DataW.trod_int Try.underlying2 h2
    simp at e0 e1 e2
    subst e0 e1 e2
    refine ⟨(z0, z1, z2), fun b' off' heq => ?_⟩
    injection heq with heq
    injection heq with q1 q2
    subst q1 q2
    exact ⟨by simpa using hc 0 (by omega), by simpa using hc 1 (by omega), by simpa using hc 2 (by omega)⟩
  obtain ⟨l, hl, hq⟩ := hex
  subst hl
  refine ⟨A, l, c, rfl, hnc, hcm, hA, hw, fun hn => ?_⟩
  obtain ⟨b, off, hAe, hb, _⟩ := hrow (by omega)
  refine ⟨b, off, hAe, hb, fun k hk => ?_⟩
  have := hq k l[k] (List.getElem?_eq_getElem hk) b off hAe
  simpa [sN, sD, sR, hk] using this
end

set_option maxRecDepth 100000 in
theorem splitRamp_lifted (os : Os) (started : os.Started) (H : Type) (enc : TypeId × Value → H) :
    ReturnsInHanded {} Try.checked os 8 .any (Rows.splitRampSpec.pre6 enc Try.prog Try.f8 Rows.splitRampRow.domain false) (Rows.splitRampSpec.post enc Try.prog Try.f8 false true false false) := by
  refine law_ret (C := Try.checked) (tb := 4) own started (by kernel_rfl) Try.func8
    (ChangeSpec.witness6 (enc := enc) (C := Try.checked) false ⟨#[], #[.slice none 0 0], []⟩ 8 (by kernel_rfl) (by kernel_rfl) (by kernel_rfl) (by kernel_rfl))
    laidOut ?_ rfl Try.underlying4 rfl ?_ ?_
  · intro t ht
    have ht : t ∈ [32] := ht
    simp at ht
    obtain rfl := ht
    exact ok32
  · intro ds hl
    match ds, hl with
    | [d1], _ => rfl
  · intro W base args ds ps hval hA hlt hz
    have hA : DataW.TrodAll enc Try.prog W 0 (fun _ => true) true [32] args.toList ds ps := hA
    have hval : ∀ (j : Nat) t v, #[32][j]? = some t → args[j]? = some v → Value.okWide Try.prog W .any base t v := hval
    obtain ⟨v0, d0, rfl, rfl, h0⟩ := trodAll_one hA
    obtain ⟨A, l, c, rfl, hlc, hcm, hAn, hw, hst⟩ := open_ramp (hval 0 32 v0 rfl rfl) h0 hlt
    unfold maxLen at hcm
    exact law_ramp A c l W hst hAn (by omega)

theorem splitRamp_holds : Rows.SplitRampSaid :=
  OpenClaim.holds_of_wide 8 Try.f8 rfl rfl rfl rfl rfl rfl rfl ⟨rfl, rfl, rfl, rfl, rfl⟩ rfl rfl rfl rfl rfl (by kernel_rfl) Try.func8 (by kernel_rfl)
    (of_decide_eq_true (by kernel_rfl)) (by unfold Func.isWrapper; first | (rw [if_pos (by decide +kernel)]; kernel_rfl) | (rw [if_neg (by decide +kernel)]; exact ⟨rfl, rfl⟩))
    (fun os started H enc _ => splitRamp_lifted os started H enc)
#print axioms splitRamp_holds

set_option maxRecDepth 100000 in
theorem splitAt_lifted (os : Os) (started : os.Started) (H : Type) (enc : TypeId × Value → H) :
    ReturnsInHanded {} Try.checked os 9 .any (Rows.splitAtSpec.pre6 enc Try.prog Try.f9 Rows.splitAtRow.domain false) (Rows.splitAtSpec.post enc Try.prog Try.f9 false true false false) := by
  refine law_ret (C := Try.checked) (tb := 4) own started (by kernel_rfl) Try.func9
    (ChangeSpec.witness6 (enc := enc) (C := Try.checked) false ⟨#[], #[.slice none 0 0, .int .i64 0], []⟩ 8 (by kernel_rfl) (by kernel_rfl) (by kernel_rfl) (by kernel_rfl))
    laidOut ?_ rfl Try.underlying4 rfl ?_ ?_
  · intro t ht
    have ht : t ∈ [32, 2] := ht
    simp at ht
    rcases ht with rfl | rfl
    · exact ok32
    · exact ok2
  · intro ds hl
    match ds, hl with
    | [d1, d2], _ => rfl
  · intro W base args ds ps hval hA hlt hz
    have hA : DataW.TrodAll enc Try.prog W 0 (fun _ => true) true [32, 2] args.toList ds ps := hA
    have hval : ∀ (j : Nat) t v, #[32, 2][j]? = some t → args[j]? = some v → Value.okWide Try.prog W .any base t v := hval
    obtain ⟨v0, v1, d0, d1, p0, p1, rfl, rfl, rfl, h0, h1⟩ := trodAll_two hA
    obtain ⟨A, l, c, rfl, hlc, hcm, hAn, hw, hst⟩ := open_ramp (hval 0 32 v0 rfl rfl) h0 (fun x hx => hlt x (by simp [hx]))
    obtain ⟨k, rfl, rfl, rfl, wk⟩ := open_int Try.underlying2 (hval 1 2 v1 rfl rfl) h1
    unfold maxLen at hcm
    exact law_at A c l k W hst hAn (by omega)

theorem splitAt_holds : Rows.SplitAtSaid :=
  OpenClaim.holds_of_wide 9 Try.f9 rfl rfl rfl rfl rfl rfl rfl ⟨rfl, rfl, rfl, rfl, rfl⟩ rfl rfl rfl rfl rfl (by kernel_rfl) Try.func9 (by kernel_rfl)
    (of_decide_eq_true (by kernel_rfl)) (by unfold Func.isWrapper; first | (rw [if_pos (by decide +kernel)]; kernel_rfl) | (rw [if_neg (by decide +kernel)]; exact ⟨rfl, rfl⟩))
    (fun os started H enc _ => splitAt_lifted os started H enc)
#print axioms splitAt_holds

set_option maxRecDepth 100000 in
theorem splitStages_lifted (os : Os) (started : os.Started) (H : Type) (enc : TypeId × Value → H) :
    ReturnsInHanded {} Try.checked os 6 .any (Rows.splitStagesSpec.pre6 enc Try.prog Try.f6 Rows.splitStagesRow.domain false) (Rows.splitStagesSpec.post enc Try.prog Try.f6 false true false false) := by
  refine law_ret (C := Try.checked) (tb := 4) own started (by kernel_rfl) Try.func6
    (ChangeSpec.witness6 (enc := enc) (C := Try.checked) false ⟨#[], #[.slice none 0 0], []⟩ 8 (by kernel_rfl) (by kernel_rfl) (by kernel_rfl) (by kernel_rfl))
    laidOut ?_ rfl Try.underlying4 rfl ?_ ?_
  · intro t ht
    have ht : t ∈ [32] := ht
    simp at ht
    obtain rfl := ht
    exact ok32
  · intro ds hl
    match ds, hl with
    | [d1], _ => rfl
  · intro W base args ds ps hval hA hlt hz
    have hA : DataW.TrodAll enc Try.prog W 0 (fun _ => true) true [32] args.toList ds ps := hA
    have hval : ∀ (j : Nat) t v, #[32][j]? = some t → args[j]? = some v → Value.okWide Try.prog W .any base t v := hval
    obtain ⟨v0, d0, rfl, rfl, h0⟩ := trodAll_one hA
    obtain ⟨A, l, c, rfl, hlc, hcm, hAn, hw, hst⟩ := open_ramp (hval 0 32 v0 rfl rfl) h0 hlt
    have hb := hw [32] [d0] 0 rfl rfl hz
    have hr : reachBytes = 140737488351232 := rfl
    exact law_stages A c l W hst hAn (by omega)

theorem splitStages_holds : Rows.SplitStagesSaid :=
  OpenClaim.holds_of_wide 6 Try.f6 rfl rfl rfl rfl rfl rfl rfl ⟨rfl, rfl, rfl, rfl, rfl⟩ rfl rfl rfl rfl rfl (by kernel_rfl) Try.func6 (by kernel_rfl)
    (of_decide_eq_true (by kernel_rfl)) (by unfold Func.isWrapper; first | (rw [if_pos (by decide +kernel)]; kernel_rfl) | (rw [if_neg (by decide +kernel)]; exact ⟨rfl, rfl⟩))
    (fun os started H enc _ => splitStages_lifted os started H enc)
#print axioms splitStages_holds

end Go.Proofs.Ytcdckemablkniaa
