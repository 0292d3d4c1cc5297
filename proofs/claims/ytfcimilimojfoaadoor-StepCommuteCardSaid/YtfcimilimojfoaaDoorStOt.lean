/-
  ARGUMENTS OPENED: two steps; targets.
  Conditions: none.
-/
import Derived.Test.YtfcimilimojfoaaDoorStOp
import Derived.Test.YtfcimilimojfoaaDoorStSe
namespace Go.Proofs.YtfcimilimojfoaaDoor
open Go.ChangeShapes Go.WideShapes Go.ChangeAt Go.RowKit Go.Sv

section
variable {H : Type} {enc : TypeId × Value → H} {W : World}

set_option maxRecDepth 100000 in
theorem open_two {v : Value} {d : DataW H} {p : List MemPlace} {base : Nat} (hv : Value.okWide Tryd.prog W .any base 75 v) (h : DataW.Trod enc Tryd.prog W 0 (fun _ => true) true 75 v d p) (hlt : ∀ x ∈ p, x.block < W.heap.size) :
    ∃ s t : Sp, v = twoV s t := by
  have hce : Tryd.prog.cellsOf 52 = 3 := by kernel_rfl
  have hct : Tryd.prog.cellsOf 75 = 6 := by kernel_rfl
  have ht := Tryd.underlying75
  obtain ⟨cs, rfl, hsz⟩ : ∃ cs, v = .agg cs ∧ cs.size = Tryd.prog.cellsOf 75 := by
    simp only [Value.okWide, ht] at hv
    obtain ⟨cs, h1, h2, _⟩ := hv
    exact ⟨cs, h1, h2⟩
  rw [hct] at hsz
  obtain ⟨fuel, h⟩ := h
  cases fuel with
  | zero => simp [DataW.trod] at h
  | succ fuel =>
    simp only [DataW.trod, ht, hce, hct] at h
    split at h
    · rename_i hl
      obtain ⟨xs, hm, hx⟩ := Option.map_eq_some_iff.1 h
      have key : ∀ i, i < 2 → ∃ s : Sp, ∀ k, k < 3 → cs[i * 3 + k]? = some (spC s k) := by
        intro i hi
        obtain ⟨b, hb, hf⟩ := Lib.mapM_at hm i i (by simp [hi])
        obtain ⟨s, hs⟩ := trod_step hf (fun y hy => hlt y (by
          have e : p = xs.flatMap (·.2) := by injection hx with _ e; exact e.symm
          rw [e]
          exact List.mem_flatMap.2 ⟨b, List.mem_of_getElem? hb, hy⟩)) (by simp [Value.cells, hsz]; omega)
        refine ⟨s, fun k hk => ?_⟩
        have := hs k hk
        simpa [Value.cells, List.getElem?_take, List.getElem?_drop, hk] using this
      obtain ⟨s, hs⟩ := key 0 (by omega)
      obtain ⟨t, hr⟩ := key 1 (by omega)
      refine ⟨s, t, ?_⟩
      show Value.agg cs = .agg _
      congr 1
      apply Array.ext_getElem?
      intro i
      match i with
      | 0 => exact hs 0 (by omega)
      | 1 => exact hs 1 (by omega)
      | 2 => exact hs 2 (by omega)
      | 3 => exact hr 0 (by omega)
      | 4 => exact hr 1 (by omega)
      | 5 => exact hr 2 (by omega)
      | i + 6 => rw [Array.getElem?_eq_none (by omega), Array.getElem?_eq_none (by simp)]
    · cases h
end
end Go.Proofs.YtfcimilimojfoaaDoor
