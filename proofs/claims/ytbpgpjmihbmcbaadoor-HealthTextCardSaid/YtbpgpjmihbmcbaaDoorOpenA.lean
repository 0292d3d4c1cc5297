/-
  GENERAL: an array of integers by value that came in, opened.
  Conditions: none of its own.
-/
import Derived.Test.YtbpgpjmihbmcbaaDoorOpenG
import Derived.Lib.LaidTab
namespace Go.Sv
open Go.ChangeShapes Go.WideShapes Go.ChangeAt Go.RowKit

theorem open_ints {H : Type} {enc : TypeId × Value → H} {P : Program} {W : World} {b0 n : Nat} {r : Reach} {t e : TypeId} {k : IntKind} {v : Value} {d : DataW H} {p : List MemPlace}
    (ht : P.underlying t = some (.array n e)) (he : P.underlying e = some (.int k)) (hce : P.cellsOf e = 1) (hct : P.cellsOf t = n)
    (hv : Value.okWide P W r b0 t v) (h : DataW.Trod enc P W 0 (fun _ => true) true t v d p) : ∃ l : List Int, l.length = n ∧ v = .agg (l.map fun z => Value.int k z).toArray ∧ ∀ j, j < l.length → (Lit.int k (gi l j)).wf = true := by
  obtain ⟨cs, rfl, hsz⟩ : ∃ cs, v = .agg cs ∧ cs.size = P.cellsOf t := by
    simp only [Value.okWide, ht] at hv
    obtain ⟨cs, h1, h2, _⟩ := hv
    exact ⟨cs, h1, h2⟩
  obtain ⟨fuel, h⟩ := h
  cases fuel with
  | zero => simp [DataW.trod] at h
  | succ fuel =>
    simp only [DataW.trod, ht, hce, hct, Nat.mul_one] at h
    split at h
    · rename_i hl
      obtain ⟨xs, hm, hx⟩ := Option.map_eq_some_iff.1 h
      have hex := exists_list (fun i (z : Int) => cs[i]? = some (.int k z) ∧ (Lit.int k z).wf = true) n (fun i hi => by
        obtain ⟨b, hb, hf⟩ := Lib.mapM_at hm i i (by simp [hi])
        obtain ⟨z, hc, rfl, wz⟩ := DataW.trod_int he hf
        refine ⟨z, ?_, wz⟩
        have := congrArg (·[0]?) hc
        simpa [Value.cells, List.getElem?_take, List.getElem?_drop] using this)
      obtain ⟨l, hl2, hq⟩ := hex
      refine ⟨l, hl2, ?_, fun j hj => (hq j _ (gi_get hj)).2⟩
      congr 1
      apply Array.ext_getElem?
      intro i
      by_cases hi : i < n
      · rw [(hq i _ (gi_get (by omega))).1]
        simp [gi_get (l := l) (k := i) (by omega)]
      · rw [Array.getElem?_eq_none (by omega), Array.getElem?_eq_none (by simp; omega)]
    · cases h
end Go.Sv
