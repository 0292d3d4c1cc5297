/-
  GENERAL: an argument that is a slice, opened: where its elements lie, and how each reads.
  Conditions: none of its own.
-/
import Derived.Test.YtickckehhfdoeaaLaw
import Derived.Test.YtickckehhfdoeaaSl
import Derived.Deep.Slices
import Derived.SizedLaws
namespace Go.Sv
open Go.ChangeShapes Go.WideShapes Go.ChangeAt Go.RowKit

theorem exists_list {α : Type} (Q : Nat → α → Prop) : ∀ n : Nat, (∀ k, k < n → ∃ x, Q k x) → ∃ l : List α, l.length = n ∧ ∀ (k : Nat) (x : α), l[k]? = some x → Q k x
  | 0, _ => ⟨[], rfl, fun k x h => by simp at h⟩
  | n + 1, h => by
    obtain ⟨l, hl, hq⟩ := exists_list Q n (fun k hk => h k (by omega))
    obtain ⟨x, hx⟩ := h n (by omega)
    refine ⟨l ++ [x], by simp [hl], fun k y hy => ?_⟩
    by_cases hk : k < l.length
    · rw [List.getElem?_append_left hk] at hy
      exact hq k y hy
    · rw [List.getElem?_append_right (by omega)] at hy
      by_cases e : k = l.length
      · subst e
        rw [Nat.sub_self] at hy
        injection hy with hy
        subst hy
        rw [hl]; exact hx
      · have : k - l.length ≠ 0 := by omega
        obtain ⟨m, hm⟩ : ∃ m, k - l.length = m + 1 := ⟨k - l.length - 1, by omega⟩
        rw [hm] at hy
        simp at hy

section
variable {H : Type} {enc : TypeId × Value → H} {P : Program} {W : World}

end
end Go.Sv
