/-
  PLAIN: the words of a text, cut off one after another (the loop of the reference's Parse).
  Conditions: those that each theorem names.
-/
import Derived.Test.YtfcimilimojfoaaDoorTxt
namespace Go.Lx

/-- the words so far, and the place where the next one begins -/
structure Cut (l : Bs) (ws : List Bs) (b i : Nat) : Prop where
  le : b ≤ i
  il : i ≤ l.length
  eq : spl 32 l = ws ++ spl 32 (l.drop b)
  no : ∀ j, b ≤ j → j < i → l[j]? ≠ some 32
theorem Cut.start (l : Bs) : Cut l [] 0 0 := ⟨Nat.le_refl _, Nat.zero_le _, by simp, fun j h1 h2 => by omega⟩
theorem Cut.word_no {l : Bs} {ws : List Bs} {b i : Nat} (h : Cut l ws b i) : (32 : UInt8) ∉ (l.drop b).take (i - b) := by
  intro hm
  obtain ⟨j, hj, e⟩ := List.getElem_of_mem hm
  rw [List.length_take, List.length_drop] at hj
  have h1 := h.no (b + j) (by omega) (by omega)
  apply h1
  rw [List.getElem_take, List.getElem_drop] at e
  rw [List.getElem?_eq_getElem (by have := h.il; omega), e]
theorem Cut.next {l : Bs} {ws : List Bs} {b i : Nat} (h : Cut l ws b i) (hi : i < l.length) (hc : l[i]? ≠ some 32) : Cut l ws b (i + 1) :=
  ⟨by have := h.le; omega, hi, h.eq, fun j h1 h2 => by
    rcases Nat.lt_succ_iff_lt_or_eq.1 h2 with c | c
    · exact h.no j h1 c
    · rw [c]; exact hc⟩
theorem Cut.sep {l : Bs} {ws : List Bs} {b i : Nat} (h : Cut l ws b i) (hi : i < l.length) (hc : l[i]? = some 32) : Cut l (ws ++ [(l.drop b).take (i - b)]) (i + 1) (i + 1) := by
  refine ⟨Nat.le_refl _, hi, ?_, fun j h1 h2 => by omega⟩
  have hg : l[i] = 32 := by rw [List.getElem?_eq_getElem hi] at hc; injection hc
  have e : l.drop b = (l.drop b).take (i - b) ++ 32 :: l.drop (i + 1) := by
    have e1 : (l.drop b).drop (i - b) = 32 :: l.drop (i + 1) := by
      rw [List.drop_drop, show b + (i - b) = i by have := h.le; omega, List.drop_eq_getElem_cons hi, hg]
    rw [← e1, List.take_append_drop]
  rw [h.eq, e, spl_app _ h.word_no, List.take_append_of_le_length (by rw [List.length_take, List.length_drop]; have := h.le; omega), List.append_assoc]
  congr 1
  rw [List.singleton_append]
  congr 1
  rw [List.take_take, Nat.min_self]
theorem Cut.fin {l : Bs} {ws : List Bs} {b : Nat} (h : Cut l ws b l.length) : spl 32 l = ws ++ [(l.drop b).take (l.length - b)] := by
  have hw := h.word_no
  have e : (l.drop b).take (l.length - b) = l.drop b := List.take_of_length_le (by simp)
  rw [e] at hw ⊢
  rw [h.eq, spl_word hw]
end Go.Lx
