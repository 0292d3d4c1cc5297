/-
  THE TEST THAT DECIDES AT THE END ONLY, plainly. No program in sight.
  Conditions: those that each theorem names.
-/
import Derived.Test.YtbpgpjmihbmcbaaDoorHeaP
namespace Go.Sv
open Go.RowKit

theorem fixT_get {n : Nat} {c : Int} (_h0 : 0 < n) : (∀ i, i < n - 1 → gi (fixT n c).acc i = -1 ∧ gi (fixT n c).rej i = (i : Int) + 2) ∧ gi (fixT n c).acc (n - 1) = c ∧ gi (fixT n c).rej (n - 1) = c + 1 := by
  have lA : (fixA (n - 1)).length = n - 1 := fixA_len _
  have lR : (fixR (n - 1)).length = n - 1 := fixR_len _
  refine ⟨fun i hi => ⟨?_, ?_⟩, ?_, ?_⟩
  · show gi (fixA (n - 1) ++ [c]) i = _
    rw [gi_snoc_lt (by rw [lA]; exact hi)]
    simp [gi, fixA, hi]
  · show gi (fixR (n - 1) ++ [c + 1]) i = _
    rw [gi_snoc_lt (by rw [lR]; exact hi)]
    simp [gi, fixR, hi]
  · have := gi_snoc_last (l := fixA (n - 1)) (x := c)
    rw [lA] at this
    exact this
  · have := gi_snoc_last (l := fixR (n - 1)) (x := c + 1)
    rw [lR] at this
    exact this
theorem fixT_vld {n : Nat} {c : Int} (h0 : 0 < n) (h1 : n ≤ 64) (h2 : -1 ≤ c) (h3 : c ≤ n) : Vld (fixT n c) := by
  obtain ⟨L1, L2⟩ := fixT_len c h0
  obtain ⟨g, g1, g2⟩ := fixT_get (c := c) h0
  refine ⟨by rw [L1]; exact h0, by rw [L1]; exact h1, by rw [L1, L2], ?_, ?_, ?_, by rw [L1, g1, g2]⟩
  all_goals
    intro i hi
    rw [L1] at hi
    rcases Nat.lt_or_ge i (n - 1) with k | k
    · have := g i k
      omega
    · obtain rfl : i = n - 1 := by omega
      omega
theorem decF_fix {n : Nat} {c : Int} (l : List Bool) (h0 : 0 < n) (hl : l.length = n) : ∀ d k, n - k = d → k < n → decF (fixT n c) l k (l.length - k) = (if failsTo l n ≤ c then 1 else 2, n) := by
  obtain ⟨g, g1, g2⟩ := fixT_get (c := c) h0
  intro d
  induction d with
  | zero => intro k hd hk; omega
  | succ d ih =>
    intro k hd hk
    have hb := failsTo_bd l (k + 1)
    rcases Nat.lt_or_ge k (n - 1) with hlt | hge
    · have e : decAt (fixT n c) l k = 0 := by
        obtain ⟨a, b⟩ := g k hlt
        have ek : k + 1 - 1 = k := by omega
        unfold decAt atV
        rw [ek, a, b, if_neg (by omega), if_neg (by omega)]
      rw [decF_next (by omega) e]
      exact ih (k + 1) (by omega) (by omega)
    · obtain rfl : k = n - 1 := by omega
      have en : n - 1 + 1 = n := by omega
      have e : decAt (fixT n c) l (n - 1) = if failsTo l n ≤ c then 1 else 2 := by
        unfold decAt atV
        rw [en, g1, g2]
        split
        · rfl
        · rw [if_pos (by omega)]
      have hne : decAt (fixT n c) l (n - 1) ≠ 0 := by
        rw [e]
        split <;> omega
      rw [decF_stop (by omega) hne, e, en]
theorem decR_fix {n : Nat} {c : Int} (l : List Bool) (h0 : 0 < n) (h1 : n ≤ 64) (h2 : -1 ≤ c) (h3 : c ≤ n) (hl : l.length = n) : decR (fixT n c) l = (if failsTo l n ≤ c then 1 else 2, n) := by
  rw [decR_ok (vld_validE (fixT_vld h0 h1 h2 h3))]
  exact decF_fix l h0 hl n 0 (by omega) h0
end Go.Sv
