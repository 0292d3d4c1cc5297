/-
  THE REFERENCE'S TESTS FROM BYTES, and the laws of Always and Earlier, plainly. No program in sight.
  Conditions: those that each theorem names.
-/
import Derived.Test.YtbpgpjmihbmcbaaDoorHeaR
namespace Go.Sv
open Go.RowKit

/-- one entry: acceptance and rejection number -/
def ofA (x : Int) (i : Nat) : Int := if (i : Int) + 1 < x % 16 - 1 then (i : Int) + 1 else x % 16 - 1
def ofR (x : Int) (i : Nat) : Int := if (i : Int) + 2 < ofA x i + 1 + x / 16 then (i : Int) + 2 else ofA x i + 1 + x / 16
def ofAl (l : List Int) (k : Nat) : List Int := (List.range k).map (fun i => ofA (gi l i) i)
def ofRl (l : List Int) (k : Nat) : List Int := (List.range k).map (fun i => if i + 1 = l.length then ofA (gi l i) i + 1 else ofR (gi l i) i)
def ofT (l : List Int) : Tst := ⟨ofAl l l.length, ofRl l l.length⟩
theorem ofAl_succ (l : List Int) (k : Nat) : ofAl l (k + 1) = ofAl l k ++ [ofA (gi l k) k] := by simp [ofAl, List.range_succ]
theorem ofRl_succ (l : List Int) {k : Nat} (h : k + 1 ≠ l.length) : ofRl l (k + 1) = ofRl l k ++ [ofR (gi l k) k] := by simp [ofRl, List.range_succ, h]
theorem ofRl_last (l : List Int) {k : Nat} (h : k + 1 = l.length) : ofRl l (k + 1) = ofRl l k ++ [ofA (gi l k) k + 1] := by
  unfold ofRl
  rw [List.range_succ, List.map_append]
  simp [h]
theorem ofT_len (l : List Int) : (ofT l).acc.length = l.length ∧ (ofT l).rej.length = l.length := by simp [ofT, ofAl, ofRl]
theorem ofA_bd {x : Int} (i : Nat) : -1 ≤ ofA x i ∧ ofA x i ≤ (i : Int) + 1 := by unfold ofA; split <;> omega
theorem ofR_bd {x : Int} (h : 0 ≤ x) (i : Nat) : ofA x i < ofR x i ∧ ofR x i ≤ (i : Int) + 2 := by
  have := ofA_bd (x := x) i
  unfold ofR; split <;> omega
theorem ofT_vld {l : List Int} (h0 : 0 < l.length) (h1 : l.length ≤ 8) (hb : ∀ i, i < l.length → 0 ≤ gi l i) : Vld (ofT l) := by
  obtain ⟨L1, L2⟩ := ofT_len l
  have gA : ∀ i, i < l.length → gi (ofT l).acc i = ofA (gi l i) i := fun i hi => by simp [ofT, ofAl, gi, hi]
  have gR : ∀ i, i < l.length → gi (ofT l).rej i = if i + 1 = l.length then ofA (gi l i) i + 1 else ofR (gi l i) i := fun i hi => by simp [ofT, ofRl, gi, hi]
  refine ⟨by rw [L1]; exact h0, by rw [L1]; omega, by rw [L1, L2], ?_, ?_, ?_, ?_⟩
  · intro i hi
    rw [L1] at hi
    rw [gA i hi]
    exact (ofA_bd i).1
  · intro i hi
    rw [L1] at hi
    rw [gA i hi, gR i hi]
    have := ofR_bd (hb i hi) i
    split <;> omega
  · intro i hi
    rw [L1] at hi
    rw [gR i hi]
    have := ofR_bd (hb i hi) i
    have := ofA_bd (x := gi l i) i
    split <;> omega
  · rw [L1, gA _ (by omega), gR _ (by omega), if_pos (by omega)]

/-- where a list of observations is decided -/
theorem decF_spec {t : Tst} (vl : Vld t) {l : List Bool} (hl : l.length = t.acc.length) : ∀ d k, l.length - k = d → k < l.length → (∀ j, j < k → decAt t l j = 0) →
    ∃ m, decF t l k (l.length - k) = (decAt t l m, m + 1) ∧ k ≤ m ∧ m < l.length ∧ decAt t l m ≠ 0 ∧ ∀ j, j < m → decAt t l j = 0 := by
  intro d
  induction d with
  | zero => intro k hd hk; omega
  | succ d ih =>
    intro k hd hk hall
    by_cases c : decAt t l k = 0
    · have hall' : ∀ j, j < k + 1 → decAt t l j = 0 := fun j hj => by
        rcases Nat.lt_succ_iff_lt_or_eq.1 hj with h | h
        · exact hall j h
        · rw [h]; exact c
      have hk1 := decAt_lt vl hall'
      obtain ⟨m, h1, h2, h3⟩ := ih (k + 1) (by omega) (by omega) hall'
      exact ⟨m, by rw [decF_next hk c]; exact h1, by omega, h3⟩
    · exact ⟨k, decF_stop hk c, Nat.le_refl _, hk, c, hall⟩
theorem decR_spec {t : Tst} (vl : Vld t) {l : List Bool} (hl : l.length = t.acc.length) :
    ∃ m, decR t l = (decAt t l m, m + 1) ∧ m < l.length ∧ decAt t l m ≠ 0 ∧ ∀ j, j < m → decAt t l j = 0 := by
  have h0 := vl.n0
  obtain ⟨m, h1, _, h3⟩ := decF_spec vl hl _ 0 rfl (by omega) (fun j hj => by omega)
  exact ⟨m, by rw [decR_ok (vld_validE vl)]; exact h1, h3⟩

/-- a certain verdict is what every continuation leads to -/
theorem decF_cert {t : Tst} {l : List Bool} (hl : l.length = t.acc.length) : ∀ d k, l.length - k = d → k < l.length → cert t (k + 1) (failsTo l (k + 1)) ≠ 0 →
    (decF t l k (l.length - k)).1 = cert t (k + 1) (failsTo l (k + 1)) ∧ k + 1 ≤ (decF t l k (l.length - k)).2 := by
  intro d
  induction d with
  | zero => intro k hd hk; omega
  | succ d ih =>
    intro k hd hk hc
    by_cases c : decAt t l k = 0
    · have c0 : atV t (k + 1) (failsTo l (k + 1)) = 0 := c
      rcases Nat.lt_or_ge (k + 1) t.acc.length with hlt | hge
      · have hs := cert_step hlt c0
        by_cases e : cert t (k + 1 + 1) (failsTo l (k + 1)) = cert t (k + 1 + 1) (failsTo l (k + 1) + 1)
        · rw [if_pos e] at hs
          have en : cert t (k + 1 + 1) (failsTo l (k + 1 + 1)) = cert t (k + 1) (failsTo l (k + 1)) := by
            have ef : failsTo l (k + 1 + 1) = failsTo l (k + 1) + bi (gb l (k + 1)) := rfl
            cases hb : gb l (k + 1)
            · rw [ef, hb, bi_f, Int.add_zero, hs]
            · rw [ef, hb, bi_t, ← e, hs]
          rw [decF_next hk c, ← en]
          obtain ⟨h1, h2⟩ := ih (k + 1) (by omega) (by omega) (by rw [en]; exact hc)
          exact ⟨h1, by omega⟩
        · rw [if_neg e] at hs
          exact absurd hs hc
      · have ek : k + 1 = t.acc.length := by omega
        rw [ek] at hc c0
        rw [cert_last] at hc
        exact absurd c0 hc
    · rw [decF_stop hk c]
      exact ⟨(cert_at (t := t) (n := k + 1) (f := failsTo l (k + 1)) c).symm, Nat.le_refl _⟩
theorem decAt_cur {t : Tst} {l : List Bool} (hl : l.length = t.acc.length) {k : Nat} (hk : k < l.length) : decAt (curT t) l k = cert t (k + 1) (failsTo l (k + 1)) := by
  have hb := failsTo_bd l (k + 1)
  have e : failsTo l (k + 1) = ((failsTo l (k + 1)).toNat : Int) := by omega
  unfold decAt
  rw [e]
  exact atV_cur (by omega) (by omega) (by omega)
theorem decF_early {t : Tst} {l : List Bool} (hl : l.length = t.acc.length) : ∀ d k, l.length - k = d → k ≤ l.length →
    (decF (curT t) l k (l.length - k)).1 = (decF t l k (l.length - k)).1 ∧ (decF (curT t) l k (l.length - k)).2 ≤ (decF t l k (l.length - k)).2 := by
  intro d
  induction d with
  | zero =>
    intro k hd hk
    obtain rfl : k = l.length := by omega
    rw [decF_end, decF_end]
    exact ⟨rfl, Nat.le_refl _⟩
  | succ d ih =>
    intro k hd hk
    have hk' : k < l.length := by omega
    have hcur := decAt_cur hl hk'
    by_cases c : cert t (k + 1) (failsTo l (k + 1)) = 0
    · have c0 : decAt t l k = 0 := by
        by_cases h : decAt t l k = 0
        · exact h
        · have := cert_at (t := t) (n := k + 1) (f := failsTo l (k + 1)) h
          rw [c] at this
          exact this.symm
      rw [decF_next hk' (hcur.trans c), decF_next hk' c0]
      exact ih (k + 1) (by omega) (by omega)
    · obtain ⟨h1, h2⟩ := decF_cert hl _ k rfl hk' c
      rw [decF_stop hk' (by rw [hcur]; exact c), hcur, h1]
      exact ⟨rfl, h2⟩
theorem decR_early {t : Tst} (vl : Vld t) {l : List Bool} (hl : l.length = t.acc.length) : (decR (curT t) l).1 = (decR t l).1 ∧ (decR (curT t) l).2 ≤ (decR t l).2 := by
  rw [decR_ok (vld_validE vl), decR_ok (vld_validE (curT_vld vl))]
  exact decF_early hl _ 0 rfl (Nat.zero_le _)
end Go.Sv
