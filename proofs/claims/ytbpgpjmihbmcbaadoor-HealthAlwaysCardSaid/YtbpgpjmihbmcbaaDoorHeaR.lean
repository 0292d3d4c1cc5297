/-
  THE CURTAILED TEST, plainly: it is valid, its verdicts are the certain ones, and curtailing it again changes nothing. No program in sight.
  Conditions: those that each theorem names.
-/
import Derived.Test.YtbpgpjmihbmcbaaDoorHeaQ
namespace Go.Sv
open Go.RowKit

theorem atV_1 {t : Tst} {n : Nat} {f : Int} : atV t n f = 1 ↔ f ≤ gi t.acc (n - 1) := by
  unfold atV
  split
  · simp [*]
  · split <;> simp [*]
theorem atV_2 {t : Tst} {n : Nat} {f : Int} : atV t n f = 2 ↔ gi t.acc (n - 1) < f ∧ gi t.rej (n - 1) ≤ f := by
  unfold atV
  split
  · rename_i h
    constructor
    · intro h; omega
    · intro h; omega
  · rename_i h
    split
    · rename_i h2
      exact ⟨fun _ => ⟨by omega, h2⟩, fun _ => rfl⟩
    · rename_i h2
      constructor
      · intro h; omega
      · intro h; omega
theorem cert_succ (t : Tst) {n : Nat} (hn : n < t.acc.length) (f : Int) :
    atV t n f ≠ 0 ∧ cert t n f = atV t n f ∨ atV t n f = 0 ∧ (cert t (n + 1) f = cert t (n + 1) (f + 1) ∧ cert t n f = cert t (n + 1) f ∨ cert t (n + 1) f ≠ cert t (n + 1) (f + 1) ∧ cert t n f = 0) := by
  by_cases c : atV t n f = 0
  · refine Or.inr ⟨c, ?_⟩
    rw [cert_step hn c]
    by_cases e : cert t (n + 1) f = cert t (n + 1) (f + 1)
    · exact Or.inl ⟨e, if_pos e⟩
    · exact Or.inr ⟨e, if_neg e⟩
  · exact Or.inl ⟨c, cert_at c⟩
theorem cert_mono (t : Tst) : ∀ (d n : Nat), t.acc.length - n = d → n ≤ t.acc.length → ∀ f : Int, (cert t n (f + 1) = 1 → cert t n f = 1) ∧ (cert t n f = 2 → cert t n (f + 1) = 2) := by
  intro d
  induction d with
  | zero =>
    intro n hd hn f
    obtain rfl : n = t.acc.length := by omega
    rw [cert_last, cert_last, atV_1, atV_1, atV_2, atV_2]
    omega
  | succ d ih =>
    intro n hd hn f
    have i0 := ih (n + 1) (by omega) (by omega) f
    have i1 := ih (n + 1) (by omega) (by omega) (f + 1)
    have s0 := cert_succ t (n := n) (by omega) f
    have s1 := cert_succ t (n := n) (by omega) (f + 1)
    have a0 := atV_012 t n f
    have a1 := atV_012 t n (f + 1)
    have e01 := atV_1 (t := t) (n := n) (f := f)
    have e02 := atV_2 (t := t) (n := n) (f := f)
    have e11 := atV_1 (t := t) (n := n) (f := f + 1)
    have e12 := atV_2 (t := t) (n := n) (f := f + 1)
    constructor
    · intro h
      rcases s1 with ⟨h1, h2⟩ | ⟨h1, ⟨h2, h3⟩ | ⟨h2, h3⟩⟩
      · have : atV t n f = 1 := by omega
        rcases s0 with ⟨h3, h4⟩ | ⟨h3, _⟩
        · omega
        · omega
      · have hc : cert t (n + 1) (f + 1) = 1 := by omega
        have hc0 := i0.1 hc
        rcases s0 with ⟨h4, h5⟩ | ⟨h4, ⟨h5, h6⟩ | ⟨h5, h6⟩⟩
        · omega
        · omega
        · omega
      · omega
    · intro h
      rcases s0 with ⟨h1, h2⟩ | ⟨h1, ⟨h2, h3⟩ | ⟨h2, h3⟩⟩
      · have : atV t n (f + 1) = 2 := by omega
        rcases s1 with ⟨h3, h4⟩ | ⟨h3, _⟩
        · omega
        · omega
      · have hc : cert t (n + 1) (f + 1) = 2 := by omega
        have hc0 := i1.2 hc
        rcases s1 with ⟨h4, h5⟩ | ⟨h4, ⟨h5, h6⟩ | ⟨h5, h6⟩⟩
        · omega
        · omega
        · omega
      · omega
theorem cert_down (t : Tst) {n : Nat} (hn : n ≤ t.acc.length) (f : Int) : ∀ j : Nat, cert t n (f + j) = 1 → cert t n f = 1
  | 0, h => by simpa using h
  | j + 1, h => by
    have e : f + ((j + 1 : Nat) : Int) = (f + j) + 1 := by omega
    rw [e] at h
    exact cert_down t hn f j ((cert_mono t _ n rfl hn _).1 h)
theorem cert_up (t : Tst) {n : Nat} (hn : n ≤ t.acc.length) (f : Int) : ∀ j : Nat, cert t n f = 2 → cert t n (f + j) = 2
  | 0, h => by simpa using h
  | j + 1, h => by
    have e : f + ((j + 1 : Nat) : Int) = (f + j) + 1 := by omega
    rw [e]
    exact (cert_mono t _ n rfl hn _).2 (cert_up t hn f j h)
theorem bndA_spec (l : List Int) : ∀ k, (∀ j : Nat, j < k → bndA l k < j → gi l j ≠ 1) ∧ (bndA l k = -1 ∨ ∃ j : Nat, j < k ∧ bndA l k = j ∧ gi l j = 1)
  | 0 => ⟨fun j h => absurd h (Nat.not_lt_zero j), Or.inl rfl⟩
  | k + 1 => by
    obtain ⟨h1, h2⟩ := bndA_spec l k
    by_cases c : gi l k = 1
    · rw [bndA_1 c]
      exact ⟨fun j hj hk => by omega, Or.inr ⟨k, by omega, rfl, c⟩⟩
    · rw [bndA_n c]
      refine ⟨fun j hj hk => ?_, ?_⟩
      · rcases Nat.lt_or_ge j k with hlt | hge
        · exact h1 j hlt hk
        · obtain rfl : j = k := by omega
          exact c
      · rcases h2 with h2 | ⟨j, hj, e, hg⟩
        · exact Or.inl h2
        · exact Or.inr ⟨j, by omega, e, hg⟩
theorem bndR_spec (l : List Int) : ∀ k, k ≤ l.length → (bndR l k = l.length ∧ ∀ j, j < k → gi l j ≠ 2) ∨ ∃ j : Nat, j < k ∧ bndR l k = j ∧ gi l j = 2 ∧ ∀ i, i < j → gi l i ≠ 2
  | 0, _ => Or.inl ⟨rfl, fun j h => absurd h (Nat.not_lt_zero j)⟩
  | k + 1, hk => by
    rcases bndR_spec l k (by omega) with ⟨h1, h2⟩ | ⟨j, hj, e, hg, ha⟩
    · by_cases c : gi l k = 2
      · rw [bndR_2 c h1]
        exact Or.inr ⟨k, by omega, rfl, c, h2⟩
      · rw [bndR_n (fun h => c h.1)]
        refine Or.inl ⟨h1, fun j hj => ?_⟩
        rcases Nat.lt_or_ge j k with hlt | hge
        · exact h2 j hlt
        · obtain rfl : j = k := by omega
          exact c
    · rw [bndR_n (fun h => by have := h.2; omega)]
      exact Or.inr ⟨j, by omega, e, hg, ha⟩
theorem curA_iff (t : Tst) {n f : Nat} (hn : n ≤ t.acc.length) (hf : f ≤ n) : (f : Int) ≤ curA t n ↔ cert t n f = 1 := by
  obtain ⟨h1, h2⟩ := bndA_spec (rowC t n) (n + 1)
  constructor
  · intro h
    unfold curA at h
    rcases h2 with h2 | ⟨j, hj, e, hg⟩
    · omega
    · rw [rowC_get (by omega)] at hg
      have hjf : f ≤ j := by omega
      have e2 : (j : Int) = (f : Int) + ((j - f : Nat) : Int) := by omega
      rw [e2] at hg
      exact cert_down t hn f _ hg
  · intro h
    unfold curA
    rcases (by omega : bndA (rowC t n) (n + 1) < f ∨ (f : Int) ≤ bndA (rowC t n) (n + 1)) with hlt | hge
    · exfalso
      have := h1 f (by omega) hlt
      rw [rowC_get hf] at this
      exact this h
    · exact hge
theorem curR_iff (t : Tst) {n f : Nat} (hn : n ≤ t.acc.length) (hf : f ≤ n) : curR t n ≤ f ↔ cert t n f = 2 := by
  unfold curR
  rcases bndR_spec (rowC t n) (n + 1) (by rw [rowC_len]; omega) with ⟨h1, h2⟩ | ⟨j, hj, e, hg, ha⟩
  · rw [h1, rowC_len]
    constructor
    · intro h; omega
    · intro h
      exfalso
      have := h2 f (by omega)
      rw [rowC_get hf] at this
      exact this h
  · rw [e]
    constructor
    · intro h
      rw [rowC_get (by omega)] at hg
      have e2 : (f : Int) = (j : Int) + ((f - j : Nat) : Int) := by omega
      rw [e2]
      exact cert_up t hn j _ hg
    · intro h
      rcases Nat.lt_or_ge f j with hlt | hge
      · exfalso
        have := ha f hlt
        rw [rowC_get hf] at this
        exact this h
      · omega
theorem curT_get {t : Tst} {i : Nat} (h : i < t.acc.length) : gi (curT t).acc i = curA t (i + 1) ∧ gi (curT t).rej i = curR t (i + 1) := by
  simp [gi, curT, h]
/-- the curtailed test's verdict is the certain one -/
theorem atV_cur {t : Tst} {n f : Nat} (h0 : 0 < n) (hn : n ≤ t.acc.length) (hf : f ≤ n) : atV (curT t) n f = cert t n f := by
  obtain ⟨g1, g2⟩ := curT_get (t := t) (i := n - 1) (by omega)
  have e : n - 1 + 1 = n := by omega
  rw [e] at g1 g2
  have i1 := curA_iff t hn hf
  have i2 := curR_iff t hn hf
  have h3 := cert_012 t n f
  unfold atV
  rw [g1, g2]
  split
  · rename_i h; exact (i1.1 h).symm
  · rename_i h
    split
    · rename_i h2; exact (i2.1 h2).symm
    · rename_i h2
      have n1 : cert t n f ≠ 1 := fun c => h (i1.2 c)
      have n2 : cert t n f ≠ 2 := fun c => h2 (i2.2 c)
      omega
theorem cert_cur (t : Tst) : ∀ (d n : Nat), t.acc.length - n = d → 0 < n → n ≤ t.acc.length → ∀ f : Nat, f ≤ n → cert (curT t) n f = cert t n f := by
  have L := (curT_len t).1
  intro d
  induction d with
  | zero =>
    intro n hd h0 hn f hf
    have e : n = (curT t).acc.length := by omega
    rw [← atV_cur h0 hn hf]
    have := cert_last (curT t) f
    rw [← e] at this
    exact this
  | succ d ih =>
    intro n hd h0 hn f hf
    have hv := atV_cur h0 hn hf
    by_cases c : cert t n f = 0
    · have c0 : atV t n f = 0 := by
        rcases cert_succ t (n := n) (by omega) f with ⟨h1, h2⟩ | ⟨h1, _⟩
        · omega
        · exact h1
      rw [cert_step (t := curT t) (by omega) (by rw [hv]; exact c), cert_step (t := t) (by omega) c0]
      have e1 := ih (n + 1) (by omega) (by omega) (by omega) f (by omega)
      have e2 := ih (n + 1) (by omega) (by omega) (by omega) (f + 1) (by omega)
      have ec : ((f + 1 : Nat) : Int) = (f : Int) + 1 := by omega
      rw [ec] at e2
      rw [e1, e2]
    · rw [cert_at (t := curT t) (by rw [hv]; exact c), hv]
theorem curT_cur (t : Tst) : curT (curT t) = curT t := by
  have L := (curT_len t).1
  have hrow : ∀ n, 0 < n → n ≤ t.acc.length → rowC (curT t) n = rowC t n := fun n h0 hn => by
    unfold rowC
    apply List.map_congr_left
    intro f hf
    exact cert_cur t _ n rfl h0 hn f (by have := List.mem_range.1 hf; omega)
  have h1 : (curT (curT t)).acc = (curT t).acc := by
    show (List.range (curT t).acc.length).map (fun i => curA (curT t) (i + 1)) = (List.range t.acc.length).map (fun i => curA t (i + 1))
    rw [L]
    apply List.map_congr_left
    intro i hi
    have := List.mem_range.1 hi
    unfold curA
    rw [hrow (i + 1) (by omega) (by omega)]
  have h2 : (curT (curT t)).rej = (curT t).rej := by
    show (List.range (curT t).acc.length).map (fun i => curR (curT t) (i + 1)) = (List.range t.acc.length).map (fun i => curR t (i + 1))
    rw [L]
    apply List.map_congr_left
    intro i hi
    have := List.mem_range.1 hi
    unfold curR
    rw [hrow (i + 1) (by omega) (by omega)]
  cases hc : curT (curT t)
  cases hd : curT t
  rw [hc, hd] at h1 h2
  simp only at h1 h2
  rw [h1, h2]
theorem cur_lt (t : Tst) {n : Nat} (hn : n ≤ t.acc.length) : curA t n < curR t n := by
  have b1 := curA_bd t n
  have b2 := curR_bd t n
  rcases (by omega : curA t n < curR t n ∨ curR t n ≤ curA t n) with h | h
  · exact h
  · exfalso
    have e : ((curR t n).toNat : Int) = curR t n := by omega
    have i1 := (curA_iff t (f := (curR t n).toNat) hn (by omega)).1 (by omega)
    have i2 := (curR_iff t (f := (curR t n).toNat) hn (by omega)).1 (by omega)
    omega
theorem curT_vld {t : Tst} (vl : Vld t) : Vld (curT t) := by
  obtain ⟨L1, L2⟩ := curT_len t
  have n0 := vl.n0
  refine ⟨by rw [L1]; exact vl.n0, by rw [L1]; exact vl.n1, by rw [L1, L2], fun i hi => ?_, fun i hi => ?_, fun i hi => ?_, ?_⟩
  · rw [L1] at hi; rw [(curT_get hi).1]; exact (curA_bd t (i + 1)).1
  · rw [L1] at hi; rw [(curT_get hi).1, (curT_get hi).2]; exact cur_lt t (by omega)
  · rw [L1] at hi; rw [(curT_get hi).2]; have := (curR_bd t (i + 1)).2; omega
  · rw [L1, (curT_get (t := t) (i := t.acc.length - 1) (by omega)).1, (curT_get (t := t) (i := t.acc.length - 1) (by omega)).2]
    have e : t.acc.length - 1 + 1 = t.acc.length := by omega
    rw [e]
    have l0 := vl.last
    have l1 := vl.lo (t.acc.length - 1) (by omega)
    have l2 := vl.hi (t.acc.length - 1) (by omega)
    have b1 := curA_bd t t.acc.length
    have b2 := curR_bd t t.acc.length
    have k1 : ∀ f : Nat, f ≤ t.acc.length → ((f : Int) ≤ curA t t.acc.length ↔ (f : Int) ≤ gi t.acc (t.acc.length - 1)) := fun f hf => by rw [curA_iff t (Nat.le_refl _) hf, cert_last, atV_1]
    have k2 : ∀ f : Nat, f ≤ t.acc.length → (curR t t.acc.length ≤ f ↔ gi t.acc (t.acc.length - 1) < f ∧ gi t.rej (t.acc.length - 1) ≤ f) := fun f hf => by rw [curR_iff t (Nat.le_refl _) hf, cert_last, atV_2]
    have A1 : curA t t.acc.length = gi t.acc (t.acc.length - 1) := by
      have p1 : curA t t.acc.length ≤ gi t.acc (t.acc.length - 1) := by
        by_cases c : 0 ≤ curA t t.acc.length
        · have e2 : ((curA t t.acc.length).toNat : Int) = curA t t.acc.length := by omega
          have := (k1 (curA t t.acc.length).toNat (by omega)).1 (by omega)
          omega
        · omega
      have p2 : gi t.acc (t.acc.length - 1) ≤ curA t t.acc.length := by
        by_cases c : 0 ≤ gi t.acc (t.acc.length - 1)
        · have e2 : ((gi t.acc (t.acc.length - 1)).toNat : Int) = gi t.acc (t.acc.length - 1) := by omega
          have := (k1 (gi t.acc (t.acc.length - 1)).toNat (by omega)).2 (by omega)
          omega
        · omega
      omega
    have R1 : curR t t.acc.length = gi t.rej (t.acc.length - 1) := by
      have p1 : curR t t.acc.length ≤ gi t.rej (t.acc.length - 1) := by
        by_cases c : gi t.rej (t.acc.length - 1) ≤ t.acc.length
        · have e2 : ((gi t.rej (t.acc.length - 1)).toNat : Int) = gi t.rej (t.acc.length - 1) := by omega
          have := (k2 (gi t.rej (t.acc.length - 1)).toNat (by omega)).2 (by omega)
          omega
        · omega
      have p2 : gi t.rej (t.acc.length - 1) ≤ curR t t.acc.length := by
        by_cases c : curR t t.acc.length ≤ t.acc.length
        · have e2 : ((curR t t.acc.length).toNat : Int) = curR t t.acc.length := by omega
          have := (k2 (curR t t.acc.length).toNat (by omega)).1 (by omega)
          omega
        · omega
      omega
    omega
end Go.Sv
