/-
  CERTAIN VERDICTS and the curtailed test, as plain data. No program in sight.
  Conditions: none.
-/
import Derived.Test.YtpoddmkimhkmoaaGreatPh1
import Derived.Test.YtpoddmkimhkmoaaGreatPh2
import Derived.Deep.DeepCutAuto
namespace Go.Sv
open Go.RowKit

def certF (t : Tst) : Nat → Nat → Int → Int
  | 0, n, f => atV t n f
  | d + 1, n, f => if atV t n f ≠ 0 then atV t n f else if certF t d (n + 1) f = certF t d (n + 1) (f + 1) then certF t d (n + 1) f else 0
def cert (t : Tst) (n : Nat) (f : Int) : Int := certF t (t.acc.length - n) n f
theorem cert_last (t : Tst) (f : Int) : cert t t.acc.length f = atV t t.acc.length f := by
  have e : t.acc.length - t.acc.length = 0 := by omega
  unfold cert; rw [e]; rfl
theorem cert_at {t : Tst} {n : Nat} {f : Int} (h : atV t n f ≠ 0) : cert t n f = atV t n f := by
  unfold cert
  cases t.acc.length - n with
  | zero => rfl
  | succ d => rw [certF, if_pos h]
theorem cert_step {t : Tst} {n : Nat} {f : Int} (hn : n < t.acc.length) (h : atV t n f = 0) : cert t n f = if cert t (n + 1) f = cert t (n + 1) (f + 1) then cert t (n + 1) f else 0 := by
  unfold cert
  obtain ⟨d, hd⟩ : ∃ d, t.acc.length - n = d + 1 := ⟨t.acc.length - n - 1, by omega⟩
  have e : t.acc.length - (n + 1) = d := by omega
  rw [hd, e, certF, if_neg (by simp [h])]
theorem atV_012 (t : Tst) (n : Nat) (f : Int) : atV t n f = 0 ∨ atV t n f = 1 ∨ atV t n f = 2 := by
  unfold atV
  split
  · exact Or.inr (Or.inl rfl)
  · split
    · exact Or.inr (Or.inr rfl)
    · exact Or.inl rfl
theorem certF_012 (t : Tst) : ∀ (d n : Nat) (f : Int), certF t d n f = 0 ∨ certF t d n f = 1 ∨ certF t d n f = 2
  | 0, n, f => atV_012 t n f
  | d + 1, n, f => by
    rw [certF]
    split
    · exact atV_012 t n f
    · split
      · exact certF_012 t d (n + 1) f
      · exact Or.inl rfl
theorem cert_012 (t : Tst) (n : Nat) (f : Int) : cert t n f = 0 ∨ cert t n f = 1 ∨ cert t n f = 2 := certF_012 t _ n f
/-- the row of number n: f = 0 .. n -/
def rowC (t : Tst) (n : Nat) : List Int := (List.range (n + 1)).map (fun (f : Nat) => cert t n f)
theorem rowC_len (t : Tst) (n : Nat) : (rowC t n).length = n + 1 := by simp [rowC]
theorem rowC_get {t : Tst} {n f : Nat} (h : f ≤ n) : gi (rowC t n) f = cert t n f := by
  have hl : f < n + 1 := by omega
  simp [gi, rowC, hl]

def bndA (l : List Int) : Nat → Int
  | 0 => -1
  | k + 1 => if gi l k = 1 then k else bndA l k
def bndR (l : List Int) : Nat → Int
  | 0 => l.length
  | k + 1 => if gi l k = 2 ∧ bndR l k = l.length then k else bndR l k
theorem bndA_1 {l : List Int} {k : Nat} (h : gi l k = 1) : bndA l (k + 1) = k := by rw [bndA, if_pos h]
theorem bndA_n {l : List Int} {k : Nat} (h : gi l k ≠ 1) : bndA l (k + 1) = bndA l k := by rw [bndA, if_neg h]
theorem bndR_2 {l : List Int} {k : Nat} (h : gi l k = 2) (h2 : bndR l k = l.length) : bndR l (k + 1) = k := by rw [bndR, if_pos ⟨h, h2⟩]
theorem bndR_n {l : List Int} {k : Nat} (h : ¬ (gi l k = 2 ∧ bndR l k = l.length)) : bndR l (k + 1) = bndR l k := by rw [bndR, if_neg h]
theorem bndR_or (l : List Int) : ∀ k, bndR l k = l.length ∨ 0 ≤ bndR l k ∧ bndR l k < k
  | 0 => Or.inl rfl
  | k + 1 => by
    by_cases h : gi l k = 2 ∧ bndR l k = l.length
    · rw [bndR_2 h.1 h.2]; omega
    · rw [bndR_n h]
      rcases bndR_or l k with h | h
      · exact Or.inl h
      · exact Or.inr (by omega)
theorem bndA_bd (l : List Int) : ∀ k, -1 ≤ bndA l k ∧ bndA l k < k
  | 0 => by simp [bndA]
  | k + 1 => by
    by_cases h : gi l k = 1
    · rw [bndA_1 h]; omega
    · rw [bndA_n h]
      have := bndA_bd l k
      omega
def curA (t : Tst) (n : Nat) : Int := bndA (rowC t n) (n + 1)
def curR (t : Tst) (n : Nat) : Int := bndR (rowC t n) (n + 1)
theorem curA_bd (t : Tst) (n : Nat) : -1 ≤ curA t n ∧ curA t n ≤ n := by have := bndA_bd (rowC t n) (n + 1); unfold curA; omega
theorem curR_bd (t : Tst) (n : Nat) : 0 ≤ curR t n ∧ curR t n ≤ n + 1 := by
  unfold curR
  rcases bndR_or (rowC t n) (n + 1) with h | h
  · rw [rowC_len] at h; omega
  · omega
def curAl (t : Tst) (k : Nat) : List Int := (List.range k).map (fun i => curA t (i + 1))
def curRl (t : Tst) (k : Nat) : List Int := (List.range k).map (fun i => curR t (i + 1))
theorem curAl_succ (t : Tst) (k : Nat) : curAl t (k + 1) = curAl t k ++ [curA t (k + 1)] := by simp [curAl, List.range_succ]
theorem curRl_succ (t : Tst) (k : Nat) : curRl t (k + 1) = curRl t k ++ [curR t (k + 1)] := by simp [curRl, List.range_succ]
def curT (t : Tst) : Tst := ⟨(List.range t.acc.length).map (fun i => curA t (i + 1)), (List.range t.acc.length).map (fun i => curR t (i + 1))⟩
theorem curT_al (t : Tst) : (curT t).acc = curAl t t.acc.length ∧ (curT t).rej = curRl t t.acc.length := ⟨rfl, rfl⟩
theorem curT_len (t : Tst) : (curT t).acc.length = t.acc.length ∧ (curT t).rej.length = t.acc.length := by simp [curT]
end Go.Sv

namespace Go.Sv
open Go.RowKit

theorem atV_1 {t : Tst} {n : Nat} {f : Int} : atV t n f = 1 ↔ f ≤ gi t.acc (n - 1) := by
  unfold atV
  split
  · simp [*]
  · split <;> simp [*]
theorem atV_2 {t : Tst} {n : Nat} {f : Int} : atV t n f = 2 ↔ gi t.acc (n - 1) < f ∧ gi t.rej (n - 1) ≤ f := by
  unfold atV
  split
  · rename_i h
    constructor
    · intro h; omega
    · intro h; omega
  · rename_i h
    split
    · rename_i h2
      exact ⟨fun _ => ⟨by omega, h2⟩, fun _ => rfl⟩
    · rename_i h2
      constructor
      · intro h; omega
      · intro h; omega
theorem cert_succ (t : Tst) {n : Nat} (hn : n < t.acc.length) (f : Int) :
    atV t n f ≠ 0 ∧ cert t n f = atV t n f ∨ atV t n f = 0 ∧ (cert t (n + 1) f = cert t (n + 1) (f + 1) ∧ cert t n f = cert t (n + 1) f ∨ cert t (n + 1) f ≠ cert t (n + 1) (f + 1) ∧ cert t n f = 0) := by
  by_cases c : atV t n f = 0
  · refine Or.inr ⟨c, ?_⟩
    rw [cert_step hn c]
    by_cases e : cert t (n + 1) f = cert t (n + 1) (f + 1)
    · exact Or.inl ⟨e, if_pos e⟩
    · exact Or.inr ⟨e, if_neg e⟩
  · exact Or.inl ⟨c, cert_at c⟩
theorem cert_mono (t : Tst) : ∀ (d n : Nat), t.acc.length - n = d → n ≤ t.acc.length → ∀ f : Int, (cert t n (f + 1) = 1 → cert t n f = 1) ∧ (cert t n f = 2 → cert t n (f + 1) = 2) := by
  intro d
  induction d with
  | zero =>
    intro n hd hn f
    obtain rfl : n = t.acc.length := by omega
    rw [cert_last, cert_last, atV_1, atV_1, atV_2, atV_2]
    omega
  | succ d ih =>
    intro n hd hn f
    have i0 := ih (n + 1) (by omega) (by omega) f
    have i1 := ih (n + 1) (by omega) (by omega) (f + 1)
    have s0 := cert_succ t (n := n) (by omega) f
    have s1 := cert_succ t (n := n) (by omega) (f + 1)
    have a0 := atV_012 t n f
    have a1 := atV_012 t n (f + 1)
    have e01 := atV_1 (t := t) (n := n) (f := f)
    have e02 := atV_2 (t := t) (n := n) (f := f)
    have e11 := atV_1 (t := t) (n := n) (f := f + 1)
    have e12 := atV_2 (t := t) (n := n) (f := f + 1)
    constructor
    · intro h
      rcases s1 with ⟨h1, h2⟩ | ⟨h1, ⟨h2, h3⟩ | ⟨h2, h3⟩⟩
      · have : atV t n f = 1 := by omega
        rcases s0 with ⟨h3, h4⟩ | ⟨h3, _⟩
        · omega
        · omega
      · have hc : cert t (n + 1) (f + 1) = 1 := by omega
        have hc0 := i0.1 hc
        rcases s0 with ⟨h4, h5⟩ | ⟨h4, ⟨h5, h6⟩ | ⟨h5, h6⟩⟩
        · omega
        · omega
        · omega
      · omega
    · intro h
      rcases s0 with ⟨h1, h2⟩ | ⟨h1, ⟨h2, h3⟩ | ⟨h2, h3⟩⟩
      · have : atV t n (f + 1) = 2 := by omega
        rcases s1 with ⟨h3, h4⟩ | ⟨h3, _⟩
        · omega
        · omega
      · have hc : cert t (n + 1) (f + 1) = 2 := by omega
        have hc0 := i1.2 hc
        rcases s1 with ⟨h4, h5⟩ | ⟨h4, ⟨h5, h6⟩ | ⟨h5, h6⟩⟩
        · omega
        · omega
        · omega
      · omega
theorem cert_down (t : Tst) {n : Nat} (hn : n ≤ t.acc.length) (f : Int) : ∀ j : Nat, cert t n (f + j) = 1 → cert t n f = 1
  | 0, h => by simpa using h
  | j + 1, h => by
    have e : f + ((j + 1 : Nat) : Int) = (f + j) + 1 := by omega
    rw [e] at h
    exact cert_down t hn f j ((cert_mono t _ n rfl hn _).1 h)
theorem cert_up (t : Tst) {n : Nat} (hn : n ≤ t.acc.length) (f : Int) : ∀ j : Nat, cert t n f = 2 → cert t n (f + j) = 2
  | 0, h => by simpa using h
  | j + 1, h => by
    have e : f + ((j + 1 : Nat) : Int) = (f + j) + 1 := by omega
    rw [e]
    exact (cert_mono t _ n rfl hn _).2 (cert_up t hn f j h)
theorem bndA_spec (l : List Int) : ∀ k, (∀ j : Nat, j < k → bndA l k < j → gi l j ≠ 1) ∧ (bndA l k = -1 ∨ ∃ j : Nat, j < k ∧ bndA l k = j ∧ gi l j = 1)
  | 0 => ⟨fun j h => absurd h (Nat.not_lt_zero j), Or.inl rfl⟩
  | k + 1 => by
    obtain ⟨h1, h2⟩ := bndA_spec l k
    by_cases c : gi l k = 1
    · rw [bndA_1 c]
      exact ⟨fun j hj hk => by omega, Or.inr ⟨k, by omega, rfl, c⟩⟩
    · rw [bndA_n c]
      refine ⟨fun j hj hk => ?_, ?_⟩
      · rcases Nat.lt_or_ge j k with hlt | hge
        · exact h1 j hlt hk
        · obtain rfl : j = k := by omega
          exact c
      · rcases h2 with h2 | ⟨j, hj, e, hg⟩
        · exact Or.inl h2
        · exact Or.inr ⟨j, by omega, e, hg⟩
theorem bndR_spec (l : List Int) : ∀ k, k ≤ l.length → (bndR l k = l.length ∧ ∀ j, j < k → gi l j ≠ 2) ∨ ∃ j : Nat, j < k ∧ bndR l k = j ∧ gi l j = 2 ∧ ∀ i, i < j → gi l i ≠ 2
  | 0, _ => Or.inl ⟨rfl, fun j h => absurd h (Nat.not_lt_zero j)⟩
  | k + 1, hk => by
    rcases bndR_spec l k (by omega) with ⟨h1, h2⟩ | ⟨j, hj, e, hg, ha⟩
    · by_cases c : gi l k = 2
      · rw [bndR_2 c h1]
        exact Or.inr ⟨k, by omega, rfl, c, h2⟩
      · rw [bndR_n (fun h => c h.1)]
        refine Or.inl ⟨h1, fun j hj => ?_⟩
        rcases Nat.lt_or_ge j k with hlt | hge
        · exact h2 j hlt
        · obtain rfl : j = k := by omega
          exact c
    · rw [bndR_n (fun h => by have := h.2; omega)]
      exact Or.inr ⟨j, by omega, e, hg, ha⟩
theorem curA_iff (t : Tst) {n f : Nat} (hn : n ≤ t.acc.length) (hf : f ≤ n) : (f : Int) ≤ curA t n ↔ cert t n f = 1 := by
  obtain ⟨h1, h2⟩ := bndA_spec (rowC t n) (n + 1)
  constructor
  · intro h
    unfold curA at h
    rcases h2 with h2 | ⟨j, hj, e, hg⟩
    · omega
    · rw [rowC_get (by omega)] at hg
      have hjf : f ≤ j := by omega
      have e2 : (j : Int) = (f : Int) + ((j - f : Nat) : Int) := by omega
      rw [e2] at hg
      exact cert_down t hn f _ hg
  · intro h
    unfold curA
    rcases (by omega : bndA (rowC t n) (n + 1) < f ∨ (f : Int) ≤ bndA (rowC t n) (n + 1)) with hlt | hge
    · exfalso
      have := h1 f (by omega) hlt
      rw [rowC_get hf] at this
      exact this h
    · exact hge
theorem curR_iff (t : Tst) {n f : Nat} (hn : n ≤ t.acc.length) (hf : f ≤ n) : curR t n ≤ f ↔ cert t n f = 2 := by
  unfold curR
  rcases bndR_spec (rowC t n) (n + 1) (by rw [rowC_len]; omega) with ⟨h1, h2⟩ | ⟨j, hj, e, hg, ha⟩
  · rw [h1, rowC_len]
    constructor
    · intro h; omega
    · intro h
      exfalso
      have := h2 f (by omega)
      rw [rowC_get hf] at this
      exact this h
  · rw [e]
    constructor
    · intro h
      rw [rowC_get (by omega)] at hg
      have e2 : (f : Int) = (j : Int) + ((f - j : Nat) : Int) := by omega
      rw [e2]
      exact cert_up t hn j _ hg
    · intro h
      rcases Nat.lt_or_ge f j with hlt | hge
      · exfalso
        have := ha f hlt
        rw [rowC_get hf] at this
        exact this h
      · omega
theorem curT_get {t : Tst} {i : Nat} (h : i < t.acc.length) : gi (curT t).acc i = curA t (i + 1) ∧ gi (curT t).rej i = curR t (i + 1) := by
  simp [gi, curT, h]
/-- the curtailed test's verdict is the certain one -/
theorem atV_cur {t : Tst} {n f : Nat} (h0 : 0 < n) (hn : n ≤ t.acc.length) (hf : f ≤ n) : atV (curT t) n f = cert t n f := by
  obtain ⟨g1, g2⟩ := curT_get (t := t) (i := n - 1) (by omega)
  have e : n - 1 + 1 = n := by omega
  rw [e] at g1 g2
  have i1 := curA_iff t hn hf
  have i2 := curR_iff t hn hf
  have h3 := cert_012 t n f
  unfold atV
  rw [g1, g2]
  split
  · rename_i h; exact (i1.1 h).symm
  · rename_i h
    split
    · rename_i h2; exact (i2.1 h2).symm
    · rename_i h2
      have n1 : cert t n f ≠ 1 := fun c => h (i1.2 c)
      have n2 : cert t n f ≠ 2 := fun c => h2 (i2.2 c)
      omega
theorem cert_cur (t : Tst) : ∀ (d n : Nat), t.acc.length - n = d → 0 < n → n ≤ t.acc.length → ∀ f : Nat, f ≤ n → cert (curT t) n f = cert t n f := by
  have L := (curT_len t).1
  intro d
  induction d with
  | zero =>
    intro n hd h0 hn f hf
    have e : n = (curT t).acc.length := by omega
    rw [← atV_cur h0 hn hf]
    have := cert_last (curT t) f
    rw [← e] at this
    exact this
  | succ d ih =>
    intro n hd h0 hn f hf
    have hv := atV_cur h0 hn hf
    by_cases c : cert t n f = 0
    · have c0 : atV t n f = 0 := by
        rcases cert_succ t (n := n) (by omega) f with ⟨h1, h2⟩ | ⟨h1, _⟩
        · omega
        · exact h1
      rw [cert_step (t := curT t) (by omega) (by rw [hv]; exact c), cert_step (t := t) (by omega) c0]
      have e1 := ih (n + 1) (by omega) (by omega) (by omega) f (by omega)
      have e2 := ih (n + 1) (by omega) (by omega) (by omega) (f + 1) (by omega)
      have ec : ((f + 1 : Nat) : Int) = (f : Int) + 1 := by omega
      rw [ec] at e2
      rw [e1, e2]
    · rw [cert_at (t := curT t) (by rw [hv]; exact c), hv]
theorem curT_cur (t : Tst) : curT (curT t) = curT t := by
  have L := (curT_len t).1
  have hrow : ∀ n, 0 < n → n ≤ t.acc.length → rowC (curT t) n = rowC t n := fun n h0 hn => by
    unfold rowC
    apply List.map_congr_left
    intro f hf
    exact cert_cur t _ n rfl h0 hn f (by have := List.mem_range.1 hf; omega)
  have h1 : (curT (curT t)).acc = (curT t).acc := by
    show (List.range (curT t).acc.length).map (fun i => curA (curT t) (i + 1)) = (List.range t.acc.length).map (fun i => curA t (i + 1))
    rw [L]
    apply List.map_congr_left
    intro i hi
    have := List.mem_range.1 hi
    unfold curA
    rw [hrow (i + 1) (by omega) (by omega)]
  have h2 : (curT (curT t)).rej = (curT t).rej := by
    show (List.range (curT t).acc.length).map (fun i => curR (curT t) (i + 1)) = (List.range t.acc.length).map (fun i => curR t (i + 1))
    rw [L]
    apply List.map_congr_left
    intro i hi
    have := List.mem_range.1 hi
    unfold curR
    rw [hrow (i + 1) (by omega) (by omega)]
  cases hc : curT (curT t)
  cases hd : curT t
  rw [hc, hd] at h1 h2
  simp only at h1 h2
  rw [h1, h2]
theorem cur_lt (t : Tst) {n : Nat} (hn : n ≤ t.acc.length) : curA t n < curR t n := by
  have b1 := curA_bd t n
  have b2 := curR_bd t n
  rcases (by omega : curA t n < curR t n ∨ curR t n ≤ curA t n) with h | h
  · exact h
  · exfalso
    have e : ((curR t n).toNat : Int) = curR t n := by omega
    have i1 := (curA_iff t (f := (curR t n).toNat) hn (by omega)).1 (by omega)
    have i2 := (curR_iff t (f := (curR t n).toNat) hn (by omega)).1 (by omega)
    omega
theorem curT_vld {t : Tst} (vl : Vld t) : Vld (curT t) := by
  obtain ⟨L1, L2⟩ := curT_len t
  have n0 := vl.n0
  refine ⟨by rw [L1]; exact vl.n0, by rw [L1]; exact vl.n1, by rw [L1, L2], fun i hi => ?_, fun i hi => ?_, fun i hi => ?_, ?_⟩
  · rw [L1] at hi; rw [(curT_get hi).1]; exact (curA_bd t (i + 1)).1
  · rw [L1] at hi; rw [(curT_get hi).1, (curT_get hi).2]; exact cur_lt t (by omega)
  · rw [L1] at hi; rw [(curT_get hi).2]; have := (curR_bd t (i + 1)).2; omega
  · rw [L1, (curT_get (t := t) (i := t.acc.length - 1) (by omega)).1, (curT_get (t := t) (i := t.acc.length - 1) (by omega)).2]
    have e : t.acc.length - 1 + 1 = t.acc.length := by omega
    rw [e]
    have l0 := vl.last
    have l1 := vl.lo (t.acc.length - 1) (by omega)
    have l2 := vl.hi (t.acc.length - 1) (by omega)
    have b1 := curA_bd t t.acc.length
    have b2 := curR_bd t t.acc.length
    have k1 : ∀ f : Nat, f ≤ t.acc.length → ((f : Int) ≤ curA t t.acc.length ↔ (f : Int) ≤ gi t.acc (t.acc.length - 1)) := fun f hf => by rw [curA_iff t (Nat.le_refl _) hf, cert_last, atV_1]
    have k2 : ∀ f : Nat, f ≤ t.acc.length → (curR t t.acc.length ≤ f ↔ gi t.acc (t.acc.length - 1) < f ∧ gi t.rej (t.acc.length - 1) ≤ f) := fun f hf => by rw [curR_iff t (Nat.le_refl _) hf, cert_last, atV_2]
    have A1 : curA t t.acc.length = gi t.acc (t.acc.length - 1) := by
      have p1 : curA t t.acc.length ≤ gi t.acc (t.acc.length - 1) := by
        by_cases c : 0 ≤ curA t t.acc.length
        · have e2 : ((curA t t.acc.length).toNat : Int) = curA t t.acc.length := by omega
          have := (k1 (curA t t.acc.length).toNat (by omega)).1 (by omega)
          omega
        · omega
      have p2 : gi t.acc (t.acc.length - 1) ≤ curA t t.acc.length := by
        by_cases c : 0 ≤ gi t.acc (t.acc.length - 1)
        · have e2 : ((gi t.acc (t.acc.length - 1)).toNat : Int) = gi t.acc (t.acc.length - 1) := by omega
          have := (k1 (gi t.acc (t.acc.length - 1)).toNat (by omega)).2 (by omega)
          omega
        · omega
      omega
    have R1 : curR t t.acc.length = gi t.rej (t.acc.length - 1) := by
      have p1 : curR t t.acc.length ≤ gi t.rej (t.acc.length - 1) := by
        by_cases c : gi t.rej (t.acc.length - 1) ≤ t.acc.length
        · have e2 : ((gi t.rej (t.acc.length - 1)).toNat : Int) = gi t.rej (t.acc.length - 1) := by omega
          have := (k2 (gi t.rej (t.acc.length - 1)).toNat (by omega)).2 (by omega)
          omega
        · omega
      have p2 : gi t.rej (t.acc.length - 1) ≤ curR t t.acc.length := by
        by_cases c : curR t t.acc.length ≤ t.acc.length
        · have e2 : ((curR t t.acc.length).toNat : Int) = curR t t.acc.length := by omega
          have := (k2 (curR t t.acc.length).toNat (by omega)).1 (by omega)
          omega
        · omega
      omega
    omega
end Go.Sv

namespace Go.Sv
open Go.RowKit

theorem fixT_get {n : Nat} {c : Int} (_h0 : 0 < n) : (∀ i, i < n - 1 → gi (fixT n c).acc i = -1 ∧ gi (fixT n c).rej i = (i : Int) + 2) ∧ gi (fixT n c).acc (n - 1) = c ∧ gi (fixT n c).rej (n - 1) = c + 1 := by
  have lA : (fixA (n - 1)).length = n - 1 := fixA_len _
  have lR : (fixR (n - 1)).length = n - 1 := fixR_len _
  refine ⟨fun i hi => ⟨?_, ?_⟩, ?_, ?_⟩
  · show gi (fixA (n - 1) ++ [c]) i = _
    rw [gi_snoc_lt (by rw [lA]; exact hi)]
    simp [gi, fixA, hi]
  · show gi (fixR (n - 1) ++ [c + 1]) i = _
    rw [gi_snoc_lt (by rw [lR]; exact hi)]
    simp [gi, fixR, hi]
  · have := gi_snoc_last (l := fixA (n - 1)) (x := c)
    rw [lA] at this
    exact this
  · have := gi_snoc_last (l := fixR (n - 1)) (x := c + 1)
    rw [lR] at this
    exact this
theorem fixT_vld {n : Nat} {c : Int} (h0 : 0 < n) (h1 : n ≤ 64) (h2 : -1 ≤ c) (h3 : c ≤ n) : Vld (fixT n c) := by
  obtain ⟨L1, L2⟩ := fixT_len c h0
  obtain ⟨g, g1, g2⟩ := fixT_get (c := c) h0
  refine ⟨by rw [L1]; exact h0, by rw [L1]; exact h1, by rw [L1, L2], ?_, ?_, ?_, by rw [L1, g1, g2]⟩
  all_goals
    intro i hi
    rw [L1] at hi
    rcases Nat.lt_or_ge i (n - 1) with k | k
    · have := g i k
      omega
    · obtain rfl : i = n - 1 := by omega
      omega
theorem decF_fix {n : Nat} {c : Int} (l : List Bool) (h0 : 0 < n) (hl : l.length = n) : ∀ d k, n - k = d → k < n → decF (fixT n c) l k (l.length - k) = (if failsTo l n ≤ c then 1 else 2, n) := by
  obtain ⟨g, g1, g2⟩ := fixT_get (c := c) h0
  intro d
  induction d with
  | zero => intro k hd hk; omega
  | succ d ih =>
    intro k hd hk
    have hb := failsTo_bd l (k + 1)
    rcases Nat.lt_or_ge k (n - 1) with hlt | hge
    · have e : decAt (fixT n c) l k = 0 := by
        obtain ⟨a, b⟩ := g k hlt
        have ek : k + 1 - 1 = k := by omega
        unfold decAt atV
        rw [ek, a, b, if_neg (by omega), if_neg (by omega)]
      rw [decF_next (by omega) e]
      exact ih (k + 1) (by omega) (by omega)
    · obtain rfl : k = n - 1 := by omega
      have en : n - 1 + 1 = n := by omega
      have e : decAt (fixT n c) l (n - 1) = if failsTo l n ≤ c then 1 else 2 := by
        unfold decAt atV
        rw [en, g1, g2]
        split
        · rfl
        · rw [if_pos (by omega)]
      have hne : decAt (fixT n c) l (n - 1) ≠ 0 := by
        rw [e]
        split <;> omega
      rw [decF_stop (by omega) hne, e, en]
theorem decR_fix {n : Nat} {c : Int} (l : List Bool) (h0 : 0 < n) (h1 : n ≤ 64) (h2 : -1 ≤ c) (h3 : c ≤ n) (hl : l.length = n) : decR (fixT n c) l = (if failsTo l n ≤ c then 1 else 2, n) := by
  rw [decR_ok (vld_validE (fixT_vld h0 h1 h2 h3))]
  exact decF_fix l h0 hl n 0 (by omega) h0
end Go.Sv

namespace Go.Sv
open Go.RowKit

/-- one entry: acceptance and rejection number -/
def ofA (x : Int) (i : Nat) : Int := if (i : Int) + 1 < x % 16 - 1 then (i : Int) + 1 else x % 16 - 1
def ofR (x : Int) (i : Nat) : Int := if (i : Int) + 2 < ofA x i + 1 + x / 16 then (i : Int) + 2 else ofA x i + 1 + x / 16
def ofAl (l : List Int) (k : Nat) : List Int := (List.range k).map (fun i => ofA (gi l i) i)
def ofRl (l : List Int) (k : Nat) : List Int := (List.range k).map (fun i => if i + 1 = l.length then ofA (gi l i) i + 1 else ofR (gi l i) i)
def ofT (l : List Int) : Tst := ⟨ofAl l l.length, ofRl l l.length⟩
theorem ofAl_succ (l : List Int) (k : Nat) : ofAl l (k + 1) = ofAl l k ++ [ofA (gi l k) k] := by simp [ofAl, List.range_succ]
theorem ofRl_succ (l : List Int) {k : Nat} (h : k + 1 ≠ l.length) : ofRl l (k + 1) = ofRl l k ++ [ofR (gi l k) k] := by simp [ofRl, List.range_succ, h]
theorem ofRl_last (l : List Int) {k : Nat} (h : k + 1 = l.length) : ofRl l (k + 1) = ofRl l k ++ [ofA (gi l k) k + 1] := by
  unfold ofRl
  rw [List.range_succ, List.map_append]
  simp [h]
theorem ofT_len (l : List Int) : (ofT l).acc.length = l.length ∧ (ofT l).rej.length = l.length := by simp [ofT, ofAl, ofRl]
theorem ofA_bd {x : Int} (i : Nat) : -1 ≤ ofA x i ∧ ofA x i ≤ (i : Int) + 1 := by unfold ofA; split <;> omega
theorem ofR_bd {x : Int} (h : 0 ≤ x) (i : Nat) : ofA x i < ofR x i ∧ ofR x i ≤ (i : Int) + 2 := by
  have := ofA_bd (x := x) i
  unfold ofR; split <;> omega
theorem ofT_vld {l : List Int} (h0 : 0 < l.length) (h1 : l.length ≤ 8) (hb : ∀ i, i < l.length → 0 ≤ gi l i) : Vld (ofT l) := by
  obtain ⟨L1, L2⟩ := ofT_len l
  have gA : ∀ i, i < l.length → gi (ofT l).acc i = ofA (gi l i) i := fun i hi => by simp [ofT, ofAl, gi, hi]
  have gR : ∀ i, i < l.length → gi (ofT l).rej i = if i + 1 = l.length then ofA (gi l i) i + 1 else ofR (gi l i) i := fun i hi => by simp [ofT, ofRl, gi, hi]
  refine ⟨by rw [L1]; exact h0, by rw [L1]; omega, by rw [L1, L2], ?_, ?_, ?_, ?_⟩
  · intro i hi
    rw [L1] at hi
    rw [gA i hi]
    exact (ofA_bd i).1
  · intro i hi
    rw [L1] at hi
    rw [gA i hi, gR i hi]
    have := ofR_bd (hb i hi) i
    split <;> omega
  · intro i hi
    rw [L1] at hi
    rw [gR i hi]
    have := ofR_bd (hb i hi) i
    have := ofA_bd (x := gi l i) i
    split <;> omega
  · rw [L1, gA _ (by omega), gR _ (by omega), if_pos (by omega)]

/-- where a list of observations is decided -/
theorem decF_spec {t : Tst} (vl : Vld t) {l : List Bool} (hl : l.length = t.acc.length) : ∀ d k, l.length - k = d → k < l.length → (∀ j, j < k → decAt t l j = 0) →
    ∃ m, decF t l k (l.length - k) = (decAt t l m, m + 1) ∧ k ≤ m ∧ m < l.length ∧ decAt t l m ≠ 0 ∧ ∀ j, j < m → decAt t l j = 0 := by
  intro d
  induction d with
  | zero => intro k hd hk; omega
  | succ d ih =>
    intro k hd hk hall
    by_cases c : decAt t l k = 0
    · have hall' : ∀ j, j < k + 1 → decAt t l j = 0 := fun j hj => by
        rcases Nat.lt_succ_iff_lt_or_eq.1 hj with h | h
        · exact hall j h
        · rw [h]; exact c
      have hk1 := decAt_lt vl hall'
      obtain ⟨m, h1, h2, h3⟩ := ih (k + 1) (by omega) (by omega) hall'
      exact ⟨m, by rw [decF_next hk c]; exact h1, by omega, h3⟩
    · exact ⟨k, decF_stop hk c, Nat.le_refl _, hk, c, hall⟩
theorem decR_spec {t : Tst} (vl : Vld t) {l : List Bool} (hl : l.length = t.acc.length) :
    ∃ m, decR t l = (decAt t l m, m + 1) ∧ m < l.length ∧ decAt t l m ≠ 0 ∧ ∀ j, j < m → decAt t l j = 0 := by
  have h0 := vl.n0
  obtain ⟨m, h1, _, h3⟩ := decF_spec vl hl _ 0 rfl (by omega) (fun j hj => by omega)
  exact ⟨m, by rw [decR_ok (vld_validE vl)]; exact h1, h3⟩

/-- a certain verdict is what every continuation leads to -/
theorem decF_cert {t : Tst} {l : List Bool} (hl : l.length = t.acc.length) : ∀ d k, l.length - k = d → k < l.length → cert t (k + 1) (failsTo l (k + 1)) ≠ 0 →
    (decF t l k (l.length - k)).1 = cert t (k + 1) (failsTo l (k + 1)) ∧ k + 1 ≤ (decF t l k (l.length - k)).2 := by
  intro d
  induction d with
  | zero => intro k hd hk; omega
  | succ d ih =>
    intro k hd hk hc
    by_cases c : decAt t l k = 0
    · have c0 : atV t (k + 1) (failsTo l (k + 1)) = 0 := c
      rcases Nat.lt_or_ge (k + 1) t.acc.length with hlt | hge
      · have hs := cert_step hlt c0
        by_cases e : cert t (k + 1 + 1) (failsTo l (k + 1)) = cert t (k + 1 + 1) (failsTo l (k + 1) + 1)
        · rw [if_pos e] at hs
          have en : cert t (k + 1 + 1) (failsTo l (k + 1 + 1)) = cert t (k + 1) (failsTo l (k + 1)) := by
            have ef : failsTo l (k + 1 + 1) = failsTo l (k + 1) + bi (gb l (k + 1)) := rfl
            cases hb : gb l (k + 1)
            · rw [ef, hb, bi_f, Int.add_zero, hs]
            · rw [ef, hb, bi_t, ← e, hs]
          rw [decF_next hk c, ← en]
          obtain ⟨h1, h2⟩ := ih (k + 1) (by omega) (by omega) (by rw [en]; exact hc)
          exact ⟨h1, by omega⟩
        · rw [if_neg e] at hs
          exact absurd hs hc
      · have ek : k + 1 = t.acc.length := by omega
        rw [ek] at hc c0
        rw [cert_last] at hc
        exact absurd c0 hc
    · rw [decF_stop hk c]
      exact ⟨(cert_at (t := t) (n := k + 1) (f := failsTo l (k + 1)) c).symm, Nat.le_refl _⟩
theorem decAt_cur {t : Tst} {l : List Bool} (hl : l.length = t.acc.length) {k : Nat} (hk : k < l.length) : decAt (curT t) l k = cert t (k + 1) (failsTo l (k + 1)) := by
  have hb := failsTo_bd l (k + 1)
  have e : failsTo l (k + 1) = ((failsTo l (k + 1)).toNat : Int) := by omega
  unfold decAt
  rw [e]
  exact atV_cur (by omega) (by omega) (by omega)
theorem decF_early {t : Tst} {l : List Bool} (hl : l.length = t.acc.length) : ∀ d k, l.length - k = d → k ≤ l.length →
    (decF (curT t) l k (l.length - k)).1 = (decF t l k (l.length - k)).1 ∧ (decF (curT t) l k (l.length - k)).2 ≤ (decF t l k (l.length - k)).2 := by
  intro d
  induction d with
  | zero =>
    intro k hd hk
    obtain rfl : k = l.length := by omega
    rw [decF_end, decF_end]
    exact ⟨rfl, Nat.le_refl _⟩
  | succ d ih =>
    intro k hd hk
    have hk' : k < l.length := by omega
    have hcur := decAt_cur hl hk'
    by_cases c : cert t (k + 1) (failsTo l (k + 1)) = 0
    · have c0 : decAt t l k = 0 := by
        by_cases h : decAt t l k = 0
        · exact h
        · have := cert_at (t := t) (n := k + 1) (f := failsTo l (k + 1)) h
          rw [c] at this
          exact this.symm
      rw [decF_next hk' (hcur.trans c), decF_next hk' c0]
      exact ih (k + 1) (by omega) (by omega)
    · obtain ⟨h1, h2⟩ := decF_cert hl _ k rfl hk' c
      rw [decF_stop hk' (by rw [hcur]; exact c), hcur, h1]
      exact ⟨rfl, h2⟩
theorem decR_early {t : Tst} (vl : Vld t) {l : List Bool} (hl : l.length = t.acc.length) : (decR (curT t) l).1 = (decR t l).1 ∧ (decR (curT t) l).2 ≤ (decR t l).2 := by
  rw [decR_ok (vld_validE vl), decR_ok (vld_validE (curT_vld vl))]
  exact decF_early hl _ 0 rfl (Nat.zero_le _)
end Go.Sv

namespace Go.Proofs.YtpoddmkimhkmoaaGreat
open Go.RowKit Go.Sv

def u8v (l : List Int) (k : Nat) : Value := .int .u8 (gi l k)
def OfRes (w : World) (t : Tst) (b : Bool) (v : Value) (w' : World) : Prop := ∃ q : TstP, v = .tuple #[tstV t q, .bool b] ∧ RTst w' w'.heap.size t q ∧ Below w.heap.size w w'
theorem ofAl_row (l : List Int) (k : Nat) : iRow (ofAl l (k + 1)) = iRow (ofAl l k) ++ [.int .i64 (ofA (gi l k) k)] := by rw [← iRow_snoc, ofAl_succ]
def ofJ (l : List Int) (k : Nat) : Int := if k + 1 = l.length then ofA (gi l k) k + 1 else ofR (gi l k) k
theorem ofJ_is {l : List Int} {k : Nat} : ofJ l k = if k + 1 = l.length then ofA (gi l k) k + 1 else ofR (gi l k) k := rfl
theorem ofRl_row (l : List Int) (k : Nat) : iRow (ofRl l (k + 1)) = iRow (ofRl l k) ++ [.int .i64 (ofJ l k)] := by
  rw [← iRow_snoc]
  unfold ofJ
  split
  · rw [ofRl_last l ‹_›]
  · rw [ofRl_succ l ‹_›]


end Go.Proofs.YtpoddmkimhkmoaaGreat
