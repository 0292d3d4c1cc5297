/-
  ROWS OF LIMBS as plain data: their values, the limbs of a number. No program in sight.
  Conditions: those that each theorem names.
-/
import Derived.Test.YtpoddmkimhkmoaaGreatSl
namespace Go.Sv
open Go.RowKit

/-- the weight of limb k -/
def Bp (k : Nat) : Int := 4294967296 ^ k
theorem Bp_zero : Bp 0 = 1 := rfl
theorem Bp_succ (k : Nat) : Bp (k + 1) = Bp k * 4294967296 := by unfold Bp; rw [Int.pow_succ]
theorem Bp_pos : ∀ k, 0 < Bp k
  | 0 => by decide
  | k + 1 => by have := Bp_pos k; rw [Bp_succ]; omega
theorem Bp_add (j : Nat) : ∀ k, Bp (j + k) = Bp j * Bp k
  | 0 => by rw [Nat.add_zero, Bp_zero, Int.mul_one]
  | k + 1 => by rw [← Nat.add_assoc, Bp_succ, Bp_add j k, Bp_succ, Int.mul_assoc]
theorem Bp_mono {j k : Nat} (h : j ≤ k) : Bp j ≤ Bp k := by
  obtain ⟨d, rfl⟩ : ∃ d, k = j + d := ⟨k - j, by omega⟩
  clear h
  induction d with
  | zero => exact Int.le_refl _
  | succ d ih => rw [← Nat.add_assoc, Bp_succ]; have := Bp_pos (j + d); omega

/-- the value of the first k limbs -/
def vt (l : List Int) : Nat → Int
  | 0 => 0
  | k + 1 => vt l k + gi l k * Bp k
theorem vt_succ (l : List Int) (k : Nat) : vt l (k + 1) = vt l k + gi l k * Bp k := rfl
/-- limbs -/
def Lim (l : List Int) : Prop := ∀ i, i < l.length → 0 ≤ gi l i ∧ gi l i < 4294967296
theorem gi_out {l : List Int} {i : Nat} (h : l.length ≤ i) : gi l i = 0 := by simp [gi, h]
theorem Lim.at {l : List Int} (h : Lim l) (i : Nat) : 0 ≤ gi l i ∧ gi l i < 4294967296 := by
  rcases Nat.lt_or_ge i l.length with c | c
  · exact h i c
  · rw [gi_out c]; omega
theorem limb_le {x p : Int} (h0 : 0 ≤ x) (h1 : x < 4294967296) (hp : 0 < p) : 0 ≤ x * p ∧ x * p ≤ 4294967295 * p := by
  exact ⟨Int.mul_nonneg h0 (by omega), Int.mul_le_mul_of_nonneg_right (by omega) (by omega)⟩
theorem vt_bd {l : List Int} (h : Lim l) : ∀ k, 0 ≤ vt l k ∧ vt l k < Bp k
  | 0 => by rw [Bp_zero]; exact ⟨Int.le_refl _, show (0 : Int) < 1 by decide⟩
  | k + 1 => by
    obtain ⟨a, b⟩ := vt_bd h k
    obtain ⟨c, d⟩ := h.at k
    have hp := Bp_pos k
    obtain ⟨e, f⟩ := limb_le c d hp
    rw [vt_succ, Bp_succ]
    omega
theorem vt_congr {l m : List Int} : ∀ {k : Nat}, (∀ i, i < k → gi l i = gi m i) → vt l k = vt m k
  | 0, _ => rfl
  | k + 1, h => by rw [vt_succ, vt_succ, vt_congr (fun i hi => h i (by omega)), h k (by omega)]
theorem vt_more {l : List Int} : ∀ {k : Nat}, l.length ≤ k → vt l k = vt l l.length
  | 0, h => by have : l.length = 0 := by omega
               rw [this]
  | k + 1, h => by
    rcases Nat.lt_or_ge k l.length with c | c
    · have : l.length = k + 1 := by omega
      rw [this]
    · rw [vt_succ, gi_out c, Int.zero_mul, Int.add_zero]
      exact vt_more c
theorem vt_snoc (l : List Int) (x : Int) : vt (l ++ [x]) (l.length + 1) = vt l l.length + x * Bp l.length := by
  rw [vt_succ, gi_snoc_last, vt_congr (fun i hi => gi_snoc_lt hi)]
theorem gi_set {l : List Int} {i : Nat} {x : Int} (h : i < l.length) : gi (l.set i x) i = x := by simp [gi, h]
theorem gi_set_ne {l : List Int} {i j : Nat} {x : Int} (h : i ≠ j) : gi (l.set i x) j = gi l j := by simp [gi, h]
theorem Lim.set {l : List Int} (h : Lim l) {i : Nat} {x : Int} (h0 : 0 ≤ x) (h1 : x < 4294967296) : Lim (l.set i x) := fun j hj => by
  rw [List.length_set] at hj
  by_cases e : i = j
  · subst e; rw [gi_set hj]; exact ⟨h0, h1⟩
  · rw [gi_set_ne e]; exact h j hj
theorem Lim.snoc {l : List Int} (h : Lim l) {x : Int} (h0 : 0 ≤ x) (h1 : x < 4294967296) : Lim (l ++ [x]) := fun j hj => by
  rw [List.length_append, List.length_singleton] at hj
  rcases Nat.lt_or_ge j l.length with c | c
  · rw [gi_snoc_lt c]; exact h j c
  · obtain rfl : j = l.length := by omega
    rw [gi_snoc_last]; exact ⟨h0, h1⟩
theorem Lim.nil : Lim [] := fun i hi => absurd hi (Nat.not_lt_zero i)
theorem Lim.take {l : List Int} (h : Lim l) (n : Nat) : Lim (l.take n) := fun j hj => by
  have hj' := hj
  rw [List.length_take] at hj
  have : gi (l.take n) j = gi l j := by
    unfold gi
    rw [List.getD_eq_getElem?_getD, List.getD_eq_getElem?_getD, List.getElem?_take_of_lt (by omega)]
  rw [this]; exact h j (by omega)
theorem gi_take {l : List Int} {n j : Nat} (h : j < n) : gi (l.take n) j = gi l j := by
  unfold gi
  rw [List.getD_eq_getElem?_getD, List.getD_eq_getElem?_getD, List.getElem?_take_of_lt h]
theorem vt_take {l : List Int} {n k : Nat} (h : k ≤ n) : vt (l.take n) k = vt l k := vt_congr (fun i hi => gi_take (by omega))
/-- storing limb i -/
theorem vt_set_le {l : List Int} {i k : Nat} {x : Int} (h : k ≤ i) : vt (l.set i x) k = vt l k := vt_congr (fun j hj => gi_set_ne (by omega))
theorem vt_set {l : List Int} {i : Nat} {x : Int} (h : i < l.length) : ∀ {k : Nat}, i < k → vt (l.set i x) k = vt l k + (x - gi l i) * Bp i
  | 0, hk => by omega
  | k + 1, hk => by
    rw [vt_succ, vt_succ]
    by_cases e : i = k
    · subst e
      rw [vt_set_le (Nat.le_refl _), gi_set h, Int.sub_mul]
      omega
    · rw [vt_set h (by omega), gi_set_ne e]
      omega

/-! ### the limbs of a number -/
def lim (N : Nat) : List Int := if h : N = 0 then [] else ((N % 4294967296 : Nat) : Int) :: lim (N / 4294967296)
  termination_by N
  decreasing_by exact Nat.div_lt_self (by omega) (by omega)
theorem lim_zero : lim 0 = [] := by rw [lim]; simp
theorem lim_pos {N : Nat} (h : N ≠ 0) : lim N = ((N % 4294967296 : Nat) : Int) :: lim (N / 4294967296) := by rw [lim, dif_neg h]
theorem gi_cons_zero (x : Int) (l : List Int) : gi (x :: l) 0 = x := rfl
theorem gi_cons_succ (x : Int) (l : List Int) (k : Nat) : gi (x :: l) (k + 1) = gi l k := by simp [gi]
theorem vt_cons (x : Int) (l : List Int) : ∀ k, vt (x :: l) (k + 1) = x + 4294967296 * vt l k
  | 0 => by simp [vt, gi_cons_zero, Bp_zero]
  | k + 1 => by
    rw [vt_succ, vt_cons x l k, gi_cons_succ, vt_succ, Bp_succ, Int.mul_add, ← Int.mul_assoc (gi l k) (Bp k), Int.mul_comm (gi l k * Bp k) 4294967296]
    omega
theorem lim_lim (N : Nat) : Lim (lim N) := by
  induction N using Nat.strongRecOn with
  | ind N ih =>
    by_cases h : N = 0
    · subst h; rw [lim_zero]; exact Lim.nil
    · rw [lim_pos h]
      intro i hi
      cases i with
      | zero => rw [gi_cons_zero]; omega
      | succ i =>
        rw [gi_cons_succ]
        exact ih (N / 4294967296) (Nat.div_lt_self (by omega) (by omega)) i (by simpa using hi)
theorem vt_lim (N : Nat) : vt (lim N) (lim N).length = N := by
  induction N using Nat.strongRecOn with
  | ind N ih =>
    by_cases h : N = 0
    · subst h; rw [lim_zero]; rfl
    · rw [lim_pos h, List.length_cons, vt_cons, ih (N / 4294967296) (Nat.div_lt_self (by omega) (by omega))]
      omega
/-- canonical rows: no zero at the end -/
def Can (l : List Int) : Prop := l.length = 0 ∨ gi l (l.length - 1) ≠ 0
theorem lim_can (N : Nat) : Can (lim N) := by
  induction N using Nat.strongRecOn with
  | ind N ih =>
    by_cases h : N = 0
    · subst h; rw [lim_zero]; exact Or.inl rfl
    · refine Or.inr ?_
      rw [lim_pos h, List.length_cons, Nat.add_sub_cancel]
      by_cases c : N / 4294967296 = 0
      · rw [c, lim_zero]
        show gi [_] 0 ≠ 0
        rw [gi_cons_zero]; omega
      · rcases ih (N / 4294967296) (Nat.div_lt_self (by omega) (by omega)) with e | e
        · rw [lim_pos c] at e; simp at e
        · obtain ⟨n, hn⟩ : ∃ n, (lim (N / 4294967296)).length = n + 1 := ⟨(lim (N / 4294967296)).length - 1, by rw [lim_pos c]; simp⟩
          rw [hn, gi_cons_succ]
          rw [hn, Nat.add_sub_cancel] at e
          exact e
theorem lim_uniq : ∀ {l : List Int} (N : Nat), Lim l → Can l → vt l l.length = N → l = lim N
  | [], N, _, _, h => by
    have : N = 0 := by simp [vt] at h; omega
    subst this; rw [lim_zero]
  | x :: l, N, hl, hc, h => by
    rw [List.length_cons, vt_cons] at h
    have hx := hl 0 (by simp)
    rw [gi_cons_zero] at hx
    have hl' : Lim l := fun i hi => by have := hl (i + 1) (by simpa using hi); rwa [gi_cons_succ] at this
    have hv := (vt_bd hl' l.length).1
    have hN : N ≠ 0 := by
      intro e
      subst e
      have hx0 : x = 0 := by omega
      have hv0 : vt l l.length = 0 := by omega
      rcases hc with e | e
      · simp at e
      · cases l with
        | nil => simp [gi_cons_zero, hx0] at e
        | cons y l =>
          have hc' : Can (y :: l) := Or.inr (by simpa [gi_cons_succ] using e)
          have := lim_uniq (l := y :: l) 0 hl' hc' (by simpa using hv0)
          rw [lim_zero] at this
          cases this
    have hc' : Can l := by
      cases l with
      | nil => exact Or.inl rfl
      | cons y l =>
        rcases hc with e | e
        · simp at e
        · exact Or.inr (by simpa [gi_cons_succ] using e)
    have hr := lim_uniq (l := l) (N / 4294967296) hl' hc' (by omega)
    rw [lim_pos hN, ← hr]
    congr 1
    omega

/-! ### zeros at the end struck -/
def nzl (l : List Int) : Nat → Nat
  | 0 => 0
  | k + 1 => if gi l k = 0 then nzl l k else k + 1
theorem nzl_le (l : List Int) : ∀ k, nzl l k ≤ k
  | 0 => Nat.le_refl _
  | k + 1 => by
    rw [nzl]
    split
    · have := nzl_le l k; omega
    · exact Nat.le_refl _
theorem nzl_vt (l : List Int) : ∀ k, vt l (nzl l k) = vt l k
  | 0 => rfl
  | k + 1 => by
    rw [nzl]
    split
    · rename_i h
      rw [vt_succ, h, Int.zero_mul, Int.add_zero]
      exact nzl_vt l k
    · rfl
theorem nzl_last (l : List Int) : ∀ k, nzl l k = 0 ∨ gi l (nzl l k - 1) ≠ 0
  | 0 => Or.inl rfl
  | k + 1 => by
    rw [nzl]
    split
    · exact nzl_last l k
    · rename_i h
      exact Or.inr (by rwa [Nat.add_sub_cancel])
theorem nzl_is {l : List Int} : ∀ {k n : Nat}, n ≤ k → (∀ i, n ≤ i → i < k → gi l i = 0) → (n = 0 ∨ gi l (n - 1) ≠ 0) → nzl l k = n
  | 0, n, h, _, _ => by rw [nzl]; omega
  | k + 1, n, h, hz, hn => by
    rw [nzl]
    split
    · rename_i c
      rcases Nat.lt_or_ge k n with d | d
      · have e : n = k + 1 := by omega
        subst e
        rcases hn with hn | hn
        · omega
        · rw [Nat.add_sub_cancel] at hn; exact absurd c hn
      · exact nzl_is d (fun i a b => hz i a (by omega)) hn
    · rename_i c
      rcases Nat.lt_or_ge k n with d | d
      · omega
      · exact absurd (hz k d (by omega)) c
def norm (l : List Int) : List Int := l.take (nzl l l.length)
theorem norm_len (l : List Int) : (norm l).length = nzl l l.length := by
  unfold norm; rw [List.length_take]; have := nzl_le l l.length; omega
theorem norm_is {l : List Int} {n : Nat} (h : n ≤ l.length) (hz : ∀ i, n ≤ i → i < l.length → gi l i = 0) (hn : n = 0 ∨ gi l (n - 1) ≠ 0) : norm l = l.take n := by
  unfold norm; rw [nzl_is h hz hn]
theorem norm_lim {l : List Int} (h : Lim l) {N : Nat} (hv : vt l l.length = N) : norm l = lim N := by
  refine lim_uniq N (h.take _) ?_ ?_
  · rw [Can, norm_len]
    rcases nzl_last l l.length with e | e
    · exact Or.inl e
    · by_cases c : nzl l l.length = 0
      · exact Or.inl c
      · exact Or.inr (by unfold norm; rw [gi_take (by omega)]; exact e)
  · rw [norm_len, norm, vt_take (Nat.le_refl _), nzl_vt]; exact hv

/-! ### lengths -/
theorem lim_len_le {N k : Nat} : (lim N).length ≤ k ↔ (N : Int) < Bp k := by
  have hb := vt_bd (lim_lim N)
  constructor
  · intro h
    have := hb (lim N).length
    rw [vt_lim] at this
    have := Bp_mono h
    omega
  · intro h
    rcases Nat.lt_or_ge k (lim N).length with c | c
    · exfalso
      rcases lim_can N with e | e
      · omega
      · obtain ⟨m, hm⟩ : ∃ m, (lim N).length = m + 1 := ⟨(lim N).length - 1, by omega⟩
        have hv := vt_lim N
        rw [hm, vt_succ] at hv
        rw [hm, Nat.add_sub_cancel] at e
        have h0 := (hb m).1
        have hg := lim_lim N m (by omega)
        have hp := Bp_pos m
        have hle : Bp k ≤ Bp m := Bp_mono (by omega)
        have : 1 * Bp m ≤ gi (lim N) m * Bp m := Int.mul_le_mul_of_nonneg_right (by omega) (by omega)
        omega
    · exact c
theorem lim_len_zero {N : Nat} : (lim N).length = 0 ↔ N = 0 := by
  constructor
  · intro h
    have := (lim_len_le (N := N) (k := 0)).1 (by omega)
    rw [Bp_zero] at this
    omega
  · rintro rfl; rw [lim_zero]; rfl
theorem lim_inj {M N : Nat} (h : lim M = lim N) : M = N := by
  have h1 := vt_lim M
  rw [h, vt_lim] at h1
  omega
/-- the value of a row -/
def vl (l : List Int) : Nat := (vt l l.length).toNat
theorem vl_vt {l : List Int} (h : Lim l) : vt l l.length = (vl l : Int) := by have := (vt_bd h l.length).1; unfold vl; omega
theorem lim_vl {l : List Int} (h : Lim l) (hc : Can l) : l = lim (vl l) := lim_uniq _ h hc (vl_vt h)
theorem vl_lim (N : Nat) : vl (lim N) = N := by unfold vl; rw [vt_lim]; omega
end Go.Sv

namespace Go.Sv
open Go.RowKit

/-- a limb and what is carried -/
theorem carry_eq (x : Int) (k : Nat) : x % 4294967296 * Bp k + x / 4294967296 * Bp (k + 1) = x * Bp k := by
  have h := Int.emod_add_mul_ediv x 4294967296
  rw [Bp_succ]
  generalize x % 4294967296 = r at h
  generalize x / 4294967296 = q at h
  subst h
  grind
theorem carry_bd {x m : Int} (h0 : 0 ≤ x) (h1 : x < 4294967296 * m) : 0 ≤ x % 4294967296 ∧ x % 4294967296 < 4294967296 ∧ 0 ≤ x / 4294967296 ∧ x / 4294967296 < m := by omega

/-! ### sums -/
theorem add_step {a b o : List Int} {k : Nat} {c : Int} (hlen : o.length = k) (h : vt o k + c * Bp k = vt a k + vt b k) :
    vt (o ++ [(gi a k + gi b k + c) % 4294967296]) (k + 1) + (gi a k + gi b k + c) / 4294967296 * Bp (k + 1) = vt a (k + 1) + vt b (k + 1) := by
  subst hlen
  have e := carry_eq (gi a o.length + gi b o.length + c) o.length
  rw [vt_snoc, vt_succ, vt_succ]
  generalize (gi a o.length + gi b o.length + c) % 4294967296 = r at e
  generalize (gi a o.length + gi b o.length + c) / 4294967296 = q at e
  grind
theorem add_set {a b o : List Int} {k : Nat} {c : Int} (hlen : k < o.length) (h : vt o k + c * Bp k = vt a k + vt b k) :
    vt (o.set k ((gi a k + gi b k + c) % 4294967296)) (k + 1) + (gi a k + gi b k + c) / 4294967296 * Bp (k + 1) = vt a (k + 1) + vt b (k + 1) := by
  have e := carry_eq (gi a k + gi b k + c) k
  rw [vt_succ, vt_set_le (Nat.le_refl _), gi_set hlen, vt_succ, vt_succ]
  generalize (gi a k + gi b k + c) % 4294967296 = r at e
  generalize (gi a k + gi b k + c) / 4294967296 = q at e
  grind
/-! ### differences -/
def bor (d : Int) : Int := if d < 0 then 1 else 0
theorem bor_bd (d : Int) : 0 ≤ bor d ∧ bor d ≤ 1 := by unfold bor; split <;> omega
theorem sub_dig {d : Int} (h0 : -4294967296 ≤ d) (h1 : d < 4294967296) : d % 4294967296 = d + 4294967296 * bor d := by unfold bor; split <;> omega
theorem sub_step {a b o : List Int} {k : Nat} {c : Int} (ha : Lim a) (hb : Lim b) (c0 : 0 ≤ c) (c1 : c ≤ 1) (hlen : o.length = k) (h : vt o k - c * Bp k = vt a k - vt b k) :
    vt (o ++ [(gi a k - gi b k - c) % 4294967296]) (k + 1) - bor (gi a k - gi b k - c) * Bp (k + 1) = vt a (k + 1) - vt b (k + 1) := by
  subst hlen
  have h1 := ha.at o.length
  have h2 := hb.at o.length
  rw [vt_snoc, vt_succ, vt_succ, sub_dig (by omega) (by omega), Bp_succ]
  generalize bor (gi a o.length - gi b o.length - c) = q
  grind
theorem sub_set {a b o : List Int} {k : Nat} {c x : Int} (ha : Lim a) (hb : Lim b) (c0 : 0 ≤ c) (c1 : c ≤ 1) (hlen : k < o.length) (hx : gi a k = x) (h : vt o k - c * Bp k = vt a k - vt b k) :
    vt (o.set k ((x - gi b k - c) % 4294967296)) (k + 1) - bor (x - gi b k - c) * Bp (k + 1) = vt a (k + 1) - vt b (k + 1) := by
  subst hx
  have h1 := ha.at k
  have h2 := hb.at k
  rw [vt_succ, vt_set_le (Nat.le_refl _), gi_set hlen, vt_succ, vt_succ, sub_dig (by omega) (by omega), Bp_succ]
  generalize bor (gi a k - gi b k - c) = q
  grind
/-- nothing is left to borrow -/
theorem sub_end {a b o : List Int} {n : Nat} {c : Int} (ho : Lim o) (hab : vt b n ≤ vt a n) (c0 : 0 ≤ c) (c1 : c ≤ 1) (h : vt o n - c * Bp n = vt a n - vt b n) : c = 0 ∧ vt o n = vt a n - vt b n := by
  have hb := vt_bd ho n
  have : c = 0 ∨ c = 1 := by omega
  rcases this with e | e
  · subst e; exact ⟨rfl, by rw [Int.zero_mul] at h; omega⟩
  · subst e; rw [Int.one_mul] at h; omega
/-! ### products -/
theorem mul_dig {x y o c : Int} (x0 : 0 ≤ x) (x1 : x < 4294967296) (y0 : 0 ≤ y) (y1 : y < 4294967296) (o0 : 0 ≤ o) (o1 : o < 4294967296) (c0 : 0 ≤ c) (c1 : c < 4294967296) :
    0 ≤ x * y ∧ x * y ≤ 18446744065119617025 ∧ x * y + o + c < 4294967296 * 4294967296 := by
  have h1 : 0 ≤ x * y := Int.mul_nonneg x0 y0
  have h2 : x * y ≤ 4294967295 * 4294967295 := Int.mul_le_mul (by omega) (by omega) y0 (by omega)
  omega
theorem mul_step {b o : List Int} {i k n : Nat} {x c V : Int} (hik : i + k < o.length) (hn : n = o.length) (h : vt o n + c * Bp (i + k) = V + x * vt b k * Bp i) :
    vt (o.set (i + k) ((x * gi b k + gi o (i + k) + c) % 4294967296)) n + (x * gi b k + gi o (i + k) + c) / 4294967296 * Bp (i + (k + 1)) = V + x * vt b (k + 1) * Bp i := by
  have e := carry_eq (x * gi b k + gi o (i + k) + c) (i + k)
  rw [vt_set hik (by omega), vt_succ, ← Nat.add_assoc]
  rw [Bp_add i k] at e h ⊢
  generalize (x * gi b k + gi o (i + k) + c) % 4294967296 = r at e
  generalize (x * gi b k + gi o (i + k) + c) / 4294967296 = q at e
  grind
theorem mul_row {o : List Int} {i k n : Nat} {c V W : Int} (hik : i + k < o.length) (hn : n = o.length) (hz : gi o (i + k) = 0) (h : vt o n + c * Bp (i + k) = V + W) : vt (o.set (i + k) c) n = V + W := by
  rw [vt_set hik (by omega), hz, Int.sub_zero]
  exact h
theorem mul_next {a b : List Int} {i lb : Nat} : vt a i * vt b lb + gi a i * vt b lb * Bp i = vt a (i + 1) * vt b lb := by
  rw [vt_succ]; grind
/-! ### multiplying by 2^k and more -/
theorem shl_step {l o : List Int} {j : Nat} {c m : Int} (hlen : j < o.length) (h : vt o j + c * Bp j = vt l j * m) :
    vt (o.set j ((gi l j * m + c) % 4294967296)) (j + 1) + (gi l j * m + c) / 4294967296 * Bp (j + 1) = vt l (j + 1) * m := by
  have e := carry_eq (gi l j * m + c) j
  rw [vt_succ, vt_set_le (Nat.le_refl _), gi_set hlen, vt_succ]
  generalize (gi l j * m + c) % 4294967296 = r at e
  generalize (gi l j * m + c) / 4294967296 = q at e
  grind
/-! ### dividing by a small number: from the top limb down: vu l j is what stands from limb j on -/
def vu (l : List Int) (n j : Nat) : Int := vt l n - vt l j
theorem vu_end (l : List Int) (n : Nat) : vu l n n = 0 := by unfold vu; omega
theorem vu_all (l : List Int) (n : Nat) : vu l n 0 = vt l n := by unfold vu; rw [vt]; omega
theorem vu_step (l : List Int) (n j : Nat) : vu l n j = vu l n (j + 1) + gi l j * Bp j := by unfold vu; rw [vt_succ]; omega
theorem vu_set {l : List Int} {n j : Nat} {x : Int} (hn : n ≤ l.length) (h : j < n) : vu (l.set j x) n (j + 1) = vu l n (j + 1) := by
  unfold vu
  rw [vt_set (by omega) h, vt_set (k := j + 1) (by omega) (by omega)]
  omega
/-- d: the divisor; r: the rest so far -/
theorem div_step {l o : List Int} {n j : Nat} {d r : Int} (hlen : n ≤ o.length) (hj : j < n) (_hd : 0 < d) (h : vu l n (j + 1) = d * vu o n (j + 1) + r * Bp (j + 1)) :
    vu l n j = d * vu (o.set j ((r * 4294967296 + gi l j) / d)) n j + (r * 4294967296 + gi l j) % d * Bp j := by
  have e := Int.emod_add_mul_ediv (r * 4294967296 + gi l j) d
  rw [vu_step l, vu_step (o.set j _), vu_set hlen hj, gi_set (by omega), h, Bp_succ]
  generalize (r * 4294967296 + gi l j) % d = q at e
  generalize (r * 4294967296 + gi l j) / d = s at e
  grind
theorem div_dig {d r x : Int} (hd : 0 < d) (r0 : 0 ≤ r) (r1 : r < d) (x0 : 0 ≤ x) (x1 : x < 4294967296) :
    0 ≤ (r * 4294967296 + x) / d ∧ (r * 4294967296 + x) / d < 4294967296 ∧ 0 ≤ (r * 4294967296 + x) % d ∧ (r * 4294967296 + x) % d < d := by
  refine ⟨Int.ediv_nonneg (by omega) (by omega), ?_, Int.emod_nonneg _ (by omega), Int.emod_lt_of_pos _ hd⟩
  refine Int.ediv_lt_of_lt_mul hd ?_
  have : r * 4294967296 + x < (r + 1) * 4294967296 := by omega
  have h2 : (r + 1) * 4294967296 ≤ d * 4294967296 := Int.mul_le_mul_of_nonneg_right (by omega) (by omega)
  rw [Int.mul_comm 4294967296 d]
  omega
theorem div_end {l o : List Int} {n : Nat} {d r : Int} (hd : 0 < d) (r0 : 0 ≤ r) (r1 : r < d) (h : vu l n 0 = d * vu o n 0 + r * Bp 0) : vt o n = vt l n / d ∧ r = vt l n % d := by
  rw [vu_all, vu_all, Bp_zero, Int.mul_one] at h
  rw [h]
  constructor
  · rw [Int.add_comm, Int.add_mul_ediv_left _ _ (by omega), Int.ediv_eq_zero_of_lt r0 r1, Int.zero_add]
  · rw [Int.add_comm, Int.add_mul_emod_self_left, Int.emod_eq_of_lt r0 r1]
end Go.Sv

namespace Go.Sv
open Go.RowKit

theorem gi_drop (l : List Int) (j i : Nat) : gi (l.drop j) i = gi l (j + i) := by simp [gi]
theorem vt_drop (l : List Int) (j : Nat) : ∀ m, vt l (j + m) = vt l j + vt (l.drop j) m * Bp j
  | 0 => by simp [vt]
  | m + 1 => by
    rw [← Nat.add_assoc, vt_succ, vt_drop l j m, vt_succ, gi_drop, Bp_add]
    grind
theorem drop_set {l : List Int} {j i : Nat} {x : Int} : (l.set (j + i) x).drop j = (l.drop j).set i x := by
  rw [List.drop_set]
  split
  · omega
  · congr 1; omega
theorem Lim.drop {l : List Int} (h : Lim l) (j : Nat) : Lim (l.drop j) := fun i hi => by
  rw [gi_drop]; exact h.at _

/-- what is known of an estimate q with its rest r: u the window's value, v the divisor's, P the weight of the limb below the top two -/
structure Est (u2 u1 u0 v1 v0 U V P q r : Int) : Prop where
  hP : 0 < P
  q0 : 0 ≤ q
  r0 : 0 ≤ r
  eq : q * v1 + r = u2 * 4294967296 + u1
  v1p : 2147483648 ≤ v1
  v1b : v1 < 4294967296
  v0p : 0 ≤ v0
  v0b : v0 < 4294967296
  u1p : 0 ≤ u1
  u1b : u1 < 4294967296
  u0p : 0 ≤ u0
  u0b : u0 < 4294967296
  u2v : u2 ≤ v1
  u2p : 0 ≤ u2
  Vlo : (v1 * 4294967296 + v0) * P ≤ V
  Vhi : V < (v1 * 4294967296 + v0 + 1) * P
  Ulo : ((u2 * 4294967296 + u1) * 4294967296 + u0) * P ≤ U
  Uhi : U < ((u2 * 4294967296 + u1) * 4294967296 + u0 + 1) * P
  UV : U < V * 4294967296
  /-- not below the true digit -/
  up : U < (q + 1) * V
theorem Est.V0 {u2 u1 u0 v1 v0 U V P q r : Int} (h : Est u2 u1 u0 v1 v0 U V P q r) : 0 < V := by
  have := h.Vlo
  have h1 : 0 < (v1 * 4294967296 + v0) * P := Int.mul_pos (by have := h.v1p; have := h.v0p; omega) h.hP
  omega
theorem Est.q1 {u2 u1 u0 v1 v0 U V P q r : Int} (h : Est u2 u1 u0 v1 v0 U V P q r) : q ≤ 4294967297 := by
  have e := h.eq
  have a1 := h.v1p; have a2 := h.u2v; have a3 := h.u1b; have a4 := h.r0
  rcases (by omega : q ≤ 4294967297 ∨ 4294967298 ≤ q) with c | c
  · exact c
  · exfalso
    have h1 : 4294967298 * v1 ≤ q * v1 := Int.mul_le_mul_of_nonneg_right c (by omega)
    omega
theorem Est.first {u2 u1 u0 v1 v0 U V P q r : Int} (hP : 0 < P) (v1p : 2147483648 ≤ v1) (v1b : v1 < 4294967296) (v0p : 0 ≤ v0) (v0b : v0 < 4294967296) (u2p : 0 ≤ u2) (u1p : 0 ≤ u1) (u1b : u1 < 4294967296) (u0p : 0 ≤ u0) (u0b : u0 < 4294967296)
    (Vlo : (v1 * 4294967296 + v0) * P ≤ V) (Vhi : V < (v1 * 4294967296 + v0 + 1) * P) (Ulo : ((u2 * 4294967296 + u1) * 4294967296 + u0) * P ≤ U) (Uhi : U < ((u2 * 4294967296 + u1) * 4294967296 + u0 + 1) * P) (UV : U < V * 4294967296)
    (hq : q = (u2 * 4294967296 + u1) / v1) (hr : r = (u2 * 4294967296 + u1) % v1) : Est u2 u1 u0 v1 v0 U V P q r := by
  have e : q * v1 + r = u2 * 4294967296 + u1 := by subst hq hr; have := Int.mul_ediv_add_emod (u2 * 4294967296 + u1) v1; rw [Int.mul_comm] at this; exact this
  have r0 : 0 ≤ r := by subst hr; exact Int.emod_nonneg _ (by omega)
  have r1 : r < v1 := by subst hr; exact Int.emod_lt_of_pos _ (by omega)
  have q0 : 0 ≤ q := by subst hq; exact Int.ediv_nonneg (by omega) (by omega)
  have u2v : u2 ≤ v1 := by
    rcases (by omega : u2 ≤ v1 ∨ v1 + 1 ≤ u2) with c | c
    · exact c
    · exfalso
      have h1 : ((v1 + 1) * 4294967296 * 4294967296) * P ≤ ((u2 * 4294967296 + u1) * 4294967296 + u0) * P := Int.mul_le_mul_of_nonneg_right (by omega) (by omega)
      have h2 : (v1 * 4294967296 + v0 + 1) * P ≤ ((v1 + 1) * 4294967296) * P := Int.mul_le_mul_of_nonneg_right (by omega) (by omega)
      have h3 : ((v1 + 1) * 4294967296 * 4294967296) * P = ((v1 + 1) * 4294967296) * P * 4294967296 := by grind
      omega
  refine ⟨hP, q0, r0, e, v1p, v1b, v0p, v0b, u1p, u1b, u0p, u0b, u2v, u2p, Vlo, Vhi, Ulo, Uhi, UV, ?_⟩
  have h1 : ((u2 * 4294967296 + u1) * 4294967296 + u0 + 1) * P ≤ ((u2 * 4294967296 + u1 + 1) * 4294967296) * P := Int.mul_le_mul_of_nonneg_right (by omega) (by omega)
  have h2 : (q + 1) * ((v1 * 4294967296 + v0) * P) ≤ (q + 1) * V := Int.mul_le_mul_of_nonneg_left Vlo (by omega)
  have h3 : (u2 * 4294967296 + u1 + 1) * 4294967296 ≤ (q + 1) * (v1 * 4294967296 + v0) := by
    have : (q + 1) * (v1 * 4294967296 + v0) = (q * v1 + v1) * 4294967296 + (q + 1) * v0 := by grind
    have h5 : 0 ≤ (q + 1) * v0 := Int.mul_nonneg (by omega) v0p
    omega
  have h4 : ((u2 * 4294967296 + u1 + 1) * 4294967296) * P ≤ ((q + 1) * (v1 * 4294967296 + v0)) * P := Int.mul_le_mul_of_nonneg_right h3 (by omega)
  have h6 : ((q + 1) * (v1 * 4294967296 + v0)) * P = (q + 1) * ((v1 * 4294967296 + v0) * P) := by grind
  omega
/-- one too many: the next lower estimate -/
theorem Est.next {u2 u1 u0 v1 v0 U V P q r : Int} (h : Est u2 u1 u0 v1 v0 U V P q r) (c : 4294967296 ≤ q ∨ r * 4294967296 + u0 < q * v0) : Est u2 u1 u0 v1 v0 U V P (q - 1) (r + v1) := by
  have hV := h.V0
  have hu : U < q * V := by
    rcases c with c | c
    · have h1 : 4294967296 * V ≤ q * V := Int.mul_le_mul_of_nonneg_right c (by omega)
      have := h.UV
      omega
    · have h1 : (u2 * 4294967296 + u1) * 4294967296 + u0 + 1 ≤ q * (v1 * 4294967296 + v0) := by
        have e := h.eq
        have : q * (v1 * 4294967296 + v0) = (q * v1) * 4294967296 + q * v0 := by grind
        omega
      have h2 : ((u2 * 4294967296 + u1) * 4294967296 + u0 + 1) * P ≤ (q * (v1 * 4294967296 + v0)) * P := Int.mul_le_mul_of_nonneg_right h1 (by have := h.hP; omega)
      have h3 : q * ((v1 * 4294967296 + v0) * P) ≤ q * V := Int.mul_le_mul_of_nonneg_left h.Vlo h.q0
      have h4 : (q * (v1 * 4294967296 + v0)) * P = q * ((v1 * 4294967296 + v0) * P) := by grind
      have := h.Uhi
      omega
  have hq : 1 ≤ q := by
    rcases (by omega : 1 ≤ q ∨ q ≤ 0) with d | d
    · exact d
    · exfalso
      have h1 : q * V ≤ 0 := Int.mul_nonpos_of_nonpos_of_nonneg d (by omega)
      have h2 : 0 ≤ ((u2 * 4294967296 + u1) * 4294967296 + u0) * P := Int.mul_nonneg (by have := h.u2p; have := h.u1p; have := h.u0p; omega) (by have := h.hP; omega)
      have := h.Ulo
      omega
  exact ⟨h.hP, by omega, by have := h.r0; have := h.v1p; omega, by rw [Int.sub_mul, Int.one_mul]; have := h.eq; omega, h.v1p, h.v1b, h.v0p, h.v0b, h.u1p, h.u1b, h.u0p, h.u0b, h.u2v, h.u2p, h.Vlo, h.Vhi, h.Ulo, h.Uhi, h.UV, by rw [Int.sub_add_cancel]; exact hu⟩
/-- the estimate is at most one too many -/
theorem Est.fin {u2 u1 u0 v1 v0 U V P q r : Int} (h : Est u2 u1 u0 v1 v0 U V P q r) (c : 4294967296 ≤ r ∨ q < 4294967296 ∧ q * v0 ≤ r * 4294967296 + u0) : q < 4294967296 ∧ (q - 1) * V ≤ U := by
  have e := h.eq
  have a1 := h.v1p; have a2 := h.u2v; have a3 := h.u1b; have a4 := h.q0; have a5 := h.hP; have a6 := h.v0p; have a7 := h.v0b; have a8 := h.u0p; have a9 := h.u1p; have a10 := h.u2p
  have hq : q < 4294967296 := by
    rcases c with c | c
    · rcases (by omega : q < 4294967296 ∨ 4294967296 ≤ q) with d | d
      · exact d
      · exfalso
        have h1 : 4294967296 * v1 ≤ q * v1 := Int.mul_le_mul_of_nonneg_right d (by omega)
        omega
    · exact c.1
  refine ⟨hq, ?_⟩
  rcases (by omega : q = 0 ∨ 1 ≤ q) with d | d
  · subst d
    have hV := h.V0
    have h2 : 0 ≤ ((u2 * 4294967296 + u1) * 4294967296 + u0) * P := Int.mul_nonneg (by omega) (by omega)
    have := h.Ulo
    omega
  · have h1 : (q - 1) * V ≤ (q - 1) * ((v1 * 4294967296 + v0 + 1) * P) := Int.mul_le_mul_of_nonneg_left (by have := h.Vhi; omega) (by omega)
    have h2 : (q - 1) * (v1 * 4294967296 + v0 + 1) ≤ (u2 * 4294967296 + u1) * 4294967296 + u0 := by
      have e2 : (q - 1) * (v1 * 4294967296 + v0 + 1) = (q * v1) * 4294967296 + q * v0 + q - v1 * 4294967296 - v0 - 1 := by grind
      rcases c with c | c
      · have h3 : q * v0 ≤ 4294967295 * 4294967295 := Int.mul_le_mul (by omega) (by omega) (by omega) (by omega)
        omega
      · omega
    have h3 : ((q - 1) * (v1 * 4294967296 + v0 + 1)) * P ≤ ((u2 * 4294967296 + u1) * 4294967296 + u0) * P := Int.mul_le_mul_of_nonneg_right h2 (by omega)
    have h4 : (q - 1) * ((v1 * 4294967296 + v0 + 1) * P) = ((q - 1) * (v1 * 4294967296 + v0 + 1)) * P := by grind
    have := h.Ulo
    omega
/-! ### taking q times the divisor away -/
theorem ms_step {u o v : List Int} {i : Nat} {q c b : Int} (hu : Lim u) (c0 : 0 ≤ b) (c1 : b ≤ 1) (hlen : i < o.length) (_hs : gi o i = gi u i) (h : vt o i = vt u i - q * vt v i + (c + b) * Bp i) :
    vt (o.set i ((gi u i - (q * gi v i + c) % 4294967296 - b) % 4294967296)) (i + 1) = vt u (i + 1) - q * vt v (i + 1) + ((q * gi v i + c) / 4294967296 + bor (gi u i - (q * gi v i + c) % 4294967296 - b)) * Bp (i + 1) := by
  have e := Int.emod_add_mul_ediv (q * gi v i + c) 4294967296
  have h1 := hu.at i
  have h2 : 0 ≤ (q * gi v i + c) % 4294967296 ∧ (q * gi v i + c) % 4294967296 < 4294967296 := by omega
  rw [vt_succ, vt_set_le (Nat.le_refl _), gi_set hlen, vt_succ, vt_succ, sub_dig (by omega) (by omega), Bp_succ]
  generalize bor (gi u i - (q * gi v i + c) % 4294967296 - b) = w
  generalize (q * gi v i + c) % 4294967296 = s at e
  generalize (q * gi v i + c) / 4294967296 = t at e
  grind
theorem ms_last {u o v : List Int} {i : Nat} {q c b : Int} (hu : Lim u) (c0 : 0 ≤ b) (c1 : b ≤ 1) (d0 : 0 ≤ c) (d1 : c < 4294967296) (hlen : i < o.length) (_hs : gi o i = gi u i) (h : vt o i = vt u i - q * vt v i + (c + b) * Bp i) :
    vt (o.set i ((gi u i - c - b) % 4294967296)) (i + 1) = vt u (i + 1) - q * vt v i + bor (gi u i - c - b) * Bp (i + 1) := by
  have h1 := hu.at i
  rw [vt_succ, vt_set_le (Nat.le_refl _), gi_set hlen, vt_succ, sub_dig (by omega) (by omega), Bp_succ]
  generalize bor (gi u i - c - b) = w
  grind
/-- the digit and what is left -/
theorem ms_sign {o : List Int} {n : Nat} {U V q b : Int} (ho : Lim o) (hV : 0 < V) (_hVB : V ≤ Bp n) (up : U < (q + 1) * V) (low : (q - 1) * V ≤ U) (b0 : 0 ≤ b) (b1 : b ≤ 1) (h : vt o (n + 1) = U - q * V + b * Bp (n + 1)) :
    b = 0 ∧ q = U / V ∧ vt o (n + 1) = U % V ∨ b = 1 ∧ q - 1 = U / V ∧ vt o (n + 1) = U % V - V + Bp (n + 1) := by
  have hb := vt_bd ho (n + 1)
  have hp := Bp_pos n
  have e1 : (q + 1) * V = q * V + V := by grind
  have e2 : (q - 1) * V = q * V - V := by grind
  have hBs := Bp_succ n
  rcases (by omega : b = 0 ∨ b = 1) with e | e
  · subst e
    rw [Int.zero_mul, Int.add_zero] at h
    have hd : U / V = q := by
      refine (Int.ediv_eq_iff_of_pos hV).2 ⟨by omega, by omega⟩
    have hm := Int.mul_ediv_add_emod U V
    rw [hd, Int.mul_comm] at hm
    exact Or.inl ⟨rfl, hd.symm, by omega⟩
  · subst e
    rw [Int.one_mul] at h
    have hd : U / V = q - 1 := by
      refine (Int.ediv_eq_iff_of_pos hV).2 ⟨by omega, by rw [e2]; omega⟩
    have hm := Int.mul_ediv_add_emod U V
    rw [hd, Int.mul_comm] at hm
    exact Or.inr ⟨rfl, hd.symm, by omega⟩
/-- adding the divisor back -/
theorem ab_step {u o v : List Int} {i : Nat} {c : Int} (hlen : i < o.length) (_hs : gi o i = gi u i) (h : vt o i = vt u i + vt v i - c * Bp i) :
    vt (o.set i ((gi u i + gi v i + c) % 4294967296)) (i + 1) = vt u (i + 1) + vt v (i + 1) - (gi u i + gi v i + c) / 4294967296 * Bp (i + 1) := by
  have e := carry_eq (gi u i + gi v i + c) i
  rw [vt_succ, vt_set_le (Nat.le_refl _), gi_set hlen, vt_succ, vt_succ]
  generalize (gi u i + gi v i + c) % 4294967296 = r at e
  generalize (gi u i + gi v i + c) / 4294967296 = q at e
  grind
theorem ab_last {u o v : List Int} {n : Nat} {c R V : Int} (ho : Lim o) (c0 : 0 ≤ c) (c1 : c ≤ 1) (hlen : n < o.length) (hs : gi o n = gi u n) (hV : vt v n = V) (hR0 : 0 ≤ R) (_hR1 : R < V) (_hVB : V ≤ Bp n) (hu : vt u (n + 1) = R - V + Bp (n + 1)) (h : vt o n = vt u n + vt v n - c * Bp n) :
    vt (o.set n ((gi u n + c) % 4294967296)) (n + 1) = R := by
  have e := carry_eq (gi u n + c) n
  have hl : Lim (o.set n ((gi u n + c) % 4294967296)) := ho.set (by omega) (by omega)
  have hb := vt_bd hl (n + 1)
  have hp := Bp_pos n
  rw [vt_succ, vt_set_le (Nat.le_refl _), gi_set hlen] at hb ⊢
  rw [vt_succ] at hu
  have hg : 0 ≤ gi u n ∧ gi u n < 4294967296 := by rw [← hs]; exact ho.at n
  have hq : (gi u n + c) / 4294967296 = 0 ∨ (gi u n + c) / 4294967296 = 1 := by omega
  rw [Bp_succ] at e hb hu
  have e3 : (gi u n + c) * Bp n = gi u n * Bp n + c * Bp n := Int.add_mul _ _ _
  rcases hq with k | k
  · exfalso
    rw [k, Int.zero_mul, Int.add_zero] at e
    have : vt o n + (gi u n + c) % 4294967296 * Bp n = R + Bp n * 4294967296 := by omega
    omega
  · rw [k, Int.one_mul] at e
    omega
end Go.Sv

namespace Go.Sv
open Go.RowKit

theorem Bp_two (k : Nat) : Bp k = ((2 ^ (32 * k) : Nat) : Int) := by
  unfold Bp
  rw [Nat.pow_mul, Int.natCast_pow]
  rfl
theorem vt_nat {l : List Int} (h : Lim l) (k : Nat) : ∃ N : Nat, vt l k = N := ⟨(vt l k).toNat, by have := (vt_bd h k).1; omega⟩
/-- limb j of a number -/
theorem gi_div {l : List Int} (h : Lim l) {j n N : Nat} (hN : vt l n = N) (hj : j < n) : gi l j = ((N / 2 ^ (32 * j) % 2 ^ 32 : Nat) : Int) := by
  have hmain : vt l n / Bp j % 4294967296 = gi l j := by
    obtain ⟨d, rfl⟩ : ∃ d, n = j + (d + 1) := ⟨n - j - 1, by omega⟩
    rw [vt_drop]
    have hb := vt_bd h j
    have hp := Bp_pos j
    rw [Int.add_mul_ediv_right _ _ (by omega), Int.ediv_eq_zero_of_lt hb.1 hb.2, Int.zero_add]
    have hc : ∀ d, vt (l.drop j) (d + 1) % 4294967296 = gi l j := by
      intro d
      induction d with
      | zero =>
        rw [vt_succ, Bp_zero, Int.mul_one, gi_drop]
        have := h.at j
        simp only [vt, Nat.add_zero, Int.zero_add]
        omega
      | succ d ih =>
        rw [vt_succ, Bp_succ, ← Int.mul_assoc, Int.add_mul_emod_self_right]
        exact ih
    exact hc d
  rw [← hmain, hN, Bp_two, ← Int.natCast_ediv]
  rfl
theorem two32 : (2 : Nat) ^ 32 = 4294967296 := by decide
theorem nat_bit32 (M s : Nat) (hs : s < 32) : M % 2 ^ 32 / 2 ^ s % 2 = M / 2 ^ s % 2 := by
  have e : 2 ^ 32 = 2 ^ s * 2 ^ (32 - s) := by rw [← Nat.pow_add]; congr 1; omega
  obtain ⟨d, hd⟩ : ∃ d, 32 - s = d + 1 := ⟨31 - s, by omega⟩
  rw [e, Nat.mod_mul_right_div_self, hd, Nat.pow_succ, Nat.mul_comm (2 ^ d) 2]
  exact Nat.mod_mul_right_mod _ _ _
/-- a binary digit of a number -/
theorem bit_div {l : List Int} (h : Lim l) {i n N : Nat} (hN : vt l n = N) (hi : i < 32 * n) : gi l (i / 32) / 2 ^ (i % 32) % 2 = ((N / 2 ^ i % 2 : Nat) : Int) := by
  have hj : i / 32 < n := by omega
  have hs : i % 32 < 32 := Nat.mod_lt _ (by decide)
  have e : 2 ^ i = 2 ^ (32 * (i / 32)) * 2 ^ (i % 32) := by rw [← Nat.pow_add]; congr 1; omega
  rw [gi_div h hN hj]
  have h2 := nat_bit32 (N / 2 ^ (32 * (i / 32))) (i % 32) hs
  rw [Nat.div_div_eq_div_mul, ← e] at h2
  rw [← h2]
  have e2 : ((2 : Int) ^ (i % 32)) = ((2 ^ (i % 32) : Nat) : Int) := by rw [Int.natCast_pow]; rfl
  rw [e2]
  rfl
/-- behind the end all digits are 0 -/
theorem bit_out {l : List Int} (h : Lim l) {i N : Nat} (hN : vt l l.length = N) (hi : 32 * l.length ≤ i) : N / 2 ^ i = 0 := by
  refine Nat.div_eq_of_lt ?_
  have hb := (vt_bd h l.length).2
  rw [hN, Bp_two] at hb
  have : N < 2 ^ (32 * l.length) := by omega
  exact Nat.lt_of_lt_of_le this (Nat.pow_le_pow_right (by decide) hi)

/-! ### division digit by digit -/
theorem ld_div (A i : Nat) : A / 2 ^ i = 2 * (A / 2 ^ (i + 1)) + A / 2 ^ i % 2 := by
  have e : A / 2 ^ (i + 1) = A / 2 ^ i / 2 := by rw [Nat.pow_succ, Nat.div_div_eq_div_mul]
  omega
theorem ld_no {A b i : Nat} (h : 2 * (A / 2 ^ (i + 1) % b) + A / 2 ^ i % 2 < b) :
    A / 2 ^ i % b = 2 * (A / 2 ^ (i + 1) % b) + A / 2 ^ i % 2 ∧ A / 2 ^ i / b * 2 ^ i = A / 2 ^ (i + 1) / b * 2 ^ (i + 1) := by
  have e := ld_div A i
  have d := Nat.div_add_mod (A / 2 ^ (i + 1)) b
  generalize A / 2 ^ (i + 1) = M at *
  generalize A / 2 ^ i % 2 = t at *
  generalize A / 2 ^ i = K at *
  generalize M % b = r at *
  generalize M / b = q at *
  have hb : 0 < b := by omega
  have e2 : K = (2 * r + t) + b * (2 * q) := by rw [e, ← d]; grind
  subst e2
  refine ⟨by rw [Nat.add_mul_mod_self_left, Nat.mod_eq_of_lt h], ?_⟩
  rw [Nat.add_mul_div_left _ _ hb, Nat.div_eq_of_lt h, Nat.zero_add, Nat.pow_succ]
  grind
theorem ld_yes {A b i : Nat} (hb : 0 < b) (h : b ≤ 2 * (A / 2 ^ (i + 1) % b) + A / 2 ^ i % 2) :
    A / 2 ^ i % b = 2 * (A / 2 ^ (i + 1) % b) + A / 2 ^ i % 2 - b ∧ A / 2 ^ i / b * 2 ^ i = A / 2 ^ (i + 1) / b * 2 ^ (i + 1) + 2 ^ i := by
  have e := ld_div A i
  have d := Nat.div_add_mod (A / 2 ^ (i + 1)) b
  have hr := Nat.mod_lt (A / 2 ^ (i + 1)) hb
  have ht : A / 2 ^ i % 2 < 2 := Nat.mod_lt _ (by decide)
  generalize A / 2 ^ (i + 1) = M at *
  generalize A / 2 ^ i % 2 = t at *
  generalize A / 2 ^ i = K at *
  generalize M % b = r at *
  generalize M / b = q at *
  obtain ⟨s, hs⟩ : ∃ s, 2 * r + t = b + s := ⟨2 * r + t - b, by omega⟩
  have hs2 : s < b := by omega
  have e2 : K = s + b * (2 * q + 1) := by rw [e, ← d]; grind
  subst e2
  refine ⟨by rw [Nat.add_mul_mod_self_left, Nat.mod_eq_of_lt hs2]; omega, ?_⟩
  rw [Nat.add_mul_div_left _ _ hb, Nat.div_eq_of_lt hs2, Nat.zero_add, Nat.pow_succ]
  grind
/-- the digit is free where it is set -/
theorem bit_free {q : List Int} (h : Lim q) {i n Q : Nat} (hq : vt q n = ((Q * 2 ^ (i + 1) : Nat) : Int)) (hi : i < 32 * n) : ∃ m : Nat, gi q (i / 32) = ((m * 2 ^ (i % 32 + 1) : Nat) : Int) ∧ m * 2 ^ (i % 32 + 1) + 2 ^ (i % 32) < 2 ^ 32 := by
  have hs : i % 32 < 32 := Nat.mod_lt _ (by decide)
  rw [gi_div h hq (by omega)]
  have e : 2 ^ (i + 1) = 2 ^ (i % 32 + 1) * 2 ^ (32 * (i / 32)) := by rw [← Nat.pow_add]; congr 1; omega
  rw [e, ← Nat.mul_assoc, Nat.mul_div_cancel _ (Nat.pow_pos (by decide))]
  have e2 : 2 ^ 32 = 2 ^ (i % 32 + 1) * 2 ^ (31 - i % 32) := by rw [← Nat.pow_add]; congr 1; omega
  rw [e2, Nat.mul_comm Q, Nat.mul_mod_mul_left, Nat.mul_comm]
  refine ⟨Q % 2 ^ (31 - i % 32), rfl, ?_⟩
  have h1 := Nat.mod_lt Q (y := 2 ^ (31 - i % 32)) (Nat.pow_pos (by decide))
  generalize Q % 2 ^ (31 - i % 32) = m at *
  generalize 2 ^ (31 - i % 32) = p at *
  have hp : 0 < 2 ^ (i % 32) := Nat.pow_pos (by decide)
  rw [Nat.pow_succ]
  generalize 2 ^ (i % 32) = z at *
  have h2 : (m + 1) * (z * 2) ≤ p * (z * 2) := Nat.mul_le_mul_right _ h1
  have h3 : (m + 1) * (z * 2) = m * (z * 2) + z * 2 := by grind
  have h4 : z * 2 * p = p * (z * 2) := Nat.mul_comm _ _
  omega
theorem bit_weight (i : Nat) : ((2 ^ (i % 32) : Nat) : Int) * Bp (i / 32) = ((2 ^ i : Nat) : Int) := by
  rw [Bp_two, ← Int.natCast_mul, ← Nat.pow_add]
  congr 2; omega
theorem bit_set {q : List Int} {i n Q : Nat} (hn : n = q.length) (hi : i < 32 * n) (hq : vt q n = ((Q * 2 ^ (i + 1) : Nat) : Int)) :
    vt (q.set (i / 32) (gi q (i / 32) + ((2 ^ (i % 32) : Nat) : Int))) n = ((Q * 2 ^ (i + 1) + 2 ^ i : Nat) : Int) := by
  rw [vt_set (by omega) (by omega), hq]
  have := bit_weight i
  rw [Int.natCast_add, ← this]
  grind
/-! ### the number of binary digits -/
def nbits (N : Nat) : Nat := if N = 0 then 0 else Nat.log2 N + 1
theorem nbits_lt (N : Nat) : N < 2 ^ nbits N := by
  unfold nbits
  split
  · subst_vars; decide
  · exact Nat.lt_log2_self
theorem nbits_le {N k : Nat} : nbits N ≤ k ↔ N < 2 ^ k := by
  constructor
  · intro h
    exact Nat.lt_of_lt_of_le (nbits_lt N) (Nat.pow_le_pow_right (by decide) h)
  · intro h
    unfold nbits
    split
    · omega
    · rename_i hN
      exact (Nat.log2_lt hN).2 h
theorem nbits_set {N i : Nat} (h : N / 2 ^ i % 2 = 1) (h2 : N < 2 ^ (i + 1)) : nbits N = i + 1 := by
  have h1 := nbits_le.2 h2
  have h3 : ¬ nbits N ≤ i := fun c => by
    have := nbits_le.1 c
    rw [Nat.div_eq_of_lt this] at h
    omega
  omega
/-- the place of the highest digit below k -/
def topB (N : Nat) : Nat → Nat
  | 0 => 0
  | k + 1 => if N / 2 ^ k % 2 = 1 then k + 1 else topB N k
theorem topB_mod (N : Nat) : ∀ k, topB N k = nbits (N % 2 ^ k)
  | 0 => by rw [topB, Nat.pow_zero, Nat.mod_one]; rfl
  | k + 1 => by
    have e : N % 2 ^ (k + 1) = N % 2 ^ k + 2 ^ k * (N / 2 ^ k % 2) := by rw [Nat.pow_succ, Nat.mod_mul]
    have h1 := Nat.mod_lt N (y := 2 ^ k) (Nat.pow_pos (by decide))
    rw [topB]
    split
    · rename_i h
      rw [e, h, Nat.mul_one]
      refine (nbits_set ?_ (by rw [Nat.pow_succ]; omega)).symm
      rw [Nat.add_div_right _ (Nat.pow_pos (by decide)), Nat.div_eq_of_lt h1]
    · rename_i h
      have : N / 2 ^ k % 2 = 0 := by omega
      rw [e, this, Nat.mul_zero, Nat.add_zero]
      exact topB_mod N k
theorem topB_all {N k : Nat} (h : N < 2 ^ k) : topB N k = nbits N := by rw [topB_mod, Nat.mod_eq_of_lt h]
/-- by the top limb -/
theorem nbits_limb {l : List Int} (h : Lim l) {k N t : Nat} (hN : vt l (k + 1) = N) (ht : gi l k = t) (h0 : t ≠ 0) : nbits N = 32 * k + nbits t := by
  have hb := vt_bd h k
  obtain ⟨M, hM⟩ := vt_nat h k
  rw [vt_succ, hM, ht, Bp_two] at hN
  rw [hM, Bp_two] at hb
  have hN' : N = M + t * 2 ^ (32 * k) := by
    have : ((M + t * 2 ^ (32 * k) : Nat) : Int) = N := by rw [← hN]; simp
    omega
  have hM' : M < 2 ^ (32 * k) := by omega
  have h1 : ∀ j, N < 2 ^ (32 * k + j) ↔ t < 2 ^ j := fun j => by
    rw [hN', Nat.pow_add]
    generalize 2 ^ (32 * k) = p at *
    constructor
    · intro c
      rcases Nat.lt_or_ge t (2 ^ j) with d | d
      · exact d
      · exfalso
        have := Nat.mul_le_mul_left p d
        rw [Nat.mul_comm t p] at c
        omega
    · intro c
      have : p * (t + 1) ≤ p * 2 ^ j := Nat.mul_le_mul_left p c
      rw [Nat.mul_add, Nat.mul_one, Nat.mul_comm p t] at this
      omega
  have h2 : nbits N ≤ 32 * k + nbits t := nbits_le.2 ((h1 _).2 (nbits_lt t))
  have h3 : 1 ≤ nbits t := by unfold nbits; rw [if_neg h0]; omega
  rcases Nat.lt_or_ge (nbits N) (32 * k + nbits t) with c | c
  · exfalso
    have h4 : N < 2 ^ (32 * k + (nbits t - 1)) := nbits_le.1 (by omega)
    have h5 := nbits_le.2 ((h1 _).1 h4)
    omega
  · omega
end Go.Sv
