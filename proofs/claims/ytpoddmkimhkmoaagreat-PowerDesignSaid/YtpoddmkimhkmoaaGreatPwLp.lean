/-
  PLAIN: the laws of power: the verdicts' sums add up to all, the expected number lies between 1 and that of the entries, fixed tests.
  Conditions: none.
-/
import Derived.Test.YtpoddmkimhkmoaaGreatPb5
import Derived.Test.YtpoddmkimhkmoaaGreatPh3
namespace Go.Proofs.YtpoddmkimhkmoaaGreat
open Go.RowKit Go.Sv Go.Pw
theorem dec_012 (t : Tst) : ∀ (l : List Bool) (n f : Nat), (dec (VT t) n f l).1 = 0 ∨ (dec (VT t) n f l).1 = 1 ∨ (dec (VT t) n f l).1 = 2
  | [], _, _ => .inl rfl
  | x :: l, n, f => by
    unfold dec
    by_cases h : VT t (n + 1) (f + x.toNat) = 0
    · rw [if_pos h]; exact dec_012 t l _ _
    · rw [if_neg h]; exact VT_012 t _ _
section
variable {t : Tst} {a d : Nat}
theorem verd_sum (hv : validE t = 0) (hp : PrB a d) : allS (VT t) a (d - a) t.acc.length kF + allS (VT t) a (d - a) t.acc.length kP = d ^ t.acc.length := by
  have h := VT_all (validE_vld hv)
  rw [← allS_add, allS_congr (m := fun _ _ => 1) (fun l hl h0 => ?_), allS_one a (d - a) h, show a + (d - a) = d by have := hp.le; omega]
  have := dec_012 t l 0 0
  have e : dec (VT t) 0 0 l = decL (VT t) l := rfl
  rw [e] at this
  unfold kF kP
  rcases this with h1 | h1 | h1
  · exact absurd h1 h0
  · rw [h1]; rfl
  · rw [h1]; rfl
theorem expd_bd (hv : validE t = 0) (hp : PrB a d) : d ^ t.acc.length ≤ allS (VT t) a (d - a) t.acc.length kE ∧ allS (VT t) a (d - a) t.acc.length kE ≤ t.acc.length * d ^ t.acc.length := by
  have h := allS_bounds a (d - a) (VT_all (validE_vld hv))
  rw [show a + (d - a) = d by have := hp.le; omega] at h
  exact h
theorem pw8 (hp : PrB a d) {n : Nat} (hn : n ≤ 8) : 0 < d ^ n ∧ d ^ n ≤ 1000 ^ 8 :=
  ⟨Nat.pow_pos hp.d1, Nat.le_trans (Nat.pow_le_pow_left hp.d2 n) (Nat.pow_le_pow_right (by decide) hn)⟩
theorem rd_kk {K : Nat} (hK : 0 < K) : rdN K K = lim 1 ∧ rdD K K = lim 1 := rd_eq hK (by decide) (by decide) (by omega)
/-- the two verdicts' probabilities add up to 1 -/
theorem add_one (hv : validE t = 0) (hp : PrB a d) (h8 : t.acc.length ≤ 8) {S T : Nat} (hS : allS (VT t) a (d - a) t.acc.length kF = S) (hT : allS (VT t) a (d - a) t.acc.length kP = T) :
    addE (rdN S (d ^ t.acc.length)) (rdD S (d ^ t.acc.length)) (rdN T (d ^ t.acc.length)) (rdD T (d ^ t.acc.length)) = 0 ∧ addN (rdN S (d ^ t.acc.length)) (rdD S (d ^ t.acc.length)) (rdN T (d ^ t.acc.length)) (rdD T (d ^ t.acc.length)) = lim 1 ∧ addD (rdN S (d ^ t.acc.length)) (rdD S (d ^ t.acc.length)) (rdN T (d ^ t.acc.length)) (rdD T (d ^ t.acc.length)) = lim 1 := by
  obtain ⟨K0, K1⟩ := pw8 hp h8
  have h := verd_sum hv hp
  rw [hS, hT] at h
  obtain ⟨K, hK⟩ : ∃ K, d ^ t.acc.length = K := ⟨_, rfl⟩
  rw [hK] at h K0 K1 ⊢
  have b1 : S * K + T * K ≤ 1000 ^ 8 * 1000 ^ 8 := by rw [← Nat.add_mul, h]; exact Nat.mul_le_mul K1 K1
  have b2 : K * K ≤ 1000 ^ 8 * 1000 ^ 8 := Nat.mul_le_mul K1 K1
  have sb : ∀ x, x ≤ 1000 ^ 8 * 1000 ^ 8 → sm x := fun x hx => sm_of (Nat.lt_of_le_of_lt hx (by decide +kernel))
  have b3 : 1000 ^ 8 ≤ 1000 ^ 8 * 1000 ^ 8 := by decide +kernel
  obtain ⟨x, y, z⟩ := fr_same (S := S) (T := T) K0 (sb _ (by omega)) (sb _ (by omega)) (sb _ (by omega)) (sb _ b1) (sb _ b2)
  rw [h, (rd_kk K0).1] at y
  rw [h, (rd_kk K0).2] at z
  exact ⟨x, y, z⟩
/-- the expected number against 1 and against the number of entries -/
theorem cmp_low (hv : validE t = 0) (hp : PrB a d) (h8 : t.acc.length ≤ 8) {E : Nat} (hE : allS (VT t) a (d - a) t.acc.length kE = E) :
    crE (rdN E (d ^ t.acc.length)) (rdD E (d ^ t.acc.length)) (lim 1) (lim 1) = 0 ∧ 0 ≤ rcV (rdN E (d ^ t.acc.length)) (rdD E (d ^ t.acc.length)) (lim 1) (lim 1) := by
  obtain ⟨K0, K1⟩ := pw8 hp h8
  have h := expd_bd hv hp
  rw [hE] at h
  have h2 : E ≤ 8 * 1000 ^ 8 := Nat.le_trans h.2 (Nat.mul_le_mul h8 K1)
  obtain ⟨K, hK⟩ : ∃ K, d ^ t.acc.length = K := ⟨_, rfl⟩
  rw [hK] at h K0 K1 ⊢
  have sb : ∀ x, x ≤ 8 * 1000 ^ 8 → sm x := fun x hx => sm_of (Nat.lt_of_le_of_lt hx (by decide +kernel))
  have b3 : 1000 ^ 8 ≤ 8 * 1000 ^ 8 := by decide +kernel
  have r1 := rd_kk (K := 1) (by decide)
  obtain ⟨x, y⟩ := fr_cmp (n := E) (d := K) (m := 1) (e := 1) K0 (by decide) (sb _ h2) (sb _ (by decide)) (sb _ (by omega)) (sb _ (by decide)) (sb _ (by omega)) (sb _ (by omega))
  rw [r1.1, r1.2] at x y
  refine ⟨x, ?_⟩
  rw [y]
  have z := cmpL_lt (lim_lim (E * 1)) (lim_lim (1 * K))
  rw [vl_lim, vl_lim] at z
  have u := decide_eq_decide.1 z
  omega
theorem cmp_high (hv : validE t = 0) (hp : PrB a d) (h8 : t.acc.length ≤ 8) {E : Nat} (hE : allS (VT t) a (d - a) t.acc.length kE = E) :
    crE (rdN E (d ^ t.acc.length)) (rdD E (d ^ t.acc.length)) (rdN t.acc.length 1) (rdD t.acc.length 1) = 0 ∧ rcV (rdN E (d ^ t.acc.length)) (rdD E (d ^ t.acc.length)) (rdN t.acc.length 1) (rdD t.acc.length 1) ≤ 0 := by
  obtain ⟨K0, K1⟩ := pw8 hp h8
  have h := expd_bd hv hp
  rw [hE] at h
  have h2 : E ≤ 8 * 1000 ^ 8 := Nat.le_trans h.2 (Nat.mul_le_mul h8 K1)
  obtain ⟨K, hK⟩ : ∃ K, d ^ t.acc.length = K := ⟨_, rfl⟩
  obtain ⟨N, hN⟩ : ∃ N, t.acc.length = N := ⟨_, rfl⟩
  rw [hK] at h K0 K1 ⊢
  rw [hN] at h h8 ⊢
  have sb : ∀ x, x ≤ 8 * 1000 ^ 8 → sm x := fun x hx => sm_of (Nat.lt_of_le_of_lt hx (by decide +kernel))
  have b3 : 1000 ^ 8 ≤ 8 * 1000 ^ 8 := by decide +kernel
  have b4 : N * K ≤ 8 * 1000 ^ 8 := Nat.mul_le_mul h8 K1
  obtain ⟨x, y⟩ := fr_cmp (n := E) (d := K) (m := N) (e := 1) K0 (by decide) (sb _ h2) (sb _ (by omega)) (sb _ (by omega)) (sb _ (by decide)) (sb _ (by omega)) (sb _ b4)
  refine ⟨x, ?_⟩
  rw [y]
  exact (cmp_le _ _).2 (by omega)
end
/-! ### fixed tests -/
theorem fix_at {n : Nat} {c : Int} (h0 : 0 < n) (h2 : -1 ≤ c) (_h3 : c ≤ n) : (∀ m, 1 ≤ m → m < n → ∀ f, f ≤ m → VT (fixT n c) m f = 0) ∧ ∀ f, f ≤ n → VT (fixT n c) n f = if f < (c + 1).toNat then 1 else 2 := by
  obtain ⟨g, g1, g2⟩ := fixT_get (c := c) h0
  constructor
  · intro m h1 hm f hf
    obtain ⟨x, y⟩ := g (m - 1) (by omega)
    unfold VT atV
    rw [x, y, if_neg (by omega), if_neg (by omega)]
  · intro f hf
    unfold VT atV
    rw [g1, g2]
    by_cases h : f < (c + 1).toNat
    · rw [if_pos (by omega), if_pos h]
    · rw [if_neg (by omega), if_pos (by omega), if_neg h]
theorem fix_sums {n : Nat} {c : Int} (h0 : 0 < n) (h2 : -1 ≤ c) (h3 : c ≤ n) (a b : Nat) :
    allS (VT (fixT n c)) a b n kP = low a b n (c + 1).toNat ∧ allS (VT (fixT n c)) a b n kF = (a + b) ^ n - low a b n (c + 1).toNat := by
  obtain ⟨x, y⟩ := fix_at h0 h2 h3
  obtain ⟨m, rfl⟩ : ∃ m, n = m + 1 := ⟨n - 1, by omega⟩
  exact fixed_sums (P := 1) (F := 2) (by decide) (by decide) (by decide) (by omega) (fun k h1 hk => x k h1 (by omega)) y
theorem fix_none {n a d : Nat} (h0 : 0 < n) (hp : PrB a d) : rdN (allS (VT (fixT n 0)) a (d - a) n kP) (d ^ n) = lim ((d - a) ^ n) ∧ rdD (allS (VT (fixT n 0)) a (d - a) n kP) (d ^ n) = lim (d ^ n) := by
  rw [(fix_sums h0 (by decide) (by omega) a (d - a)).1]
  have e : low a (d - a) n (0 + 1 : Int).toNat = (d - a) ^ n := by
    show low a (d - a) n 1 = _
    rw [low_succ, low_0]
    unfold gd
    rw [bin_first, Nat.pow_zero, Nat.sub_zero]; omega
  rw [e]
  refine (fun (g : Nat.gcd ((d - a) ^ n) (d ^ n) = 1) => rd_eq (N := (d - a) ^ n) (D := d ^ n) (Nat.pow_pos hp.d1) (Nat.pow_pos hp.d1) g rfl) ?_
  have g : Nat.gcd (d - a) d = 1 := by
    have := hp.g
    have h := hp.le
    have x : Nat.gcd (d - a) d = Nat.gcd a d := Nat.gcd_self_sub_left h
    rw [x]
    exact this
  exact Nat.Coprime.pow n n g
theorem fix_all {n a d : Nat} (h0 : 0 < n) (hp : PrB a d) : rdN (allS (VT (fixT n (n : Int))) a (d - a) n kP) (d ^ n) = lim 1 ∧ rdD (allS (VT (fixT n (n : Int))) a (d - a) n kP) (d ^ n) = lim 1 := by
  rw [(fix_sums h0 (by omega) (by omega) a (d - a)).1, show ((n : Int) + 1).toNat = n + 1 by omega, low_all, show a + (d - a) = d by have := hp.le; omega]
  exact rd_kk (Nat.pow_pos hp.d1)
end Go.Proofs.YtpoddmkimhkmoaaGreat
