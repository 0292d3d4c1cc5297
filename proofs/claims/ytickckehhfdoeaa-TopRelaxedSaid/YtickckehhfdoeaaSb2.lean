/-
  PLAIN: the mix of a draft, which is valid.
  Conditions: those that each theorem names.
-/
import Derived.Test.YtickckehhfdoeaaSb1
import Derived.Lib.BitFns

namespace Go.Sv
open Go.RowKit
structure DMx where
  base : List Int
  next : List Int
  held : List Int
def dmB (p : Prob) (d : DMx) (i : Nat) : Int := dcode d.base i % gi p.vs i
def dmN (p : Prob) (d : DMx) (i : Nat) : Int := if 0 < dcode d.next i % gi p.vs i then (dmB p d i + dcode d.next i % gi p.vs i) % gi p.vs i else -1
def dmS (p : Prob) (d : DMx) : Mx := ⟨(List.range p.vs.length).map (dmB p d), (List.range p.vs.length).map (dmN p d), []⟩
def dmH (p : Prob) (d : DMx) (i : Nat) : Int :=
  if stored (tab p.tabs i) = true then ((run (dmS p d) (tab p.tabs i).src.toNat ||| ((dcode d.held i).toNat &&& (2 ^ (gi p.vs (tab p.tabs i).src.toNat).toNat - 1)) : Nat) : Int) else 0
def dMix (p : Prob) (d : DMx) : Mx := ⟨(dmS p d).base, (dmS p d).next, (List.range p.tabs.length).map (dmH p d)⟩
theorem dMix_ok {p : Prob} (d : DMx) (hp : probE p = 0) : MOk p (dMix p d) := by
  have hb : ∀ i, i < p.vs.length → gi (dMix p d).base i = dmB p d i := fun i hi => gi_map hi
  have hn : ∀ i, i < p.vs.length → gi (dMix p d).next i = dmN p d i := fun i hi => gi_map hi
  have hh : ∀ i, i < p.tabs.length → gi (dMix p d).held i = dmH p d i := fun i hi => gi_map hi
  have sv : ∀ i, i < p.vs.length → 0 ≤ gi (dMix p d).base i ∧ gi (dMix p d).base i < gi p.vs i ∧ -1 ≤ gi (dMix p d).next i ∧ gi (dMix p d).next i < gi p.vs i ∧ gi (dMix p d).base i ≠ gi (dMix p d).next i := by
    intro i hi
    rw [hb i hi, hn i hi]
    obtain ⟨v0, v1⟩ := vs_le hp hi
    have b0 : 0 ≤ dmB p d i := Int.emod_nonneg _ (by omega)
    have b1 : dmB p d i < gi p.vs i := Int.emod_lt_of_pos _ (by omega)
    have k0 : 0 ≤ dcode d.next i % gi p.vs i := Int.emod_nonneg _ (by omega)
    have k1 : dcode d.next i % gi p.vs i < gi p.vs i := Int.emod_lt_of_pos _ (by omega)
    unfold dmN
    generalize dcode d.next i % gi p.vs i = k at k0 k1 ⊢
    generalize dmB p d i = b at b0 b1 ⊢
    generalize gi p.vs i = n at *
    split
    · rcases (by omega : b + k < n ∨ n ≤ b + k) with c | c
      · rw [Int.emod_eq_of_lt (by omega) c]
        omega
      · have : (b + k) % n = b + k - n := by
          rw [← Int.sub_emod_right, Int.emod_eq_of_lt (by omega) (by omega)]
        rw [this]
        omega
    · omega
  have base : MOk p (dMix p d) := by
    refine ⟨hp, by simp [dMix, dmS], by simp [dMix, dmS], by simp [dMix], sv, fun i hi hs => ?_, fun i hi hs => ?_⟩
    · obtain ⟨t0, t1⟩ := tab_src hp hi
      have e : hd (dMix p d) i = run (dmS p d) (tab p.tabs i).src.toNat ||| ((dcode d.held i).toNat &&& (2 ^ (gi p.vs (tab p.tabs i).src.toNat).toNat - 1)) := by
        unfold hd
        rw [hh i hi]
        unfold dmH
        rw [if_pos hs]; rfl
      have er : run (dMix p d) (tab p.tabs i).src.toNat = run (dmS p d) (tab p.tabs i).src.toNat := rfl
      rw [e, er]
      refine ⟨or_sub ?_ ?_, sub_or_left _ _⟩
      · obtain ⟨a, b, c, e1, _⟩ := sv (tab p.tabs i).src.toNat (by omega)
        rw [← er]
        unfold run
        refine or_sub (sub_all (by omega)) ?_
        split
        · exact sub_all (by omega)
        · intro i hi; simp at hi
      · intro j hj
        rw [Nat.testBit_and, Bool.and_eq_true] at hj
        exact hj.2
    · rw [hh i hi]
      unfold dmH
      rw [if_neg (by rw [hs]; decide)]
  exact base
end Go.Sv

namespace Go.Sv
open Go.RowKit
def allOn (f : Nat → Bool) (u : Nat) : Bool := (List.range 8).all fun i => !u.testBit i || f i
theorem allOn_0 (f : Nat → Bool) : allOn f 0 = true := by simp [allOn]
theorem low_bit : ∀ u : Fin 256, u.val ≠ 0 → Lib.trailingZeros8 u.val < 8 ∧ u.val.testBit (Lib.trailingZeros8 u.val) = true ∧ (u.val &&& (u.val - 1)) < u.val ∧ ∀ i : Fin 8, (u.val &&& (u.val - 1)).testBit i.val = (u.val.testBit i.val && !decide (i.val = Lib.trailingZeros8 u.val)) := by decide +kernel
theorem allOn_iff {f : Nat → Bool} {u : Nat} : allOn f u = true ↔ ∀ i, i < 8 → u.testBit i = true → f i = true := by
  unfold allOn
  rw [List.all_eq_true]
  constructor
  · intro h i hi ht
    have := h i (List.mem_range.2 hi)
    rw [ht] at this
    simpa using this
  · intro h i hi
    cases ht : u.testBit i with
    | false => rfl
    | true => simp [h i (List.mem_range.1 hi) ht]
theorem allOn_step {f : Nat → Bool} {u : Nat} (h0 : u ≠ 0) (h : u < 256) : allOn f u = (f (Lib.trailingZeros8 u) && allOn f (u &&& (u - 1))) := by
  obtain ⟨z8, zt, _, zb⟩ := low_bit ⟨u, h⟩ h0
  simp only at z8 zt zb
  rw [Bool.eq_iff_iff, Bool.and_eq_true, allOn_iff, allOn_iff]
  constructor
  · intro k
    refine ⟨k _ z8 zt, fun i hi ht => k i hi ?_⟩
    have := zb ⟨i, hi⟩
    simp only at this
    rw [ht] at this
    cases hu : u.testBit i with
    | true => rfl
    | false => rw [hu] at this; cases this
  · rintro ⟨k1, k2⟩ i hi ht
    by_cases e : i = Lib.trailingZeros8 u
    · rw [e]; exact k1
    · refine k2 i hi ?_
      have := zb ⟨i, hi⟩
      simp only at this
      rw [this, ht]
      simp [e]
end Go.Sv

namespace Go.Sv
open Go.RowKit
theorem wrap8 {x : Int} (h0 : 0 ≤ x) (h : x < 256) : IntKind.wrap .u8 x = x := by
  show x % (2 ^ 8 : Int) = x
  omega
theorem back8 {n : Nat} (h : n < 256) : IntKind.wrap .u8 (n : Int) = n := by
  have h' : (n : Int) < 256 := by omega
  show IntKind.wrap .u8 (n : Int) = n
  clear h
  generalize hx : (n : Int) = x at h'
  have hx0 : 0 ≤ x := by omega
  clear hx
  exact wrap8 hx0 h'
theorem of8 {a : Nat} (h : a < 256) : (BitVec.ofInt IntKind.u8.bits (a : Int)).toNat = a := by
  show (BitVec.ofInt 8 (a : Int)).toNat = a
  rw [BitVec.toNat_ofInt]
  omega
theorem bits_or8 {a b : Nat} (ha : a < 256) (hb : b < 256) : bits .or .u8 a b = ((a ||| b : Nat) : Int) := by
  unfold bits
  simp only
  rw [BitVec.toNat_or, of8 ha, of8 hb]
  exact back8 (Nat.or_lt_two_pow (n := 8) ha hb)
theorem bits_and8 {a b : Nat} (ha : a < 256) (hb : b < 256) : bits .and .u8 a b = ((a &&& b : Nat) : Int) := by
  unfold bits
  simp only
  rw [BitVec.toNat_and, of8 ha, of8 hb]
  exact back8 (Nat.and_lt_two_pow (n := 8) _ hb)
def diff (a b : Nat) : Nat := a &&& (255 - b)
theorem diff_lt {a b : Nat} (ha : a < 256) : diff a b < 256 := Nat.lt_of_le_of_lt Nat.and_le_left ha
theorem bits_andNot8 {a b : Nat} (ha : a < 256) (hb : b < 256) : bits .andNot .u8 a b = ((diff a b : Nat) : Int) := by
  unfold bits
  simp only
  rw [BitVec.toNat_and, BitVec.toNat_not, of8 ha, of8 hb]
  exact back8 (diff_lt ha)
theorem not_bit : ∀ b : Fin 256, ∀ i : Fin 8, (255 - b.val).testBit i.val = !b.val.testBit i.val := by decide +kernel
theorem big_bit {a i : Nat} (h : a < 256) (hi : 8 ≤ i) : a.testBit i = false := Nat.testBit_lt_two_pow (Nat.lt_of_lt_of_le h (Nat.pow_le_pow_right (n := 2) (by decide) hi))
theorem diff_bit {a b i : Nat} (ha : a < 256) (hb : b < 256) : (diff a b).testBit i = (a.testBit i && !b.testBit i) := by
  unfold diff
  rw [Nat.testBit_and]
  by_cases hi : i < 8
  · rw [not_bit ⟨b, hb⟩ ⟨i, hi⟩]
  · rw [big_bit ha (by omega)]; rfl
theorem diff_0 {a b : Nat} (ha : a < 256) (hb : b < 256) : diff a b = 0 ↔ sub a b := by
  constructor
  · intro h i hi
    have := diff_bit (i := i) ha hb
    rw [h, Nat.zero_testBit, hi] at this
    cases hx : b.testBit i with
    | true => rfl
    | false => rw [hx] at this; cases this
  · intro h
    refine Nat.eq_of_testBit_eq fun i => ?_
    rw [diff_bit ha hb, Nat.zero_testBit]
    cases hx : a.testBit i with
    | false => rfl
    | true => rw [h i hx]; rfl
/-- the program's walk over what is held and not running, against the plain law -/
theorem rew_iff {p : Prob} {m : Mx} {i : Nat} (h1 : hd m i < 256) (h2 : run m (tab p.tabs i).src.toNat < 256) : allOn (fun u => mat (tab p.tabs i).rw u (gi m.base (tab p.tabs i).src.toNat).toNat) (diff (hd m i) (run m (tab p.tabs i).src.toNat)) = true ↔ rewB p m i := by
  rw [allOn_iff]
  unfold rewB
  constructor
  · intro h u a b
    by_cases hu : u < 8
    · exact h u hu (by rw [diff_bit h1 h2, a, b]; rfl)
    · rw [big_bit h1 (by omega)] at a; cases a
  · intro h u _ a
    rw [diff_bit h1 h2, Bool.and_eq_true] at a
    exact h u a.1 (by simpa using a.2)
/-- sets of a valid mix are bytes -/
theorem sub_lt {a n : Nat} (h : sub a (2 ^ n - 1)) (hn : n ≤ 6) : a < 256 := by
  have h1 := sub_iff.1 h
  have h2 : a ≤ 2 ^ n - 1 := by rw [← h1]; exact Nat.and_le_right
  have h3 : 2 ^ n ≤ 2 ^ 6 := Nat.pow_le_pow_right (by decide) hn
  omega
theorem run_lt {p : Prob} {m : Mx} (h : MOk p m) {i : Nat} (hi : i < p.vs.length) : run m i < 256 := by
  have := vs_le h.pr hi
  exact sub_lt (run_bits h hi) (by omega)
theorem hd_lt {p : Prob} {m : Mx} (h : MOk p m) {i : Nat} (hi : i < p.tabs.length) : hd m i < 256 := by
  cases hs : stored (tab p.tabs i) with
  | true =>
    obtain ⟨t0, t1⟩ := tab_src h.pr hi
    have := vs_le h.pr (i := (tab p.tabs i).src.toNat) (by omega)
    exact sub_lt (h.st i hi hs).1 (by omega)
  | false =>
    unfold hd
    rw [h.ns i hi hs]
    decide
end Go.Sv

namespace Go.Sv
open Go.RowKit
theorem prob_small {p : Prob} (h : probE p = 0) : p.vs.length ≤ 6 ∧ p.tabs.length ≤ 12 ∧ p.now.length = p.vs.length ∧ p.tgt.length = p.vs.length := by
  unfold probE at h
  split at h
  · cases h
  · split at h
    · cases h
    · omega
theorem tab_ok {p : Prob} (h : probE p = 0) {i : Nat} (hi : i < p.tabs.length) : tabE p.vs (tab p.tabs i) = 0 := by
  unfold probE at h
  split at h
  · cases h
  · split at h
    · cases h
    · split at h
      · cases h
      · have key : ∀ f k, tabsE p k f = 0 → ∀ j, k ≤ j → j < k + f → tabE p.vs (tab p.tabs j) = 0 := by
          intro f
          induction f with
          | zero => intro k _ j h1 h2; omega
          | succ f ih =>
            intro k h0 j h1 h2
            rw [tabsE] at h0
            by_cases c : tabE p.vs (tab p.tabs k) = 0
            · rw [if_pos c] at h0
              by_cases e : j = k
              · rw [e]; exact c
              · exact ih (k + 1) h0 j (by omega) (by omega)
            · rw [if_neg c] at h0; exact absurd h0 c
        exact key _ _ h i (Nat.zero_le _) (by omega)
structure TabF (p : Prob) (i : Nat) : Prop where
  k1 : 1 ≤ (tab p.tabs i).kind
  k4 : (tab p.tabs i).kind ≤ 4
  s0 : 0 ≤ (tab p.tabs i).src
  s1 : (tab p.tabs i).src < p.vs.length
  d0 : 0 ≤ (tab p.tabs i).dst
  d1 : (tab p.tabs i).dst < p.vs.length
  ol : ((tab p.tabs i).ok.length : Int) = gi p.vs (tab p.tabs i).src.toNat
  om : ∀ u, u < (tab p.tabs i).ok.length → (mlen (tab p.tabs i).ok u : Int) = gi p.vs (tab p.tabs i).dst.toNat
  rl : (tab p.tabs i).kind = 4 → ((tab p.tabs i).rw.length : Int) = gi p.vs (tab p.tabs i).src.toNat
  rm : (tab p.tabs i).kind = 4 → ∀ u, u < (tab p.tabs i).rw.length → (mlen (tab p.tabs i).rw u : Int) = gi p.vs (tab p.tabs i).src.toNat
theorem sq_iff {m : List (List Bool)} {n k : Int} (h : ¬ sq m n k = false) : (m.length : Int) = n ∧ ∀ i, i < m.length → (mlen m i : Int) = k := by
  have : sq m n k = true := by cases hx : sq m n k with
    | true => rfl
    | false => exact absurd hx h
  unfold sq at this
  exact of_decide_eq_true this
theorem tab_facts {p : Prob} (h : probE p = 0) {i : Nat} (hi : i < p.tabs.length) : TabF p i := by
  have := tab_ok h hi
  unfold tabE at this
  split at this
  · cases this
  · rename_i hk
    split at this
    · cases this
    · rename_i hw
      split at this
      · cases this
      · rename_i hs
        rw [not_or] at hw
        rw [not_or, not_or] at hs
        obtain ⟨w1, w2⟩ := hw
        obtain ⟨q1, q2, q3⟩ := hs
        have w1 : win (tab p.tabs i).src p.vs.length = true := by cases hx : win (tab p.tabs i).src p.vs.length with
          | true => rfl
          | false => exact absurd hx w1
        have w2 : win (tab p.tabs i).dst p.vs.length = true := by cases hx : win (tab p.tabs i).dst p.vs.length with
          | true => rfl
          | false => exact absurd hx w2
        obtain ⟨a1, a2⟩ := win_iff.1 w1
        obtain ⟨b1, b2⟩ := win_iff.1 w2
        obtain ⟨c1, c2⟩ := sq_iff q1
        have hk' : kindB (tab p.tabs i).kind (tab p.tabs i).aware = true := by cases hx : kindB (tab p.tabs i).kind (tab p.tabs i).aware with
          | true => rfl
          | false => exact absurd hx hk
        unfold kindB at hk'
        have hk' := of_decide_eq_true hk'
        refine ⟨by omega, by omega, a1, a2, b1, b2, c1, c2, fun h4 => ?_, fun h4 => ?_⟩
        · exact (sq_iff (fun e => q2 ⟨h4, e⟩)).1
        · exact (sq_iff (fun e => q2 ⟨h4, e⟩)).2
/-- the rows that a rewrite looks into -/
theorem rew_rows {p : Prob} {m : Mx} (hok : MOk p m) {i : Nat} (hi : i < p.tabs.length) (h4 : (tab p.tabs i).kind = 4) : ∀ u, (diff (hd m i) (run m (tab p.tabs i).src.toNat)).testBit u = true → u < (tab p.tabs i).rw.length ∧ (gi m.base (tab p.tabs i).src.toNat).toNat < mlen (tab p.tabs i).rw u := by
  intro u hu
  have F := tab_facts hok.pr hi
  have hs : stored (tab p.tabs i) = true := by unfold stored stB; rw [h4]; decide
  have hl : (tab p.tabs i).src.toNat < p.vs.length := by have := F.s0; have := F.s1; omega
  rw [diff_bit (hd_lt hok hi) (run_lt hok hl), Bool.and_eq_true] at hu
  have h1 := (hok.st i hi hs).1 u hu.1
  rw [Nat.testBit_two_pow_sub_one] at h1
  have h1 := of_decide_eq_true h1
  have rl := F.rl h4
  have hul : u < (tab p.tabs i).rw.length := by omega
  have rm := F.rm h4 u hul
  obtain ⟨b0, b1, _⟩ := hok.sv _ hl
  exact ⟨hul, by omega⟩
/-- what is held are bytes -/
def H8 (m : Mx) : Prop := ∀ i, i < m.held.length → 0 ≤ gi m.held i ∧ gi m.held i < 256
theorem h8_of {p : Prob} {m : Mx} (h : MOk p m) (h0 : ∀ i, i < m.held.length → 0 ≤ gi m.held i) : H8 m := fun i hi => by
  have := hd_lt h (i := i) (by rw [← h.lh]; exact hi)
  have := h0 i hi
  unfold hd at *
  omega
theorem aft_h8 {p : Prob} {m m' : Mx} {s : Sp} (h : MOk p m) (h8 : H8 m) (hs : spB s = true) (he : existsB p s = true) (ha : aft p m s = some m') : H8 m' := by
  refine h8_of (aft_ok h hs he ha) fun i hi => ?_
  unfold aft at ha
  dsimp only at ha
  split at ha
  · split at ha
    · cases ha
    · injection ha with ha
      subst ha
      have hi : i < (heldS p m s.ix s.ver).length := hi
      show 0 ≤ gi (heldS p m s.ix s.ver) i
      rw [heldS_len] at hi
      rw [gi_heldS hi]
      split
      · omega
      · exact (h8 i hi).1
  · split at ha
    · split at ha
      · cases ha
      · injection ha with ha
        subst ha
        have hi : i < (m.held.set s.ix.toNat (run m (tab p.tabs s.ix.toNat).src.toNat : Nat)).length := hi
        show 0 ≤ gi (m.held.set s.ix.toNat (run m (tab p.tabs s.ix.toNat).src.toNat : Nat)) i
        rw [List.length_set] at hi
        by_cases e : i = s.ix.toNat
        · rw [e, gi_set_same (by omega)]; omega
        · rw [gi_set_ne e]; exact (h8 i hi).1
    · split at ha
      · cases ha
      · split at ha
        · injection ha with ha
          subst ha
          exact (h8 i hi).1
        · injection ha with ha
          subst ha
          exact (h8 i hi).1
theorem apM_h8 {p : Prob} {m : Mx} {s : Sp} (h : MOk p m) (h8 : H8 m) (ha : appE p m s = 0) : H8 (apM p m s) := by
  obtain ⟨h1, h2, x, h3⟩ := appE_ok.1 ha
  rw [apM_ok h1 h2 h3]
  exact aft_h8 h h8 h1 h2 h3
theorem aft_len {p : Prob} {m m' : Mx} {s : Sp} (ha : aft p m s = some m') : LenE m' m := by
  unfold aft at ha
  dsimp only at ha
  split at ha
  · split at ha
    · cases ha
    · injection ha with ha
      subst ha
      exact ⟨rfl, List.length_set .., heldS_len ..⟩
  · split at ha
    · split at ha
      · cases ha
      · injection ha with ha
        subst ha
        exact ⟨rfl, rfl, List.length_set ..⟩
    · split at ha
      · cases ha
      · split at ha
        · injection ha with ha
          subst ha
          exact ⟨List.length_set .., List.length_set .., rfl⟩
        · injection ha with ha
          subst ha
          exact ⟨rfl, List.length_set .., rfl⟩
/-- the versions below the number of versions are all that count -/
theorem rewB_of {p : Prob} {m : Mx} (hok : MOk p m) {i : Nat} (hi : i < p.tabs.length) (hs : stored (tab p.tabs i) = true) (h : ∀ u : Nat, (u : Int) < gi p.vs (tab p.tabs i).src.toNat → (hd m i).testBit u = true → (run m (tab p.tabs i).src.toNat).testBit u = false → mat (tab p.tabs i).rw u (gi m.base (tab p.tabs i).src.toNat).toNat = true) : rewB p m i := by
  intro u h1 h2
  refine h u ?_ h1 h2
  have h3 := (hok.st i hi hs).1 u h1
  rw [Nat.testBit_two_pow_sub_one] at h3
  have h3 := of_decide_eq_true h3
  omega
theorem h8_hd {m : Mx} (h : H8 m) {k : Nat} (hk : k < m.held.length) : gi m.held k = ((hd m k : Nat) : Int) := by
  have := h k hk
  unfold hd
  omega
end Go.Sv

namespace Go.Sv
open Go.RowKit
def anyB (f : Nat → Bool) (n : Nat) : Bool := (List.range n).any f
theorem anyB_yes {f : Nat → Bool} {n i : Nat} (hi : i < n) (h : f i = true) : anyB f n = true := by
  unfold anyB
  rw [List.any_eq_true]
  exact ⟨i, List.mem_range.2 hi, h⟩
theorem anyB_no {f : Nat → Bool} {n : Nat} (h : ∀ i, i < n → f i = false) : anyB f n = false := by
  unfold anyB
  rw [List.any_eq_false]
  intro i hi
  rw [h i (List.mem_range.1 hi)]
  decide
end Go.Sv
