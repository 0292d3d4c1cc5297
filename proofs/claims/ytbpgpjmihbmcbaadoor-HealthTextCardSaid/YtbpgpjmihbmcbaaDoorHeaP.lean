/-
  TESTS as plain data: their errors, verdicts, and how they lie in memory. No program in sight.
  Conditions: none.
-/
import Derived.Test.YtbpgpjmihbmcbaaDoorSl
namespace Go.Sv
open Go.RowKit

structure Tst where
  acc : List Int
  rej : List Int
  deriving DecidableEq
def iv (l : List Int) (k : Nat) : Value := .int .i64 (gi l k)
structure TstP where
  a0 : Option Addr
  c0 : Nat
  a1 : Option Addr
  c1 : Nat
abbrev tstV (t : Tst) (q : TstP) : Value := .agg #[.slice q.a0 t.acc.length q.c0, .slice q.a1 t.rej.length q.c1]
structure RTst (w : World) (B : Nat) (t : Tst) (q : TstP) : Prop where
  r0 : Arr w B q.a0 t.acc.length (iv t.acc)
  r1 : Arr w B q.a1 t.rej.length (iv t.rej)
theorem RTst.below {w w' : World} {B : Nat} {t : Tst} {q : TstP} (h : RTst w B t q) (hb : Below B w w') : RTst w' B t q := ⟨h.r0.below hb, h.r1.below hb⟩
theorem RTst.to {w w' : World} {t : Tst} {q : TstP} (h : RTst w w.heap.size t q) (hb : Below w.heap.size w w') : RTst w' w'.heap.size t q := ⟨(h.r0.below hb).more hb.size, (h.r1.below hb).more hb.size⟩
structure TBd (t : Tst) : Prop where
  b0 : t.acc.length ≤ 9223372036854775807
  b1 : t.rej.length ≤ 9223372036854775807
/-- a test in a box -/
structure TBox (W : World) (b : Nat) (t : Tst) (q : TstP) : Prop where
  z : b < W.heap.size
  y0 : W.cell? ⟨b, 0, none⟩ = some (.slice q.a0 t.acc.length q.c0)
  y1 : W.cell? ⟨b, 1, none⟩ = some (.slice q.a1 t.rej.length q.c1)
theorem TBox.to {W W' : World} {b : Nat} {t : Tst} {q : TstP} (h : TBox W b t q) (hb : Below W.heap.size W W') : TBox W' b t q :=
  ⟨Nat.lt_of_lt_of_le h.z hb.size, (hb.cell h.z).trans h.y0, (hb.cell h.z).trans h.y1⟩
theorem TBox.new {w : World} {e : TypeId} {t : Tst} {q : TstP} : TBox (w.alloc (.cells #[.slice q.a0 t.acc.length q.c0, .slice q.a1 t.rej.length q.c1] e)) w.heap.size t q :=
  ⟨by simp, by rw [World.cell?_alloc_new]; rfl, by rw [World.cell?_alloc_new]; rfl⟩

/-! ### the error of a test -/
def vBad (t : Tst) (i : Nat) : Prop := gi t.acc i < -1 ∨ gi t.rej i ≤ gi t.acc i ∨ (i : Int) + 2 < gi t.rej i
open Classical in
noncomputable def validE (t : Tst) : Int :=
  if t.acc.length = 0 then 10 else if 64 < t.acc.length then 3 else if t.rej.length ≠ t.acc.length then 6
  else if ∃ i, i < t.acc.length ∧ vBad t i then 1 else if gi t.acc (t.acc.length - 1) + 1 ≠ gi t.rej (t.acc.length - 1) then 1 else 0
theorem validE_10 {t : Tst} (h : t.acc.length = 0) : validE t = 10 := by unfold validE; rw [if_pos h]
theorem validE_3 {t : Tst} (h : 64 < t.acc.length) : validE t = 3 := by unfold validE; rw [if_neg (by omega), if_pos h]
theorem validE_6 {t : Tst} (h : 0 < t.acc.length ∧ t.acc.length ≤ 64) (h2 : t.rej.length ≠ t.acc.length) : validE t = 6 := by unfold validE; rw [if_neg (by omega), if_neg (by omega), if_pos h2]
theorem validE_b {t : Tst} {i : Nat} (h : 0 < t.acc.length ∧ t.acc.length ≤ 64) (h2 : t.rej.length = t.acc.length) (hi : i < t.acc.length) (hb : vBad t i) : validE t = 1 := by
  unfold validE; rw [if_neg (by omega), if_neg (by omega), if_neg (by simp [h2]), if_pos ⟨i, hi, hb⟩]
theorem validE_l {t : Tst} (h : 0 < t.acc.length ∧ t.acc.length ≤ 64) (h2 : t.rej.length = t.acc.length) (hb : ∀ i, i < t.acc.length → ¬ vBad t i) (hl : gi t.acc (t.acc.length - 1) + 1 ≠ gi t.rej (t.acc.length - 1)) : validE t = 1 := by
  unfold validE; rw [if_neg (by omega), if_neg (by omega), if_neg (by simp [h2]), if_neg (fun ⟨i, hi, hx⟩ => hb i hi hx), if_pos hl]
theorem validE_0 {t : Tst} (h : 0 < t.acc.length ∧ t.acc.length ≤ 64) (h2 : t.rej.length = t.acc.length) (hb : ∀ i, i < t.acc.length → ¬ vBad t i) (hl : gi t.acc (t.acc.length - 1) + 1 = gi t.rej (t.acc.length - 1)) : validE t = 0 := by
  unfold validE; rw [if_neg (by omega), if_neg (by omega), if_neg (by simp [h2]), if_neg (fun ⟨i, hi, hx⟩ => hb i hi hx), if_neg (by simp [hl])]
/-- a valid test -/
structure Vld (t : Tst) : Prop where
  n0 : 0 < t.acc.length
  n1 : t.acc.length ≤ 64
  len : t.rej.length = t.acc.length
  lo : ∀ i, i < t.acc.length → -1 ≤ gi t.acc i
  ar : ∀ i, i < t.acc.length → gi t.acc i < gi t.rej i
  hi : ∀ i, i < t.acc.length → gi t.rej i ≤ (i : Int) + 2
  last : gi t.acc (t.acc.length - 1) + 1 = gi t.rej (t.acc.length - 1)
theorem validE_vld {t : Tst} (h : validE t = 0) : Vld t := by
  unfold validE at h
  split at h
  · omega
  split at h
  · omega
  split at h
  · omega
  rename_i h1 h2 h3
  split at h
  · omega
  rename_i h4
  split at h
  · omega
  rename_i h5
  have hb : ∀ i, i < t.acc.length → ¬ vBad t i := fun i hi hx => h4 ⟨i, hi, hx⟩
  refine ⟨by omega, by omega, by omega, fun i hi => ?_, fun i hi => ?_, fun i hi => ?_, by omega⟩ <;>
  · have := hb i hi
    unfold vBad at this
    omega
theorem vld_validE {t : Tst} (h : Vld t) : validE t = 0 :=
  validE_0 ⟨h.n0, h.n1⟩ h.len (fun i hi => by have := h.lo i hi; have := h.ar i hi; have := h.hi i hi; unfold vBad; omega) h.last

/-! ### verdicts -/
def atV (t : Tst) (n : Nat) (f : Int) : Int := if f ≤ gi t.acc (n - 1) then 1 else if gi t.rej (n - 1) ≤ f then 2 else 0
open Classical in
noncomputable def verdE (t : Tst) (n f : Int) : Int := if validE t ≠ 0 then validE t else if n < 1 ∨ (t.acc.length : Int) < n ∨ f < 0 ∨ n < f then 7 else 0
open Classical in
noncomputable def verdV (t : Tst) (n f : Int) : Int := if verdE t n f = 0 then atV t n.toNat f else 0
theorem verdE_v {t : Tst} {n f : Int} (h : validE t ≠ 0) : verdE t n f = validE t := by unfold verdE; rw [if_pos h]
theorem verdE_7 {t : Tst} {n f : Int} (h : validE t = 0) (c : n < 1 ∨ (t.acc.length : Int) < n ∨ f < 0 ∨ n < f) : verdE t n f = 7 := by unfold verdE; rw [if_neg (by simp [h]), if_pos c]
theorem verdE_0 {t : Tst} {n f : Int} (h : validE t = 0) (c : ¬ (n < 1 ∨ (t.acc.length : Int) < n ∨ f < 0 ∨ n < f)) : verdE t n f = 0 := by unfold verdE; rw [if_neg (by simp [h]), if_neg c]
theorem verdV_no {t : Tst} {n f : Int} (h : verdE t n f ≠ 0) : verdV t n f = 0 := by unfold verdV; rw [if_neg h]
theorem verdV_ok {t : Tst} {n : Nat} {f : Int} (h : verdE t n f = 0) : verdV t n f = atV t n f := by unfold verdV; rw [if_pos h]; rfl

/-! ### lists of observations -/
def gb (l : List Bool) (k : Nat) : Bool := l.getD k false
def bv (l : List Bool) (k : Nat) : Value := .bool (gb l k)
def bi (b : Bool) : Int := if b then 1 else 0
theorem bi_t : bi true = 1 := rfl
theorem bi_f : bi false = 0 := rfl
theorem gb_get {l : List Bool} {k : Nat} (h : k < l.length) : l[k]? = some (gb l k) := by simp [gb, h]
def failsTo (l : List Bool) : Nat → Int
  | 0 => 0
  | k + 1 => failsTo l k + bi (gb l k)
theorem failsTo_bd (l : List Bool) : ∀ k, 0 ≤ failsTo l k ∧ failsTo l k ≤ k
  | 0 => ⟨by simp [failsTo], by simp [failsTo]⟩
  | k + 1 => by
    have h := failsTo_bd l k
    have e : failsTo l (k + 1) = failsTo l k + bi (gb l k) := rfl
    cases hb : gb l k <;> rw [hb] at e <;> simp [bi] at e <;> omega
def decAt (t : Tst) (l : List Bool) (k : Nat) : Int := atV t (k + 1) (failsTo l (k + 1))
def decF (t : Tst) (l : List Bool) (k : Nat) : Nat → Int × Nat
  | 0 => (0, k)
  | f + 1 => if decAt t l k ≠ 0 then (decAt t l k, k + 1) else decF t l (k + 1) f
theorem decF_next {t : Tst} {l : List Bool} {k : Nat} (hk : k < l.length) (h : decAt t l k = 0) : decF t l k (l.length - k) = decF t l (k + 1) (l.length - (k + 1)) := by
  obtain ⟨f, hf⟩ : ∃ f, l.length - k = f + 1 := ⟨l.length - k - 1, by omega⟩
  have e : l.length - (k + 1) = f := by omega
  rw [hf, decF, if_neg (by simp [h]), e]
theorem decF_stop {t : Tst} {l : List Bool} {k : Nat} (hk : k < l.length) (h : decAt t l k ≠ 0) : decF t l k (l.length - k) = (decAt t l k, k + 1) := by
  obtain ⟨f, hf⟩ : ∃ f, l.length - k = f + 1 := ⟨l.length - k - 1, by omega⟩
  rw [hf, decF, if_pos h]
theorem decF_end {t : Tst} {l : List Bool} : decF t l l.length (l.length - l.length) = (0, l.length) := by
  have e : l.length - l.length = 0 := by omega
  rw [e]; rfl
theorem atV_last {t : Tst} (h : Vld t) (f : Int) : atV t t.acc.length f ≠ 0 := by
  have := h.last
  unfold atV
  split
  · omega
  · split
    · omega
    · omega
theorem decAt_lt {t : Tst} {l : List Bool} {k : Nat} (h : Vld t) (hall : ∀ j, j < k → decAt t l j = 0) : k < t.acc.length := by
  have h0 := h.n0
  by_cases c : k < t.acc.length
  · exact c
  · have h1 := hall (t.acc.length - 1) (by omega)
    unfold decAt at h1
    have e : t.acc.length - 1 + 1 = t.acc.length := by omega
    rw [e] at h1
    exact absurd h1 (atV_last h _)
open Classical in
noncomputable def decR (t : Tst) (l : List Bool) : Int × Nat := if validE t = 0 then decF t l 0 l.length else (0, 0)
theorem decR_no {t : Tst} {l : List Bool} (h : validE t ≠ 0) : decR t l = (0, 0) := by unfold decR; rw [if_neg h]
theorem decR_ok {t : Tst} {l : List Bool} (h : validE t = 0) : decR t l = decF t l 0 l.length := by unfold decR; rw [if_pos h]

/-- what a call leaves that hands back a test and an error -/
def TRes (w : World) (t : Tst) (E : Int) (v : Value) (w' : World) : Prop := ∃ q : TstP, v = .tuple #[tstV t q, .int .i64 E] ∧ RTst w' w'.heap.size t q ∧ Below w.heap.size w w'
def tst0 : Tst := ⟨[], []⟩
theorem TRes.none_ {w w' : World} {E : Int} (h : Below w.heap.size w w') : TRes w tst0 E (.tuple #[.agg #[.slice none 0 0, .slice none 0 0], .int .i64 E]) w' :=
  ⟨⟨none, 0, none, 0⟩, rfl, ⟨fun h => by simp [tst0] at h, fun h => by simp [tst0] at h⟩, h⟩
def fixA (k : Nat) : List Int := List.replicate k (-1)
def fixR (k : Nat) : List Int := (List.range k).map (fun (i : Nat) => (i : Int) + 2)
theorem fixA_len (k : Nat) : (fixA k).length = k := by simp [fixA]
theorem fixR_len (k : Nat) : (fixR k).length = k := by simp [fixR]
def fixT (n : Nat) (c : Int) : Tst := ⟨fixA (n - 1) ++ [c], fixR (n - 1) ++ [c + 1]⟩
theorem fixA_set {n : Nat} (c : Int) (h : 0 < n) : (fixA n).set (n - 1) c = (fixT n c).acc := by
  obtain ⟨m, rfl⟩ : ∃ m, n = m + 1 := ⟨n - 1, by omega⟩
  have e : fixA (m + 1) = fixA m ++ [-1] := by simp [fixA, List.replicate_succ']
  rw [e]
  show (fixA m ++ [-1]).set m c = fixA m ++ [c]
  rw [List.set_append_right _ _ (by rw [fixA_len]; exact Nat.le_refl _)]
  simp [fixA_len]
theorem fixR_set {n : Nat} (c : Int) (h : 0 < n) : (fixR n).set (n - 1) (c + 1) = (fixT n c).rej := by
  obtain ⟨m, rfl⟩ : ∃ m, n = m + 1 := ⟨n - 1, by omega⟩
  have e : fixR (m + 1) = fixR m ++ [(m : Int) + 2] := by simp [fixR, List.range_succ]
  rw [e]
  show (fixR m ++ [(m : Int) + 2]).set m (c + 1) = fixR m ++ [c + 1]
  rw [List.set_append_right _ _ (by rw [fixR_len]; exact Nat.le_refl _)]
  simp [fixR_len]
theorem fixT_len {n : Nat} (c : Int) (h : 0 < n) : (fixT n c).acc.length = n ∧ (fixT n c).rej.length = n := by
  simp only [fixT, List.length_append, fixA_len, fixR_len, List.length_cons, List.length_nil]
  omega
theorem fixT_at {n k : Nat} (c : Int) (h1 : n ≤ k + 1) (h2 : k + 1 ≤ n) : fixA k ++ [c] = (fixT n c).acc ∧ fixR k ++ [c + 1] = (fixT n c).rej ∧ (fixT n c).acc.length = k + 1 ∧ (fixT n c).rej.length = k + 1 := by
  obtain rfl : n = k + 1 := by omega
  exact ⟨rfl, rfl, (fixT_len c (by omega)).1, (fixT_len c (by omega)).2⟩
def fixE (n c : Int) : Int := if n < 1 ∨ 64 < n ∨ c < -1 ∨ n < c then 7 else 0
def fixV (n c : Int) : Tst := if fixE n c = 0 then fixT n.toNat c else tst0
theorem fixE_7 {n c : Int} (h : n < 1 ∨ 64 < n ∨ c < -1 ∨ n < c) : fixE n c = 7 := by unfold fixE; rw [if_pos h]
theorem fixE_0 {n c : Int} (h : ¬ (n < 1 ∨ 64 < n ∨ c < -1 ∨ n < c)) : fixE n c = 0 := by unfold fixE; rw [if_neg h]
theorem fixV_no {n c : Int} (h : fixE n c ≠ 0) : fixV n c = tst0 := by unfold fixV; rw [if_neg h]
theorem fixV_ok {n c : Int} (h : fixE n c = 0) : fixV n c = fixT n.toNat c := by unfold fixV; rw [if_pos h]

/-! ### parallel boundaries -/
def linM (num den i : Int) : Int := i * num / den
def linLo (low q : Int) : Int := if -1 < q - low then q - low else -1
def linHi (high i q : Int) : Int := if q + high < i + 1 then q + high else i + 1
def linA (num den low : Int) (k : Nat) : List Int := (List.range k).map (fun (i : Nat) => linLo low (((i : Int) + 1) * num / den))
def linR (num den high : Int) (k : Nat) : List Int := (List.range k).map (fun (i : Nat) => linHi high ((i : Int) + 1) (((i : Int) + 1) * num / den))
def linT (n : Nat) (num den low high : Int) : Tst := ⟨linA num den low (n - 1) ++ [linM num den n], linR num den high (n - 1) ++ [linM num den n + 1]⟩
theorem linT_at {n k : Nat} (num den low high : Int) (h1 : n ≤ k + 1) (h2 : k + 1 ≤ n) : linA num den low k ++ [linM num den n] = (linT n num den low high).acc ∧ linR num den high k ++ [linM num den n + 1] = (linT n num den low high).rej ∧
    (linT n num den low high).acc.length = k + 1 ∧ (linT n num den low high).rej.length = k + 1 := by
  obtain rfl : n = k + 1 := by omega
  exact ⟨rfl, rfl, by simp [linT, linA], by simp [linT, linR]⟩
theorem linM_bd {num den i : Int} (h1 : 0 ≤ i) (h2 : i ≤ 64) (h3 : 0 ≤ num) (h4 : num ≤ 1000) (h5 : 1 ≤ den) : 0 ≤ i * num ∧ i * num ≤ 64000 ∧ 0 ≤ i * num / den ∧ i * num / den ≤ 64000 := by
  have a : 0 ≤ i * num := Int.mul_nonneg h1 h3
  have b : i * num ≤ 64 * 1000 := Int.mul_le_mul h2 h4 h3 (by omega)
  refine ⟨a, by omega, Int.ediv_nonneg a (by omega), ?_⟩
  have := Int.ediv_le_self den a
  omega
def linE (n num den low high : Int) : Int := if 1 ≤ n ∧ n ≤ 64 ∧ 1 ≤ den ∧ den ≤ 1000 ∧ 0 ≤ num ∧ num ≤ den ∧ 1 ≤ low ∧ low ≤ 64 ∧ 1 ≤ high ∧ high ≤ 64 then 0 else 7
def linV (n num den low high : Int) : Tst := if linE n num den low high = 0 then linT n.toNat num den low high else tst0
end Go.Sv
