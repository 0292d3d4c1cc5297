/-
  TESTS as plain data: their errors, verdicts, and how they lie in memory. No program in sight.
  Conditions: none.
-/
import Derived.Test.YtpoddmkimhkmoaaGreatSl
import Derived.Test.YtpoddmkimhkmoaaGreatChecked
import Derived.IntWalk
namespace Go.Sv
open Go.RowKit

structure Tst where
  acc : List Int
  rej : List Int
  deriving DecidableEq
def iv (l : List Int) (k : Nat) : Value := .int .i64 (gi l k)
structure TstP where
  a0 : Option Addr
  c0 : Nat
  a1 : Option Addr
  c1 : Nat
abbrev tstV (t : Tst) (q : TstP) : Value := .agg #[.slice q.a0 t.acc.length q.c0, .slice q.a1 t.rej.length q.c1]
structure RTst (w : World) (B : Nat) (t : Tst) (q : TstP) : Prop where
  r0 : Arr w B q.a0 t.acc.length (iv t.acc)
  r1 : Arr w B q.a1 t.rej.length (iv t.rej)
theorem RTst.below {w w' : World} {B : Nat} {t : Tst} {q : TstP} (h : RTst w B t q) (hb : Below B w w') : RTst w' B t q := ⟨h.r0.below hb, h.r1.below hb⟩
theorem RTst.to {w w' : World} {t : Tst} {q : TstP} (h : RTst w w.heap.size t q) (hb : Below w.heap.size w w') : RTst w' w'.heap.size t q := ⟨(h.r0.below hb).more hb.size, (h.r1.below hb).more hb.size⟩
structure TBd (t : Tst) : Prop where
  b0 : t.acc.length ≤ 9223372036854775807
  b1 : t.rej.length ≤ 9223372036854775807
/-- a test in a box -/
structure TBox (W : World) (b : Nat) (t : Tst) (q : TstP) : Prop where
  z : b < W.heap.size
  y0 : W.cell? ⟨b, 0, none⟩ = some (.slice q.a0 t.acc.length q.c0)
  y1 : W.cell? ⟨b, 1, none⟩ = some (.slice q.a1 t.rej.length q.c1)
theorem TBox.to {W W' : World} {b : Nat} {t : Tst} {q : TstP} (h : TBox W b t q) (hb : Below W.heap.size W W') : TBox W' b t q :=
  ⟨Nat.lt_of_lt_of_le h.z hb.size, (hb.cell h.z).trans h.y0, (hb.cell h.z).trans h.y1⟩
theorem TBox.new {w : World} {e : TypeId} {t : Tst} {q : TstP} : TBox (w.alloc (.cells #[.slice q.a0 t.acc.length q.c0, .slice q.a1 t.rej.length q.c1] e)) w.heap.size t q :=
  ⟨by simp, by rw [World.cell?_alloc_new]; rfl, by rw [World.cell?_alloc_new]; rfl⟩

/-! ### the error of a test -/
def vBad (t : Tst) (i : Nat) : Prop := gi t.acc i < -1 ∨ gi t.rej i ≤ gi t.acc i ∨ (i : Int) + 2 < gi t.rej i
open Classical in
noncomputable def validE (t : Tst) : Int :=
  if t.acc.length = 0 then 10 else if 64 < t.acc.length then 3 else if t.rej.length ≠ t.acc.length then 6
  else if ∃ i, i < t.acc.length ∧ vBad t i then 1 else if gi t.acc (t.acc.length - 1) + 1 ≠ gi t.rej (t.acc.length - 1) then 1 else 0
theorem validE_10 {t : Tst} (h : t.acc.length = 0) : validE t = 10 := by unfold validE; rw [if_pos h]
theorem validE_3 {t : Tst} (h : 64 < t.acc.length) : validE t = 3 := by unfold validE; rw [if_neg (by omega), if_pos h]
theorem validE_6 {t : Tst} (h : 0 < t.acc.length ∧ t.acc.length ≤ 64) (h2 : t.rej.length ≠ t.acc.length) : validE t = 6 := by unfold validE; rw [if_neg (by omega), if_neg (by omega), if_pos h2]
theorem validE_b {t : Tst} {i : Nat} (h : 0 < t.acc.length ∧ t.acc.length ≤ 64) (h2 : t.rej.length = t.acc.length) (hi : i < t.acc.length) (hb : vBad t i) : validE t = 1 := by
  unfold validE; rw [if_neg (by omega), if_neg (by omega), if_neg (by simp [h2]), if_pos ⟨i, hi, hb⟩]
theorem validE_l {t : Tst} (h : 0 < t.acc.length ∧ t.acc.length ≤ 64) (h2 : t.rej.length = t.acc.length) (hb : ∀ i, i < t.acc.length → ¬ vBad t i) (hl : gi t.acc (t.acc.length - 1) + 1 ≠ gi t.rej (t.acc.length - 1)) : validE t = 1 := by
  unfold validE; rw [if_neg (by omega), if_neg (by omega), if_neg (by simp [h2]), if_neg (fun ⟨i, hi, hx⟩ => hb i hi hx), if_pos hl]
theorem validE_0 {t : Tst} (h : 0 < t.acc.length ∧ t.acc.length ≤ 64) (h2 : t.rej.length = t.acc.length) (hb : ∀ i, i < t.acc.length → ¬ vBad t i) (hl : gi t.acc (t.acc.length - 1) + 1 = gi t.rej (t.acc.length - 1)) : validE t = 0 := by
  unfold validE; rw [if_neg (by omega), if_neg (by omega), if_neg (by simp [h2]), if_neg (fun ⟨i, hi, hx⟩ => hb i hi hx), if_neg (by simp [hl])]
/-- a valid test -/
structure Vld (t : Tst) : Prop where
  n0 : 0 < t.acc.length
  n1 : t.acc.length ≤ 64
  len : t.rej.length = t.acc.length
  lo : ∀ i, i < t.acc.length → -1 ≤ gi t.acc i
  ar : ∀ i, i < t.acc.length → gi t.acc i < gi t.rej i
  hi : ∀ i, i < t.acc.length → gi t.rej i ≤ (i : Int) + 2
  last : gi t.acc (t.acc.length - 1) + 1 = gi t.rej (t.acc.length - 1)
theorem validE_vld {t : Tst} (h : validE t = 0) : Vld t := by
  unfold validE at h
  split at h
  · omega
  split at h
  · omega
  split at h
  · omega
  rename_i h1 h2 h3
  split at h
  · omega
  rename_i h4
  split at h
  · omega
  rename_i h5
  have hb : ∀ i, i < t.acc.length → ¬ vBad t i := fun i hi hx => h4 ⟨i, hi, hx⟩
  refine ⟨by omega, by omega, by omega, fun i hi => ?_, fun i hi => ?_, fun i hi => ?_, by omega⟩ <;>
  · have := hb i hi
    unfold vBad at this
    omega
theorem vld_validE {t : Tst} (h : Vld t) : validE t = 0 :=
  validE_0 ⟨h.n0, h.n1⟩ h.len (fun i hi => by have := h.lo i hi; have := h.ar i hi; have := h.hi i hi; unfold vBad; omega) h.last

/-! ### verdicts -/
def atV (t : Tst) (n : Nat) (f : Int) : Int := if f ≤ gi t.acc (n - 1) then 1 else if gi t.rej (n - 1) ≤ f then 2 else 0
open Classical in
noncomputable def verdE (t : Tst) (n f : Int) : Int := if validE t ≠ 0 then validE t else if n < 1 ∨ (t.acc.length : Int) < n ∨ f < 0 ∨ n < f then 7 else 0
open Classical in
noncomputable def verdV (t : Tst) (n f : Int) : Int := if verdE t n f = 0 then atV t n.toNat f else 0
theorem verdE_v {t : Tst} {n f : Int} (h : validE t ≠ 0) : verdE t n f = validE t := by unfold verdE; rw [if_pos h]
theorem verdE_7 {t : Tst} {n f : Int} (h : validE t = 0) (c : n < 1 ∨ (t.acc.length : Int) < n ∨ f < 0 ∨ n < f) : verdE t n f = 7 := by unfold verdE; rw [if_neg (by simp [h]), if_pos c]
theorem verdE_0 {t : Tst} {n f : Int} (h : validE t = 0) (c : ¬ (n < 1 ∨ (t.acc.length : Int) < n ∨ f < 0 ∨ n < f)) : verdE t n f = 0 := by unfold verdE; rw [if_neg (by simp [h]), if_neg c]
theorem verdV_no {t : Tst} {n f : Int} (h : verdE t n f ≠ 0) : verdV t n f = 0 := by unfold verdV; rw [if_neg h]
theorem verdV_ok {t : Tst} {n : Nat} {f : Int} (h : verdE t n f = 0) : verdV t n f = atV t n f := by unfold verdV; rw [if_pos h]; rfl

/-! ### lists of observations -/
def gb (l : List Bool) (k : Nat) : Bool := l.getD k false
def bv (l : List Bool) (k : Nat) : Value := .bool (gb l k)
def bi (b : Bool) : Int := if b then 1 else 0
theorem bi_t : bi true = 1 := rfl
theorem bi_f : bi false = 0 := rfl
theorem gb_get {l : List Bool} {k : Nat} (h : k < l.length) : l[k]? = some (gb l k) := by simp [gb, h]
def failsTo (l : List Bool) : Nat → Int
  | 0 => 0
  | k + 1 => failsTo l k + bi (gb l k)
theorem failsTo_bd (l : List Bool) : ∀ k, 0 ≤ failsTo l k ∧ failsTo l k ≤ k
  | 0 => ⟨by simp [failsTo], by simp [failsTo]⟩
  | k + 1 => by
    have h := failsTo_bd l k
    have e : failsTo l (k + 1) = failsTo l k + bi (gb l k) := rfl
    cases hb : gb l k <;> rw [hb] at e <;> simp [bi] at e <;> omega
def decAt (t : Tst) (l : List Bool) (k : Nat) : Int := atV t (k + 1) (failsTo l (k + 1))
def decF (t : Tst) (l : List Bool) (k : Nat) : Nat → Int × Nat
  | 0 => (0, k)
  | f + 1 => if decAt t l k ≠ 0 then (decAt t l k, k + 1) else decF t l (k + 1) f
theorem decF_next {t : Tst} {l : List Bool} {k : Nat} (hk : k < l.length) (h : decAt t l k = 0) : decF t l k (l.length - k) = decF t l (k + 1) (l.length - (k + 1)) := by
  obtain ⟨f, hf⟩ : ∃ f, l.length - k = f + 1 := ⟨l.length - k - 1, by omega⟩
  have e : l.length - (k + 1) = f := by omega
  rw [hf, decF, if_neg (by simp [h]), e]
theorem decF_stop {t : Tst} {l : List Bool} {k : Nat} (hk : k < l.length) (h : decAt t l k ≠ 0) : decF t l k (l.length - k) = (decAt t l k, k + 1) := by
  obtain ⟨f, hf⟩ : ∃ f, l.length - k = f + 1 := ⟨l.length - k - 1, by omega⟩
  rw [hf, decF, if_pos h]
theorem decF_end {t : Tst} {l : List Bool} : decF t l l.length (l.length - l.length) = (0, l.length) := by
  have e : l.length - l.length = 0 := by omega
  rw [e]; rfl
theorem atV_last {t : Tst} (h : Vld t) (f : Int) : atV t t.acc.length f ≠ 0 := by
  have := h.last
  unfold atV
  split
  · omega
  · split
    · omega
    · omega
theorem decAt_lt {t : Tst} {l : List Bool} {k : Nat} (h : Vld t) (hall : ∀ j, j < k → decAt t l j = 0) : k < t.acc.length := by
  have h0 := h.n0
  by_cases c : k < t.acc.length
  · exact c
  · have h1 := hall (t.acc.length - 1) (by omega)
    unfold decAt at h1
    have e : t.acc.length - 1 + 1 = t.acc.length := by omega
    rw [e] at h1
    exact absurd h1 (atV_last h _)
open Classical in
noncomputable def decR (t : Tst) (l : List Bool) : Int × Nat := if validE t = 0 then decF t l 0 l.length else (0, 0)
theorem decR_no {t : Tst} {l : List Bool} (h : validE t ≠ 0) : decR t l = (0, 0) := by unfold decR; rw [if_neg h]
theorem decR_ok {t : Tst} {l : List Bool} (h : validE t = 0) : decR t l = decF t l 0 l.length := by unfold decR; rw [if_pos h]

/-- what a call leaves that hands back a test and an error -/
def TRes (w : World) (t : Tst) (E : Int) (v : Value) (w' : World) : Prop := ∃ q : TstP, v = .tuple #[tstV t q, .int .i64 E] ∧ RTst w' w'.heap.size t q ∧ Below w.heap.size w w'
def tst0 : Tst := ⟨[], []⟩
theorem TRes.none_ {w w' : World} {E : Int} (h : Below w.heap.size w w') : TRes w tst0 E (.tuple #[.agg #[.slice none 0 0, .slice none 0 0], .int .i64 E]) w' :=
  ⟨⟨none, 0, none, 0⟩, rfl, ⟨fun h => by simp [tst0] at h, fun h => by simp [tst0] at h⟩, h⟩
def fixA (k : Nat) : List Int := List.replicate k (-1)
def fixR (k : Nat) : List Int := (List.range k).map (fun (i : Nat) => (i : Int) + 2)
theorem fixA_len (k : Nat) : (fixA k).length = k := by simp [fixA]
theorem fixR_len (k : Nat) : (fixR k).length = k := by simp [fixR]
def fixT (n : Nat) (c : Int) : Tst := ⟨fixA (n - 1) ++ [c], fixR (n - 1) ++ [c + 1]⟩
theorem fixA_set {n : Nat} (c : Int) (h : 0 < n) : (fixA n).set (n - 1) c = (fixT n c).acc := by
  obtain ⟨m, rfl⟩ : ∃ m, n = m + 1 := ⟨n - 1, by omega⟩
  have e : fixA (m + 1) = fixA m ++ [-1] := by simp [fixA, List.replicate_succ']
  rw [e]
  show (fixA m ++ [-1]).set m c = fixA m ++ [c]
  rw [List.set_append_right _ _ (by rw [fixA_len]; exact Nat.le_refl _)]
  simp [fixA_len]
theorem fixR_set {n : Nat} (c : Int) (h : 0 < n) : (fixR n).set (n - 1) (c + 1) = (fixT n c).rej := by
  obtain ⟨m, rfl⟩ : ∃ m, n = m + 1 := ⟨n - 1, by omega⟩
  have e : fixR (m + 1) = fixR m ++ [(m : Int) + 2] := by simp [fixR, List.range_succ]
  rw [e]
  show (fixR m ++ [(m : Int) + 2]).set m (c + 1) = fixR m ++ [c + 1]
  rw [List.set_append_right _ _ (by rw [fixR_len]; exact Nat.le_refl _)]
  simp [fixR_len]
theorem fixT_len {n : Nat} (c : Int) (h : 0 < n) : (fixT n c).acc.length = n ∧ (fixT n c).rej.length = n := by
  simp only [fixT, List.length_append, fixA_len, fixR_len, List.length_cons, List.length_nil]
  omega
theorem fixT_at {n k : Nat} (c : Int) (h1 : n ≤ k + 1) (h2 : k + 1 ≤ n) : fixA k ++ [c] = (fixT n c).acc ∧ fixR k ++ [c + 1] = (fixT n c).rej ∧ (fixT n c).acc.length = k + 1 ∧ (fixT n c).rej.length = k + 1 := by
  obtain rfl : n = k + 1 := by omega
  exact ⟨rfl, rfl, (fixT_len c (by omega)).1, (fixT_len c (by omega)).2⟩
def fixE (n c : Int) : Int := if n < 1 ∨ 64 < n ∨ c < -1 ∨ n < c then 7 else 0
def fixV (n c : Int) : Tst := if fixE n c = 0 then fixT n.toNat c else tst0
theorem fixE_7 {n c : Int} (h : n < 1 ∨ 64 < n ∨ c < -1 ∨ n < c) : fixE n c = 7 := by unfold fixE; rw [if_pos h]
theorem fixE_0 {n c : Int} (h : ¬ (n < 1 ∨ 64 < n ∨ c < -1 ∨ n < c)) : fixE n c = 0 := by unfold fixE; rw [if_neg h]
theorem fixV_no {n c : Int} (h : fixE n c ≠ 0) : fixV n c = tst0 := by unfold fixV; rw [if_neg h]
theorem fixV_ok {n c : Int} (h : fixE n c = 0) : fixV n c = fixT n.toNat c := by unfold fixV; rw [if_pos h]

/-! ### parallel boundaries -/
def linM (num den i : Int) : Int := i * num / den
def linLo (low q : Int) : Int := if -1 < q - low then q - low else -1
def linHi (high i q : Int) : Int := if q + high < i + 1 then q + high else i + 1
def linA (num den low : Int) (k : Nat) : List Int := (List.range k).map (fun (i : Nat) => linLo low (((i : Int) + 1) * num / den))
def linR (num den high : Int) (k : Nat) : List Int := (List.range k).map (fun (i : Nat) => linHi high ((i : Int) + 1) (((i : Int) + 1) * num / den))
def linT (n : Nat) (num den low high : Int) : Tst := ⟨linA num den low (n - 1) ++ [linM num den n], linR num den high (n - 1) ++ [linM num den n + 1]⟩
theorem linT_at {n k : Nat} (num den low high : Int) (h1 : n ≤ k + 1) (h2 : k + 1 ≤ n) : linA num den low k ++ [linM num den n] = (linT n num den low high).acc ∧ linR num den high k ++ [linM num den n + 1] = (linT n num den low high).rej ∧
    (linT n num den low high).acc.length = k + 1 ∧ (linT n num den low high).rej.length = k + 1 := by
  obtain rfl : n = k + 1 := by omega
  exact ⟨rfl, rfl, by simp [linT, linA], by simp [linT, linR]⟩
theorem linM_bd {num den i : Int} (h1 : 0 ≤ i) (h2 : i ≤ 64) (h3 : 0 ≤ num) (h4 : num ≤ 1000) (h5 : 1 ≤ den) : 0 ≤ i * num ∧ i * num ≤ 64000 ∧ 0 ≤ i * num / den ∧ i * num / den ≤ 64000 := by
  have a : 0 ≤ i * num := Int.mul_nonneg h1 h3
  have b : i * num ≤ 64 * 1000 := Int.mul_le_mul h2 h4 h3 (by omega)
  refine ⟨a, by omega, Int.ediv_nonneg a (by omega), ?_⟩
  have := Int.ediv_le_self den a
  omega
def linE (n num den low high : Int) : Int := if 1 ≤ n ∧ n ≤ 64 ∧ 1 ≤ den ∧ den ≤ 1000 ∧ 0 ≤ num ∧ num ≤ den ∧ 1 ≤ low ∧ low ≤ 64 ∧ 1 ≤ high ∧ high ≤ 64 then 0 else 7
def linV (n num den low high : Int) : Tst := if linE n num den low high = 0 then linT n.toNat num den low high else tst0
end Go.Sv

namespace Go.Proofs.YtpoddmkimhkmoaaGreat
open Go.RowKit Go.Sv

theorem hvalid_any (t : Tst) (q : TstP) (w : World) (h : RTst w w.heap.size t q) (hbd : TBd t) :
    Calls Tryz.prog 30 #[tstV t q] w fun e w' => e = .returned (.int .i64 (validE t)) ∧ Below w.heap.size w w' := by
  obtain ⟨qa, qc, qb, qd⟩ := q
  have hbx : Hid (∀ o : Obj, Below w.heap.size w (w.alloc o)) := Lib.hid fun o => (Below.refl _ _).alloc (Nat.le_refl _) o
  have b0 := hbd.b0
  have b1 := hbd.b1
  by_cases g0 : t.acc.length = 0
  · rw [validE_10 g0]
    have z : ((t.acc.length : Int) == 0) = true := by rw [beq_iff_eq]; omega
    clear g0
    replace h := Lib.hid h
    go_enter Tryz.func30, Tryz.ntmps30
    go_wp2
    go_ret
    exact ⟨rfl, hbx.out _⟩
  have z0 : ((t.acc.length : Int) == 0) = false := by rw [beq_eq_false_iff_ne]; omega
  by_cases g1 : 64 < t.acc.length
  · rw [validE_3 g1]
    clear g0
    replace h := Lib.hid h
    go_enter Tryz.func30, Tryz.ntmps30
    go_wp2
    go_ret
    exact ⟨rfl, hbx.out _⟩
  have z1 : decide ((64 : Int) < (t.acc.length : Int)) = false := by rw [decide_eq_false_iff_not]; omega
  by_cases g2 : t.rej.length = t.acc.length
  case neg =>
    rw [validE_6 ⟨by omega, by omega⟩ g2]
    have z2 : ((t.rej.length : Int) != (t.acc.length : Int)) = true := by rw [bne_iff_ne]; omega
    clear g0 g1 g2
    replace h := Lib.hid h
    go_enter Tryz.func30, Tryz.ntmps30
    go_wp2
    go_ret
    exact ⟨rfl, hbx.out _⟩
  have z2 : ((t.rej.length : Int) != (t.acc.length : Int)) = false := by rw [bne_eq_false_iff_eq]; omega
  have G0 := Lib.hid (show 0 < t.acc.length ∧ t.acc.length ≤ 64 from ⟨by omega, by omega⟩)
  have G2 := Lib.hid g2
  obtain ⟨ba, oa, ea, hba, hca⟩ := h.r0 (by omega)
  obtain ⟨bb, ob, eb, hbb, hcb⟩ := h.r1 (by omega)
  dsimp only at ea eb
  subst ea eb
  replace hca := Lib.hid hca
  replace hcb := Lib.hid hcb
  clear h g1 g2 g0
  go_enter Tryz.func30, Tryz.ntmps30
  go_wp2
  go_loop [25] (fun i => ∃ k : Nat, k ≤ t.acc.length ∧ i = .int .i64 k ∧ ∀ j, j < k → ¬ vBad t j) (fun i => t.acc.length - (intOf i).toNat)
  case atStart => exact ⟨0, Nat.zero_le _, rfl, fun j hj => by omega⟩
  case round =>
    obtain ⟨k, hk, rfl, hall⟩ := hrel
    replace hall := Lib.hid hall
    have nn := G0.out
    by_cases hlt : k < t.acc.length
    · have da := hca.out k hlt
      have hlt2 : k < t.rej.length := by have := G2.out; omega
      have db := hcb.out k hlt2
      unfold iv at da db
      have wr : IntKind.i64.wrap ((k : Int) + 2) = (k : Int) + 2 := IntWalk.i64_in _ (by omega)
      by_cases c1 : gi t.acc k < -1
      · have E := Lib.hid (validE_b G0.out G2.out hlt (Or.inl c1))
        have d : decide (gi t.acc k < -1) = true := decide_eq_true c1
        clear c1
        go_wp2
        go_ret
        exact ⟨ret_i E.out.symm, hbx.out _⟩
      have d1 : decide (gi t.acc k < -1) = false := by rw [decide_eq_false_iff_not]; omega
      by_cases c2 : gi t.rej k ≤ gi t.acc k
      · have E := Lib.hid (validE_b G0.out G2.out hlt (Or.inr (Or.inl c2)))
        have d : decide (gi t.rej k ≤ gi t.acc k) = true := decide_eq_true c2
        clear c2
        go_wp2
        go_ret
        exact ⟨ret_i E.out.symm, hbx.out _⟩
      have d2 : decide (gi t.rej k ≤ gi t.acc k) = false := by rw [decide_eq_false_iff_not]; omega
      by_cases c3 : (k : Int) + 2 < gi t.rej k
      · have E := Lib.hid (validE_b G0.out G2.out hlt (Or.inr (Or.inr c3)))
        have d : decide ((k : Int) + 2 < gi t.rej k) = true := decide_eq_true c3
        clear c3
        go_wp2
        go_ret
        exact ⟨ret_i E.out.symm, hbx.out _⟩
      have d3 : decide ((k : Int) + 2 < gi t.rej k) = false := by rw [decide_eq_false_iff_not]; omega
      have hk1 : Hid (¬ vBad t k) := Lib.hid (by unfold vBad; omega)
      clear c1 c2 c3
      go_wp2
      go_round
      case rel => exact ⟨k + 1, by omega, by go_num, fun j hj => by (rcases Nat.lt_succ_iff_lt_or_eq.1 hj with h | h; exact hall.out j h; rw [h]; exact hk1.out)⟩
      case measure => simp [intOf]; omega
    · obtain rfl : k = t.acc.length := by omega
      have da := hca.out (t.acc.length - 1) (by omega)
      have db := hcb.out (t.acc.length - 1) (by have := G2.out; omega)
      unfold iv at da db
      have e1 : ((t.acc.length : Int) - 1).toNat = t.acc.length - 1 := by omega
      have i0 : (0 : Int) ≤ (t.acc.length : Int) - 1 := by omega
      have i1 : (t.acc.length : Int) - 1 < (t.acc.length : Int) := by omega
      have i2 : (t.acc.length : Int) - 1 < (t.rej.length : Int) := by have := G2.out; omega
      have nb := hall.out (t.acc.length - 1) (by omega)
      unfold vBad at nb
      have wr : IntKind.i64.wrap (gi t.acc (t.acc.length - 1) + 1) = gi t.acc (t.acc.length - 1) + 1 := IntWalk.i64_in _ (by omega)
      clear nb
      by_cases c : gi t.acc (t.acc.length - 1) + 1 = gi t.rej (t.acc.length - 1)
      · have E := Lib.hid (validE_0 G0.out G2.out hall.out c)
        have c' : (gi t.acc (t.acc.length - 1) + 1 != gi t.rej (t.acc.length - 1)) = false := by rw [bne_eq_false_iff_eq]; exact c
        clear c nn
        go_wp2
        go_big_quiet (fail)
        go_wp2
        go_ret
        exact ⟨ret_i E.out.symm, Below.drawn (hbx.out _) (Drawn.of _)⟩
      · have E := Lib.hid (validE_l G0.out G2.out hall.out c)
        have c' : (gi t.acc (t.acc.length - 1) + 1 != gi t.rej (t.acc.length - 1)) = true := by rw [bne_iff_ne]; exact c
        clear c nn
        go_wp2
        go_big_quiet (fail)
        go_wp2
        go_ret
        exact ⟨ret_i E.out.symm, Below.drawn (hbx.out _) (Drawn.of _)⟩

theorem hrvalid_any (t : Tst) (q : TstP) (w : World) (h : RTst w w.heap.size t q) (hbd : TBd t) :
    Calls Tryz.prog 11 #[tstV t q] w fun e w' => e = .returned (.int .i64 (validE t)) ∧ Below w.heap.size w w' := by
  obtain ⟨qa, qc, qb, qd⟩ := q
  have hbx : Hid (∀ o : Obj, Below w.heap.size w (w.alloc o)) := Lib.hid fun o => (Below.refl _ _).alloc (Nat.le_refl _) o
  have b0 := hbd.b0
  have b1 := hbd.b1
  by_cases g0 : t.acc.length = 0
  · rw [validE_10 g0]
    have z : ((t.acc.length : Int) == 0) = true := by rw [beq_iff_eq]; omega
    clear g0
    replace h := Lib.hid h
    go_enter Tryz.func11, Tryz.ntmps11
    go_wp2
    go_ret
    exact ⟨rfl, hbx.out _⟩
  have z0 : ((t.acc.length : Int) == 0) = false := by rw [beq_eq_false_iff_ne]; omega
  by_cases g1 : 64 < t.acc.length
  · rw [validE_3 g1]
    clear g0
    replace h := Lib.hid h
    go_enter Tryz.func11, Tryz.ntmps11
    go_wp2
    go_ret
    exact ⟨rfl, hbx.out _⟩
  have z1 : decide ((64 : Int) < (t.acc.length : Int)) = false := by rw [decide_eq_false_iff_not]; omega
  by_cases g2 : t.rej.length = t.acc.length
  case neg =>
    rw [validE_6 ⟨by omega, by omega⟩ g2]
    have z2 : ((t.rej.length : Int) != (t.acc.length : Int)) = true := by rw [bne_iff_ne]; omega
    clear g0 g1 g2
    replace h := Lib.hid h
    go_enter Tryz.func11, Tryz.ntmps11
    go_wp2
    go_ret
    exact ⟨rfl, hbx.out _⟩
  have z2 : ((t.rej.length : Int) != (t.acc.length : Int)) = false := by rw [bne_eq_false_iff_eq]; omega
  have G0 := Lib.hid (show 0 < t.acc.length ∧ t.acc.length ≤ 64 from ⟨by omega, by omega⟩)
  have G2 := Lib.hid g2
  obtain ⟨ba, oa, ea, hba, hca⟩ := h.r0 (by omega)
  obtain ⟨bb, ob, eb, hbb, hcb⟩ := h.r1 (by omega)
  dsimp only at ea eb
  subst ea eb
  replace hca := Lib.hid hca
  replace hcb := Lib.hid hcb
  clear h g1 g2 g0
  go_enter Tryz.func11, Tryz.ntmps11
  go_wp2
  go_loopw [4] (fun i wr => ∃ k : Nat, k ≤ t.acc.length ∧ i = .int .i64 k ∧ (∀ j, j < k → ¬ vBad t j) ∧ Drawn (w.alloc (.cells #[.slice (some ⟨ba, oa, none⟩) t.acc.length qc, .slice (some ⟨bb, ob, none⟩) t.rej.length qd] 32)) wr) (fun i _ => t.acc.length - (intOf i).toNat)
  case atStart => exact ⟨0, Nat.zero_le _, rfl, fun j hj => by omega, Drawn.refl _⟩
  case round =>
    obtain ⟨k, hk, rfl, hall, m, rfl⟩ := hrel
    replace hall := Lib.hid hall
    have nn := G0.out
    by_cases hlt : k < t.acc.length
    · have da := hca.out k hlt
      have hlt2 : k < t.rej.length := by have := G2.out; omega
      have db := hcb.out k hlt2
      unfold iv at da db
      have wr : IntKind.i64.wrap ((k : Int) + 2) = (k : Int) + 2 := IntWalk.i64_in _ (by omega)
      by_cases c1 : gi t.acc k < -1
      · have E := Lib.hid (validE_b G0.out G2.out hlt (Or.inl c1))
        have d : decide (gi t.acc k < -1) = true := decide_eq_true c1
        clear c1
        go_wp2
        go_big_quiet (fail)
        go_wp2
        go_ret
        exact ⟨ret_i E.out.symm, Below.drawn (hbx.out _) ((Drawn.of _).drewN _)⟩
      have d1 : decide (gi t.acc k < -1) = false := by rw [decide_eq_false_iff_not]; omega
      by_cases c2 : gi t.rej k ≤ gi t.acc k
      · have E := Lib.hid (validE_b G0.out G2.out hlt (Or.inr (Or.inl c2)))
        have d : decide (gi t.rej k ≤ gi t.acc k) = true := decide_eq_true c2
        clear c2
        go_wp2
        go_big_quiet (fail)
        go_wp2
        go_ret
        exact ⟨ret_i E.out.symm, Below.drawn (hbx.out _) ((Drawn.of _).drewN _)⟩
      have d2 : decide (gi t.rej k ≤ gi t.acc k) = false := by rw [decide_eq_false_iff_not]; omega
      by_cases c3 : (k : Int) + 2 < gi t.rej k
      · have E := Lib.hid (validE_b G0.out G2.out hlt (Or.inr (Or.inr c3)))
        have d : decide ((k : Int) + 2 < gi t.rej k) = true := decide_eq_true c3
        clear c3
        go_wp2
        go_big_quiet (fail)
        go_wp2
        go_ret
        exact ⟨ret_i E.out.symm, Below.drawn (hbx.out _) ((Drawn.of _).drewN _)⟩
      have d3 : decide ((k : Int) + 2 < gi t.rej k) = false := by rw [decide_eq_false_iff_not]; omega
      have hk1 : Hid (¬ vBad t k) := Lib.hid (by unfold vBad; omega)
      clear c1 c2 c3
      go_wp2
      go_big_quiet (fail)
      go_wp2
      go_roundw
      case rel => exact ⟨k + 1, by omega, by go_num, fun j hj => by (rcases Nat.lt_succ_iff_lt_or_eq.1 hj with h | h; exact hall.out j h; rw [h]; exact hk1.out), Drawn.of _⟩
      case measure => simp [intOf]; omega
    · obtain rfl : k = t.acc.length := by omega
      have da := hca.out (t.acc.length - 1) (by omega)
      have db := hcb.out (t.acc.length - 1) (by have := G2.out; omega)
      unfold iv at da db
      have e1 : ((t.acc.length : Int) - 1).toNat = t.acc.length - 1 := by omega
      have i0 : (0 : Int) ≤ (t.acc.length : Int) - 1 := by omega
      have i1 : (t.acc.length : Int) - 1 < (t.acc.length : Int) := by omega
      have i2 : (t.acc.length : Int) - 1 < (t.rej.length : Int) := by have := G2.out; omega
      have nb := hall.out (t.acc.length - 1) (by omega)
      unfold vBad at nb
      have wr : IntKind.i64.wrap (gi t.acc (t.acc.length - 1) + 1) = gi t.acc (t.acc.length - 1) + 1 := IntWalk.i64_in _ (by omega)
      clear nb
      by_cases c : gi t.acc (t.acc.length - 1) + 1 = gi t.rej (t.acc.length - 1)
      · have E := Lib.hid (validE_0 G0.out G2.out hall.out c)
        have c' : (gi t.acc (t.acc.length - 1) + 1 != gi t.rej (t.acc.length - 1)) = false := by rw [bne_eq_false_iff_eq]; exact c
        clear c nn
        go_wp2
        go_big_quiet (fail)
        go_wp2
        go_ret
        exact ⟨ret_i E.out.symm, Below.drawn (hbx.out _) ((Drawn.of _).drewN _)⟩
      · have E := Lib.hid (validE_l G0.out G2.out hall.out c)
        have c' : (gi t.acc (t.acc.length - 1) + 1 != gi t.rej (t.acc.length - 1)) = true := by rw [bne_iff_ne]; exact c
        clear c nn
        go_wp2
        go_big_quiet (fail)
        go_wp2
        go_ret
        exact ⟨ret_i E.out.symm, Below.drawn (hbx.out _) ((Drawn.of _).drewN _)⟩

theorem at_any (t : Tst) (q : TstP) (n : Nat) (f : Int) (w : World) (h : RTst w w.heap.size t q) (hbd : TBd t) (h0 : 0 < n) (h1 : n ≤ t.acc.length) (h2 : n ≤ t.rej.length) :
    Calls Tryz.prog 87 #[tstV t q, .int .i64 n, .int .i64 f] w fun e w' => e = .returned (.int .i64 (atV t n f)) ∧ Below w.heap.size w w' := by
  obtain ⟨qa, qc, qb, qd⟩ := q
  have hbx : Hid (∀ o : Obj, Below w.heap.size w (w.alloc o)) := Lib.hid fun o => (Below.refl _ _).alloc (Nat.le_refl _) o
  have b0 := hbd.b0
  have b1 := hbd.b1
  obtain ⟨ba, oa, ea, hba, hca⟩ := h.r0 (by omega)
  obtain ⟨bb, ob, eb, hbb, hcb⟩ := h.r1 (by omega)
  dsimp only at ea eb
  subst ea eb
  have da := hca (n - 1) (by omega)
  have db := hcb (n - 1) (by omega)
  unfold iv at da db
  have e1 : ((n : Int) - 1).toNat = n - 1 := by omega
  have i0 : (0 : Int) ≤ (n : Int) - 1 := by omega
  have i1 : (n : Int) - 1 < (t.acc.length : Int) := by omega
  have i2 : (n : Int) - 1 < (t.rej.length : Int) := by omega
  clear hca hcb h
  by_cases c1 : f ≤ gi t.acc (n - 1)
  · have E : Hid (atV t n f = 1) := Lib.hid (by unfold atV; rw [if_pos c1])
    have d : decide (f ≤ gi t.acc (n - 1)) = true := decide_eq_true c1
    clear c1
    go_enter Tryz.func87, Tryz.ntmps87
    go_wp2
    go_ret
    exact ⟨ret_i E.out.symm, hbx.out _⟩
  have d1 : decide (f ≤ gi t.acc (n - 1)) = false := by rw [decide_eq_false_iff_not]; omega
  by_cases c2 : gi t.rej (n - 1) ≤ f
  · have E : Hid (atV t n f = 2) := Lib.hid (by unfold atV; rw [if_neg c1, if_pos c2])
    have d : decide (gi t.rej (n - 1) ≤ f) = true := decide_eq_true c2
    clear c1 c2
    go_enter Tryz.func87, Tryz.ntmps87
    go_wp2
    go_ret
    exact ⟨ret_i E.out.symm, hbx.out _⟩
  · have E : Hid (atV t n f = 0) := Lib.hid (by unfold atV; rw [if_neg c1, if_neg c2])
    have d : decide (gi t.rej (n - 1) ≤ f) = false := by rw [decide_eq_false_iff_not]; omega
    clear c1 c2
    go_enter Tryz.func87, Tryz.ntmps87
    go_wp2
    go_ret
    exact ⟨ret_i E.out.symm, hbx.out _⟩

theorem rat_any (t : Tst) (q : TstP) (n : Nat) (f : Int) (w : World) (h : RTst w w.heap.size t q) (hbd : TBd t) (h0 : 0 < n) (h1 : n ≤ t.acc.length) (h2 : n ≤ t.rej.length) :
    Calls Tryz.prog 101 #[tstV t q, .int .i64 n, .int .i64 f] w fun e w' => e = .returned (.int .i64 (atV t n f)) ∧ Below w.heap.size w w' := by
  obtain ⟨qa, qc, qb, qd⟩ := q
  have hbx : Hid (∀ o : Obj, Below w.heap.size w (w.alloc o)) := Lib.hid fun o => (Below.refl _ _).alloc (Nat.le_refl _) o
  have b0 := hbd.b0
  have b1 := hbd.b1
  obtain ⟨ba, oa, ea, hba, hca⟩ := h.r0 (by omega)
  obtain ⟨bb, ob, eb, hbb, hcb⟩ := h.r1 (by omega)
  dsimp only at ea eb
  subst ea eb
  have da := hca (n - 1) (by omega)
  have db := hcb (n - 1) (by omega)
  unfold iv at da db
  have e1 : ((n : Int) - 1).toNat = n - 1 := by omega
  have i0 : (0 : Int) ≤ (n : Int) - 1 := by omega
  have i1 : (n : Int) - 1 < (t.acc.length : Int) := by omega
  have i2 : (n : Int) - 1 < (t.rej.length : Int) := by omega
  clear hca hcb h
  by_cases c1 : f ≤ gi t.acc (n - 1)
  · have E : Hid (atV t n f = 1) := Lib.hid (by unfold atV; rw [if_pos c1])
    have d : decide (f ≤ gi t.acc (n - 1)) = true := decide_eq_true c1
    clear c1
    go_enter Tryz.func101, Tryz.ntmps101
    go_wp2
    go_ret
    exact ⟨ret_i E.out.symm, hbx.out _⟩
  have d1 : decide (f ≤ gi t.acc (n - 1)) = false := by rw [decide_eq_false_iff_not]; omega
  by_cases c2 : gi t.rej (n - 1) ≤ f
  · have E : Hid (atV t n f = 2) := Lib.hid (by unfold atV; rw [if_neg c1, if_pos c2])
    have d : decide (gi t.rej (n - 1) ≤ f) = true := decide_eq_true c2
    clear c1 c2
    go_enter Tryz.func101, Tryz.ntmps101
    go_wp2
    go_ret
    exact ⟨ret_i E.out.symm, hbx.out _⟩
  · have E : Hid (atV t n f = 0) := Lib.hid (by unfold atV; rw [if_neg c1, if_neg c2])
    have d : decide (gi t.rej (n - 1) ≤ f) = false := by rw [decide_eq_false_iff_not]; omega
    clear c1 c2
    go_enter Tryz.func101, Tryz.ntmps101
    go_wp2
    go_ret
    exact ⟨ret_i E.out.symm, hbx.out _⟩

theorem verdict_any (t : Tst) (q : TstP) (n f : Int) (w : World) (h : RTst w w.heap.size t q) (hbd : TBd t) :
    Calls Tryz.prog 60 #[tstV t q, .int .i64 n, .int .i64 f] w fun e w' => e = .returned (.tuple #[.int .i64 (verdV t n f), .int .i64 (verdE t n f)]) ∧ Below w.heap.size w w' := by
  obtain ⟨qa, qc, qb, qd⟩ := q
  have hbx : Hid (∀ o : Obj, Below w.heap.size w (w.alloc o)) := Lib.hid fun o => (Below.refl _ _).alloc (Nat.le_refl _) o
  have hv : Hid (∀ o : Obj, Calls Tryz.prog 30 #[tstV t ⟨qa, qc, qb, qd⟩] (w.alloc o) fun e w' => e = .returned (.int .i64 (validE t)) ∧ Below (w.alloc o).heap.size (w.alloc o) w') :=
    Lib.hid fun o => hvalid_any t ⟨qa, qc, qb, qd⟩ _ (h.to (hbx.out o)) hbd
  replace h := Lib.hid h
  have b0 := hbd.b0
  by_cases g : validE t = 0
  case neg =>
    have E1 : Hid (verdV t n f = 0) := Lib.hid (verdV_no (by rw [verdE_v g]; exact g))
    have E2 : Hid (verdE t n f = validE t) := Lib.hid (verdE_v g)
    have hx : (validE t != 0) = true := by rw [bne_iff_ne]; exact g
    clear g
    go_enter Tryz.func60, Tryz.ntmps60
    go_wp2_with fail
    refine (hv.out _).mono ?_
    rintro e w1 ⟨rfl, hb1⟩
    have hfin := Lib.hid (below_of (hbx.out _) (hbx.out _).size hb1)
    clear hb1
    go_wp2
    go_ret2
    exact ⟨ret_2 (val_i E1.out.symm) (val_i E2.out.symm), hfin.out⟩
  have vl := validE_vld g
  have G := Lib.hid g
  have hx : (validE t != 0) = false := by rw [bne_eq_false_iff_eq]; exact g
  have hn1 := vl.n1
  have hl := Lib.hid vl.len
  replace vl := Lib.hid vl
  by_cases c : n < 1 ∨ (t.acc.length : Int) < n ∨ f < 0 ∨ n < f
  · have E1 : Hid (verdV t n f = 0) := Lib.hid (verdV_no (by rw [verdE_7 g c]; omega))
    have E2 : Hid (verdE t n f = 7) := Lib.hid (verdE_7 g c)
    have d : (decide (n < 1) || (decide ((t.acc.length : Int) < n) || (decide (f < 0) || decide (n < f)))) = true := by simpa using c
    clear g
    by_cases c1 : n < 1
    · have d1 : decide (n < 1) = true := decide_eq_true c1
      clear c d c1
      go_enter Tryz.func60, Tryz.ntmps60
      go_wp2_with fail
      refine (hv.out _).mono ?_
      rintro e w1 ⟨rfl, hb1⟩
      obtain ⟨z, y0, y1⟩ := (TBox.new (q := ⟨qa, qc, qb, qd⟩)).to hb1
      have hfin := Lib.hid (below_of (hbx.out _) (hbx.out _).size hb1)
      dsimp only at y0 y1
      clear hb1
      go_wp2
      go_ret2
      exact ⟨ret_2 (val_i E1.out.symm) (val_i E2.out.symm), hfin.out⟩
    have d1 : decide (n < 1) = false := by rw [decide_eq_false_iff_not]; exact c1
    by_cases c2 : (t.acc.length : Int) < n
    · have d2 : decide ((t.acc.length : Int) < n) = true := decide_eq_true c2
      clear c d c1 c2
      go_enter Tryz.func60, Tryz.ntmps60
      go_wp2_with fail
      refine (hv.out _).mono ?_
      rintro e w1 ⟨rfl, hb1⟩
      obtain ⟨z, y0, y1⟩ := (TBox.new (q := ⟨qa, qc, qb, qd⟩)).to hb1
      have hfin := Lib.hid (below_of (hbx.out _) (hbx.out _).size hb1)
      dsimp only at y0 y1
      clear hb1
      go_wp2
      go_ret2
      exact ⟨ret_2 (val_i E1.out.symm) (val_i E2.out.symm), hfin.out⟩
    have d2 : decide ((t.acc.length : Int) < n) = false := by rw [decide_eq_false_iff_not]; exact c2
    by_cases c3 : f < 0
    · have d3 : decide (f < 0) = true := decide_eq_true c3
      clear c d c1 c2 c3
      go_enter Tryz.func60, Tryz.ntmps60
      go_wp2_with fail
      refine (hv.out _).mono ?_
      rintro e w1 ⟨rfl, hb1⟩
      obtain ⟨z, y0, y1⟩ := (TBox.new (q := ⟨qa, qc, qb, qd⟩)).to hb1
      have hfin := Lib.hid (below_of (hbx.out _) (hbx.out _).size hb1)
      dsimp only at y0 y1
      clear hb1
      go_wp2
      go_ret2
      exact ⟨ret_2 (val_i E1.out.symm) (val_i E2.out.symm), hfin.out⟩
    have d3 : decide (f < 0) = false := by rw [decide_eq_false_iff_not]; exact c3
    have c4 : n < f := by omega
    have d4 : decide (n < f) = true := decide_eq_true c4
    clear c d c1 c2 c3 c4
    go_enter Tryz.func60, Tryz.ntmps60
    go_wp2_with fail
    refine (hv.out _).mono ?_
    rintro e w1 ⟨rfl, hb1⟩
    obtain ⟨z, y0, y1⟩ := (TBox.new (q := ⟨qa, qc, qb, qd⟩)).to hb1
    have hfin := Lib.hid (below_of (hbx.out _) (hbx.out _).size hb1)
    dsimp only at y0 y1
    clear hb1
    go_wp2
    go_ret2
    exact ⟨ret_2 (val_i E1.out.symm) (val_i E2.out.symm), hfin.out⟩
  · have hn : ∃ k : Nat, n = k ∧ 0 < k ∧ k ≤ t.acc.length := ⟨n.toNat, by omega, by omega, by omega⟩
    obtain ⟨k, rfl, hk0, hk1⟩ := hn
    have E1 : Hid (verdV t k f = atV t k f) := Lib.hid (verdV_ok (verdE_0 g c))
    have E2 : Hid (verdE t k f = 0) := Lib.hid (verdE_0 g c)
    have d1 : decide ((k : Int) < 1) = false := by rw [decide_eq_false_iff_not]; omega
    have d2 : decide (t.acc.length < k) = false := by rw [decide_eq_false_iff_not]; omega
    have d3 : decide (f < 0) = false := by rw [decide_eq_false_iff_not]; omega
    have d4 : decide ((k : Int) < f) = false := by rw [decide_eq_false_iff_not]; omega
    have hat : Hid (∀ W, Below w.heap.size w W → Calls Tryz.prog 87 #[tstV t ⟨qa, qc, qb, qd⟩, .int .i64 k, .int .i64 f] W fun e w' => e = .returned (.int .i64 (atV t k f)) ∧ Below W.heap.size W w') :=
      Lib.hid fun W hW => at_any t ⟨qa, qc, qb, qd⟩ k f W (h.out.to hW) hbd hk0 hk1 (by have := hl.out; omega)
    clear c g
    go_enter Tryz.func60, Tryz.ntmps60
    go_wp2_with fail
    refine (hv.out _).mono ?_
    rintro e w1 ⟨rfl, hb1⟩
    obtain ⟨z, y0, y1⟩ := (TBox.new (q := ⟨qa, qc, qb, qd⟩)).to hb1
    have hb2 := below_of (hbx.out _) (hbx.out _).size hb1
    dsimp only at y0 y1
    clear hb1
    go_wp2_with fail
    refine (hat.out _ hb2).mono ?_
    rintro e w2 ⟨rfl, hb3⟩
    have hfin := Lib.hid (below_of hb2 hb2.size hb3)
    go_wp2
    go_ret2
    exact ⟨ret_2 (val_i E1.out.symm) (val_i E2.out.symm), hfin.out⟩


end Go.Proofs.YtpoddmkimhkmoaaGreat

namespace Go.Proofs.YtpoddmkimhkmoaaGreat
open Go.RowKit Go.Sv


set_option maxHeartbeats 1000000 in
theorem rdecide_any (t : Tst) (q : TstP) (A : Option Addr) (l : List Bool) (c : Nat) (w : World) (h : RTst w w.heap.size t q) (hbd : TBd t) (hl : Arr w w.heap.size A l.length (bv l)) (hn : l.length ≤ 9223372036854775807) :
    Calls Tryz.prog 82 #[tstV t q, .slice A l.length c] w fun e w' => e = .returned (.tuple #[.int .i64 (decR t l).1, .int .i64 (decR t l).2, .int .i64 (validE t)]) ∧ Below w.heap.size w w' := by
  obtain ⟨qa, qc, qb, qd⟩ := q
  have hbx : Hid (∀ o : Obj, Below w.heap.size w (w.alloc o)) := Lib.hid fun o => (Below.refl _ _).alloc (Nat.le_refl _) o
  have hv : Hid (∀ o : Obj, Calls Tryz.prog 11 #[tstV t ⟨qa, qc, qb, qd⟩] (w.alloc o) fun e w' => e = .returned (.int .i64 (validE t)) ∧ Below (w.alloc o).heap.size (w.alloc o) w') :=
    Lib.hid fun o => hrvalid_any t ⟨qa, qc, qb, qd⟩ _ (h.to (hbx.out o)) hbd
  replace h := Lib.hid h
  have b0 := hbd.b0
  by_cases g : validE t = 0
  case neg =>
    have E := decR_no (l := l) g
    rw [E]
    clear E
    have hx : (validE t != 0) = true := by rw [bne_iff_ne]; exact g
    clear g
    replace hl := Lib.hid hl
    go_enter Tryz.func82, Tryz.ntmps82
    go_wp2_with fail
    refine (hv.out _).mono ?_
    rintro e w1 ⟨rfl, hb1⟩
    have hfin := Lib.hid (below_of (hbx.out _) (hbx.out _).size hb1)
    clear hb1
    go_wp2
    go_ret3
    exact ⟨rfl, hfin.out⟩
  have vl := Lib.hid (validE_vld g)
  have E := decR_ok (l := l) g
  rw [E]
  clear E
  have G := Lib.hid g
  have hx : (validE t != 0) = false := by rw [bne_eq_false_iff_eq]; exact g
  clear g
  replace hl := Lib.hid hl
  go_enter Tryz.func82, Tryz.ntmps82
  go_wp2_with fail
  refine (hv.out _).mono ?_
  rintro e w1 ⟨rfl, hb1⟩
  have hB := Lib.hid ((TBox.new (q := ⟨qa, qc, qb, qd⟩)).to hb1)
  have hb2 := Lib.hid (below_of (hbx.out _) (hbx.out _).size hb1)
  clear hb1
  go_wp2
  go_loopw [8, 9] (fun f i wr => ∃ k : Nat, k ≤ l.length ∧ i = .int .i64 k ∧ f = .int .i64 (failsTo l k) ∧ (∀ j, j < k → decAt t l j = 0) ∧ decF t l 0 l.length = decF t l k (l.length - k) ∧ Below w1.heap.size w1 wr) (fun _ i _ => l.length - (intOf i).toNat)
  case atStart => exact ⟨0, Nat.zero_le _, rfl, rfl, fun j hj => by omega, rfl, Below.refl _ _⟩
  case round =>
    obtain ⟨k, hk, rfl, rfl, hall, hdec, hbw⟩ := hrel
    have hlt0 : k < t.acc.length := decAt_lt vl.out hall
    have n1 := vl.out.n1
    have fb := failsTo_bd l k
    replace hall := Lib.hid hall
    replace hdec := Lib.hid hdec
    obtain ⟨z, y0, y1⟩ := hB.out.to hbw
    have hbww := Lib.hid (hb2.out.trans (hbw.mono hb2.out.size))
    dsimp only at y0 y1
    by_cases hlt : k < l.length
    · obtain ⟨bl, ol, rfl, hbl, hcl⟩ := hl.out (by omega)
      have dl := (hbww.out.cell (p := ⟨bl, ol + k, none⟩) hbl).trans (hcl k hlt)
      unfold bv at dl
      clear hcl
      have hat : Hid (Calls Tryz.prog 101 #[tstV t ⟨qa, qc, qb, qd⟩, .int .i64 (k + 1 : Nat), .int .i64 (failsTo l (k + 1))] wr fun e w' => e = .returned (.int .i64 (decAt t l k)) ∧ Below wr.heap.size wr w') :=
        Lib.hid (rat_any t ⟨qa, qc, qb, qd⟩ (k + 1) _ wr (h.out.to hbww.out) hbd (by omega) (by omega) (by have := vl.out.len; omega))
      have FS : failsTo l (k + 1) = failsTo l k + bi (gb l k) := rfl
      cases hg : gb l k
      case true =>
        rw [hg] at FS dl
        rw [bi_t] at FS
        rw [FS] at hat
        replace FS := Lib.hid FS
        replace hg := Lib.hid hg
        go_wp2_with fail
        refine hat.out.mono ?_
        rintro e w2 ⟨rfl, hb3⟩
        have hb4 := Lib.hid (below_of hbw hbw.size hb3)
        have hb5 := Lib.hid (below_of hbww.out hbww.out.size hb3)
        clear hb3
        by_cases c : decAt t l k = 0
        · have c' : (decAt t l k != 0) = false := by rw [bne_eq_false_iff_eq]; exact c
          have E := Lib.hid (hdec.out.trans (decF_next hlt c))
          replace c := Lib.hid c
          go_wp2
          go_roundw
          case rel => exact ⟨k + 1, by omega, by go_num, val_i FS.out.symm, fun j hj => by (rcases Nat.lt_succ_iff_lt_or_eq.1 hj with h | h; exact hall.out j h; rw [h]; exact c.out), E.out, hb4.out⟩
          case measure => simp [intOf]; omega
        · have c' : (decAt t l k != 0) = true := by rw [bne_iff_ne]; exact c
          have E := Lib.hid (hdec.out.trans (decF_stop hlt c))
          clear c
          go_wp2
          go_ret3
          rw [E.out, G.out]
          exact ⟨rfl, hb5.out⟩
      case false =>
        rw [hg] at FS dl
        rw [bi_f, Int.add_zero] at FS
        rw [FS] at hat
        replace FS := Lib.hid FS
        replace hg := Lib.hid hg
        go_wp2_with fail
        refine hat.out.mono ?_
        rintro e w2 ⟨rfl, hb3⟩
        have hb4 := Lib.hid (below_of hbw hbw.size hb3)
        have hb5 := Lib.hid (below_of hbww.out hbww.out.size hb3)
        clear hb3
        by_cases c : decAt t l k = 0
        · have c' : (decAt t l k != 0) = false := by rw [bne_eq_false_iff_eq]; exact c
          have E := Lib.hid (hdec.out.trans (decF_next hlt c))
          replace c := Lib.hid c
          go_wp2
          go_roundw
          case rel => exact ⟨k + 1, by omega, by go_num, val_i FS.out.symm, fun j hj => by (rcases Nat.lt_succ_iff_lt_or_eq.1 hj with h | h; exact hall.out j h; rw [h]; exact c.out), E.out, hb4.out⟩
          case measure => simp [intOf]; omega
        · have c' : (decAt t l k != 0) = true := by rw [bne_iff_ne]; exact c
          have E := Lib.hid (hdec.out.trans (decF_stop hlt c))
          clear c
          go_wp2
          go_ret3
          rw [E.out, G.out]
          exact ⟨rfl, hb5.out⟩
    · obtain rfl : k = l.length := by omega
      have E := Lib.hid (hdec.out.trans decF_end)
      go_wp2
      go_ret3
      rw [E.out, G.out]
      exact ⟨rfl, hbww.out⟩

end Go.Proofs.YtpoddmkimhkmoaaGreat
