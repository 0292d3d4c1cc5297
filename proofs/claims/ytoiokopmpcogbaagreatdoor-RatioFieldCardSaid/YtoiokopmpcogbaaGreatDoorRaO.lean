/-
  PLAIN: values of ratio's answers at small numbers.
  Conditions: those that each theorem names.
-/
import Derived.Test.YtoiokopmpcogbaaGreatDoorRaP
import Derived.Test.YtoiokopmpcogbaaGreatDoorRaL
namespace Go.Proofs.YtoiokopmpcogbaaGreatDoor
open Go.RowKit Go.Sv
/-- small enough -/
def sm (N : Nat) : Prop := (lim N).length ≤ 128
theorem sm_of {N : Nat} (h : N < 2 ^ 250) : sm N := lim_len_le.2 (by
  have h2 := Bp_mono (show 8 ≤ 128 by omega)
  have e : Bp 8 = 115792089237316195423570985008687907853269984665640564039457584007913129639936 := by decide
  have h1 : N < 1809251394333065553493296640760748560207343510400633813116524750123642650624 := h
  omega)
theorem sm_s {N : Nat} (h : N < 18446744073709551616) : sm N := sm_of (Nat.lt_trans h (by decide))
theorem vR_lim {n d : Nat} (hn : sm n) (hd : sm d) (z : d ≠ 0) (g : Nat.gcd n d = 1) : vR (lim n) (lim d) = true := by
  unfold vR
  rw [vN_lim hn, vN_lim hd, vl_lim, vl_lim, decide_eq_true z, decide_eq_true g]; rfl
theorem mul_lim {a b : Nat} (ha : sm a) (hb : sm b) (h : sm (a * b)) : mulE (lim a) (lim b) = 0 ∧ mulV (lim a) (lim b) = lim (a * b) := by
  obtain ⟨e1, e2⟩ := mul_v (vN_lim ha) (vN_lim hb)
  rw [e1, e2, vl_lim, vl_lim]
  exact ⟨if_neg (Nat.not_lt.2 h), if_neg (Nat.not_lt.2 h)⟩
theorem sum_lim {a b : Nat} (ha : sm a) (hb : sm b) (h : sm (a + b)) : sumE (lim a) (lim b) = 0 ∧ sumV (lim a) (lim b) = lim (a + b) := by
  obtain ⟨e1, e2⟩ := sum_v (vN_lim ha) (vN_lim hb)
  rw [e1, e2, vl_lim, vl_lim]
  exact ⟨if_neg (Nat.not_lt.2 h), if_neg (Nat.not_lt.2 h)⟩
theorem dif_lim {a b : Nat} (ha : sm a) (hb : sm b) (h : b ≤ a) : difE (lim a) (lim b) = 0 ∧ difV (lim a) (lim b) = lim (a - b) := by
  unfold difE difV
  rw [vN_lim ha, vN_lim hb, vl_lim, vl_lim, Bool.and_self, if_pos rfl, if_pos h, if_pos ⟨rfl, h⟩]
  exact ⟨rfl, rfl⟩
theorem dif_neg {a b : Nat} (ha : sm a) (hb : sm b) (h : a < b) : difE (lim a) (lim b) = 7 := by
  unfold difE
  rw [vN_lim ha, vN_lim hb, vl_lim, vl_lim, Bool.and_self, if_pos rfl, if_neg (Nat.not_le.2 h)]
section
variable {n d n2 d2 : Nat} (v1 : vR (lim n) (lim d) = true) (v2 : vR (lim n2) (lim d2) = true) (h1 : sm (n * d2)) (h2 : sm (n2 * d)) (h3 : sm (d * d2))
include v1 v2
theorem v_sm : sm n ∧ sm d ∧ sm n2 ∧ sm d2 := by
  obtain ⟨a, b, -, -⟩ := vR_pos v1
  obtain ⟨c, e, -, -⟩ := vR_pos v2
  exact ⟨(vN_can a).1, (vN_can b).1, (vN_can c).1, (vN_can e).1⟩
include h1 h2
theorem cr_lim' : crE (lim n) (lim d) (lim n2) (lim d2) = 0 ∧ crX (lim n) (lim d) (lim n2) (lim d2) = lim (n * d2) ∧ crY (lim n) (lim d) (lim n2) (lim d2) = lim (n2 * d) := by
  obtain ⟨a, b, c, e⟩ := v_sm v1 v2
  obtain ⟨m1, m2⟩ := mul_lim a e h1
  obtain ⟨m3, m4⟩ := mul_lim c b h2
  obtain ⟨x, y, z⟩ := cr_ok (an := lim n) (ad := lim d) (bn := lim n2) (bd := lim d2) (by rw [v1, v2]; rfl) m1
  rw [x, y, z, m2, m3, m4]
  exact ⟨rfl, rfl, rfl⟩
theorem cmp_val : crE (lim n) (lim d) (lim n2) (lim d2) = 0 ∧ rcV (lim n) (lim d) (lim n2) (lim d2) = cmpL (lim (n * d2)) (lim (n2 * d)) := by
  obtain ⟨x, y, z⟩ := cr_lim' v1 v2 h1 h2
  unfold rcV
  rw [x, y, z]
  exact ⟨rfl, rfl⟩
include h3
theorem add_val (h4 : sm (n * d2 + n2 * d)) : addE (lim n) (lim d) (lim n2) (lim d2) = 0 ∧ addN (lim n) (lim d) (lim n2) (lim d2) = rdN (n * d2 + n2 * d) (d * d2) ∧ addD (lim n) (lim d) (lim n2) (lim d2) = rdD (n * d2 + n2 * d) (d * d2) := by
  obtain ⟨a, b, c, e⟩ := v_sm v1 v2
  obtain ⟨x, y, z⟩ := cr_lim' v1 v2 h1 h2
  obtain ⟨m1, m2⟩ := mul_lim b e h3
  obtain ⟨s1, s2⟩ := sum_lim h1 h2 h4
  unfold addN addD addE
  rw [x, y, z, m1, m2, s1, s2]
  unfold gN gD
  rw [vl_lim, vl_lim]
  exact ⟨rfl, rfl, rfl⟩
theorem sub_val (h4 : n2 * d ≤ n * d2) : subE (lim n) (lim d) (lim n2) (lim d2) = 0 ∧ subN (lim n) (lim d) (lim n2) (lim d2) = rdN (n * d2 - n2 * d) (d * d2) ∧ subD (lim n) (lim d) (lim n2) (lim d2) = rdD (n * d2 - n2 * d) (d * d2) := by
  obtain ⟨a, b, c, e⟩ := v_sm v1 v2
  obtain ⟨x, y, z⟩ := cr_lim' v1 v2 h1 h2
  obtain ⟨m1, m2⟩ := mul_lim b e h3
  obtain ⟨s1, s2⟩ := dif_lim h1 h2 h4
  unfold subN subD subE
  rw [x, y, z, m1, m2, s1, s2]
  unfold gN gD
  rw [vl_lim, vl_lim]
  exact ⟨rfl, rfl, rfl⟩
theorem sub_neg (h4 : n * d2 < n2 * d) : subE (lim n) (lim d) (lim n2) (lim d2) = 7 ∧ subN (lim n) (lim d) (lim n2) (lim d2) = [] ∧ subD (lim n) (lim d) (lim n2) (lim d2) = [] := by
  obtain ⟨a, b, c, e⟩ := v_sm v1 v2
  obtain ⟨x, y, z⟩ := cr_lim' v1 v2 h1 h2
  obtain ⟨m1, m2⟩ := mul_lim b e h3
  have s1 := dif_neg h1 h2 h4
  unfold subN subD subE
  rw [x, y, z, m1, s1]
  exact ⟨rfl, rfl, rfl⟩
end
theorem prd_val {n d n2 d2 : Nat} (v1 : vR (lim n) (lim d) = true) (v2 : vR (lim n2) (lim d2) = true) (h1 : sm (n * n2)) (h2 : sm (d * d2)) : prdE (lim n) (lim d) (lim n2) (lim d2) = 0 ∧ prdN (lim n) (lim d) (lim n2) (lim d2) = rdN (n * n2) (d * d2) ∧ prdD (lim n) (lim d) (lim n2) (lim d2) = rdD (n * n2) (d * d2) := by
  obtain ⟨a, b, c, e⟩ := v_sm v1 v2
  obtain ⟨m1, m2⟩ := mul_lim a c h1
  obtain ⟨m3, m4⟩ := mul_lim b e h2
  unfold prdN prdD prdE
  rw [vE_ok (by rw [v1, v2]; rfl), m1, m2, m3, m4]
  unfold gN gD
  rw [vl_lim, vl_lim]
  exact ⟨rfl, rfl, rfl⟩
theorem mak_lim {a b : Nat} (ha : sm a) (hb : sm b) (hz : b ≠ 0) : makN (lim a) (lim b) = rdN a b ∧ makD (lim a) (lim b) = rdD a b ∧ makE (lim a) (lim b) = 0 := by
  have := mak_good (vN_lim ha) (vN_lim hb) (by rw [vl_lim]; exact hz)
  rw [vl_lim, vl_lim] at this
  exact this
theorem mak_zero {a b : Nat} (ha : sm a) (hb : sm b) (hz : b = 0) : makN (lim a) (lim b) = [] ∧ makD (lim a) (lim b) = [] ∧ makE (lim a) (lim b) = 8 := by
  have hv : (vN (lim a) && vN (lim b)) = true := by rw [vN_lim ha, vN_lim hb]; rfl
  unfold makN makD makE
  rw [if_pos hv, vl_lim, if_pos hz, if_neg (fun h => h.2 hz), if_neg (fun h => h.2 hz)]
  exact ⟨rfl, rfl, rfl⟩
/-- the examples of awake -/
theorem v13 : vR (lim 1) (lim 3) = true := vR_lim (sm_s (by decide)) (sm_s (by decide)) (by decide) (by decide)
theorem v16 : vR (lim 1) (lim 6) = true := vR_lim (sm_s (by decide)) (sm_s (by decide)) (by decide) (by decide)
theorem v23 : vR (lim 2) (lim 3) = true := vR_lim (sm_s (by decide)) (sm_s (by decide)) (by decide) (by decide)
theorem rd64 : rdN 6 4 = lim 3 ∧ rdD 6 4 = lim 2 := rd_eq (by decide) (by decide) (by decide) (by decide)
theorem rd13 : rdN 1 3 = lim 1 ∧ rdD 1 3 = lim 3 := rd_eq (by decide) (by decide) (by decide) (by decide)
theorem rd16 : rdN 1 6 = lim 1 ∧ rdD 1 6 = lim 6 := rd_eq (by decide) (by decide) (by decide) (by decide)
theorem rd23 : rdN 2 3 = lim 2 ∧ rdD 2 3 = lim 3 := rd_eq (by decide) (by decide) (by decide) (by decide)
theorem rd32 : rdN 3 2 = lim 3 ∧ rdD 3 2 = lim 2 := rd_eq (by decide) (by decide) (by decide) (by decide)
theorem rd12 : rdN 1 2 = lim 1 ∧ rdD 1 2 = lim 2 := rd_eq (by decide) (by decide) (by decide) (by decide)
theorem awk_add : addE (lim 1) (lim 3) (lim 1) (lim 6) = 0 ∧ addN (lim 1) (lim 3) (lim 1) (lim 6) = lim 1 ∧ addD (lim 1) (lim 3) (lim 1) (lim 6) = lim 2 := by
  obtain ⟨a, b, c⟩ := add_val v13 v16 (sm_s (by decide)) (sm_s (by decide)) (sm_s (by decide)) (sm_s (by decide))
  obtain ⟨e, f⟩ := rd_eq (N := 1 * 6 + 1 * 3) (D := 3 * 6) (n := 1) (d := 2) (by decide) (by decide) (by decide) (by decide)
  exact ⟨a, b.trans e, c.trans f⟩
theorem awk_sub : subE (lim 1) (lim 6) (lim 1) (lim 3) = 7 ∧ subN (lim 1) (lim 6) (lim 1) (lim 3) = [] ∧ subD (lim 1) (lim 6) (lim 1) (lim 3) = [] :=
  sub_neg v16 v13 (sm_s (by decide)) (sm_s (by decide)) (sm_s (by decide)) (by decide)
theorem awk_dec : dcV (lim 2) (lim 3) 3 = ⟨#[48, 46, 54, 54, 54]⟩ ∧ dcE (lim 2) (lim 3) 3 = 0 := by
  obtain ⟨a, b⟩ := dc_d (d := 3) v23 (by decide) (by rw [vl_lim]; exact Nat.not_lt.2 (sm_s (by decide)))
  refine ⟨Eq.trans a ?_, b⟩
  rw [vl_lim, vl_lim, show dcL 2 3 3 = [48, 46, 54, 54, 54] from by decide +kernel]
theorem awk_prs : p2N [52] [50] = [] ∧ p2D [52] [50] = [] ∧ p2E [52] [50] = 2 := by
  have ea : prsE [52] = 0 ∧ prsV [52] = lim 4 := by
    have h : txtOk [52] = true := by decide
    have hd : dval [52] = 4 := by decide
    unfold prsE prsV
    rw [if_pos h, if_pos h, hd]
    exact ⟨if_neg (Nat.not_lt.2 (sm_s (by decide))), if_neg (Nat.not_lt.2 (sm_s (by decide)))⟩
  have eb : prsE [50] = 0 ∧ prsV [50] = lim 2 := by
    have h : txtOk [50] = true := by decide
    have hd : dval [50] = 2 := by decide
    unfold prsE prsV
    rw [if_pos h, if_pos h, hd]
    exact ⟨if_neg (Nat.not_lt.2 (sm_s (by decide))), if_neg (Nat.not_lt.2 (sm_s (by decide)))⟩
  refine p2_c ea.1 eb.1 (c := false) (v := false) ?_ ?_ rfl
  · rw [eb.2, vl_lim]; rfl
  · rw [ea.2, eb.2]
    unfold vR
    rw [vl_lim, vl_lim, Bool.and_eq_false_iff]
    exact Or.inr rfl
end Go.Proofs.YtoiokopmpcogbaaGreatDoor
