/-
  PLAIN: the answers of ratio's Cmp, Add, Sub, Mul are those of the reference.
  Conditions: those that each theorem names.
-/
import Derived.Test.YtoiokopmpcogbaaGreatDoorRaI
namespace Go.Proofs.YtoiokopmpcogbaaGreatDoor
open Go.RowKit Go.Sv
theorem cut_03 (n : Nat) : cutE n = 0 ∨ cutE n = 3 := by
  unfold cutE
  split
  · exact Or.inr rfl
  · exact Or.inl rfl
theorem mul_v {a b : List Int} (va : vN a = true) (vb : vN b = true) : mulE a b = cutE (vl a * vl b) ∧ mulV a b = cutV (vl a * vl b) := by
  unfold mulE mulV
  rw [va, vb, Bool.and_self, if_pos rfl, if_pos rfl]
  exact ⟨rfl, rfl⟩
theorem sum_v {a b : List Int} (va : vN a = true) (vb : vN b = true) : sumE a b = cutE (vl a + vl b) ∧ sumV a b = cutV (vl a + vl b) := by
  unfold sumE sumV
  rw [va, vb, Bool.and_self, if_pos rfl, if_pos rfl]
  exact ⟨rfl, rfl⟩
theorem mul_03 {a b : List Int} (va : vN a = true) (vb : vN b = true) : mulE a b = 0 ∨ mulE a b = 3 := by rw [(mul_v va vb).1]; exact cut_03 _
theorem sum_03 {a b : List Int} (va : vN a = true) (vb : vN b = true) : sumE a b = 0 ∨ sumE a b = 3 := by rw [(sum_v va vb).1]; exact cut_03 _
theorem mak_good {n d : List Int} (vn : vN n = true) (vd : vN d = true) (hz : vl d ≠ 0) : makN n d = rdN (vl n) (vl d) ∧ makD n d = rdD (vl n) (vl d) ∧ makE n d = 0 := by
  have hv : (vN n && vN d) = true := by rw [vn, vd]; rfl
  exact ⟨if_pos ⟨hv, hz⟩, if_pos ⟨hv, hz⟩, by unfold makE; rw [if_pos hv, if_neg hz]⟩
/-- the program's answers -/
def addE (an ad bn bd : List Int) : Int := e3 (crE an ad bn bd) (sumE (crX an ad bn bd) (crY an ad bn bd)) (mulE ad bd)
def addN (an ad bn bd : List Int) : List Int := gN (addE an ad bn bd) (sumV (crX an ad bn bd) (crY an ad bn bd)) (mulV ad bd)
def addD (an ad bn bd : List Int) : List Int := gD (addE an ad bn bd) (sumV (crX an ad bn bd) (crY an ad bn bd)) (mulV ad bd)
def subE (an ad bn bd : List Int) : Int := e3 (crE an ad bn bd) (mulE ad bd) (difE (crX an ad bn bd) (crY an ad bn bd))
def subN (an ad bn bd : List Int) : List Int := gN (subE an ad bn bd) (difV (crX an ad bn bd) (crY an ad bn bd)) (mulV ad bd)
def subD (an ad bn bd : List Int) : List Int := gD (subE an ad bn bd) (difV (crX an ad bn bd) (crY an ad bn bd)) (mulV ad bd)
def prdE (an ad bn bd : List Int) : Int := e3 (vE an ad bn bd) (mulE an bn) (mulE ad bd)
def prdN (an ad bn bd : List Int) : List Int := gN (prdE an ad bn bd) (mulV an bn) (mulV ad bd)
def prdD (an ad bn bd : List Int) : List Int := gD (prdE an ad bn bd) (mulV an bn) (mulV ad bd)
theorem vR_not {an ad bn bd : List Int} (hv : ¬ (vR an ad && vR bn bd) = true) : vE an ad bn bd = 1 ∧ crE an ad bn bd = 1 ∧ ∀ f, rcE an ad bn bd f = 1 := by
  have h := Bool.eq_false_iff.2 hv
  refine ⟨vE_no h, (cr_no h).2.2, fun f => ?_⟩
  unfold rcE
  rw [vE_no h]
  rfl
theorem g_no {E K : Int} (h : E = K) (hK : ¬ K = 0) (x y : List Int) : gN E x y = [] ∧ gD E x y = [] := by subst h; exact ⟨if_neg hK, if_neg hK⟩
theorem q_no {p q : Int} (h : ¬ p = 0 ∨ ¬ q = 0) (l : List Int) : qN p q l = [] := by
  unfold qN
  rcases h with h | h
  · rw [if_neg h]
  · by_cases c : p = 0
    · rw [if_pos c, if_neg h]
    · rw [if_neg c]
theorem add_ref (an ad bn bd : List Int) :
    qN (rcE an ad bn bd true) (sumE (pX (rcE an ad bn bd true) (mulV an bd)) (pX (rcE an ad bn bd true) (mulV bn ad))) (makN (sumV (pX (rcE an ad bn bd true) (mulV an bd)) (pX (rcE an ad bn bd true) (mulV bn ad))) (pX (rcE an ad bn bd true) (thZ true ad bd))) = addN an ad bn bd ∧
    qN (rcE an ad bn bd true) (sumE (pX (rcE an ad bn bd true) (mulV an bd)) (pX (rcE an ad bn bd true) (mulV bn ad))) (makD (sumV (pX (rcE an ad bn bd true) (mulV an bd)) (pX (rcE an ad bn bd true) (mulV bn ad))) (pX (rcE an ad bn bd true) (thZ true ad bd))) = addD an ad bn bd ∧
    e3 (rcE an ad bn bd true) (sumE (pX (rcE an ad bn bd true) (mulV an bd)) (pX (rcE an ad bn bd true) (mulV bn ad))) (makE (sumV (pX (rcE an ad bn bd true) (mulV an bd)) (pX (rcE an ad bn bd true) (mulV bn ad))) (pX (rcE an ad bn bd true) (thZ true ad bd))) = addE an ad bn bd := by
  by_cases hv : (vR an ad && vR bn bd) = true
  · have hv0 := vE_ok hv
    obtain ⟨ga, gb⟩ := (Bool.and_eq_true _ _).mp hv
    obtain ⟨vn, vd, zd, -⟩ := vR_pos ga
    obtain ⟨vn2, vd2, zd2, -⟩ := vR_pos gb
    by_cases h0 : mulE an bd = 0 ∧ mulE bn ad = 0
    · obtain ⟨h1, h2⟩ := h0
      obtain ⟨eX, eY, eE⟩ := cr_ok hv h1
      rw [h2] at eE
      obtain ⟨-, vX, -⟩ := mul_good h1
      obtain ⟨-, vY, -⟩ := mul_good h2
      rcases mul_03 vd vd2 with h3 | h3
      · have R0 : rcE an ad bn bd true = 0 := by unfold rcE thE; rw [hv0, h1, h2, if_pos rfl, h3]; rfl
        obtain ⟨-, vZ, eZ⟩ := mul_good h3
        have hz : vl (mulV ad bd) ≠ 0 := by rw [eZ]; exact Nat.mul_ne_zero zd zd2
        rw [R0]
        unfold addN addD addE
        rw [eX, eY, eE, h3]
        show qN 0 (sumE (mulV an bd) (mulV bn ad)) (makN (sumV (mulV an bd) (mulV bn ad)) (mulV ad bd)) = _ ∧ qN 0 (sumE (mulV an bd) (mulV bn ad)) (makD (sumV (mulV an bd) (mulV bn ad)) (mulV ad bd)) = _ ∧ e3 0 (sumE (mulV an bd) (mulV bn ad)) (makE (sumV (mulV an bd) (mulV bn ad)) (mulV ad bd)) = _
        rcases sum_03 vX vY with h4 | h4
        · obtain ⟨-, vS, -⟩ := sum_good h4
          obtain ⟨m1, m2, m3⟩ := mak_good vS vZ hz
          rw [h4, m1, m2, m3]
          exact ⟨rfl, rfl, rfl⟩
        · rw [h4]; exact ⟨rfl, rfl, rfl⟩
      · have R3 : rcE an ad bn bd true = 3 := by unfold rcE thE; rw [hv0, h1, h2, if_pos rfl, h3]; rfl
        have a3 : addE an ad bn bd = 3 := by
          unfold addE
          rw [eX, eY, eE, h3]
          rcases sum_03 vX vY with h4 | h4 <;> rw [h4] <;> rfl
        unfold addN addD
        rw [R3, a3]
        exact ⟨rfl, rfl, rfl⟩
    · have R3 : rcE an ad bn bd true = 3 := by
        unfold rcE
        rw [hv0]
        rcases mul_03 vn vd2 with h1 | h1
        · rcases mul_03 vn2 vd with h2 | h2
          · exact absurd ⟨h1, h2⟩ h0
          · rw [h1, h2]; rfl
        · rw [h1]; rfl
      have C3 : crE an ad bn bd = 3 := by
        unfold crE
        rw [if_pos hv]
        rcases mul_03 vn vd2 with h1 | h1
        · rcases mul_03 vn2 vd with h2 | h2
          · exact absurd ⟨h1, h2⟩ h0
          · rw [h1, h2]; rfl
        · rw [h1]; rfl
      have a3 : addE an ad bn bd = 3 := by unfold addE; rw [C3]; rfl
      unfold addN addD
      rw [R3, a3]
      exact ⟨rfl, rfl, rfl⟩
  · obtain ⟨-, c1, r1⟩ := vR_not hv
    have a1 : addE an ad bn bd = 1 := by unfold addE; rw [c1]; rfl
    unfold addN addD
    rw [r1, a1]
    exact ⟨rfl, rfl, rfl⟩
theorem sub_ref (an ad bn bd : List Int) :
    qN (rcE an ad bn bd true) (difE (pX (rcE an ad bn bd true) (mulV an bd)) (pX (rcE an ad bn bd true) (mulV bn ad))) (makN (difV (pX (rcE an ad bn bd true) (mulV an bd)) (pX (rcE an ad bn bd true) (mulV bn ad))) (pX (rcE an ad bn bd true) (thZ true ad bd))) = subN an ad bn bd ∧
    qN (rcE an ad bn bd true) (difE (pX (rcE an ad bn bd true) (mulV an bd)) (pX (rcE an ad bn bd true) (mulV bn ad))) (makD (difV (pX (rcE an ad bn bd true) (mulV an bd)) (pX (rcE an ad bn bd true) (mulV bn ad))) (pX (rcE an ad bn bd true) (thZ true ad bd))) = subD an ad bn bd ∧
    e3 (rcE an ad bn bd true) (difE (pX (rcE an ad bn bd true) (mulV an bd)) (pX (rcE an ad bn bd true) (mulV bn ad))) (makE (difV (pX (rcE an ad bn bd true) (mulV an bd)) (pX (rcE an ad bn bd true) (mulV bn ad))) (pX (rcE an ad bn bd true) (thZ true ad bd))) = subE an ad bn bd := by
  by_cases hv : (vR an ad && vR bn bd) = true
  · have hv0 := vE_ok hv
    obtain ⟨ga, gb⟩ := (Bool.and_eq_true _ _).mp hv
    obtain ⟨vn, vd, zd, -⟩ := vR_pos ga
    obtain ⟨vn2, vd2, zd2, -⟩ := vR_pos gb
    by_cases h0 : mulE an bd = 0 ∧ mulE bn ad = 0
    · obtain ⟨h1, h2⟩ := h0
      obtain ⟨eX, eY, eE⟩ := cr_ok hv h1
      rw [h2] at eE
      obtain ⟨lX, vX, -⟩ := mul_good h1
      obtain ⟨-, vY, -⟩ := mul_good h2
      rcases mul_03 vd vd2 with h3 | h3
      · have R0 : rcE an ad bn bd true = 0 := by unfold rcE thE; rw [hv0, h1, h2, if_pos rfl, h3]; rfl
        obtain ⟨-, vZ, eZ⟩ := mul_good h3
        have hz : vl (mulV ad bd) ≠ 0 := by rw [eZ]; exact Nat.mul_ne_zero zd zd2
        rw [R0]
        unfold subN subD subE
        rw [eX, eY, eE, h3]
        show qN 0 (difE (mulV an bd) (mulV bn ad)) (makN (difV (mulV an bd) (mulV bn ad)) (mulV ad bd)) = _ ∧ qN 0 (difE (mulV an bd) (mulV bn ad)) (makD (difV (mulV an bd) (mulV bn ad)) (mulV ad bd)) = _ ∧ e3 0 (difE (mulV an bd) (mulV bn ad)) (makE (difV (mulV an bd) (mulV bn ad)) (mulV ad bd)) = _
        by_cases h4 : difE (mulV an bd) (mulV bn ad) = 0
        · obtain ⟨-, vS, -⟩ := dif_good lX h4
          obtain ⟨m1, m2, m3⟩ := mak_good vS vZ hz
          rw [h4, m1, m2, m3]
          exact ⟨rfl, rfl, rfl⟩
        · obtain ⟨q1, q2, q3⟩ := q_b (difE (mulV an bd) (mulV bn ad)) (makE (difV (mulV an bd) (mulV bn ad)) (mulV ad bd)) (makN (difV (mulV an bd) (mulV bn ad)) (mulV ad bd)) (makD (difV (mulV an bd) (mulV bn ad)) (mulV ad bd)) h4
          have e : e3 0 0 (difE (mulV an bd) (mulV bn ad)) = difE (mulV an bd) (mulV bn ad) := rfl
          obtain ⟨g1, g2⟩ := g_no e h4 (difV (mulV an bd) (mulV bn ad)) (mulV ad bd)
          rw [q1, q2, q3, g1, g2]
          exact ⟨rfl, rfl, rfl⟩
      · have R3 : rcE an ad bn bd true = 3 := by unfold rcE thE; rw [hv0, h1, h2, if_pos rfl, h3]; rfl
        have a3 : subE an ad bn bd = 3 := by
          unfold subE
          rw [eE, h3]
          rfl
        unfold subN subD
        rw [R3, a3]
        exact ⟨rfl, rfl, rfl⟩
    · have R3 : rcE an ad bn bd true = 3 := by
        unfold rcE
        rw [hv0]
        rcases mul_03 vn vd2 with h1 | h1
        · rcases mul_03 vn2 vd with h2 | h2
          · exact absurd ⟨h1, h2⟩ h0
          · rw [h1, h2]; rfl
        · rw [h1]; rfl
      have C3 : crE an ad bn bd = 3 := by
        unfold crE
        rw [if_pos hv]
        rcases mul_03 vn vd2 with h1 | h1
        · rcases mul_03 vn2 vd with h2 | h2
          · exact absurd ⟨h1, h2⟩ h0
          · rw [h1, h2]; rfl
        · rw [h1]; rfl
      have a3 : subE an ad bn bd = 3 := by unfold subE; rw [C3]; rfl
      unfold subN subD
      rw [R3, a3]
      exact ⟨rfl, rfl, rfl⟩
  · obtain ⟨-, c1, r1⟩ := vR_not hv
    have a1 : subE an ad bn bd = 1 := by unfold subE; rw [c1]; rfl
    unfold subN subD
    rw [r1, a1]
    exact ⟨rfl, rfl, rfl⟩
theorem mul_ref (an ad bn bd : List Int) :
    qM (vE an ad bn bd) (mulE an bn) (mulE ad bd) (makN (mulV an bn) (mulV ad bd)) = prdN an ad bn bd ∧
    qM (vE an ad bn bd) (mulE an bn) (mulE ad bd) (makD (mulV an bn) (mulV ad bd)) = prdD an ad bn bd ∧
    rM (vE an ad bn bd) (mulE an bn) (mulE ad bd) (makE (mulV an bn) (mulV ad bd)) = prdE an ad bn bd := by
  unfold prdN prdD prdE
  by_cases hv : (vR an ad && vR bn bd) = true
  · have hv0 := vE_ok hv
    obtain ⟨ga, gb⟩ := (Bool.and_eq_true _ _).mp hv
    obtain ⟨vn, vd, zd, -⟩ := vR_pos ga
    obtain ⟨vn2, vd2, zd2, -⟩ := vR_pos gb
    rw [hv0]
    rcases mul_03 vn vn2 with h1 | h1
    · rcases mul_03 vd vd2 with h2 | h2
      · obtain ⟨-, vX, -⟩ := mul_good h1
        obtain ⟨-, vZ, eZ⟩ := mul_good h2
        obtain ⟨m1, m2, m3⟩ := mak_good vX vZ (by rw [eZ]; exact Nat.mul_ne_zero zd zd2)
        rw [h1, h2, m1, m2, m3]
        exact ⟨rfl, rfl, rfl⟩
      · rw [h1, h2]; exact ⟨rfl, rfl, rfl⟩
    · rw [h1]; exact ⟨rfl, rfl, rfl⟩
  · rw [(vR_not hv).1]
    exact ⟨rfl, rfl, rfl⟩
theorem cmp_ref (an ad bn bd : List Int) : rrcV an ad bn bd = rcV an ad bn bd ∧ rcE an ad bn bd false = crE an ad bn bd := by
  unfold rrcV rcV
  by_cases hv : (vR an ad && vR bn bd) = true
  · have hv0 := vE_ok hv
    obtain ⟨ga, gb⟩ := (Bool.and_eq_true _ _).mp hv
    obtain ⟨vn, vd, zd, -⟩ := vR_pos ga
    obtain ⟨vn2, vd2, zd2, -⟩ := vR_pos gb
    rcases mul_03 vn vd2 with h1 | h1
    · obtain ⟨eX, eY, eE⟩ := cr_ok hv h1
      have R : rcE an ad bn bd false = mulE bn ad := by
        unfold rcE thE
        rw [hv0, h1, if_neg (by decide)]
        rcases mul_03 vn2 vd with h2 | h2 <;> rw [h2] <;> rfl
      rw [R, eX, eY, eE]
      by_cases c : mulE bn ad = 0
      · rw [c]; exact ⟨rfl, rfl⟩
      · rw [if_neg c, if_neg c]; exact ⟨rfl, rfl⟩
    · obtain ⟨eX, eY, eE⟩ := cr_big hv (by rw [h1]; decide)
      have R : rcE an ad bn bd false = 3 := by
        unfold rcE
        rw [hv0, h1]
        rfl
      rw [R, eE, h1]
      exact ⟨rfl, rfl⟩
  · obtain ⟨-, c1, r1⟩ := vR_not hv
    rw [r1, c1]
    exact ⟨rfl, rfl⟩
/-- what is in lowest terms and has the same value -/
theorem rd_eq {N D n d : Nat} (hD : 0 < D) (hd : 0 < d) (hg : Nat.gcd n d = 1) (h : N * d = n * D) : rdN N D = lim n ∧ rdD N D = lim d := by
  have hG : 0 < Nat.gcd N D := Nat.gcd_pos_of_pos_right _ hD
  have e1 : d ∣ D := by
    have : d ∣ n * D := ⟨N, by rw [← h, Nat.mul_comm]⟩
    exact (Nat.Coprime.dvd_of_dvd_mul_left (Nat.coprime_comm.1 hg) this)
  obtain ⟨k, rfl⟩ := e1
  have hk : 0 < k := Nat.pos_of_ne_zero fun e => by rw [e] at hD; omega
  have eN : N = n * k := by
    have : N * d = (n * k) * d := by rw [h, Nat.mul_assoc, Nat.mul_comm d k]
    exact Nat.eq_of_mul_eq_mul_right hd this
  subst eN
  unfold rdN rdD
  rw [Nat.gcd_mul_right, hg, Nat.one_mul, Nat.mul_div_cancel _ hk, Nat.mul_div_cancel _ hk]
  exact ⟨rfl, rfl⟩
/-- the value of a fraction in lowest terms -/
theorem rd_val {N D : Nat} (hD : 0 < D) : ∃ n d : Nat, rdN N D = lim n ∧ rdD N D = lim d ∧ 0 < d ∧ Nat.gcd n d = 1 ∧ N * d = n * D ∧ n ≤ N ∧ d ≤ D := by
  have hG : 0 < Nat.gcd N D := Nat.gcd_pos_of_pos_right _ hD
  refine ⟨N / Nat.gcd N D, D / Nat.gcd N D, rfl, rfl, Nat.div_pos (Nat.le_of_dvd hD (Nat.gcd_dvd_right _ _)) hG, ?_, ?_, Nat.div_le_self _ _, Nat.div_le_self _ _⟩
  · exact Nat.gcd_div_gcd_div_gcd_of_pos_right hD
  · have a := Nat.div_mul_cancel (Nat.gcd_dvd_left N D)
    have b := Nat.div_mul_cancel (Nat.gcd_dvd_right N D)
    generalize N / Nat.gcd N D = x at a ⊢
    generalize D / Nat.gcd N D = y at b ⊢
    generalize Nat.gcd N D = g at a b
    subst a b
    rw [Nat.mul_assoc, Nat.mul_comm g y]
end Go.Proofs.YtoiokopmpcogbaaGreatDoor
