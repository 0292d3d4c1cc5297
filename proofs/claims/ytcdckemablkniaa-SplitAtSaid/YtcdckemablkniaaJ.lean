/-
  PLAIN LAWS for SplitStages: which request belongs to which stage, and how many of a stage's requests go.
  Conditions: none.
-/
import Derived.Test.YtcdckemablkniaaI
namespace Go.Proofs.Ytcdckemablkniaa
open Go.RowKit Go.Sv

/-- the requests of the stages before i -/
def pre (l : Stg) : Nat → Nat
  | 0 => 0
  | i + 1 => pre l i + (sR l i).toNat
theorem pre_mono {l : Stg} {i j : Nat} (h : i ≤ j) : pre l i ≤ pre l j := by
  induction j with
  | zero => obtain rfl : i = 0 := by omega
            exact Nat.le_refl _
  | succ j ih =>
    rcases Nat.lt_or_ge i (j + 1) with h1 | h1
    · have := ih (by omega)
      simp only [pre]; omega
    · obtain rfl : i = j + 1 := by omega
      exact Nat.le_refl _
/-- the stage of request k -/
theorem loc_of {l : Stg} {k : Nat} : ∀ (f i : Nat), (∀ j, j < l.length → 1 ≤ sR l j) → l.length - i = f → i < l.length → pre l i ≤ k → k < pre l l.length →
    ∃ j, i ≤ j ∧ j < l.length ∧ pre l j ≤ k ∧ k < pre l (j + 1) ∧ locG l i ((k : Int) - pre l i) (l.length - i) = (j, (k : Int) - pre l j)
  | 0, i, _, hf, hi, _, _ => by omega
  | f + 1, i, hR, hf, hi, h1, h2 => by
    have hr := hR i hi
    by_cases hgo : i + 1 < l.length ∧ sR l i ≤ (k : Int) - pre l i
    · obtain ⟨g1, g2⟩ := hgo
      have hp : pre l (i + 1) = pre l i + (sR l i).toNat := rfl
      obtain ⟨j, j1, j2, j3, j4, j5⟩ := loc_of f (i + 1) hR (by omega) g1 (by omega) h2
      refine ⟨j, by omega, j2, j3, j4, ?_⟩
      rw [locG_go g1 g2]
      have e : (k : Int) - pre l i - sR l i = (k : Int) - pre l (i + 1) := by omega
      rw [e]
      exact j5
    · refine ⟨i, Nat.le_refl _, hi, h1, ?_, locG_stop hgo⟩
      have hp : pre l (i + 1) = pre l i + (sR l i).toNat := rfl
      by_cases g1 : i + 1 < l.length
      · have g2 : ¬ sR l i ≤ (k : Int) - pre l i := fun h => hgo ⟨g1, h⟩
        omega
      · have : i + 1 = l.length := by omega
        rw [this]; exact h2

/-- how many of stage i go among the first k requests -/
def wAt (l : Stg) (k i : Nat) : Int := cnt (sN l i) (sD l i) (min (k - pre l i) (sR l i).toNat)
theorem wAt_0 (l : Stg) (i : Nat) : wAt l 0 i = 0 := by simp [wAt, cnt]
theorem wAt_hit {l : Stg} {k j : Nat} (h1 : pre l j ≤ k) (h2 : k < pre l (j + 1)) : wAt l (k + 1) j = wAt l k j + (if goes (sN l j) (sD l j) ((k : Int) - pre l j) then 1 else 0) := by
  have hp : pre l (j + 1) = pre l j + (sR l j).toNat := rfl
  have e1 : min (k + 1 - pre l j) (sR l j).toNat = (k - pre l j) + 1 := by omega
  have e2 : min (k - pre l j) (sR l j).toNat = k - pre l j := by omega
  have e3 : ((k - pre l j : Nat) : Int) = (k : Int) - pre l j := by omega
  unfold wAt
  rw [e1, e2, cnt, e3]
theorem wAt_miss {l : Stg} {k j i : Nat} (h1 : pre l j ≤ k) (h2 : k < pre l (j + 1)) (hne : i ≠ j) : wAt l (k + 1) i = wAt l k i := by
  have hp : pre l (i + 1) = pre l i + (sR l i).toNat := rfl
  unfold wAt
  rcases Nat.lt_or_gt_of_ne hne with h | h
  · have := pre_mono (l := l) (show i + 1 ≤ j from h)
    have e : min (k + 1 - pre l i) (sR l i).toNat = min (k - pre l i) (sR l i).toNat := by omega
    rw [e]
  · have := pre_mono (l := l) (show j + 1 ≤ i from h)
    have e : min (k + 1 - pre l i) (sR l i).toNat = min (k - pre l i) (sR l i).toNat := by omega
    rw [e]
theorem wAt_end {l : Stg} {i : Nat} (hi : i < l.length) (h0 : 0 ≤ sN l i) (h1 : sN l i ≤ sD l i) (hb : 1 ≤ sD l i) (hr : 1 ≤ sR l i) : wAt l (pre l l.length) i = sR l i * sN l i / sD l i := by
  have hp : pre l (i + 1) = pre l i + (sR l i).toNat := rfl
  have := pre_mono (l := l) (show i + 1 ≤ l.length from hi)
  have e : min (pre l l.length - pre l i) (sR l i).toNat = (sR l i).toNat := by omega
  unfold wAt
  rw [e, cnt_eq _ _ h0 h1 (by omega)]
  have e2 : (((sR l i).toNat : Nat) : Int) = sR l i := by omega
  rw [e2]
theorem wAt_bd (l : Stg) (k i : Nat) : 0 ≤ wAt l k i ∧ wAt l k i ≤ k := by
  unfold wAt
  have := cnt_bd (sN l i) (sD l i) (min (k - pre l i) (sR l i).toNat)
  omega
/-- the row 'went' after k requests -/
def wRow (l : Stg) (k : Nat) : List Value := (List.range l.length).map fun i => .int .i64 (wAt l k i)
theorem wRow_get {l : Stg} {k i : Nat} (h : i < l.length) : (wRow l k)[i]? = some (.int .i64 (wAt l k i)) := by simp [wRow, h]
theorem wRow_len (l : Stg) (k : Nat) : (wRow l k).length = l.length := by simp [wRow]
theorem wRow_hit {l : Stg} {k j : Nat} (hj : j < l.length) (h1 : pre l j ≤ k) (h2 : k < pre l (j + 1)) (hg : goes (sN l j) (sD l j) ((k : Int) - pre l j) = true) :
    (wRow l k).set j (.int .i64 (wAt l k j + 1)) = wRow l (k + 1) := by
  apply List.ext_getElem?
  intro i
  by_cases hi : i < l.length
  · by_cases e : i = j
    · subst e
      rw [List.getElem?_set_self (by rw [wRow_len]; exact hi), wRow_get hi, wAt_hit h1 h2, if_pos hg]
    · rw [List.getElem?_set_ne (by omega), wRow_get hi, wRow_get hi, wAt_miss h1 h2 e]
  · rw [List.getElem?_eq_none (by rw [List.length_set, wRow_len]; omega), List.getElem?_eq_none (by rw [wRow_len]; omega)]
theorem wRow_miss {l : Stg} {k j : Nat} (h1 : pre l j ≤ k) (h2 : k < pre l (j + 1)) (hg : goes (sN l j) (sD l j) ((k : Int) - pre l j) = false) : wRow l k = wRow l (k + 1) := by
  unfold wRow
  apply List.map_congr_left
  intro i _
  by_cases e : i = j
  · subst e
    rw [wAt_hit h1 h2, if_neg (by simp [hg])]
    simp
  · rw [wAt_miss h1 h2 e]
theorem wRow_0 (l : Stg) : wRow l 0 = (madeCells #[Value.int .i64 0] l.length).toList := by
  rw [toList_madeCells_one]
  apply List.ext_getElem?
  intro i
  by_cases hi : i < l.length
  · rw [wRow_get hi, wAt_0]; simp [hi]
  · rw [List.getElem?_eq_none (by rw [wRow_len]; omega), List.getElem?_eq_none (by simp; omega)]
theorem atV_in {l : Stg} {k : Nat} (hE : rampE l = 0) (h2 : k < pre l l.length) (hk : k ≤ 1000000) : ∃ j, j < l.length ∧ pre l j ≤ k ∧ k < pre l (j + 1) ∧
    atV l k = .tuple #[.int .i64 j, .bool (goes (sN l j) (sD l j) ((k : Int) - pre l j)), .int .i64 0] := by
  obtain ⟨n1, n2, hall⟩ := rampE_all hE
  obtain ⟨j, _, j2, j3, j4, j5⟩ := loc_of (l := l) (k := k) _ 0 (fun j hj => (hall j hj).2.1) rfl n1 (Nat.zero_le _) h2
  refine ⟨j, j2, j3, j4, ?_⟩
  have e0 : (k : Int) - pre l 0 = k := by simp [pre]
  rw [e0] at j5
  simp only [Nat.sub_zero] at j5
  unfold atV atR
  rw [if_pos hE, if_pos (by omega), j5]
end Go.Proofs.Ytcdckemablkniaa
