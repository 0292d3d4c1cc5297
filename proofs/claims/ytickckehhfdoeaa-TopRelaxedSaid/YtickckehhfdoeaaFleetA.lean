/-
  CONTRACTS of fleet.within, fleet.kind, fleet.matrix (with its closure) and of the reference's square and Stored.
  Conditions: those that each theorem names.
-/
import Derived.Test.YtickckehhfdoeaaProg
import Derived.Test.YtickckehhfdoeaaProb
namespace Go.Proofs.Ytickckehhfdoeaa
open Go.RowKit Go.Sv

theorem within_any (k n : Int) (w : World) : Calls Try.prog 65 #[.int .i64 k, .int .i64 n] w fun e w' => e = .returned (.bool (win k n)) ∧ w = w' := by
  by_cases h1 : 0 ≤ k
  · by_cases h2 : k < n
    · have E := Lib.hid (win_iff.2 ⟨h1, h2⟩)
      go_enter Try.func65, Try.ntmps65
      go_wp2
      go_ret
      exact ⟨ret_b (E.out.symm ▸ by simp []), rfl⟩
    · have E : Hid (win k n = false) := Lib.hid (win_no.2 (by omega))
      go_enter Try.func65, Try.ntmps65
      go_wp2
      go_ret
      exact ⟨ret_b (E.out.symm ▸ by simp; try omega), rfl⟩
  · have E : Hid (win k n = false) := Lib.hid (win_no.2 (by omega))
    go_enter Try.func65, Try.ntmps65
    go_wp2
    go_ret
    exact ⟨ret_b (E.out.symm ▸ by simp; try omega), rfl⟩

theorem kind_any (k : Int) (aw : Bool) (w : World) : Calls Try.prog 85 #[.int .i64 k, .bool aw] w fun e w' => e = .returned (.bool (kindB k aw)) ∧ w = w' := by
  have E : Hid (kindB k aw = decide (k = 1 ∨ k = 2 ∨ (k = 3 ∨ k = 4) ∧ aw = false)) := Lib.hid rfl
  by_cases h1 : k = 1
  · subst h1
    go_enter Try.func85, Try.ntmps85
    go_wp2
    go_ret
    exact ⟨ret_b (by rw [E.out]; simp), rfl⟩
  by_cases h2 : k = 2
  · subst h2
    go_enter Try.func85, Try.ntmps85
    go_wp2
    go_ret
    exact ⟨ret_b (by rw [E.out]; simp), rfl⟩
  by_cases h3 : k = 3
  · subst h3
    go_enter Try.func85, Try.ntmps85
    go_wp2
    go_ret
    exact ⟨ret_b (by rw [E.out]; cases aw <;> simp), rfl⟩
  by_cases h4 : k = 4
  · subst h4
    go_enter Try.func85, Try.ntmps85
    go_wp2
    go_ret
    exact ⟨ret_b (by rw [E.out]; cases aw <;> simp), rfl⟩
  have e1 : (k == 1) = false := by simpa using h1
  have e2 : (k == 2) = false := by simpa using h2
  have e3 : (k == 3) = false := by simpa using h3
  have e4 : (k == 4) = false := by simpa using h4
  have F : Hid (kindB k aw = false) := Lib.hid (by rw [E.out]; simp [h1, h2, h3, h4])
  clear h1 h2 h3 h4 E
  go_enter Try.func85, Try.ntmps85
  go_wp2
  go_ret
  exact ⟨ret_b F.out.symm, rfl⟩

/-- the closure of matrix: is the row of another length? -/
theorem rowlen_any (A : Option Addr) (n c : Nat) (m : Int) (b : Nat) (w : World) (hc : w.cell? ⟨b, 0, none⟩ = some (.int .i64 m)) :
    Calls Try.prog 99 #[.slice A n c, .pointer (some ⟨b, 0, none⟩)] w fun e w' => e = .returned (.bool ((n : Int) != m)) ∧ w = w' := by
  go_enter Try.func99, Try.ntmps99
  go_wp2
  go_ret
  exact ⟨rfl, rfl⟩

/-- the first row of another length -/
def badFrom (m : List (List Bool)) (k : Int) (i : Nat) : Nat → Int
  | 0 => -1
  | f + 1 => if (mlen m i : Int) = k then badFrom m k (i + 1) f else i
theorem badFrom_next {m : List (List Bool)} {k : Int} {i : Nat} (hi : i < m.length) (h : (mlen m i : Int) = k) : badFrom m k i (m.length - i) = badFrom m k (i + 1) (m.length - (i + 1)) := by
  obtain ⟨f, hf⟩ : ∃ f, m.length - i = f + 1 := ⟨m.length - i - 1, by omega⟩
  have e : m.length - (i + 1) = f := by omega
  rw [hf, badFrom, if_pos h, e]
theorem badFrom_hit {m : List (List Bool)} {k : Int} {i : Nat} (hi : i < m.length) (h : ¬ (mlen m i : Int) = k) : badFrom m k i (m.length - i) = i := by
  obtain ⟨f, hf⟩ : ∃ f, m.length - i = f + 1 := ⟨m.length - i - 1, by omega⟩
  rw [hf, badFrom, if_neg h]
theorem badFrom_sq {m : List (List Bool)} {k : Int} : ∀ (f i : Nat), i + f = m.length → (badFrom m k i f < 0 ↔ ∀ j, i ≤ j → j < m.length → (mlen m j : Int) = k)
  | 0, i, h => by
    refine ⟨fun _ j h1 h2 => by omega, fun _ => by simp [badFrom]⟩
  | f + 1, i, h => by
    by_cases e : (mlen m i : Int) = k
    · rw [badFrom, if_pos e, badFrom_sq f (i + 1) (by omega)]
      refine ⟨fun g j h1 h2 => ?_, fun g j h1 h2 => g j (by omega) h2⟩
      by_cases hj : j = i
      · rw [hj]; exact e
      · exact g j (by omega) h2
    · rw [badFrom, if_neg e]
      refine ⟨fun g => by omega, fun g => (e (g i (Nat.le_refl _) (by omega))).elim⟩

set_option maxHeartbeats 1000000 in
theorem indexFunc_any (A : Option Addr) (c : Nat) (m : List (List Bool)) (k : Int) (b : Nat) (w : World) (B : Nat) (ha : RMat w B A m) (hc : w.cell? ⟨b, 0, none⟩ = some (.int .i64 k)) (hm : m.length ≤ 9223372036854775807) :
    Calls Try.prog 101 #[.slice A m.length c, .func (.func 99) #[] #[.pointer (some ⟨b, 0, none⟩)]] w fun e w' => e = .returned (.int .i64 (badFrom m k 0 m.length)) ∧ w = w' := by
  obtain ⟨r, h1, h2⟩ := ha
  replace h2 := Lib.hid h2
  go_enter Try.func101, Try.ntmps101
  go_wp2
  go_loop [5, 8] (fun _ i => ∃ j : Nat, j ≤ m.length ∧ i = .int .i64 j ∧ badFrom m k 0 m.length = badFrom m k j (m.length - j)) (fun _ i => m.length - (intOf i).toNat)
  case atStart => exact ⟨0, Nat.zero_le _, rfl, rfl⟩
  case round =>
    obtain ⟨j, hj, rfl, hb⟩ := hrel
    replace hb := Lib.hid hb
    by_cases hlt : j < m.length
    · obtain ⟨bb, off, rfl, _, hcell⟩ := h1 (by omega)
      have c1 := hcell j hlt
      replace h1 := Lib.hid h1
      clear hcell
      by_cases he : (mlen m j : Int) = k
      · have E := Lib.hid (hb.out.trans (badFrom_next hlt he))
        have hx : ((mlen m j : Int) != k) = false := by rw [bne_eq_false_iff_eq]; exact he
        replace he := Lib.hid he
        go_wp2_with (go_at_call 99; refine (rowlen_any _ _ _ k b _ hc).mono ?_; rintro e w' ⟨rfl, rfl⟩)
        go_round
        case rel => exact ⟨j + 1, by omega, by go_num, E.out⟩
        case measure => simp [intOf]; omega
      · have E := Lib.hid (hb.out.trans (badFrom_hit hlt he))
        have hx : ((mlen m j : Int) != k) = true := by rw [bne_iff_ne]; exact he
        replace he := Lib.hid he
        go_wp2_with (go_at_call 99; refine (rowlen_any _ _ _ k b _ hc).mono ?_; rintro e w' ⟨rfl, rfl⟩)
        go_ret
        exact ⟨ret_i E.out.symm, rfl⟩
    · obtain rfl : j = m.length := by omega
      have E : Hid (badFrom m k 0 m.length = -1) := Lib.hid (hb.out.trans (by rw [Nat.sub_self]; rfl))
      replace h1 := Lib.hid h1
      go_wp2
      go_ret
      exact ⟨ret_i E.out.symm, rfl⟩

theorem containsFunc_any (A : Option Addr) (c : Nat) (m : List (List Bool)) (k : Int) (b : Nat) (w : World) (B : Nat) (ha : RMat w B A m) (hc : w.cell? ⟨b, 0, none⟩ = some (.int .i64 k)) (hm : m.length ≤ 9223372036854775807) :
    Calls Try.prog 98 #[.slice A m.length c, .func (.func 99) #[] #[.pointer (some ⟨b, 0, none⟩)]] w fun e w' => e = .returned (.bool (decide (0 ≤ badFrom m k 0 m.length))) ∧ w = w' := by
  replace ha := Lib.hid ha
  replace hc := Lib.hid hc
  go_enter Try.func98, Try.ntmps98
  go_wp2_with (go_at_call 101; refine (indexFunc_any _ _ _ k b _ B ha.out hc.out hm).mono ?_; rintro e w' ⟨rfl, rfl⟩)
  go_ret
  exact ⟨rfl, rfl⟩

theorem matrix_any (A : Option Addr) (c : Nat) (m : List (List Bool)) (n k : Int) (w : World) (B : Nat) (hB : B ≤ w.heap.size) (ha : RMat w B A m) (hm : m.length ≤ 9223372036854775807) :
    Calls Try.prog 86 #[.slice A m.length c, .int .i64 n, .int .i64 k] w fun e w' => e = .returned (.bool (sq m n k)) ∧ Below w.heap.size w w' := by
  have hal : ∀ o : Obj, Below B w (w.alloc o) := fun o => (Below.refl _ _).alloc hB o
  replace ha := Lib.hid ha
  by_cases hn : (m.length : Int) = n
  · have hx : ((m.length : Int) == n) = true := by rw [beq_iff_eq]; exact hn
    have E : Hid (sq m n k = !decide (0 ≤ badFrom m k 0 m.length)) := Lib.hid (by
      have := badFrom_sq (m := m) (k := k) m.length 0 (by omega)
      unfold sq
      rw [Bool.eq_iff_iff]
      simp only [decide_eq_true_eq, Bool.not_eq_true', decide_eq_false_iff_not, Int.not_le, this]
      exact ⟨fun h j _ hj => h.2 j hj, fun h => ⟨hn, fun j hj => h j (Nat.zero_le _) hj⟩⟩)
    replace hn := Lib.hid hn
    go_enter Try.func86, Try.ntmps86
    go_wp2_with (go_at_call 98; refine (containsFunc_any _ _ _ k w.heap.size _ B (ha.out.below (hal _)) (by simp) hm).mono ?_; rintro e w' ⟨rfl, rfl⟩)
    go_ret
    exact ⟨ret_b (by rw [E.out]), (Below.refl _ _).alloc (Nat.le_refl _) _⟩
  · have hx : ((m.length : Int) == n) = false := by rw [beq_eq_false_iff_ne]; exact hn
    have E : Hid (sq m n k = false) := Lib.hid (by unfold sq; rw [decide_eq_false_iff_not]; exact fun h => hn h.1)
    clear hn
    go_enter Try.func86, Try.ntmps86
    go_wp2
    go_ret
    exact ⟨ret_b E.out.symm, (Below.refl _ _).alloc (Nat.le_refl _) _⟩

set_option maxHeartbeats 1000000 in
theorem square_any (A : Option Addr) (c : Nat) (m : List (List Bool)) (n k : Int) (w : World) (B : Nat) (ha : RMat w B A m) (hm : m.length ≤ 9223372036854775807) :
    Calls Try.prog 79 #[.slice A m.length c, .int .i64 n, .int .i64 k] w fun e w' => e = .returned (.bool (sq m n k)) ∧ w = w' := by
  by_cases hn : (m.length : Int) = n
  · subst hn
    have hx : ((m.length : Int) != (m.length : Int)) = false := by simp
    obtain ⟨r, h1, h2⟩ := ha
    replace h2 := Lib.hid h2
    go_enter Try.func79, Try.ntmps79
    go_wp2
    go_loop [7] (fun i => ∃ j : Nat, j ≤ m.length ∧ i = .int .i64 j ∧ ∀ t, t < j → (mlen m t : Int) = k) (fun i => m.length - (intOf i).toNat)
    case atStart => exact ⟨0, Nat.zero_le _, rfl, fun t ht => by omega⟩
    case round =>
      obtain ⟨j, hj, rfl, hb⟩ := hrel
      replace hb := Lib.hid hb
      by_cases hlt : j < m.length
      · obtain ⟨bb, off, rfl, _, hcell⟩ := h1 (by omega)
        have c1 := hcell j hlt
        replace h1 := Lib.hid h1
        clear hcell
        by_cases he : (mlen m j : Int) = k
        · have hx : ((mlen m j : Int) != k) = false := by rw [bne_eq_false_iff_eq]; exact he
          replace he := Lib.hid he
          go_wp2
          go_round
          case rel => exact ⟨j + 1, by omega, by go_num, fun t ht => by (rcases Nat.lt_succ_iff_lt_or_eq.1 ht with h | h; exact hb.out t h; rw [h]; exact he.out)⟩
          case measure => simp [intOf]; omega
        · have hx : ((mlen m j : Int) != k) = true := by rw [bne_iff_ne]; exact he
          have E : Hid (sq m m.length k = false) := Lib.hid (by unfold sq; rw [decide_eq_false_iff_not]; exact fun h => he (h.2 j hlt))
          clear he
          go_wp2
          go_ret
          exact ⟨ret_b E.out.symm, rfl⟩
      · obtain rfl : j = m.length := by omega
        have E : Hid (sq m m.length k = true) := Lib.hid (by unfold sq; rw [decide_eq_true_eq]; exact ⟨rfl, fun i hi => hb.out i hi⟩)
        replace h1 := Lib.hid h1
        go_wp2
        go_ret
        exact ⟨ret_b E.out.symm, rfl⟩
  · have hx : ((m.length : Int) != n) = true := by rw [bne_iff_ne]; exact hn
    have E : Hid (sq m n k = false) := Lib.hid (by unfold sq; rw [decide_eq_false_iff_not]; exact fun h => hn h.1)
    clear hn
    replace ha := Lib.hid ha
    go_enter Try.func79, Try.ntmps79
    go_wp2
    go_ret
    exact ⟨ret_b E.out.symm, rfl⟩
end Go.Proofs.Ytickckehhfdoeaa
