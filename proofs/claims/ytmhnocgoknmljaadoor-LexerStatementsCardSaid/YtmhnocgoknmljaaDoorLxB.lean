/-
  CONTRACTS of the names of both texts.
  Conditions: those that each theorem names.
-/
import Derived.Test.YtmhnocgoknmljaaDoorLxA
namespace Go.Proofs.YtmhnocgoknmljaaDoor
open Go.RowKit Go.Sv Go.Lx
theorem len_pos {l : Bs} (h : l ≠ []) : 0 < l.length := List.length_pos_iff.2 h
theorem isE_false {l : Bs} (h : l ≠ []) : l.isEmpty = false := by
  cases l with
  | nil => exact absurd rfl h
  | cons c r => rfl
theorem name_long {l : Bs} (h : 24 < l.length) : nameB l = false := by
  cases l with
  | nil => rfl
  | cons c r => unfold nameB; simp only; rw [decide_eq_false (by omega)]; rfl
theorem name_first {l : Bs} (h : 0 < l.length) (e : isL l[0] = false) : nameB l = false := by
  cases l with
  | nil => rfl
  | cons c r =>
    have e : isL c = false := e
    unfold nameB; simp only; rw [e, Bool.and_false]; rfl
theorem name_no {l : Bs} {k : Nat} (h : k < l.length) (e : isLD l[k] = false) : nameB l = false := by
  have a : l.all isLD = false := List.all_eq_false.2 ⟨l[k], List.getElem_mem h, by simp [e]⟩
  cases l with
  | nil => rfl
  | cons c r => unfold nameB; simp only; rw [a, Bool.and_false]
theorem name_yes {l : Bs} (h : 0 < l.length) (h24 : l.length ≤ 24) (e : isL l[0] = true) (ha : ∀ i (h : i < l.length), isLD l[i] = true) : nameB l = true := by
  have a : l.all isLD = true := by
    rw [List.all_eq_true]
    intro c hc
    obtain ⟨i, hi, rfl⟩ := List.mem_iff_getElem.1 hc
    exact ha i hi
  cases l with
  | nil => simp at h
  | cons c r =>
    have e : isL c = true := e
    unfold nameB; simp only; rw [a, e, decide_eq_true h24]; rfl
theorem letter_any (b : UInt8) (w : World) :
    Calls Tryd.prog 35 #[.int .u8 (b.toNat : Int)] w fun e w' => e = .returned (.bool (isL b)) ∧ w = w' := by
  obtain ⟨c, hc⟩ : ∃ c : Int, (b.toNat : Int) = c := ⟨_, rfl⟩
  rw [isL_int hc, hc]
  clear hc
  cases t1 : (c == 95) <;> cases t2 : decide (97 ≤ c) <;> cases t3 : decide (c ≤ 122) <;> cases t4 : decide (65 ≤ c) <;> cases t5 : decide (c ≤ 90) <;> (
    go_enter Tryd.func35, Tryd.ntmps35
    go_wp2
    go_ret
    exact ⟨rfl, rfl⟩)
theorem digit_any (b : UInt8) (w : World) :
    Calls Tryd.prog 36 #[.int .u8 (b.toNat : Int)] w fun e w' => e = .returned (.bool (isD b)) ∧ w = w' := by
  obtain ⟨c, hc⟩ : ∃ c : Int, (b.toNat : Int) = c := ⟨_, rfl⟩
  rw [isD_int hc, hc]
  clear hc
  cases t1 : decide (48 ≤ c) <;> cases t2 : decide (c ≤ 57) <;> (
    go_enter Tryd.func36, Tryd.ntmps36
    go_wp2
    go_ret
    exact ⟨rfl, rfl⟩)

theorem isName_any (l : Bs) (w : World) (hn : l.length ≤ 100000) :
    Calls Tryd.prog 12 #[.string (bS l)] w fun e w' => e = .returned (.bool (nameB l)) ∧ w = w' := by
  have hsz := Lib.hid (bS_size l)
  have HL := Lib.hid (fun b w => isLetter_any b w)
  have HD := Lib.hid (fun b w => isDigit_any b w)
  by_cases h0 : l = []
  · subst h0
    go_enter Tryd.func12, Tryd.ntmps12
    go_wp2
    go_ret
    exact ⟨rfl, rfl⟩
  have hl0 := len_pos h0
  have e1 := isE_false h0
  by_cases h24 : 24 < l.length
  · have e : Hid (nameB l = false) := Lib.hid (name_long h24)
    have i1 : decide ((24 : Int) < (l.length : Int)) = true := decide_eq_true (by omega)
    clear h0 h24
    go_enter Tryd.func12, Tryd.ntmps12
    go_wp2
    go_ret
    exact ⟨ret_b e.out.symm, rfl⟩
  have i1 : decide ((24 : Int) < (l.length : Int)) = false := decide_eq_false (by omega)
  have h24' : l.length ≤ 24 := by omega
  clear h0 h24
  cases hL : isL l[0] with
  | false =>
    have e : Hid (nameB l = false) := Lib.hid (name_first hl0 hL)
    have c1 : ∀ h : 0 < (bS l).size, isL ((bS l)[0]'h) = false := fun h => hL
    have c1 := c1 (by rw [hsz.out]; exact hl0)
    replace hL := Lib.hid hL
    go_enter Tryd.func12, Tryd.ntmps12
    go_wp2_with fail
    refine (HL.out _ _).mono ?_
    rintro e w' ⟨rfl, rfl⟩
    go_wp2
    go_ret
    exact ⟨ret_b e.out.symm, rfl⟩
  | true =>
    have c1 : ∀ h : 0 < (bS l).size, isL ((bS l)[0]'h) = true := fun h => hL
    have c1 := c1 (by rw [hsz.out]; exact hl0)
    have hno := Lib.hid (fun k h h2 => name_no (l := l) (k := k) h h2)
    have hyes := Lib.hid (name_yes (l := l) hl0 h24' hL)
    replace hL := Lib.hid hL
    go_enter Tryd.func12, Tryd.ntmps12
    go_wp2_with fail
    refine (HL.out _ _).mono ?_
    rintro e w' ⟨rfl, rfl⟩
    go_wp2
    clear c1
    go_loop [19] (fun s => ∃ k : Nat, s = .int .i64 k ∧ k ≤ l.length ∧ (∀ i (h : i < l.length), i < k → isLD l[i] = true)) (fun s => l.length - (intOf s).toNat)
    case atStart => exact ⟨0, rfl, Nat.zero_le _, fun i h hi => absurd hi (Nat.not_lt_zero _)⟩
    case round =>
      obtain ⟨k, rfl, hk, hd⟩ := hrel
      replace hd := Lib.hid hd
      by_cases hlt : k < l.length
      · have gk' : k < (bS l).size := by rw [hsz.out]; exact hlt
        have hS := Lib.hid (fun (h : isLD l[k] = true) i (h' : i < l.length) (hi : i < k + 1) => (show isLD l[i] = true from by
          rcases Nat.lt_or_ge i k with c | c
          · exact hd.out i h' c
          · obtain rfl : i = k := by omega
            exact h))
        have eLD := Lib.hid (show isLD l[k] = (isL l[k] || isD l[k]) from rfl)
        clear hd
        cases cL : isL l[k] with
        | true =>
          have c1 : isL ((bS l)[k]'gk') = true := cL
          have hS' := Lib.hid (hS.out (by rw [eLD.out, cL]; rfl))
          replace cL := Lib.hid cL
          clear hS eLD
          go_wp2_with fail
          refine (HL.out _ _).mono ?_
          rintro e w' ⟨rfl, rfl⟩
          go_wp2
          go_round
          case rel => exact ⟨k + 1, by go_num, hlt, hS'.out⟩
          case measure => simp [intOf]; omega
        | false =>
          have c1 : isL ((bS l)[k]'gk') = false := cL
          cases cD : isD l[k] with
          | true =>
            have c2 : isD ((bS l)[k]'gk') = true := cD
            have hS' := Lib.hid (hS.out (by rw [eLD.out, cL, cD]; rfl))
            replace cL := Lib.hid cL
            replace cD := Lib.hid cD
            clear hS eLD
            go_wp2_with fail
            refine (HL.out _ _).mono ?_
            rintro e w' ⟨rfl, rfl⟩
            go_wp2_with fail
            refine (HD.out _ _).mono ?_
            rintro e w' ⟨rfl, rfl⟩
            go_wp2
            go_round
            case rel => exact ⟨k + 1, by go_num, hlt, hS'.out⟩
            case measure => simp [intOf]; omega
          | false =>
            have c2 : isD ((bS l)[k]'gk') = false := cD
            have e : Hid (nameB l = false) := Lib.hid (hno.out k hlt (by rw [eLD.out, cL, cD]; rfl))
            replace cL := Lib.hid cL
            replace cD := Lib.hid cD
            clear hS eLD
            go_wp2_with fail
            refine (HL.out _ _).mono ?_
            rintro e w' ⟨rfl, rfl⟩
            go_wp2_with fail
            refine (HD.out _ _).mono ?_
            rintro e w' ⟨rfl, rfl⟩
            go_wp2
            go_ret
            exact ⟨ret_b e.out.symm, rfl⟩
      · obtain rfl : k = l.length := by omega
        have e : Hid (nameB l = true) := Lib.hid (hyes.out fun i h => hd.out i h h)
        clear hd hlt hno hyes
        go_wp2
        go_ret
        exact ⟨ret_b e.out.symm, rfl⟩

theorem rIsName_any (l : Bs) (w : World) (hn : l.length ≤ 100000) :
    Calls Tryd.prog 13 #[.string (bS l)] w fun e w' => e = .returned (.bool (nameB l)) ∧ w = w' := by
  have hsz := Lib.hid (bS_size l)
  have HL := Lib.hid (fun b w => letter_any b w)
  have HD := Lib.hid (fun b w => digit_any b w)
  by_cases h0 : l = []
  · subst h0
    go_enter Tryd.func13, Tryd.ntmps13
    go_wp2
    go_ret
    exact ⟨rfl, rfl⟩
  have hl0 := len_pos h0
  have e1 := isE_false h0
  by_cases h24 : 24 < l.length
  · have e : Hid (nameB l = false) := Lib.hid (name_long h24)
    have i1 : decide ((24 : Int) < (l.length : Int)) = true := decide_eq_true (by omega)
    clear h0 h24
    go_enter Tryd.func13, Tryd.ntmps13
    go_wp2
    go_ret
    exact ⟨ret_b e.out.symm, rfl⟩
  have i1 : decide ((24 : Int) < (l.length : Int)) = false := decide_eq_false (by omega)
  have h24' : l.length ≤ 24 := by omega
  clear h0 h24
  cases hL : isL l[0] with
  | false =>
    have e : Hid (nameB l = false) := Lib.hid (name_first hl0 hL)
    have c1 : ∀ h : 0 < (bS l).size, isL ((bS l)[0]'h) = false := fun h => hL
    have c1 := c1 (by rw [hsz.out]; exact hl0)
    replace hL := Lib.hid hL
    go_enter Tryd.func13, Tryd.ntmps13
    go_wp2_with fail
    refine (HL.out _ _).mono ?_
    rintro e w' ⟨rfl, rfl⟩
    go_wp2
    go_ret
    exact ⟨ret_b e.out.symm, rfl⟩
  | true =>
    have c1 : ∀ h : 0 < (bS l).size, isL ((bS l)[0]'h) = true := fun h => hL
    have c1 := c1 (by rw [hsz.out]; exact hl0)
    have hno := Lib.hid (fun k h h2 => name_no (l := l) (k := k) h h2)
    have hyes := Lib.hid (name_yes (l := l) hl0 h24' hL)
    replace hL := Lib.hid hL
    go_enter Tryd.func13, Tryd.ntmps13
    go_wp2_with fail
    refine (HL.out _ _).mono ?_
    rintro e w' ⟨rfl, rfl⟩
    go_wp2
    clear c1
    go_loop [3] (fun s => ∃ k : Nat, s = .int .i64 k ∧ k ≤ l.length ∧ (∀ i (h : i < l.length), i < k → isLD l[i] = true)) (fun s => l.length - (intOf s).toNat)
    case atStart => exact ⟨0, rfl, Nat.zero_le _, fun i h hi => absurd hi (Nat.not_lt_zero _)⟩
    case round =>
      obtain ⟨k, rfl, hk, hd⟩ := hrel
      replace hd := Lib.hid hd
      by_cases hlt : k < l.length
      · have gk' : k < (bS l).size := by rw [hsz.out]; exact hlt
        have hS := Lib.hid (fun (h : isLD l[k] = true) i (h' : i < l.length) (hi : i < k + 1) => (show isLD l[i] = true from by
          rcases Nat.lt_or_ge i k with c | c
          · exact hd.out i h' c
          · obtain rfl : i = k := by omega
            exact h))
        have eLD := Lib.hid (show isLD l[k] = (isL l[k] || isD l[k]) from rfl)
        clear hd
        cases cL : isL l[k] with
        | true =>
          have c1 : isL ((bS l)[k]'gk') = true := cL
          have hS' := Lib.hid (hS.out (by rw [eLD.out, cL]; rfl))
          replace cL := Lib.hid cL
          clear hS eLD
          go_wp2_with fail
          refine (HL.out _ _).mono ?_
          rintro e w' ⟨rfl, rfl⟩
          go_wp2
          go_round
          case rel => exact ⟨k + 1, by go_num, hlt, hS'.out⟩
          case measure => simp [intOf]; omega
        | false =>
          have c1 : isL ((bS l)[k]'gk') = false := cL
          cases cD : isD l[k] with
          | true =>
            have c2 : isD ((bS l)[k]'gk') = true := cD
            have hS' := Lib.hid (hS.out (by rw [eLD.out, cL, cD]; rfl))
            replace cL := Lib.hid cL
            replace cD := Lib.hid cD
            clear hS eLD
            go_wp2_with fail
            refine (HL.out _ _).mono ?_
            rintro e w' ⟨rfl, rfl⟩
            go_wp2_with fail
            refine (HD.out _ _).mono ?_
            rintro e w' ⟨rfl, rfl⟩
            go_wp2
            go_round
            case rel => exact ⟨k + 1, by go_num, hlt, hS'.out⟩
            case measure => simp [intOf]; omega
          | false =>
            have c2 : isD ((bS l)[k]'gk') = false := cD
            have e : Hid (nameB l = false) := Lib.hid (hno.out k hlt (by rw [eLD.out, cL, cD]; rfl))
            replace cL := Lib.hid cL
            replace cD := Lib.hid cD
            clear hS eLD
            go_wp2_with fail
            refine (HL.out _ _).mono ?_
            rintro e w' ⟨rfl, rfl⟩
            go_wp2_with fail
            refine (HD.out _ _).mono ?_
            rintro e w' ⟨rfl, rfl⟩
            go_wp2
            go_ret
            exact ⟨ret_b e.out.symm, rfl⟩
      · obtain rfl : k = l.length := by omega
        have e : Hid (nameB l = true) := Lib.hid (hyes.out fun i h => hd.out i h h)
        clear hd hlt hno hyes
        go_wp2
        go_ret
        exact ⟨ret_b e.out.symm, rfl⟩
end Go.Proofs.YtmhnocgoknmljaaDoor
