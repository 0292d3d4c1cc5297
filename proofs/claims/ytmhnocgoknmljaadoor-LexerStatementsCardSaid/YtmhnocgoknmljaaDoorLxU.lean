/-
  CONTRACT of the reference's Next.
  Conditions: those that each theorem names.
-/
import Derived.Test.YtmhnocgoknmljaaDoorLxT
namespace Go.Proofs.YtmhnocgoknmljaaDoor
open Go.RowKit Go.Sv Go.Lx
/-- what Next hands back -/
def NxR (l : Bs) (w : World) (e : Ending) (w' : World) : Prop :=
  ∃ (t : Tok) (n : Nat), e = .returned (rdV t n) ∧ ((n = 0 ∧ nextT l = none) ∨ nextT l = some (t, n)) ∧ Below w.heap.size w w'
theorem next_start (w : World) : ∃ W, w.alloc (.cells #[.int .i64 0, .string ⟨#[]⟩, .int .i64 0, .string ⟨#[]⟩, .int .i64 0, .int .i64 0] 72) = W ∧
    Fm w W [⟨w.heap.size, 72, [.int .i64 0, .string ⟨#[]⟩, .int .i64 0, .string ⟨#[]⟩, .int .i64 0, .int .i64 0]⟩] [] :=
  ⟨_, rfl, (Fm.init w).box 72 _⟩
theorem name_lN {l : Bs} (h : 0 < l.length) (hL : isL l[0] = true) : nameB (l.take (lN l)) = decide (lN l ≤ 24) := by
  cases l with
  | nil => simp at h
  | cons c r =>
    have hL : isL c = true := hL
    unfold lN
    rw [List.drop_succ_cons, List.drop_zero, ← cons_tw isLD]
    unfold nameB
    simp only [hL, Bool.and_true]
    have ha : (c :: r.takeWhile isLD).all isLD = true := by
      rw [List.all_cons]
      have h1 : isLD c = true := isLD_L hL
      have h2 : (r.takeWhile isLD).all isLD = true := List.all_takeWhile
      rw [h1, h2]; rfl
    rw [ha, Bool.and_true, List.length_cons, Nat.add_comm]
set_option maxHeartbeats 2000000 in
set_option maxRecDepth 100000 in
theorem next_L (l : Bs) (w : World) (hL0 : ∃ h : 0 < l.length, isL (l[0]'h) = true) (hl0 : 0 < l.length) (hn : l.length ≤ 100000) :
    Calls Tryd.prog 51 #[.string (bS l)] w (NxR l w) := by
  have hsz := Lib.hid (bS_size l)
  have HL := Lib.hid (fun b w => letter_any b w)
  have HD := Lib.hid (fun b w => digit_any b w)
  have hT := Lib.hid (nextT_L hl0 hL0.2)
  obtain ⟨W, hW, S⟩ := next_start w
  have hL := hL0.2
  have hNm := name_lN hl0 hL0.2
  have HN := Lib.hid (fun m h => rIsName_any m W h)
  have g0 : ∀ h : 0 < (bS l).size, isL ((bS l)[0]'h) = true := fun h => hL
  have g0 := g0 (by rw [hsz.out]; exact hl0)
  clear hL hL0
  obtain ⟨⟨z1, f1, y10, y11, y12, y13, y14, y15, -⟩, -⟩ := S.facts
  replace S := Lib.hid S
  go_enter Tryd.func51, Tryd.ntmps51
  go_wp2_with fail
  clear hW
  refine (HL.out _ _).mono ?_
  rintro e w' ⟨rfl, rfl⟩
  go_wp2
  clear g0
  go_loop [3] (fun s5 => ∃ n : Nat, s5 = .int .i64 n ∧ 1 ≤ n ∧ n ≤ l.length ∧ (∀ i (h : i < l.length), 1 ≤ i → i < n → isLD l[i] = true)) (fun s5 => l.length - (intOf s5).toNat)
  case atStart => exact ⟨1, rfl, Nat.le_refl _, hl0, fun i h h1 h2 => absurd h2 (by omega)⟩
  case round =>
    obtain ⟨n, rfl, n1, n2, hd⟩ := hrel
    replace hd := Lib.hid hd
    have key : (∃ h : n < l.length, (isL (l[n]'h) = true ∨ (isL (l[n]'h) = false ∧ isD (l[n]'h) = true))) ∨ (lN l = n ∧ ((∃ h : n < l.length, isL (l[n]'h) = false ∧ isD (l[n]'h) = false) ∨ ¬ n < l.length)) := by
      by_cases h : n < l.length
      · cases hL : isL (l[n]'h) with
        | true => exact Or.inl ⟨h, Or.inl hL⟩
        | false =>
          cases hD : isD (l[n]'h) with
          | true => exact Or.inl ⟨h, Or.inr ⟨hL, hD⟩⟩
          | false => exact Or.inr ⟨lN_eq n1 n2 hd.out fun _ => by unfold isLD; rw [hL, hD]; rfl, Or.inl ⟨h, hL, hD⟩⟩
      · exact Or.inr ⟨lN_eq n1 n2 hd.out fun h' => absurd h' h, Or.inr h⟩
    rcases key with ⟨hlt, hY⟩ | ⟨hdn, hend⟩
    · have hS : Hid (∀ i (h : i < l.length), 1 ≤ i → i < n + 1 → isLD l[i] = true) := Lib.hid fun i h h1 h2 => by
        rcases Nat.lt_or_ge i n with h' | h'
        · exact hd.out i h h1 h'
        · obtain rfl : i = n := by omega
          unfold isLD
          rcases hY with hY | ⟨-, hY⟩
          · rw [hY]; rfl
          · rw [hY]; simp
      clear hd
      rcases hY with hL | ⟨hL, hD⟩
      · have g1 : ∀ h : n < (bS l).size, isL ((bS l)[n]'h) = true := fun h => hL
        have g1 := g1 (by rw [hsz.out]; exact hlt)
        clear hL
        go_wp2_with fail
        refine (HL.out _ _).mono ?_
        rintro e w' ⟨rfl, rfl⟩
        go_wp2
        go_round
        case rel => exact ⟨n + 1, by go_num, by omega, hlt, hS.out⟩
        case measure => simp [intOf]; omega
      · have g1 : ∀ h : n < (bS l).size, isL ((bS l)[n]'h) = false := fun h => hL
        have g1 := g1 (by rw [hsz.out]; exact hlt)
        have g2 : ∀ h : n < (bS l).size, isD ((bS l)[n]'h) = true := fun h => hD
        have g2 := g2 (by rw [hsz.out]; exact hlt)
        clear hL hD
        go_wp2_with fail
        refine (HL.out _ _).mono ?_
        rintro e w' ⟨rfl, rfl⟩
        go_wp2_with fail
        refine (HD.out _ _).mono ?_
        rintro e w' ⟨rfl, rfl⟩
        go_wp2
        go_round
        case rel => exact ⟨n + 1, by go_num, by omega, hlt, hS.out⟩
        case measure => simp [intOf]; omega
    · have hx := bS_to l n
      rw [hdn] at hT hNm
      obtain ⟨t, ht'⟩ : ∃ t, l.take n = t := ⟨_, rfl⟩
      rw [ht'] at hx hT hNm
      have htl : t.length ≤ 100000 := by rw [← ht', List.length_take]; omega
      have HN1 := Lib.hid (HN.out t htl)
      clear hdn ht' hd
      rcases hend with ⟨hlt, hL, hD⟩ | hlt
      · have g1 : ∀ h : n < (bS l).size, isL ((bS l)[n]'h) = false := fun h => hL
        have g1 := g1 (by rw [hsz.out]; exact hlt)
        have g2 : ∀ h : n < (bS l).size, isD ((bS l)[n]'h) = false := fun h => hD
        have g2 := g2 (by rw [hsz.out]; exact hlt)
        clear hL hD
        go_wp2_with fail
        refine (HL.out _ _).mono ?_
        rintro e w' ⟨rfl, rfl⟩
        go_wp2_with fail
        refine (HD.out _ _).mono ?_
        rintro e w' ⟨rfl, rfl⟩
        go_wp2_with fail
        refine HN1.out.mono ?_
        rintro e w' ⟨rfl, rfl⟩
        by_cases h24 : n ≤ 24
        · have d3 : decide (n ≤ 24) = true := decide_eq_true h24
          rw [d3] at hNm
          have hT' : Hid (nextT l = some (⟨1, t, 0, [], 0⟩, n)) := Lib.hid (by rw [hT.out, if_pos h24])
          clear h24 hT HN1
          have hF := Lib.hid ((((((S.out.set 0 rfl 0 (.int .i64 (⟨1, t, 0, [], 0⟩ : Tok).kind)).set 0 rfl 1 (.string (bS (⟨1, t, 0, [], 0⟩ : Tok).text))).set 0 rfl 2 (.int .i64 (⟨1, t, 0, [], 0⟩ : Tok).int)).set 0 rfl 3 (.string (bS (⟨1, t, 0, [], 0⟩ : Tok).str))).set 0 rfl 4 (.int .i64 (⟨1, t, 0, [], 0⟩ : Tok).line)).set 0 rfl 5 (.int .i64 (n : Nat)))
          go_wp2
          refine bodyPost_ret (v := rdV ⟨1, t, 0, [], 0⟩ n) (by simp [results, Tryd.results51, go_sem, rdV, y10, y11, y12, y13, y14, y15]) rfl ?_
          exact ⟨⟨1, t, 0, [], 0⟩, n, rfl, Or.inr hT'.out, hF.out.bel⟩
        · have d3 : decide (n ≤ 24) = false := decide_eq_false h24
          rw [d3] at hNm
          have hT' : Hid (nextT l = none) := Lib.hid (by rw [hT.out, if_neg h24])
          clear h24 hT HN1
          have hF := Lib.hid ((((((S.out.set 0 rfl 0 (.int .i64 (rd0 : Tok).kind)).set 0 rfl 1 (.string (bS (rd0 : Tok).text))).set 0 rfl 2 (.int .i64 (rd0 : Tok).int)).set 0 rfl 3 (.string (bS (rd0 : Tok).str))).set 0 rfl 4 (.int .i64 (rd0 : Tok).line)).set 0 rfl 5 (.int .i64 (0 : Nat)))
          go_wp2
          refine bodyPost_ret (v := rdV rd0 0) (by simp [results, Tryd.results51, go_sem, rdV, rd0, y10, y11, y12, y13, y14, y15]) rfl ?_
          exact ⟨rd0, 0, rfl, Or.inl ⟨rfl, hT'.out⟩, hF.out.bel⟩
      · have d1 : decide ((n : Int) < (l.length : Int)) = false := decide_eq_false (by omega)
        have d2 : decide (n < l.length) = false := decide_eq_false hlt
        clear hlt
        go_wp2_with fail
        refine HN1.out.mono ?_
        rintro e w' ⟨rfl, rfl⟩
        by_cases h24 : n ≤ 24
        · have d3 : decide (n ≤ 24) = true := decide_eq_true h24
          rw [d3] at hNm
          have hT' : Hid (nextT l = some (⟨1, t, 0, [], 0⟩, n)) := Lib.hid (by rw [hT.out, if_pos h24])
          clear h24 hT HN1
          have hF := Lib.hid ((((((S.out.set 0 rfl 0 (.int .i64 (⟨1, t, 0, [], 0⟩ : Tok).kind)).set 0 rfl 1 (.string (bS (⟨1, t, 0, [], 0⟩ : Tok).text))).set 0 rfl 2 (.int .i64 (⟨1, t, 0, [], 0⟩ : Tok).int)).set 0 rfl 3 (.string (bS (⟨1, t, 0, [], 0⟩ : Tok).str))).set 0 rfl 4 (.int .i64 (⟨1, t, 0, [], 0⟩ : Tok).line)).set 0 rfl 5 (.int .i64 (n : Nat)))
          go_wp2
          refine bodyPost_ret (v := rdV ⟨1, t, 0, [], 0⟩ n) (by simp [results, Tryd.results51, go_sem, rdV, y10, y11, y12, y13, y14, y15]) rfl ?_
          exact ⟨⟨1, t, 0, [], 0⟩, n, rfl, Or.inr hT'.out, hF.out.bel⟩
        · have d3 : decide (n ≤ 24) = false := decide_eq_false h24
          rw [d3] at hNm
          have hT' : Hid (nextT l = none) := Lib.hid (by rw [hT.out, if_neg h24])
          clear h24 hT HN1
          have hF := Lib.hid ((((((S.out.set 0 rfl 0 (.int .i64 (rd0 : Tok).kind)).set 0 rfl 1 (.string (bS (rd0 : Tok).text))).set 0 rfl 2 (.int .i64 (rd0 : Tok).int)).set 0 rfl 3 (.string (bS (rd0 : Tok).str))).set 0 rfl 4 (.int .i64 (rd0 : Tok).line)).set 0 rfl 5 (.int .i64 (0 : Nat)))
          go_wp2
          refine bodyPost_ret (v := rdV rd0 0) (by simp [results, Tryd.results51, go_sem, rdV, rd0, y10, y11, y12, y13, y14, y15]) rfl ?_
          exact ⟨rd0, 0, rfl, Or.inl ⟨rfl, hT'.out⟩, hF.out.bel⟩
end Go.Proofs.YtmhnocgoknmljaaDoor
