/-
  CONTRACT of the reference's Next (numbers, strings).
  Conditions: those that each theorem names.
-/
import Derived.Test.YtmhnocgoknmljaaDoorLxU
namespace Go.Proofs.YtmhnocgoknmljaaDoor
open Go.RowKit Go.Sv Go.Lx
theorem rd0_eq : rdV rd0 0 = .agg #[.int .i64 0, .string ⟨#[]⟩, .int .i64 0, .string ⟨#[]⟩, .int .i64 0, .int .i64 0] := rfl
set_option maxHeartbeats 2000000 in
set_option maxRecDepth 100000 in
theorem next_D (l : Bs) (w : World) (ht : Tb w) (hL0 : ∃ h : 0 < l.length, isL (l[0]'h) = false) (hD0 : dCase l) (hl0 : 0 < l.length) (hn : l.length ≤ 100000) :
    Calls Tryd.prog 51 #[.string (bS l)] w (NxR l w) := by
  have hsz := Lib.hid (bS_size l)
  have HL := Lib.hid (fun b w => letter_any b w)
  have HD := Lib.hid (fun b w => digit_any b w)
  have hT := Lib.hid (nextT_D hl0 hL0.2 hD0)
  obtain ⟨W, hW, S⟩ := next_start w
  have HI := Lib.hid (fun t h1 h2 => integer_any t W (ht.to S.bel) h1 h2)
  have hL := hL0.2
  have g0 : ∀ h : 0 < (bS l).size, isL ((bS l)[0]'h) = false := fun h => hL
  have g0 := g0 (by rw [hsz.out]; exact hl0)
  clear hL hL0
  obtain ⟨⟨z1, f1, y10, y11, y12, y13, y14, y15, -⟩, -⟩ := S.facts
  replace S := Lib.hid S
  go_enter Tryd.func51, Tryd.ntmps51
  go_wp2_with fail
  clear hW
  refine (HL.out _ _).mono ?_
  rintro e w' ⟨rfl, rfl⟩
  obtain ⟨h0, hD⟩ := hD0
  by_cases hD1 : isD (l[0]'hl0) = true
  · have g1 : ∀ h : 0 < (bS l).size, isD ((bS l)[0]'h) = true := fun h => hD1
    have g1 := g1 (by rw [hsz.out]; exact hl0)
    clear hD hD1
    go_wp2_with fail
    refine (HD.out _ _).mono ?_
    rintro e w' ⟨rfl, rfl⟩
    go_wp2
    go_loop [4] (fun s5 => ∃ n : Nat, s5 = .int .i64 n ∧ 1 ≤ n ∧ n ≤ l.length ∧ (∀ i (h : i < l.length), 1 ≤ i → i < n → isD l[i] = true)) (fun s5 => l.length - (intOf s5).toNat)
    case atStart => exact ⟨1, rfl, Nat.le_refl _, hl0, fun i h h1 h2 => absurd h2 (by omega)⟩
    case round =>
      obtain ⟨n, rfl, n1, n2, hd⟩ := hrel
      replace hd := Lib.hid hd
      have key : (∃ h : n < l.length, isD (l[n]'h) = true) ∨ (dN l = n ∧ ((∃ h : n < l.length, isD (l[n]'h) = false) ∨ ¬ n < l.length)) := by
        by_cases h : n < l.length
        · cases hD : isD (l[n]'h) with
          | true => exact Or.inl ⟨h, hD⟩
          | false => exact Or.inr ⟨dN_eq n1 n2 hd.out fun _ => hD, Or.inl ⟨h, hD⟩⟩
        · exact Or.inr ⟨dN_eq n1 n2 hd.out fun h' => absurd h' h, Or.inr h⟩
      rcases key with ⟨hlt, hD⟩ | ⟨hdn, hend⟩
      · have hS : Hid (∀ i (h : i < l.length), 1 ≤ i → i < n + 1 → isD l[i] = true) := Lib.hid fun i h h1 h2 => by
          rcases Nat.lt_or_ge i n with h' | h'
          · exact hd.out i h h1 h'
          · obtain rfl : i = n := by omega
            exact hD
        have k1 : ∀ h : n < (bS l).size, isD ((bS l)[n]'h) = true := fun h => hD
        have k1 := k1 (by rw [hsz.out]; exact hlt)
        clear hd hD
        go_wp2_with fail
        refine (HD.out _ _).mono ?_
        rintro e w' ⟨rfl, rfl⟩
        go_wp2
        go_round
        case rel => exact ⟨n + 1, by go_num, by omega, hlt, hS.out⟩
        case measure => simp [intOf]; omega
      · have hx := bS_to l n
        rw [hdn] at hT
        obtain ⟨t, ht'⟩ : ∃ t, l.take n = t := ⟨_, rfl⟩
        rw [ht'] at hx hT
        have htl : t.length = n := by rw [← ht', List.length_take]; omega
        have htl' := Lib.hid htl
        have HI1 := Lib.hid (HI.out t (by omega) (by omega))
        clear hdn ht' hd htl
        rcases hend with ⟨hlt, hD⟩ | hlt
        · have k1 : ∀ h : n < (bS l).size, isD ((bS l)[n]'h) = false := fun h => hD
          have k1 := k1 (by rw [hsz.out]; exact hlt)
          clear hD
          go_wp2_with fail
          refine (HD.out _ _).mono ?_
          rintro e w' ⟨rfl, rfl⟩
          go_wp2_with fail
          refine HI1.out.mono ?_
          rintro e w2 ⟨he, hb2⟩
          replace S := Lib.hid (S.out.call hb2)
          clear y10 y11 y12 y13 y14 y15 z1 f1 HI1 hb2
          obtain ⟨⟨z1, f1, y10, y11, y12, y13, y14, y15, -⟩, -⟩ := S.out.facts
          cases hv : numV t with
          | none =>
            rw [hv] at he hT
            have he : e = .returned (rdV rd0 0) := he
            subst he
            have hT' : Hid (nextT l = none) := Lib.hid hT.out
            clear hT hv
            dsimp only [rdV, rd0]
            have hF := Lib.hid ((((((S.out.set 0 rfl 0 (.int .i64 (rd0 : Tok).kind)).set 0 rfl 1 (.string (bS (rd0 : Tok).text))).set 0 rfl 2 (.int .i64 (rd0 : Tok).int)).set 0 rfl 3 (.string (bS (rd0 : Tok).str))).set 0 rfl 4 (.int .i64 (rd0 : Tok).line)).set 0 rfl 5 (.int .i64 (0 : Nat)))
            go_wp2
            refine bodyPost_ret (v := rdV rd0 0) (by simp [results, Tryd.results51, go_sem, rdV, rd0, y10, y11, y12, y13, y14, y15]) rfl ?_
            exact ⟨rd0, 0, rfl, Or.inl ⟨rfl, hT'.out⟩, hF.out.bel⟩
          | some v =>
            rw [hv] at he hT
            have he : e = .returned (rdV ⟨2, [], v, [], 0⟩ t.length) := he
            subst he
            rw [htl'.out]
            have hT' : Hid (nextT l = some (⟨2, [], v, [], 0⟩, n)) := Lib.hid hT.out
            clear hT hv
            dsimp only [rdV]
            have hF := Lib.hid ((((((S.out.set 0 rfl 0 (.int .i64 (⟨2, [], v, [], 0⟩ : Tok).kind)).set 0 rfl 1 (.string (bS (⟨2, [], v, [], 0⟩ : Tok).text))).set 0 rfl 2 (.int .i64 (⟨2, [], v, [], 0⟩ : Tok).int)).set 0 rfl 3 (.string (bS (⟨2, [], v, [], 0⟩ : Tok).str))).set 0 rfl 4 (.int .i64 (⟨2, [], v, [], 0⟩ : Tok).line)).set 0 rfl 5 (.int .i64 (n : Nat)))
            go_wp2
            refine bodyPost_ret (v := rdV ⟨2, [], v, [], 0⟩ n) (by simp [results, Tryd.results51, go_sem, rdV, y10, y11, y12, y13, y14, y15]) rfl ?_
            exact ⟨⟨2, [], v, [], 0⟩, n, rfl, Or.inr hT'.out, hF.out.bel⟩
        · have d1 : decide ((n : Int) < (l.length : Int)) = false := decide_eq_false (by omega)
          have d2 : decide (n < l.length) = false := decide_eq_false hlt
          clear hlt
          go_wp2_with fail
          refine HI1.out.mono ?_
          rintro e w2 ⟨he, hb2⟩
          replace S := Lib.hid (S.out.call hb2)
          clear y10 y11 y12 y13 y14 y15 z1 f1 HI1 hb2
          obtain ⟨⟨z1, f1, y10, y11, y12, y13, y14, y15, -⟩, -⟩ := S.out.facts
          cases hv : numV t with
          | none =>
            rw [hv] at he hT
            have he : e = .returned (rdV rd0 0) := he
            subst he
            have hT' : Hid (nextT l = none) := Lib.hid hT.out
            clear hT hv
            dsimp only [rdV, rd0]
            have hF := Lib.hid ((((((S.out.set 0 rfl 0 (.int .i64 (rd0 : Tok).kind)).set 0 rfl 1 (.string (bS (rd0 : Tok).text))).set 0 rfl 2 (.int .i64 (rd0 : Tok).int)).set 0 rfl 3 (.string (bS (rd0 : Tok).str))).set 0 rfl 4 (.int .i64 (rd0 : Tok).line)).set 0 rfl 5 (.int .i64 (0 : Nat)))
            go_wp2
            refine bodyPost_ret (v := rdV rd0 0) (by simp [results, Tryd.results51, go_sem, rdV, rd0, y10, y11, y12, y13, y14, y15]) rfl ?_
            exact ⟨rd0, 0, rfl, Or.inl ⟨rfl, hT'.out⟩, hF.out.bel⟩
          | some v =>
            rw [hv] at he hT
            have he : e = .returned (rdV ⟨2, [], v, [], 0⟩ t.length) := he
            subst he
            rw [htl'.out]
            have hT' : Hid (nextT l = some (⟨2, [], v, [], 0⟩, n)) := Lib.hid hT.out
            clear hT hv
            dsimp only [rdV]
            have hF := Lib.hid ((((((S.out.set 0 rfl 0 (.int .i64 (⟨2, [], v, [], 0⟩ : Tok).kind)).set 0 rfl 1 (.string (bS (⟨2, [], v, [], 0⟩ : Tok).text))).set 0 rfl 2 (.int .i64 (⟨2, [], v, [], 0⟩ : Tok).int)).set 0 rfl 3 (.string (bS (⟨2, [], v, [], 0⟩ : Tok).str))).set 0 rfl 4 (.int .i64 (⟨2, [], v, [], 0⟩ : Tok).line)).set 0 rfl 5 (.int .i64 (n : Nat)))
            go_wp2
            refine bodyPost_ret (v := rdV ⟨2, [], v, [], 0⟩ n) (by simp [results, Tryd.results51, go_sem, rdV, y10, y11, y12, y13, y14, y15]) rfl ?_
            exact ⟨⟨2, [], v, [], 0⟩, n, rfl, Or.inr hT'.out, hF.out.bel⟩
  · rcases hD with hD | ⟨h45, h1, hD⟩
    · exact absurd hD hD1
    have g1 : ∀ h : 0 < (bS l).size, isD ((bS l)[0]'h) = false := fun h => (show isD (l[0]'hl0) = false from by simpa using hD1)
    have g1 := g1 (by rw [hsz.out]; exact hl0)
    have g2 : ∀ h : 1 < (bS l).size, isD ((bS l)[1]'h) = true := fun h => hD
    have g2 := g2 (by rw [hsz.out]; exact h1)
    have g3 : ∀ h : 0 < (bS l).size, ((((bS l)[0]'h).toNat : Int) == 45) = true := fun h => by
      have e : (bS l)[0].toNat = 45 := h45
      rw [e]; rfl
    have g3 := g3 (by rw [hsz.out]; exact hl0)
    have i1 : decide ((1 : Int) < (l.length : Int)) = true := decide_eq_true (by omega)
    have i2 : decide (1 < l.length) = true := decide_eq_true h1
    clear hD h45 hD1
    go_wp2_with fail
    refine (HD.out _ _).mono ?_
    rintro e w' ⟨rfl, rfl⟩
    go_wp2_with fail
    refine (HD.out _ _).mono ?_
    rintro e w' ⟨rfl, rfl⟩
    go_wp2
    go_loop [4] (fun s5 => ∃ n : Nat, s5 = .int .i64 n ∧ 1 ≤ n ∧ n ≤ l.length ∧ (∀ i (h : i < l.length), 1 ≤ i → i < n → isD l[i] = true)) (fun s5 => l.length - (intOf s5).toNat)
    case atStart => exact ⟨1, rfl, Nat.le_refl _, hl0, fun i h h1 h2 => absurd h2 (by omega)⟩
    case round =>
      obtain ⟨n, rfl, n1, n2, hd⟩ := hrel
      replace hd := Lib.hid hd
      have key : (∃ h : n < l.length, isD (l[n]'h) = true) ∨ (dN l = n ∧ ((∃ h : n < l.length, isD (l[n]'h) = false) ∨ ¬ n < l.length)) := by
        by_cases h : n < l.length
        · cases hD : isD (l[n]'h) with
          | true => exact Or.inl ⟨h, hD⟩
          | false => exact Or.inr ⟨dN_eq n1 n2 hd.out fun _ => hD, Or.inl ⟨h, hD⟩⟩
        · exact Or.inr ⟨dN_eq n1 n2 hd.out fun h' => absurd h' h, Or.inr h⟩
      rcases key with ⟨hlt, hD⟩ | ⟨hdn, hend⟩
      · have hS : Hid (∀ i (h : i < l.length), 1 ≤ i → i < n + 1 → isD l[i] = true) := Lib.hid fun i h h1 h2 => by
          rcases Nat.lt_or_ge i n with h' | h'
          · exact hd.out i h h1 h'
          · obtain rfl : i = n := by omega
            exact hD
        have k1 : ∀ h : n < (bS l).size, isD ((bS l)[n]'h) = true := fun h => hD
        have k1 := k1 (by rw [hsz.out]; exact hlt)
        clear hd hD
        go_wp2_with fail
        refine (HD.out _ _).mono ?_
        rintro e w' ⟨rfl, rfl⟩
        go_wp2
        go_round
        case rel => exact ⟨n + 1, by go_num, by omega, hlt, hS.out⟩
        case measure => simp [intOf]; omega
      · have hx := bS_to l n
        rw [hdn] at hT
        obtain ⟨t, ht'⟩ : ∃ t, l.take n = t := ⟨_, rfl⟩
        rw [ht'] at hx hT
        have htl : t.length = n := by rw [← ht', List.length_take]; omega
        have htl' := Lib.hid htl
        have HI1 := Lib.hid (HI.out t (by omega) (by omega))
        clear hdn ht' hd htl
        rcases hend with ⟨hlt, hD⟩ | hlt
        · have k1 : ∀ h : n < (bS l).size, isD ((bS l)[n]'h) = false := fun h => hD
          have k1 := k1 (by rw [hsz.out]; exact hlt)
          clear hD
          go_wp2_with fail
          refine (HD.out _ _).mono ?_
          rintro e w' ⟨rfl, rfl⟩
          go_wp2_with fail
          refine HI1.out.mono ?_
          rintro e w2 ⟨he, hb2⟩
          replace S := Lib.hid (S.out.call hb2)
          clear y10 y11 y12 y13 y14 y15 z1 f1 HI1 hb2
          obtain ⟨⟨z1, f1, y10, y11, y12, y13, y14, y15, -⟩, -⟩ := S.out.facts
          cases hv : numV t with
          | none =>
            rw [hv] at he hT
            have he : e = .returned (rdV rd0 0) := he
            subst he
            have hT' : Hid (nextT l = none) := Lib.hid hT.out
            clear hT hv
            dsimp only [rdV, rd0]
            have hF := Lib.hid ((((((S.out.set 0 rfl 0 (.int .i64 (rd0 : Tok).kind)).set 0 rfl 1 (.string (bS (rd0 : Tok).text))).set 0 rfl 2 (.int .i64 (rd0 : Tok).int)).set 0 rfl 3 (.string (bS (rd0 : Tok).str))).set 0 rfl 4 (.int .i64 (rd0 : Tok).line)).set 0 rfl 5 (.int .i64 (0 : Nat)))
            go_wp2
            refine bodyPost_ret (v := rdV rd0 0) (by simp [results, Tryd.results51, go_sem, rdV, rd0, y10, y11, y12, y13, y14, y15]) rfl ?_
            exact ⟨rd0, 0, rfl, Or.inl ⟨rfl, hT'.out⟩, hF.out.bel⟩
          | some v =>
            rw [hv] at he hT
            have he : e = .returned (rdV ⟨2, [], v, [], 0⟩ t.length) := he
            subst he
            rw [htl'.out]
            have hT' : Hid (nextT l = some (⟨2, [], v, [], 0⟩, n)) := Lib.hid hT.out
            clear hT hv
            dsimp only [rdV]
            have hF := Lib.hid ((((((S.out.set 0 rfl 0 (.int .i64 (⟨2, [], v, [], 0⟩ : Tok).kind)).set 0 rfl 1 (.string (bS (⟨2, [], v, [], 0⟩ : Tok).text))).set 0 rfl 2 (.int .i64 (⟨2, [], v, [], 0⟩ : Tok).int)).set 0 rfl 3 (.string (bS (⟨2, [], v, [], 0⟩ : Tok).str))).set 0 rfl 4 (.int .i64 (⟨2, [], v, [], 0⟩ : Tok).line)).set 0 rfl 5 (.int .i64 (n : Nat)))
            go_wp2
            refine bodyPost_ret (v := rdV ⟨2, [], v, [], 0⟩ n) (by simp [results, Tryd.results51, go_sem, rdV, y10, y11, y12, y13, y14, y15]) rfl ?_
            exact ⟨⟨2, [], v, [], 0⟩, n, rfl, Or.inr hT'.out, hF.out.bel⟩
        · have d1 : decide ((n : Int) < (l.length : Int)) = false := decide_eq_false (by omega)
          have d2 : decide (n < l.length) = false := decide_eq_false hlt
          clear hlt
          go_wp2_with fail
          refine HI1.out.mono ?_
          rintro e w2 ⟨he, hb2⟩
          replace S := Lib.hid (S.out.call hb2)
          clear y10 y11 y12 y13 y14 y15 z1 f1 HI1 hb2
          obtain ⟨⟨z1, f1, y10, y11, y12, y13, y14, y15, -⟩, -⟩ := S.out.facts
          cases hv : numV t with
          | none =>
            rw [hv] at he hT
            have he : e = .returned (rdV rd0 0) := he
            subst he
            have hT' : Hid (nextT l = none) := Lib.hid hT.out
            clear hT hv
            dsimp only [rdV, rd0]
            have hF := Lib.hid ((((((S.out.set 0 rfl 0 (.int .i64 (rd0 : Tok).kind)).set 0 rfl 1 (.string (bS (rd0 : Tok).text))).set 0 rfl 2 (.int .i64 (rd0 : Tok).int)).set 0 rfl 3 (.string (bS (rd0 : Tok).str))).set 0 rfl 4 (.int .i64 (rd0 : Tok).line)).set 0 rfl 5 (.int .i64 (0 : Nat)))
            go_wp2
            refine bodyPost_ret (v := rdV rd0 0) (by simp [results, Tryd.results51, go_sem, rdV, rd0, y10, y11, y12, y13, y14, y15]) rfl ?_
            exact ⟨rd0, 0, rfl, Or.inl ⟨rfl, hT'.out⟩, hF.out.bel⟩
          | some v =>
            rw [hv] at he hT
            have he : e = .returned (rdV ⟨2, [], v, [], 0⟩ t.length) := he
            subst he
            rw [htl'.out]
            have hT' : Hid (nextT l = some (⟨2, [], v, [], 0⟩, n)) := Lib.hid hT.out
            clear hT hv
            dsimp only [rdV]
            have hF := Lib.hid ((((((S.out.set 0 rfl 0 (.int .i64 (⟨2, [], v, [], 0⟩ : Tok).kind)).set 0 rfl 1 (.string (bS (⟨2, [], v, [], 0⟩ : Tok).text))).set 0 rfl 2 (.int .i64 (⟨2, [], v, [], 0⟩ : Tok).int)).set 0 rfl 3 (.string (bS (⟨2, [], v, [], 0⟩ : Tok).str))).set 0 rfl 4 (.int .i64 (⟨2, [], v, [], 0⟩ : Tok).line)).set 0 rfl 5 (.int .i64 (n : Nat)))
            go_wp2
            refine bodyPost_ret (v := rdV ⟨2, [], v, [], 0⟩ n) (by simp [results, Tryd.results51, go_sem, rdV, y10, y11, y12, y13, y14, y15]) rfl ?_
            exact ⟨⟨2, [], v, [], 0⟩, n, rfl, Or.inr hT'.out, hF.out.bel⟩
set_option maxHeartbeats 2000000 in
set_option maxRecDepth 100000 in
theorem next_Q (l : Bs) (w : World) (hL0 : ∃ h : 0 < l.length, isL (l[0]'h) = false) (hD0 : ¬ dCase l) (h340 : ∀ h : 0 < l.length, (l[0]'h).toNat = 34) (hl0 : 0 < l.length) (hn : l.length ≤ 100000) :
    Calls Tryd.prog 51 #[.string (bS l)] w (NxR l w) := by
  have hsz := Lib.hid (bS_size l)
  have HL := Lib.hid (fun b w => letter_any b w)
  have HD := Lib.hid (fun b w => digit_any b w)
  have hT := Lib.hid (nextT_Q hl0 hL0.2 hD0 (h340 hl0))
  obtain ⟨W, hW, S⟩ := next_start w
  have HF := Lib.hid (first_any l W (by omega))
  have h34 : (l[0]'hl0).toNat = 34 := h340 hl0
  clear h340
  have hfT : Hid (fT l = (rd (l.drop 1)).map (fun x => (x.1, x.2 + 1))) := Lib.hid (by rw [fT_c hl0, if_pos h34])
  have hL := hL0.2
  have g0 : ∀ h : 0 < (bS l).size, isL ((bS l)[0]'h) = false := fun h => hL
  have g0 := g0 (by rw [hsz.out]; exact hl0)
  clear hL hL0
  obtain ⟨⟨z1, f1, y10, y11, y12, y13, y14, y15, -⟩, -⟩ := S.facts
  replace S := Lib.hid S
  go_enter Tryd.func51, Tryd.ntmps51
  go_wp2_with fail
  clear hW
  refine (HL.out _ _).mono ?_
  rintro e w' ⟨rfl, rfl⟩
  have g1 : ∀ h : 0 < (bS l).size, isD ((bS l)[0]'h) = false := fun h => by
    have e : l[0] = 34 := u8_eq h34
    show isD l[0] = false
    rw [e]; decide
  have g1 := g1 (by rw [hsz.out]; exact hl0)
  have g3 : ∀ h : 0 < (bS l).size, ((((bS l)[0]'h).toNat : Int) == 34) = true := fun h => by
    have e : (bS l)[0].toNat = 34 := h34
    rw [e]; rfl
  have g3 := g3 (by rw [hsz.out]; exact hl0)
  have g4 : ∀ h : 0 < (bS l).size, ((((bS l)[0]'h).toNat : Int) == 45) = false := fun h => by
    have e : (bS l)[0].toNat = 34 := h34
    rw [e]; rfl
  have g4 := g4 (by rw [hsz.out]; exact hl0)
  clear h34 hD0
  by_cases h1 : 1 < l.length
  · have i1 : decide ((1 : Int) < (l.length : Int)) = true := decide_eq_true (by omega)
    have i2 : decide (1 < l.length) = true := decide_eq_true h1
    go_wp2_with fail
    refine (HD.out _ _).mono ?_
    rintro e w' ⟨rfl, rfl⟩
    cases hr : rd (l.drop 1) with
    | none =>
      have hf : fT l = none := by rw [hfT.out, hr]; rfl
      rw [hf] at HF
      rw [hr] at hT
      have hT' : Hid (nextT l = none) := Lib.hid hT.out
      clear hr hf hT
      dsimp only [fVal] at HF
      go_wp2_with fail
      refine HF.out.mono ?_
      rintro e w2 ⟨rfl, hb2⟩
      replace S := Lib.hid ((S.out.call hb2).box 69 [.string ⟨#[]⟩, .int .i64 0])
      clear y10 y11 y12 y13 y14 y15 z1 f1 HF hb2
      obtain ⟨⟨z2, f2, x0, x1, -⟩, ⟨z1, f1, y10, y11, y12, y13, y14, y15, -⟩, -⟩ := S.out.facts
      have hF := Lib.hid ((((((S.out.set 1 rfl 0 (.int .i64 (⟨3, [], 0, [], 0⟩ : Tok).kind)).set 1 rfl 1 (.string (bS (⟨3, [], 0, [], 0⟩ : Tok).text))).set 1 rfl 2 (.int .i64 (⟨3, [], 0, [], 0⟩ : Tok).int)).set 1 rfl 3 (.string (bS (⟨3, [], 0, [], 0⟩ : Tok).str))).set 1 rfl 4 (.int .i64 (⟨3, [], 0, [], 0⟩ : Tok).line)).set 1 rfl 5 (.int .i64 (0 : Nat)))
      go_wp2
      refine bodyPost_ret (v := rdV ⟨3, [], 0, [], 0⟩ 0) (by simp [results, Tryd.results51, go_sem, rdV, y10, y11, y12, y13, y14, y15]) rfl ?_
      exact ⟨⟨3, [], 0, [], 0⟩, 0, rfl, Or.inl ⟨rfl, hT'.out⟩, hF.out.bel⟩
    | some p =>
      obtain ⟨t, n⟩ := p
      have hf : fT l = some (t, n + 1) := by rw [hfT.out, hr]; rfl
      rw [hf] at HF
      rw [hr] at hT
      obtain ⟨m, hm⟩ : ∃ m, n + 1 = m := ⟨_, rfl⟩
      have hT' : Hid (nextT l = some (⟨3, [], 0, t, 0⟩, n + 1)) := Lib.hid hT.out
      rw [hm] at HF hT'
      clear hr hf hT hm
      dsimp only [fVal] at HF
      go_wp2_with fail
      refine HF.out.mono ?_
      rintro e w2 ⟨rfl, hb2⟩
      replace S := Lib.hid ((S.out.call hb2).box 69 [.string (bS t), .int .i64 m])
      clear y10 y11 y12 y13 y14 y15 z1 f1 HF hb2
      obtain ⟨⟨z2, f2, x0, x1, -⟩, ⟨z1, f1, y10, y11, y12, y13, y14, y15, -⟩, -⟩ := S.out.facts
      have hF := Lib.hid ((((((S.out.set 1 rfl 0 (.int .i64 (⟨3, [], 0, t, 0⟩ : Tok).kind)).set 1 rfl 1 (.string (bS (⟨3, [], 0, t, 0⟩ : Tok).text))).set 1 rfl 2 (.int .i64 (⟨3, [], 0, t, 0⟩ : Tok).int)).set 1 rfl 3 (.string (bS (⟨3, [], 0, t, 0⟩ : Tok).str))).set 1 rfl 4 (.int .i64 (⟨3, [], 0, t, 0⟩ : Tok).line)).set 1 rfl 5 (.int .i64 (m : Nat)))
      go_wp2
      refine bodyPost_ret (v := rdV ⟨3, [], 0, t, 0⟩ m) (by simp [results, Tryd.results51, go_sem, rdV, y10, y11, y12, y13, y14, y15]) rfl ?_
      exact ⟨⟨3, [], 0, t, 0⟩, m, rfl, Or.inr hT'.out, hF.out.bel⟩
  · have i1 : decide ((1 : Int) < (l.length : Int)) = false := decide_eq_false (by omega)
    have i2 : decide (1 < l.length) = false := decide_eq_false h1
    clear h1
    go_wp2_with fail
    refine (HD.out _ _).mono ?_
    rintro e w' ⟨rfl, rfl⟩
    cases hr : rd (l.drop 1) with
    | none =>
      have hf : fT l = none := by rw [hfT.out, hr]; rfl
      rw [hf] at HF
      rw [hr] at hT
      have hT' : Hid (nextT l = none) := Lib.hid hT.out
      clear hr hf hT
      dsimp only [fVal] at HF
      go_wp2_with fail
      refine HF.out.mono ?_
      rintro e w2 ⟨rfl, hb2⟩
      replace S := Lib.hid ((S.out.call hb2).box 69 [.string ⟨#[]⟩, .int .i64 0])
      clear y10 y11 y12 y13 y14 y15 z1 f1 HF hb2
      obtain ⟨⟨z2, f2, x0, x1, -⟩, ⟨z1, f1, y10, y11, y12, y13, y14, y15, -⟩, -⟩ := S.out.facts
      have hF := Lib.hid ((((((S.out.set 1 rfl 0 (.int .i64 (⟨3, [], 0, [], 0⟩ : Tok).kind)).set 1 rfl 1 (.string (bS (⟨3, [], 0, [], 0⟩ : Tok).text))).set 1 rfl 2 (.int .i64 (⟨3, [], 0, [], 0⟩ : Tok).int)).set 1 rfl 3 (.string (bS (⟨3, [], 0, [], 0⟩ : Tok).str))).set 1 rfl 4 (.int .i64 (⟨3, [], 0, [], 0⟩ : Tok).line)).set 1 rfl 5 (.int .i64 (0 : Nat)))
      go_wp2
      refine bodyPost_ret (v := rdV ⟨3, [], 0, [], 0⟩ 0) (by simp [results, Tryd.results51, go_sem, rdV, y10, y11, y12, y13, y14, y15]) rfl ?_
      exact ⟨⟨3, [], 0, [], 0⟩, 0, rfl, Or.inl ⟨rfl, hT'.out⟩, hF.out.bel⟩
    | some p =>
      obtain ⟨t, n⟩ := p
      have hf : fT l = some (t, n + 1) := by rw [hfT.out, hr]; rfl
      rw [hf] at HF
      rw [hr] at hT
      obtain ⟨m, hm⟩ : ∃ m, n + 1 = m := ⟨_, rfl⟩
      have hT' : Hid (nextT l = some (⟨3, [], 0, t, 0⟩, n + 1)) := Lib.hid hT.out
      rw [hm] at HF hT'
      clear hr hf hT hm
      dsimp only [fVal] at HF
      go_wp2_with fail
      refine HF.out.mono ?_
      rintro e w2 ⟨rfl, hb2⟩
      replace S := Lib.hid ((S.out.call hb2).box 69 [.string (bS t), .int .i64 m])
      clear y10 y11 y12 y13 y14 y15 z1 f1 HF hb2
      obtain ⟨⟨z2, f2, x0, x1, -⟩, ⟨z1, f1, y10, y11, y12, y13, y14, y15, -⟩, -⟩ := S.out.facts
      have hF := Lib.hid ((((((S.out.set 1 rfl 0 (.int .i64 (⟨3, [], 0, t, 0⟩ : Tok).kind)).set 1 rfl 1 (.string (bS (⟨3, [], 0, t, 0⟩ : Tok).text))).set 1 rfl 2 (.int .i64 (⟨3, [], 0, t, 0⟩ : Tok).int)).set 1 rfl 3 (.string (bS (⟨3, [], 0, t, 0⟩ : Tok).str))).set 1 rfl 4 (.int .i64 (⟨3, [], 0, t, 0⟩ : Tok).line)).set 1 rfl 5 (.int .i64 (m : Nat)))
      go_wp2
      refine bodyPost_ret (v := rdV ⟨3, [], 0, t, 0⟩ m) (by simp [results, Tryd.results51, go_sem, rdV, y10, y11, y12, y13, y14, y15]) rfl ?_
      exact ⟨⟨3, [], 0, t, 0⟩, m, rfl, Or.inr hT'.out, hF.out.bel⟩
end Go.Proofs.YtmhnocgoknmljaaDoor
