/-
  CONTRACT of the program's token (numbers, strings, symbols).
  Conditions: those that each theorem names.
-/
import Derived.Test.YtmhnocgoknmljaaDoorLxN
namespace Go.Proofs.YtmhnocgoknmljaaDoor
open Go.RowKit Go.Sv Go.Lx
set_option maxHeartbeats 1000000 in
set_option maxRecDepth 100000 in
theorem token_D (l : Bs) (w : World) (ht : Tb w) (hL0 : ∃ h : 0 < l.length, isL (l[0]'h) = false) (hD0 : dCase l) (hl0 : 0 < l.length) (hn : l.length ≤ 1000000) :
    Calls Tryd.prog 42 #[.string (bS l)] w (TkR l w) := by
  have hsz := Lib.hid (bS_size l)
  have HL := Lib.hid (fun b w => isLetter_any b w)
  have HD := Lib.hid (fun b w => isDigit_any b w)
  have hT := Lib.hid (nextT_D hl0 hL0.2 hD0)
  obtain ⟨W, hW, S⟩ := token_start l w
  have HN := Lib.hid (number_any l W (ht.to S.bel) hl0 hn)
  have hL := hL0.2
  have g0 : ∀ h : 0 < (bS l).size, isL ((bS l)[0]'h) = false := fun h => hL
  have g0 := g0 (by rw [hsz.out]; exact hl0)
  clear hL hL0
  obtain ⟨⟨z1, f1, y10, y11, y12, y13, y14, -⟩, ⟨z0, f0, y00, -⟩, -⟩ := S.facts
  replace S := Lib.hid S
  go_enter Tryd.func42, Tryd.ntmps42
  go_wp2_with fail
  clear hW
  refine (HL.out _ _).mono ?_
  rintro e w' ⟨rfl, rfl⟩
  obtain ⟨h0, hD⟩ := hD0
  rcases hD with hD | ⟨h45, h1, hD⟩
  · have g1 : ∀ h : 0 < (bS l).size, isD ((bS l)[0]'h) = true := fun h => hD
    have g1 := g1 (by rw [hsz.out]; exact hl0)
    clear hD
    go_wp2_with fail
    refine (HD.out _ _).mono ?_
    rintro e w' ⟨rfl, rfl⟩
    go_wp2_with fail
    refine HN.out.mono ?_
    rintro e w2 ⟨v, o, rfl, hv0, hv1, hb2⟩
    replace S := Lib.hid (S.out.call hb2)
    clear y10 y11 y12 y13 y14 y00 z0 z1 f0 f1 HN
    obtain ⟨⟨z1, f1, y10, y11, y12, y13, y14, -⟩, -⟩ := S.out.facts
    have hF := Lib.hid (((((S.out.set 0 rfl 0 (.int .i64 (⟨2, [], v, [], 0⟩ : Tok).kind)).set 0 rfl 1 (.string (bS (⟨2, [], v, [], 0⟩ : Tok).text))).set 0 rfl 2 (.int .i64 (⟨2, [], v, [], 0⟩ : Tok).int)).set 0 rfl 3 (.string (bS (⟨2, [], v, [], 0⟩ : Tok).str))).set 0 rfl 4 (.int .i64 (⟨2, [], v, [], 0⟩ : Tok).line))
    obtain ⟨n, hdn⟩ : ∃ n, dN l = n := ⟨_, rfl⟩
    rw [hdn] at hv0 hv1 hT ⊢
    clear hb2 hdn
    cases o with
    | false =>
      have hT' : Hid (nextT l = none) := Lib.hid (by rw [hT.out, hv0 rfl])
      clear hv0 hv1 hT
      go_wp2
      refine bodyPost_ret (v := .tuple #[tokV ⟨2, [], v, [], 0⟩, .int .i64 n, .bool false]) (by simp [results, Tryd.results42, go_sem, tokV, y10, y11, y12, y13, y14]) rfl ?_
      exact ⟨⟨2, [], v, [], 0⟩, n, false, rfl, fun _ => hT'.out, fun h => (by cases h), hF.out.bel⟩
    | true =>
      have hT' : Hid (nextT l = some (⟨2, [], v, [], 0⟩, n)) := Lib.hid (by rw [hT.out, hv1 rfl])
      clear hv0 hv1 hT
      go_wp2
      refine bodyPost_ret (v := .tuple #[tokV ⟨2, [], v, [], 0⟩, .int .i64 n, .bool true]) (by simp [results, Tryd.results42, go_sem, tokV, y10, y11, y12, y13, y14]) rfl ?_
      exact ⟨⟨2, [], v, [], 0⟩, n, true, rfl, fun h => (by cases h), fun _ => hT'.out, hF.out.bel⟩
  · have g1 : ∀ h : 0 < (bS l).size, isD ((bS l)[0]'h) = false := fun h => by
      have e : l[0] = 45 := u8_eq h45
      show isD l[0] = false
      rw [e]; decide
    have g1 := g1 (by rw [hsz.out]; exact hl0)
    have g2 : ∀ h : 1 < (bS l).size, isD ((bS l)[1]'h) = true := fun h => hD
    have g2 := g2 (by rw [hsz.out]; exact h1)
    have g3 : ∀ h : 0 < (bS l).size, ((((bS l)[0]'h).toNat : Int) == 45) = true := fun h => by
      have e : (bS l)[0].toNat = 45 := h45
      rw [e]; rfl
    have g3 := g3 (by rw [hsz.out]; exact hl0)
    have i1 : decide ((1 : Int) < (l.length : Int)) = true := decide_eq_true (by omega)
    have i2 : decide (1 < l.length) = true := decide_eq_true h1
    clear hD h45
    go_wp2_with fail
    refine (HD.out _ _).mono ?_
    rintro e w' ⟨rfl, rfl⟩
    go_wp2_with fail
    refine (HD.out _ _).mono ?_
    rintro e w' ⟨rfl, rfl⟩
    go_wp2_with fail
    refine HN.out.mono ?_
    rintro e w2 ⟨v, o, rfl, hv0, hv1, hb2⟩
    replace S := Lib.hid (S.out.call hb2)
    clear y10 y11 y12 y13 y14 y00 z0 z1 f0 f1 HN
    obtain ⟨⟨z1, f1, y10, y11, y12, y13, y14, -⟩, -⟩ := S.out.facts
    have hF := Lib.hid (((((S.out.set 0 rfl 0 (.int .i64 (⟨2, [], v, [], 0⟩ : Tok).kind)).set 0 rfl 1 (.string (bS (⟨2, [], v, [], 0⟩ : Tok).text))).set 0 rfl 2 (.int .i64 (⟨2, [], v, [], 0⟩ : Tok).int)).set 0 rfl 3 (.string (bS (⟨2, [], v, [], 0⟩ : Tok).str))).set 0 rfl 4 (.int .i64 (⟨2, [], v, [], 0⟩ : Tok).line))
    obtain ⟨n, hdn⟩ : ∃ n, dN l = n := ⟨_, rfl⟩
    rw [hdn] at hv0 hv1 hT ⊢
    clear hb2 hdn
    cases o with
    | false =>
      have hT' : Hid (nextT l = none) := Lib.hid (by rw [hT.out, hv0 rfl])
      clear hv0 hv1 hT
      go_wp2
      refine bodyPost_ret (v := .tuple #[tokV ⟨2, [], v, [], 0⟩, .int .i64 n, .bool false]) (by simp [results, Tryd.results42, go_sem, tokV, y10, y11, y12, y13, y14]) rfl ?_
      exact ⟨⟨2, [], v, [], 0⟩, n, false, rfl, fun _ => hT'.out, fun h => (by cases h), hF.out.bel⟩
    | true =>
      have hT' : Hid (nextT l = some (⟨2, [], v, [], 0⟩, n)) := Lib.hid (by rw [hT.out, hv1 rfl])
      clear hv0 hv1 hT
      go_wp2
      refine bodyPost_ret (v := .tuple #[tokV ⟨2, [], v, [], 0⟩, .int .i64 n, .bool true]) (by simp [results, Tryd.results42, go_sem, tokV, y10, y11, y12, y13, y14]) rfl ?_
      exact ⟨⟨2, [], v, [], 0⟩, n, true, rfl, fun h => (by cases h), fun _ => hT'.out, hF.out.bel⟩
set_option maxHeartbeats 1000000 in
set_option maxRecDepth 100000 in
theorem token_Q (l : Bs) (w : World) (hL0 : ∃ h : 0 < l.length, isL (l[0]'h) = false) (hD0 : ¬ dCase l) (h340 : ∀ h : 0 < l.length, (l[0]'h).toNat = 34) (hl0 : 0 < l.length) (hn : l.length ≤ 1000000) :
    Calls Tryd.prog 42 #[.string (bS l)] w (TkR l w) := by
  have hsz := Lib.hid (bS_size l)
  have HL := Lib.hid (fun b w => isLetter_any b w)
  have HD := Lib.hid (fun b w => isDigit_any b w)
  have hT := Lib.hid (nextT_Q hl0 hL0.2 hD0 (h340 hl0))
  obtain ⟨W, hW, S⟩ := token_start l w
  have HQ := Lib.hid (quoted_any l W hl0 hn)
  have h34 : (l[0]'hl0).toNat = 34 := h340 hl0
  clear h340
  have hL := hL0.2
  have g0 : ∀ h : 0 < (bS l).size, isL ((bS l)[0]'h) = false := fun h => hL
  have g0 := g0 (by rw [hsz.out]; exact hl0)
  clear hL hL0
  obtain ⟨⟨z1, f1, y10, y11, y12, y13, y14, -⟩, ⟨z0, f0, y00, -⟩, -⟩ := S.facts
  replace S := Lib.hid S
  go_enter Tryd.func42, Tryd.ntmps42
  go_wp2_with fail
  clear hW
  refine (HL.out _ _).mono ?_
  rintro e w' ⟨rfl, rfl⟩
  have g1 : ∀ h : 0 < (bS l).size, isD ((bS l)[0]'h) = false := fun h => by
    have e : l[0] = 34 := u8_eq h34
    show isD l[0] = false
    rw [e]; decide
  have g1 := g1 (by rw [hsz.out]; exact hl0)
  have g3 : ∀ h : 0 < (bS l).size, ((((bS l)[0]'h).toNat : Int) == 34) = true := fun h => by
    have e : (bS l)[0].toNat = 34 := h34
    rw [e]; rfl
  have g3 := g3 (by rw [hsz.out]; exact hl0)
  have g4 : ∀ h : 0 < (bS l).size, ((((bS l)[0]'h).toNat : Int) == 45) = false := fun h => by
    have e : (bS l)[0].toNat = 34 := h34
    rw [e]; rfl
  have g4 := g4 (by rw [hsz.out]; exact hl0)
  clear h34 hD0
  go_wp2_with fail
  refine (HD.out _ _).mono ?_
  rintro e w' ⟨rfl, rfl⟩
  cases hr : rd (l.drop 1) with
  | none =>
    rw [qTup_none hr] at HQ
    rw [hr] at hT
    clear hr
    go_wp2_with fail
    refine HQ.out.mono ?_
    rintro e w2 ⟨rfl, hb2⟩
    replace S := Lib.hid (S.out.call hb2)
    clear y10 y11 y12 y13 y14 y00 z0 z1 f0 f1 HQ hb2
    obtain ⟨⟨z1, f1, y10, y11, y12, y13, y14, -⟩, -⟩ := S.out.facts
    have hF := Lib.hid (((((S.out.set 0 rfl 0 (.int .i64 (⟨3, [], 0, [], 0⟩ : Tok).kind)).set 0 rfl 1 (.string (bS (⟨3, [], 0, [], 0⟩ : Tok).text))).set 0 rfl 2 (.int .i64 (⟨3, [], 0, [], 0⟩ : Tok).int)).set 0 rfl 3 (.string (bS (⟨3, [], 0, [], 0⟩ : Tok).str))).set 0 rfl 4 (.int .i64 (⟨3, [], 0, [], 0⟩ : Tok).line))
    go_wp2
    refine bodyPost_ret (v := .tuple #[tokV ⟨3, [], 0, [], 0⟩, .int .i64 0, .bool false]) (by simp [results, Tryd.results42, go_sem, tokV, y10, y11, y12, y13, y14]) rfl ?_
    exact ⟨⟨3, [], 0, [], 0⟩, 0, false, rfl, fun _ => hT.out, fun h => (by cases h), hF.out.bel⟩
  | some p =>
    obtain ⟨t, n⟩ := p
    rw [qTup_some hr] at HQ
    rw [hr] at hT
    clear hr
    go_wp2_with fail
    refine HQ.out.mono ?_
    rintro e w2 ⟨rfl, hb2⟩
    replace S := Lib.hid (S.out.call hb2)
    clear y10 y11 y12 y13 y14 y00 z0 z1 f0 f1 HQ hb2
    obtain ⟨⟨z1, f1, y10, y11, y12, y13, y14, -⟩, -⟩ := S.out.facts
    have hF := Lib.hid (((((S.out.set 0 rfl 0 (.int .i64 (⟨3, [], 0, t, 0⟩ : Tok).kind)).set 0 rfl 1 (.string (bS (⟨3, [], 0, t, 0⟩ : Tok).text))).set 0 rfl 2 (.int .i64 (⟨3, [], 0, t, 0⟩ : Tok).int)).set 0 rfl 3 (.string (bS (⟨3, [], 0, t, 0⟩ : Tok).str))).set 0 rfl 4 (.int .i64 (⟨3, [], 0, t, 0⟩ : Tok).line))
    go_wp2
    refine bodyPost_ret (v := .tuple #[tokV ⟨3, [], 0, t, 0⟩, .int .i64 (n + 1), .bool true]) (by simp [results, Tryd.results42, go_sem, tokV, y10, y11, y12, y13, y14]) rfl ?_
    exact ⟨⟨3, [], 0, t, 0⟩, (n + 1), true, rfl, fun h => (by cases h), fun _ => hT.out, hF.out.bel⟩
end Go.Proofs.YtmhnocgoknmljaaDoor
