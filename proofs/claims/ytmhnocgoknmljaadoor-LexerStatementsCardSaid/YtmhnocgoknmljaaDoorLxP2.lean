/-
  CONTRACT of the program's token (symbols; all).
  Conditions: those that each theorem names.
-/
import Derived.Test.YtmhnocgoknmljaaDoorLxO
namespace Go.Proofs.YtmhnocgoknmljaaDoor
open Go.RowKit Go.Sv Go.Lx
set_option maxHeartbeats 1000000 in
set_option maxRecDepth 100000 in
theorem token_S (l : Bs) (w : World) (ht : Tb w) (hL0 : ∃ h : 0 < l.length, isL (l[0]'h) = false) (hD0 : ¬ dCase l) (h340 : ∀ h : 0 < l.length, ¬ (l[0]'h).toNat = 34) (hl0 : 0 < l.length) (hn : l.length ≤ 1000000) :
    Calls Tryd.prog 42 #[.string (bS l)] w (TkR l w) := by
  have hsz := Lib.hid (bS_size l)
  have HL := Lib.hid (fun b w => isLetter_any b w)
  have HD := Lib.hid (fun b w => isDigit_any b w)
  have hT := Lib.hid (nextT_S hl0 hL0.2 hD0 (h340 hl0))
  obtain ⟨W, hW, S⟩ := token_start l w
  have h34 : ¬ (l[0]'hl0).toNat = 34 := h340 hl0
  clear h340
  obtain ⟨b, sO, cp, ys0, hbl, hs0⟩ := ht.sym
  have hg0 := lt_of_cell ys0
  have ys := (S.bel.cell (p := ⟨0, 0, none⟩) hg0).trans ys0
  have hs := fun j h => (S.bel.cell (p := ⟨b, sO + j, none⟩) hbl).trans (hs0 j h)
  clear hs0 ys0
  have HX := Lib.hid (isym_any l w.heap.size b sO cp W (S.facts.2.1.2.2.1) hs)
  have hL := hL0.2
  have g0 : ∀ h : 0 < (bS l).size, isL ((bS l)[0]'h) = false := fun h => hL
  have g0 := g0 (by rw [hsz.out]; exact hl0)
  clear hL hL0
  obtain ⟨⟨z1, f1, y10, y11, y12, y13, y14, -⟩, ⟨z0, f0, y00, -⟩, -⟩ := S.facts
  replace S := Lib.hid S
  go_enter Tryd.func42, Tryd.ntmps42
  go_wp2_with fail
  clear hW
  refine (HL.out _ _).mono ?_
  rintro e w' ⟨rfl, rfl⟩
  have g1 : ∀ h : 0 < (bS l).size, isD ((bS l)[0]'h) = false := fun h => by
    cases e : isD l[0] with
    | false => exact e
    | true => exact absurd ⟨hl0, Or.inl e⟩ hD0
  have g1 := g1 (by rw [hsz.out]; exact hl0)
  have g3 : ∀ h : 0 < (bS l).size, ((((bS l)[0]'h).toNat : Int) == 34) = false := fun h => by
    have e : ¬ (bS l)[0].toNat = 34 := h34
    simp; omega
  have g3 := g3 (by rw [hsz.out]; exact hl0)
  by_cases h45 : (l[0]'hl0).toNat = 45
  · have g4 : ∀ h : 0 < (bS l).size, ((((bS l)[0]'h).toNat : Int) == 45) = true := fun h => by
      have e : (bS l)[0].toNat = 45 := h45
      rw [e]; rfl
    have g4 := g4 (by rw [hsz.out]; exact hl0)
    by_cases h1 : 1 < l.length
    · have g2 : ∀ h : 1 < (bS l).size, isD ((bS l)[1]'h) = false := fun h => by
        cases e : isD l[1] with
        | false => exact e
        | true => exact absurd ⟨hl0, Or.inr ⟨h45, h1, e⟩⟩ hD0
      have g2 := g2 (by rw [hsz.out]; exact h1)
      have i1 : decide ((1 : Int) < (l.length : Int)) = true := decide_eq_true (by omega)
      have i2 : decide (1 < l.length) = true := decide_eq_true h1
      clear h45 h34 hD0
      go_wp2_with fail
      refine (HD.out _ _).mono ?_
      rintro e w' ⟨rfl, rfl⟩
      go_wp2_with fail
      refine (HD.out _ _).mono ?_
      rintro e w' ⟨rfl, rfl⟩
      go_wp2_with fail
      refine HX.out.mono ?_
      rintro e w' ⟨z, rfl, hz, rfl⟩
      rcases hz with ⟨rfl, hno⟩ | ⟨k, hk, rfl, hyes⟩
      · rw [hno] at hT
        have hF := Lib.hid (((((S.out.set 0 rfl 0 (.int .i64 (⟨0, [], 0, [], 0⟩ : Tok).kind)).set 0 rfl 1 (.string (bS (⟨0, [], 0, [], 0⟩ : Tok).text))).set 0 rfl 2 (.int .i64 (⟨0, [], 0, [], 0⟩ : Tok).int)).set 0 rfl 3 (.string (bS (⟨0, [], 0, [], 0⟩ : Tok).str))).set 0 rfl 4 (.int .i64 (⟨0, [], 0, [], 0⟩ : Tok).line))
        clear hno HX
        go_wp2
        refine bodyPost_ret (v := .tuple #[tokV ⟨0, [], 0, [], 0⟩, .int .i64 0, .bool false]) (by simp [results, Tryd.results42, go_sem, tokV, y10, y11, y12, y13, y14]) rfl ?_
        exact ⟨⟨0, [], 0, [], 0⟩, 0, false, rfl, fun _ => hT.out, fun h => (by cases h), hF.out.bel⟩
      · rw [hyes] at hT
        have yk := hs k hk
        have hk18 : k < 18 := hk
        obtain ⟨x, hx⟩ : ∃ x, syms[k]'hk = x := ⟨_, rfl⟩
        rw [hx] at hT yk
        have hxs := Lib.hid (bS_size x)
        have hF := Lib.hid (((((S.out.set 0 rfl 0 (.int .i64 (⟨4, x, 0, [], 0⟩ : Tok).kind)).set 0 rfl 1 (.string (bS (⟨4, x, 0, [], 0⟩ : Tok).text))).set 0 rfl 2 (.int .i64 (⟨4, x, 0, [], 0⟩ : Tok).int)).set 0 rfl 3 (.string (bS (⟨4, x, 0, [], 0⟩ : Tok).str))).set 0 rfl 4 (.int .i64 (⟨4, x, 0, [], 0⟩ : Tok).line))
        have zk : decide ((k : Int) < 0) = false := decide_eq_false (by omega)
        have kI : (k : Int) < 18 := by omega
        replace hs := Lib.hid hs
        clear hyes HX hx
        have ne1 : ¬ w.heap.size + 1 = b := by omega
        have ne2 : ¬ b = w.heap.size + 1 := by omega
        have ne3 : ¬ w.heap.size + 1 = 0 := fun e => by have hg0 : 0 < w.heap.size := hg0; omega
        have ne4 : ¬ 0 = w.heap.size + 1 := fun e => by have hg0 : 0 < w.heap.size := hg0; omega
        go_wp2_with fail
        go_region_held3 (fun w' => w'.cell? ⟨0, 0, none⟩ = some (.slice (some ⟨b, sO, none⟩) 18 cp) ∧ w'.cell? ⟨b, sO + k, none⟩ = some (.string (bS x))) (go_keep) (fail)
        all_goals
          replace hF := Lib.hid hF.out.drew
          clear ne1 ne2 ne3 ne4 kI zk yk ys
          go_wp2
          refine bodyPost_ret (v := .tuple #[tokV ⟨4, x, 0, [], 0⟩, .int .i64 x.length, .bool true]) (by simp [results, Tryd.results42, go_sem, tokV, y10, y11, y12, y13, y14]) rfl ?_
          exact ⟨⟨4, x, 0, [], 0⟩, x.length, true, rfl, fun h => (by cases h), fun _ => hT.out, hF.out.bel⟩
    · have i1 : decide ((1 : Int) < (l.length : Int)) = false := decide_eq_false (by omega)
      have i2 : decide (1 < l.length) = false := decide_eq_false h1
      clear h45 h34 hD0 h1
      go_wp2_with fail
      refine (HD.out _ _).mono ?_
      rintro e w' ⟨rfl, rfl⟩
      go_wp2_with fail
      refine HX.out.mono ?_
      rintro e w' ⟨z, rfl, hz, rfl⟩
      rcases hz with ⟨rfl, hno⟩ | ⟨k, hk, rfl, hyes⟩
      · rw [hno] at hT
        have hF := Lib.hid (((((S.out.set 0 rfl 0 (.int .i64 (⟨0, [], 0, [], 0⟩ : Tok).kind)).set 0 rfl 1 (.string (bS (⟨0, [], 0, [], 0⟩ : Tok).text))).set 0 rfl 2 (.int .i64 (⟨0, [], 0, [], 0⟩ : Tok).int)).set 0 rfl 3 (.string (bS (⟨0, [], 0, [], 0⟩ : Tok).str))).set 0 rfl 4 (.int .i64 (⟨0, [], 0, [], 0⟩ : Tok).line))
        clear hno HX
        go_wp2
        refine bodyPost_ret (v := .tuple #[tokV ⟨0, [], 0, [], 0⟩, .int .i64 0, .bool false]) (by simp [results, Tryd.results42, go_sem, tokV, y10, y11, y12, y13, y14]) rfl ?_
        exact ⟨⟨0, [], 0, [], 0⟩, 0, false, rfl, fun _ => hT.out, fun h => (by cases h), hF.out.bel⟩
      · rw [hyes] at hT
        have yk := hs k hk
        have hk18 : k < 18 := hk
        obtain ⟨x, hx⟩ : ∃ x, syms[k]'hk = x := ⟨_, rfl⟩
        rw [hx] at hT yk
        have hxs := Lib.hid (bS_size x)
        have hF := Lib.hid (((((S.out.set 0 rfl 0 (.int .i64 (⟨4, x, 0, [], 0⟩ : Tok).kind)).set 0 rfl 1 (.string (bS (⟨4, x, 0, [], 0⟩ : Tok).text))).set 0 rfl 2 (.int .i64 (⟨4, x, 0, [], 0⟩ : Tok).int)).set 0 rfl 3 (.string (bS (⟨4, x, 0, [], 0⟩ : Tok).str))).set 0 rfl 4 (.int .i64 (⟨4, x, 0, [], 0⟩ : Tok).line))
        have zk : decide ((k : Int) < 0) = false := decide_eq_false (by omega)
        have kI : (k : Int) < 18 := by omega
        replace hs := Lib.hid hs
        clear hyes HX hx
        have ne1 : ¬ w.heap.size + 1 = b := by omega
        have ne2 : ¬ b = w.heap.size + 1 := by omega
        have ne3 : ¬ w.heap.size + 1 = 0 := fun e => by have hg0 : 0 < w.heap.size := hg0; omega
        have ne4 : ¬ 0 = w.heap.size + 1 := fun e => by have hg0 : 0 < w.heap.size := hg0; omega
        go_wp2_with fail
        go_region_held3 (fun w' => w'.cell? ⟨0, 0, none⟩ = some (.slice (some ⟨b, sO, none⟩) 18 cp) ∧ w'.cell? ⟨b, sO + k, none⟩ = some (.string (bS x))) (go_keep) (fail)
        all_goals
          replace hF := Lib.hid hF.out.drew
          clear ne1 ne2 ne3 ne4 kI zk yk ys
          go_wp2
          refine bodyPost_ret (v := .tuple #[tokV ⟨4, x, 0, [], 0⟩, .int .i64 x.length, .bool true]) (by simp [results, Tryd.results42, go_sem, tokV, y10, y11, y12, y13, y14]) rfl ?_
          exact ⟨⟨4, x, 0, [], 0⟩, x.length, true, rfl, fun h => (by cases h), fun _ => hT.out, hF.out.bel⟩
  · have g4 : ∀ h : 0 < (bS l).size, ((((bS l)[0]'h).toNat : Int) == 45) = false := fun h => by
      have e : ¬ (bS l)[0].toNat = 45 := h45
      simp; omega
    have g4 := g4 (by rw [hsz.out]; exact hl0)
    clear h45 h34 hD0
    go_wp2_with fail
    refine (HD.out _ _).mono ?_
    rintro e w' ⟨rfl, rfl⟩
    go_wp2_with fail
    refine HX.out.mono ?_
    rintro e w' ⟨z, rfl, hz, rfl⟩
    rcases hz with ⟨rfl, hno⟩ | ⟨k, hk, rfl, hyes⟩
    · rw [hno] at hT
      have hF := Lib.hid (((((S.out.set 0 rfl 0 (.int .i64 (⟨0, [], 0, [], 0⟩ : Tok).kind)).set 0 rfl 1 (.string (bS (⟨0, [], 0, [], 0⟩ : Tok).text))).set 0 rfl 2 (.int .i64 (⟨0, [], 0, [], 0⟩ : Tok).int)).set 0 rfl 3 (.string (bS (⟨0, [], 0, [], 0⟩ : Tok).str))).set 0 rfl 4 (.int .i64 (⟨0, [], 0, [], 0⟩ : Tok).line))
      clear hno HX
      go_wp2
      refine bodyPost_ret (v := .tuple #[tokV ⟨0, [], 0, [], 0⟩, .int .i64 0, .bool false]) (by simp [results, Tryd.results42, go_sem, tokV, y10, y11, y12, y13, y14]) rfl ?_
      exact ⟨⟨0, [], 0, [], 0⟩, 0, false, rfl, fun _ => hT.out, fun h => (by cases h), hF.out.bel⟩
    · rw [hyes] at hT
      have yk := hs k hk
      have hk18 : k < 18 := hk
      obtain ⟨x, hx⟩ : ∃ x, syms[k]'hk = x := ⟨_, rfl⟩
      rw [hx] at hT yk
      have hxs := Lib.hid (bS_size x)
      have hF := Lib.hid (((((S.out.set 0 rfl 0 (.int .i64 (⟨4, x, 0, [], 0⟩ : Tok).kind)).set 0 rfl 1 (.string (bS (⟨4, x, 0, [], 0⟩ : Tok).text))).set 0 rfl 2 (.int .i64 (⟨4, x, 0, [], 0⟩ : Tok).int)).set 0 rfl 3 (.string (bS (⟨4, x, 0, [], 0⟩ : Tok).str))).set 0 rfl 4 (.int .i64 (⟨4, x, 0, [], 0⟩ : Tok).line))
      have zk : decide ((k : Int) < 0) = false := decide_eq_false (by omega)
      have kI : (k : Int) < 18 := by omega
      replace hs := Lib.hid hs
      clear hyes HX hx
      have ne1 : ¬ w.heap.size + 1 = b := by omega
      have ne2 : ¬ b = w.heap.size + 1 := by omega
      have ne3 : ¬ w.heap.size + 1 = 0 := fun e => by have hg0 : 0 < w.heap.size := hg0; omega
      have ne4 : ¬ 0 = w.heap.size + 1 := fun e => by have hg0 : 0 < w.heap.size := hg0; omega
      go_wp2_with fail
      go_region_held3 (fun w' => w'.cell? ⟨0, 0, none⟩ = some (.slice (some ⟨b, sO, none⟩) 18 cp) ∧ w'.cell? ⟨b, sO + k, none⟩ = some (.string (bS x))) (go_keep) (fail)
      all_goals
        replace hF := Lib.hid hF.out.drew
        clear ne1 ne2 ne3 ne4 kI zk yk ys
        go_wp2
        refine bodyPost_ret (v := .tuple #[tokV ⟨4, x, 0, [], 0⟩, .int .i64 x.length, .bool true]) (by simp [results, Tryd.results42, go_sem, tokV, y10, y11, y12, y13, y14]) rfl ?_
        exact ⟨⟨4, x, 0, [], 0⟩, x.length, true, rfl, fun h => (by cases h), fun _ => hT.out, hF.out.bel⟩
theorem token_any (l : Bs) (w : World) (ht : Tb w) (hl0 : 0 < l.length) (hn : l.length ≤ 1000000) :
    Calls Tryd.prog 42 #[.string (bS l)] w (TkR l w) := by
  cases hL : isL l[0] with
  | true => exact token_L l w ⟨hl0, hL⟩ hl0 hn
  | false =>
    by_cases hD : dCase l
    · exact token_D l w ht ⟨hl0, hL⟩ hD hl0 hn
    · by_cases h34 : l[0].toNat = 34
      · exact token_Q l w ⟨hl0, hL⟩ hD (fun _ => h34) hl0 hn
      · exact token_S l w ht ⟨hl0, hL⟩ hD (fun _ => h34) hl0 hn
end Go.Proofs.YtmhnocgoknmljaaDoor
