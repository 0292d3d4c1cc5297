/-
  CONTRACT of the program's token.
  Conditions: those that each theorem names.
-/
import Derived.Test.YtmhnocgoknmljaaDoorLxM
import Derived.Deep.RegionLaw
namespace Go.Proofs.YtmhnocgoknmljaaDoor
open Go.RowKit Go.Sv Go.Lx
def tokV (t : Tok) : Value := .agg #[.int .i64 t.kind, .string (bS t.text), .int .i64 t.int, .string (bS t.str), .int .i64 t.line]
/-- what token hands back -/
def TkR (l : Bs) (w : World) (e : Ending) (w' : World) : Prop :=
  ∃ (t : Tok) (n : Nat) (o : Bool), e = .returned (.tuple #[tokV t, .int .i64 n, .bool o]) ∧ (o = false → nextT l = none) ∧ (o = true → nextT l = some (t, n)) ∧ Below w.heap.size w w'
theorem token_start (l : Bs) (w : World) : ∃ W, (w.alloc (.cells #[.string (bS l)] 9)).alloc (.cells #[.int .i64 0, .string ⟨#[]⟩, .int .i64 0, .string ⟨#[]⟩, .int .i64 0] 25) = W ∧
    Fm w W [⟨w.heap.size + 1, 25, [.int .i64 0, .string ⟨#[]⟩, .int .i64 0, .string ⟨#[]⟩, .int .i64 0]⟩, ⟨w.heap.size, 9, [.string (bS l)]⟩] [] :=
  ⟨_, rfl, ((Fm.init w).box 9 [.string (bS l)]).box' 25 _ (by simp)⟩
/-- the five cells of a token -/
abbrev set5 (S : World) (b : Nat) (t : Tok) : World :=
  ((((S.setCell ⟨b, 0, none⟩ (.int .i64 t.kind)).setCell ⟨b, 1, none⟩ (.string (bS t.text))).setCell ⟨b, 2, none⟩ (.int .i64 t.int)).setCell ⟨b, 3, none⟩ (.string (bS t.str))).setCell ⟨b, 4, none⟩ (.int .i64 t.line)
set_option maxHeartbeats 1000000 in
set_option maxRecDepth 100000 in
theorem token_L (l : Bs) (w : World) (hL0 : ∃ h : 0 < l.length, isL (l[0]'h) = true) (hl0 : 0 < l.length) (hn : l.length ≤ 1000000) :
    Calls Tryd.prog 42 #[.string (bS l)] w (TkR l w) := by
  have hsz := Lib.hid (bS_size l)
  have HL := Lib.hid (fun b w => isLetter_any b w)
  have HD := Lib.hid (fun b w => isDigit_any b w)
  have hT := Lib.hid (nextT_L hl0 hL0.2)
  obtain ⟨W, hW, S⟩ := token_start l w
  have hL := hL0.2
  have g0 : ∀ h : 0 < (bS l).size, isL ((bS l)[0]'h) = true := fun h => hL
  have g0 := g0 (by rw [hsz.out]; exact hl0)
  clear hL hL0
  obtain ⟨⟨z1, f1, y10, y11, y12, y13, y14, -⟩, ⟨z0, f0, y00, -⟩, -⟩ := S.facts
  replace S := Lib.hid S
  go_enter Tryd.func42, Tryd.ntmps42
  go_wp2_with fail
  clear hW
  refine (HL.out _ _).mono ?_
  rintro e w' ⟨rfl, rfl⟩
  go_wp2
  clear g0
  go_loop [5] (fun s5 => ∃ n : Nat, s5 = .int .i64 n ∧ 1 ≤ n ∧ n ≤ l.length ∧ (∀ i (h : i < l.length), 1 ≤ i → i < n → isLD l[i] = true)) (fun s5 => l.length - (intOf s5).toNat)
  case atStart => exact ⟨1, rfl, Nat.le_refl _, hl0, fun i h h1 h2 => absurd h2 (by omega)⟩
  case round =>
    obtain ⟨n, rfl, n1, n2, hd⟩ := hrel
    replace hd := Lib.hid hd
    have key : (∃ h : n < l.length, (isL (l[n]'h) = true ∨ (isL (l[n]'h) = false ∧ isD (l[n]'h) = true))) ∨ (lN l = n ∧ ((∃ h : n < l.length, isL (l[n]'h) = false ∧ isD (l[n]'h) = false) ∨ ¬ n < l.length)) := by
      by_cases h : n < l.length
      · cases hL : isL (l[n]'h) with
        | true => exact Or.inl ⟨h, Or.inl hL⟩
        | false =>
          cases hD : isD (l[n]'h) with
          | true => exact Or.inl ⟨h, Or.inr ⟨hL, hD⟩⟩
          | false => exact Or.inr ⟨lN_eq n1 n2 hd.out fun _ => by unfold isLD; rw [hL, hD]; rfl, Or.inl ⟨h, hL, hD⟩⟩
      · exact Or.inr ⟨lN_eq n1 n2 hd.out fun h' => absurd h' h, Or.inr h⟩
    rcases key with ⟨hlt, hY⟩ | ⟨hdn, hend⟩
    · have hS : Hid (∀ i (h : i < l.length), 1 ≤ i → i < n + 1 → isLD l[i] = true) := Lib.hid fun i h h1 h2 => by
        rcases Nat.lt_or_ge i n with h' | h'
        · exact hd.out i h h1 h'
        · obtain rfl : i = n := by omega
          unfold isLD
          rcases hY with hY | ⟨-, hY⟩
          · rw [hY]; rfl
          · rw [hY]; simp
      clear hd
      rcases hY with hL | ⟨hL, hD⟩
      · have g1 : ∀ h : n < (bS l).size, isL ((bS l)[n]'h) = true := fun h => hL
        have g1 := g1 (by rw [hsz.out]; exact hlt)
        clear hL
        go_wp2_with fail
        refine (HL.out _ _).mono ?_
        rintro e w' ⟨rfl, rfl⟩
        go_wp2
        go_round
        case rel => exact ⟨n + 1, by go_num, by omega, hlt, hS.out⟩
        case measure => simp [intOf]; omega
      · have g1 : ∀ h : n < (bS l).size, isL ((bS l)[n]'h) = false := fun h => hL
        have g1 := g1 (by rw [hsz.out]; exact hlt)
        have g2 : ∀ h : n < (bS l).size, isD ((bS l)[n]'h) = true := fun h => hD
        have g2 := g2 (by rw [hsz.out]; exact hlt)
        clear hL hD
        go_wp2_with fail
        refine (HL.out _ _).mono ?_
        rintro e w' ⟨rfl, rfl⟩
        go_wp2_with fail
        refine (HD.out _ _).mono ?_
        rintro e w' ⟨rfl, rfl⟩
        go_wp2
        go_round
        case rel => exact ⟨n + 1, by go_num, by omega, hlt, hS.out⟩
        case measure => simp [intOf]; omega
    · have hx := bS_to l n
      rw [hdn] at hT
      obtain ⟨t, ht'⟩ : ∃ t, l.take n = t := ⟨_, rfl⟩
      rw [ht'] at hx hT
      clear hdn ht' hd
      rcases hend with ⟨hlt, hL, hD⟩ | hlt
      · have g1 : ∀ h : n < (bS l).size, isL ((bS l)[n]'h) = false := fun h => hL
        have g1 := g1 (by rw [hsz.out]; exact hlt)
        have g2 : ∀ h : n < (bS l).size, isD ((bS l)[n]'h) = false := fun h => hD
        have g2 := g2 (by rw [hsz.out]; exact hlt)
        clear hL hD
        go_wp2_with fail
        refine (HL.out _ _).mono ?_
        rintro e w' ⟨rfl, rfl⟩
        go_wp2_with fail
        refine (HD.out _ _).mono ?_
        rintro e w' ⟨rfl, rfl⟩
        have hF := Lib.hid (((((S.out.set 0 rfl 0 (.int .i64 (⟨1, t, 0, [], 0⟩ : Tok).kind)).set 0 rfl 1 (.string (bS (⟨1, t, 0, [], 0⟩ : Tok).text))).set 0 rfl 2 (.int .i64 (⟨1, t, 0, [], 0⟩ : Tok).int)).set 0 rfl 3 (.string (bS (⟨1, t, 0, [], 0⟩ : Tok).str))).set 0 rfl 4 (.int .i64 (⟨1, t, 0, [], 0⟩ : Tok).line))
        by_cases h24 : n ≤ 24
        · have d3 : decide ((n : Int) ≤ 24) = true := decide_eq_true (by omega)
          have d4 : decide (n ≤ 24) = true := decide_eq_true h24
          have hT' : Hid (nextT l = some (⟨1, t, 0, [], 0⟩, n)) := Lib.hid (by rw [hT.out, if_pos h24])
          clear h24 hT
          go_wp2
          refine bodyPost_ret (v := .tuple #[tokV ⟨1, t, 0, [], 0⟩, .int .i64 n, .bool true]) (by simp [results, Tryd.results42, go_sem, tokV, y10, y11, y12, y13, y14]) rfl ?_
          exact ⟨⟨1, t, 0, [], 0⟩, n, true, rfl, fun h => (by cases h), fun _ => hT'.out, hF.out.bel⟩
        · have d3 : decide ((n : Int) ≤ 24) = false := decide_eq_false (by omega)
          have d4 : decide (n ≤ 24) = false := decide_eq_false h24
          have hT' : Hid (nextT l = none) := Lib.hid (by rw [hT.out, if_neg h24])
          clear h24 hT
          go_wp2
          refine bodyPost_ret (v := .tuple #[tokV ⟨1, t, 0, [], 0⟩, .int .i64 n, .bool false]) (by simp [results, Tryd.results42, go_sem, tokV, y10, y11, y12, y13, y14]) rfl ?_
          exact ⟨⟨1, t, 0, [], 0⟩, n, false, rfl, fun _ => hT'.out, fun h => (by cases h), hF.out.bel⟩
      · have d1 : decide ((n : Int) < (l.length : Int)) = false := decide_eq_false (by omega)
        have d2 : decide (n < l.length) = false := decide_eq_false hlt
        clear hlt
        have hF := Lib.hid (((((S.out.set 0 rfl 0 (.int .i64 (⟨1, t, 0, [], 0⟩ : Tok).kind)).set 0 rfl 1 (.string (bS (⟨1, t, 0, [], 0⟩ : Tok).text))).set 0 rfl 2 (.int .i64 (⟨1, t, 0, [], 0⟩ : Tok).int)).set 0 rfl 3 (.string (bS (⟨1, t, 0, [], 0⟩ : Tok).str))).set 0 rfl 4 (.int .i64 (⟨1, t, 0, [], 0⟩ : Tok).line))
        by_cases h24 : n ≤ 24
        · have d3 : decide ((n : Int) ≤ 24) = true := decide_eq_true (by omega)
          have d4 : decide (n ≤ 24) = true := decide_eq_true h24
          have hT' : Hid (nextT l = some (⟨1, t, 0, [], 0⟩, n)) := Lib.hid (by rw [hT.out, if_pos h24])
          clear h24 hT
          go_wp2
          refine bodyPost_ret (v := .tuple #[tokV ⟨1, t, 0, [], 0⟩, .int .i64 n, .bool true]) (by simp [results, Tryd.results42, go_sem, tokV, y10, y11, y12, y13, y14]) rfl ?_
          exact ⟨⟨1, t, 0, [], 0⟩, n, true, rfl, fun h => (by cases h), fun _ => hT'.out, hF.out.bel⟩
        · have d3 : decide ((n : Int) ≤ 24) = false := decide_eq_false (by omega)
          have d4 : decide (n ≤ 24) = false := decide_eq_false h24
          have hT' : Hid (nextT l = none) := Lib.hid (by rw [hT.out, if_neg h24])
          clear h24 hT
          go_wp2
          refine bodyPost_ret (v := .tuple #[tokV ⟨1, t, 0, [], 0⟩, .int .i64 n, .bool false]) (by simp [results, Tryd.results42, go_sem, tokV, y10, y11, y12, y13, y14]) rfl ?_
          exact ⟨⟨1, t, 0, [], 0⟩, n, false, rfl, fun _ => hT'.out, fun h => (by cases h), hF.out.bel⟩
end Go.Proofs.YtmhnocgoknmljaaDoor
