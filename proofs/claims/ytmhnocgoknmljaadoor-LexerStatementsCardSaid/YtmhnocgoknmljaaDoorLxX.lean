/-
  CONTRACT of the reference's Next (symbols; all).
  Conditions: those that each theorem names.
-/
import Derived.Test.YtmhnocgoknmljaaDoorLxV
namespace Go.Proofs.YtmhnocgoknmljaaDoor
open Go.RowKit Go.Sv Go.Lx
theorem take_two {l : Bs} (h : 2 ≤ l.length) : (l.take 2).length = 2 := by rw [List.length_take]; omega
/-- the reference's search finds what symAt finds -/
theorem sym_found {l : Bs} {n : Nat} (h0 : 0 < l.length) (hn : 0 < n) (h2 : n ≤ 2) (hl : n ≤ l.length) (hs : l.take n ∈ symsR) (hno : ∀ m, n < m → m ≤ 2 → m ≤ l.length → ¬ l.take m ∈ symsR) : symAt l = some (l.take n) := by
  rw [symAt_eq (by intro h; subst h; simp at h0)]
  unfold symR
  rcases (show n = 2 ∨ n = 1 by omega) with rfl | rfl
  · rw [if_pos ⟨hl, hs⟩]
  · rw [if_neg (fun h => hno 2 (by omega) (Nat.le_refl _) h.1 h.2), if_pos hs]
theorem sym_none {l : Bs} (h0 : 0 < l.length) (hno : ∀ m, 0 < m → m ≤ 2 → m ≤ l.length → ¬ l.take m ∈ symsR) : symAt l = none := by
  rw [symAt_eq (by intro h; subst h; simp at h0)]
  unfold symR
  rw [if_neg (fun h => hno 2 (by omega) (Nat.le_refl _) h.1 h.2), if_neg (hno 1 (by omega) (by omega) h0)]
set_option maxHeartbeats 2000000 in
set_option maxRecDepth 100000 in
theorem next_S (l : Bs) (w : World) (hL0 : ∃ h : 0 < l.length, isL (l[0]'h) = false) (hD0 : ¬ dCase l) (h340 : ∀ h : 0 < l.length, ¬ (l[0]'h).toNat = 34) (hl0 : 0 < l.length) (hn : l.length ≤ 100000) :
    Calls Tryd.prog 51 #[.string (bS l)] w (NxR l w) := by
  have hsz := Lib.hid (bS_size l)
  have HL := Lib.hid (fun b w => letter_any b w)
  have HD := Lib.hid (fun b w => digit_any b w)
  have hT := Lib.hid (nextT_S hl0 hL0.2 hD0 (h340 hl0))
  obtain ⟨W, hW, S⟩ := next_start w
  have h34 : ¬ (l[0]'hl0).toNat = 34 := h340 hl0
  clear h340
  have HS := Lib.hid (fun s w => isSym_any s w)
  obtain ⟨M, hM⟩ : ∃ M : Nat, min 2 l.length = M := ⟨_, rfl⟩
  have hmI : min (2 : Int) (l.length : Int) = (M : Int) := by omega
  have hM1 : 1 ≤ M ∧ M ≤ 2 ∧ M ≤ l.length := by omega
  have hM2 : ∀ m, m ≤ 2 → m ≤ l.length → m ≤ M := fun m a b => by omega
  clear hM
  have hL := hL0.2
  have g0 : ∀ h : 0 < (bS l).size, isL ((bS l)[0]'h) = false := fun h => hL
  have g0 := g0 (by rw [hsz.out]; exact hl0)
  clear hL hL0
  obtain ⟨⟨z1, f1, y10, y11, y12, y13, y14, y15, -⟩, -⟩ := S.facts
  replace S := Lib.hid S
  go_enter Tryd.func51, Tryd.ntmps51
  go_wp2_with fail
  clear hW
  refine (HL.out _ _).mono ?_
  rintro e w' ⟨rfl, rfl⟩
  have g1 : ∀ h : 0 < (bS l).size, isD ((bS l)[0]'h) = false := fun h => by
    cases e : isD l[0] with
    | false => exact e
    | true => exact absurd ⟨hl0, Or.inl e⟩ hD0
  have g1 := g1 (by rw [hsz.out]; exact hl0)
  have g3 : ∀ h : 0 < (bS l).size, ((((bS l)[0]'h).toNat : Int) == 34) = false := fun h => by
    have e : ¬ (bS l)[0].toNat = 34 := h34
    simp; omega
  have g3 := g3 (by rw [hsz.out]; exact hl0)
  by_cases h1 : 1 < l.length
  · have i1 : decide ((1 : Int) < (l.length : Int)) = true := decide_eq_true (by omega)
    have i2 : decide (1 < l.length) = true := decide_eq_true h1
    by_cases h45 : (l[0]'hl0).toNat = 45
    · have g4 : ∀ h : 0 < (bS l).size, ((((bS l)[0]'h).toNat : Int) == 45) = true := fun h => by
        have e : (bS l)[0].toNat = 45 := h45
        rw [e]; rfl
      have g4 := g4 (by rw [hsz.out]; exact hl0)
      have g2 : ∀ h : 1 < (bS l).size, isD ((bS l)[1]'h) = false := fun h => by
        cases e : isD l[1] with
        | false => exact e
        | true => exact absurd ⟨hl0, Or.inr ⟨h45, h1, e⟩⟩ hD0
      have g2 := g2 (by rw [hsz.out]; exact h1)
      clear h45 h34 hD0
      go_wp2_with fail
      refine (HD.out _ _).mono ?_
      rintro e w' ⟨rfl, rfl⟩
      go_wp2_with fail
      refine (HD.out _ _).mono ?_
      rintro e w' ⟨rfl, rfl⟩
      go_wp2
      clear g0 g1 g3
      go_loopw [6] (fun s6 wr => ∃ n : Nat, s6 = .int .i64 n ∧ n ≤ M ∧ (∀ m, n < m → m ≤ M → ¬ l.take m ∈ symsR) ∧ Below W.heap.size W wr) (fun s6 _ => (intOf s6).toNat)
      case atStart => exact ⟨M, rfl, Nat.le_refl _, fun m h h' => absurd h (by omega), Below.refl _ _⟩
      case round =>
        obtain ⟨n, rfl, hnM, hno, hbw⟩ := hrel
        replace hno := Lib.hid hno
        have hBw := hbw.size
        by_cases hn0 : 0 < n
        · have d1 : decide ((0 : Int) < (n : Int)) = true := decide_eq_true (by omega)
          have d2 : decide (0 < n) = true := decide_eq_true hn0
          have hx := bS_to l n
          have hnl : n ≤ l.length := by omega
          have htl : (l.take n).length = n := by rw [List.length_take]; omega
          have HF := Lib.hid (fun (h : l.take n ∈ symsR) => sym_found hl0 hn0 (by omega) hnl h (fun m a b c => hno.out m a (by omega)))
          have HNo := Lib.hid (fun (h : ¬ l.take n ∈ symsR) => (show ∀ m, n - 1 < m → m ≤ M → ¬ l.take m ∈ symsR from fun m a b => by
            rcases Nat.lt_or_ge n m with c | c
            · exact hno.out m c b
            · obtain rfl : m = n := by omega
              exact h))
          have HS1 := Lib.hid (HS.out (l.take n) wr)
          obtain ⟨t, ht'⟩ : ∃ t, l.take n = t := ⟨_, rfl⟩
          rw [ht'] at hx HF HNo HS1 htl
          clear ht' hno
          by_cases hm : t ∈ symsR
          · have hs := HF.out hm
            rw [hs] at hT
            have hT' : Hid (nextT l = some (⟨4, t, 0, [], 0⟩, n)) := Lib.hid (by rw [hT.out]; simp only [htl])
            rw [decide_eq_true hm] at HS1
            clear hm HF HNo hs hT htl
            go_wp2_with fail
            refine HS1.out.mono ?_
            rintro e w2 ⟨rfl, hb2⟩
            replace S := Lib.hid (S.out.call (hbw.trans (hb2.mono hBw)))
            clear y10 y11 y12 y13 y14 y15 z1 f1 HS1 hb2 hbw
            obtain ⟨⟨z1, f1, y10, y11, y12, y13, y14, y15, -⟩, -⟩ := S.out.facts
            have hF := Lib.hid ((((((S.out.set 0 rfl 0 (.int .i64 (⟨4, t, 0, [], 0⟩ : Tok).kind)).set 0 rfl 1 (.string (bS (⟨4, t, 0, [], 0⟩ : Tok).text))).set 0 rfl 2 (.int .i64 (⟨4, t, 0, [], 0⟩ : Tok).int)).set 0 rfl 3 (.string (bS (⟨4, t, 0, [], 0⟩ : Tok).str))).set 0 rfl 4 (.int .i64 (⟨4, t, 0, [], 0⟩ : Tok).line)).set 0 rfl 5 (.int .i64 (n : Nat)))
            go_wp2
            refine bodyPost_ret (v := rdV ⟨4, t, 0, [], 0⟩ n) (by simp [results, Tryd.results51, go_sem, rdV, y10, y11, y12, y13, y14, y15]) rfl ?_
            exact ⟨⟨4, t, 0, [], 0⟩, n, rfl, Or.inr hT'.out, hF.out.bel⟩
          · have hN := Lib.hid (HNo.out hm)
            rw [decide_eq_false hm] at HS1
            have w1 : IntKind.i64.wrap ((n : Int) - 1) = ((n - 1 : Nat) : Int) := by simp [IntKind.wrap, IntKind.bits, IntKind.signed]; omega
            have hn1 : ((n - 1 : Nat) : Int) = (n : Int) - 1 := by omega
            rw [hn1] at w1
            replace hn1 := Lib.hid hn1
            clear hm HF HNo htl
            go_wp2_with fail
            refine HS1.out.mono ?_
            rintro e w2 ⟨rfl, hb2⟩
            have hb3 := Lib.hid (hbw.trans (hb2.mono hBw))
            clear hb2 hbw HS1
            go_wp2
            go_roundw
            case rel => exact ⟨n - 1, congrArg _ hn1.out.symm, by omega, hN.out, hb3.out⟩
            case measure => simp [intOf]; omega
        · obtain rfl : n = 0 := by omega
          have hT' : Hid (nextT l = none) := Lib.hid (by rw [hT.out, sym_none hl0 (fun m a b c => hno.out m a (by omega))])
          replace S := Lib.hid (S.out.call hbw)
          clear y10 y11 y12 y13 y14 y15 z1 f1 hbw hno hn0 hT
          obtain ⟨⟨z1, f1, y10, y11, y12, y13, y14, y15, -⟩, -⟩ := S.out.facts
          have hF := Lib.hid ((((((S.out.set 0 rfl 0 (.int .i64 (rd0 : Tok).kind)).set 0 rfl 1 (.string (bS (rd0 : Tok).text))).set 0 rfl 2 (.int .i64 (rd0 : Tok).int)).set 0 rfl 3 (.string (bS (rd0 : Tok).str))).set 0 rfl 4 (.int .i64 (rd0 : Tok).line)).set 0 rfl 5 (.int .i64 (0 : Nat)))
          go_wp2
          refine bodyPost_ret (v := rdV rd0 0) (by simp [results, Tryd.results51, go_sem, rdV, rd0, y10, y11, y12, y13, y14, y15]) rfl ?_
          exact ⟨rd0, 0, rfl, Or.inl ⟨rfl, hT'.out⟩, hF.out.bel⟩
    · have g4 : ∀ h : 0 < (bS l).size, ((((bS l)[0]'h).toNat : Int) == 45) = false := fun h => by
        have e : ¬ (bS l)[0].toNat = 45 := h45
        simp; omega
      have g4 := g4 (by rw [hsz.out]; exact hl0)
      clear h45 h34 hD0
      go_wp2_with fail
      refine (HD.out _ _).mono ?_
      rintro e w' ⟨rfl, rfl⟩
      go_wp2
      clear g0 g1 g3
      go_loopw [6] (fun s6 wr => ∃ n : Nat, s6 = .int .i64 n ∧ n ≤ M ∧ (∀ m, n < m → m ≤ M → ¬ l.take m ∈ symsR) ∧ Below W.heap.size W wr) (fun s6 _ => (intOf s6).toNat)
      case atStart => exact ⟨M, rfl, Nat.le_refl _, fun m h h' => absurd h (by omega), Below.refl _ _⟩
      case round =>
        obtain ⟨n, rfl, hnM, hno, hbw⟩ := hrel
        replace hno := Lib.hid hno
        have hBw := hbw.size
        by_cases hn0 : 0 < n
        · have d1 : decide ((0 : Int) < (n : Int)) = true := decide_eq_true (by omega)
          have d2 : decide (0 < n) = true := decide_eq_true hn0
          have hx := bS_to l n
          have hnl : n ≤ l.length := by omega
          have htl : (l.take n).length = n := by rw [List.length_take]; omega
          have HF := Lib.hid (fun (h : l.take n ∈ symsR) => sym_found hl0 hn0 (by omega) hnl h (fun m a b c => hno.out m a (by omega)))
          have HNo := Lib.hid (fun (h : ¬ l.take n ∈ symsR) => (show ∀ m, n - 1 < m → m ≤ M → ¬ l.take m ∈ symsR from fun m a b => by
            rcases Nat.lt_or_ge n m with c | c
            · exact hno.out m c b
            · obtain rfl : m = n := by omega
              exact h))
          have HS1 := Lib.hid (HS.out (l.take n) wr)
          obtain ⟨t, ht'⟩ : ∃ t, l.take n = t := ⟨_, rfl⟩
          rw [ht'] at hx HF HNo HS1 htl
          clear ht' hno
          by_cases hm : t ∈ symsR
          · have hs := HF.out hm
            rw [hs] at hT
            have hT' : Hid (nextT l = some (⟨4, t, 0, [], 0⟩, n)) := Lib.hid (by rw [hT.out]; simp only [htl])
            rw [decide_eq_true hm] at HS1
            clear hm HF HNo hs hT htl
            go_wp2_with fail
            refine HS1.out.mono ?_
            rintro e w2 ⟨rfl, hb2⟩
            replace S := Lib.hid (S.out.call (hbw.trans (hb2.mono hBw)))
            clear y10 y11 y12 y13 y14 y15 z1 f1 HS1 hb2 hbw
            obtain ⟨⟨z1, f1, y10, y11, y12, y13, y14, y15, -⟩, -⟩ := S.out.facts
            have hF := Lib.hid ((((((S.out.set 0 rfl 0 (.int .i64 (⟨4, t, 0, [], 0⟩ : Tok).kind)).set 0 rfl 1 (.string (bS (⟨4, t, 0, [], 0⟩ : Tok).text))).set 0 rfl 2 (.int .i64 (⟨4, t, 0, [], 0⟩ : Tok).int)).set 0 rfl 3 (.string (bS (⟨4, t, 0, [], 0⟩ : Tok).str))).set 0 rfl 4 (.int .i64 (⟨4, t, 0, [], 0⟩ : Tok).line)).set 0 rfl 5 (.int .i64 (n : Nat)))
            go_wp2
            refine bodyPost_ret (v := rdV ⟨4, t, 0, [], 0⟩ n) (by simp [results, Tryd.results51, go_sem, rdV, y10, y11, y12, y13, y14, y15]) rfl ?_
            exact ⟨⟨4, t, 0, [], 0⟩, n, rfl, Or.inr hT'.out, hF.out.bel⟩
          · have hN := Lib.hid (HNo.out hm)
            rw [decide_eq_false hm] at HS1
            have w1 : IntKind.i64.wrap ((n : Int) - 1) = ((n - 1 : Nat) : Int) := by simp [IntKind.wrap, IntKind.bits, IntKind.signed]; omega
            have hn1 : ((n - 1 : Nat) : Int) = (n : Int) - 1 := by omega
            rw [hn1] at w1
            replace hn1 := Lib.hid hn1
            clear hm HF HNo htl
            go_wp2_with fail
            refine HS1.out.mono ?_
            rintro e w2 ⟨rfl, hb2⟩
            have hb3 := Lib.hid (hbw.trans (hb2.mono hBw))
            clear hb2 hbw HS1
            go_wp2
            go_roundw
            case rel => exact ⟨n - 1, congrArg _ hn1.out.symm, by omega, hN.out, hb3.out⟩
            case measure => simp [intOf]; omega
        · obtain rfl : n = 0 := by omega
          have hT' : Hid (nextT l = none) := Lib.hid (by rw [hT.out, sym_none hl0 (fun m a b c => hno.out m a (by omega))])
          replace S := Lib.hid (S.out.call hbw)
          clear y10 y11 y12 y13 y14 y15 z1 f1 hbw hno hn0 hT
          obtain ⟨⟨z1, f1, y10, y11, y12, y13, y14, y15, -⟩, -⟩ := S.out.facts
          have hF := Lib.hid ((((((S.out.set 0 rfl 0 (.int .i64 (rd0 : Tok).kind)).set 0 rfl 1 (.string (bS (rd0 : Tok).text))).set 0 rfl 2 (.int .i64 (rd0 : Tok).int)).set 0 rfl 3 (.string (bS (rd0 : Tok).str))).set 0 rfl 4 (.int .i64 (rd0 : Tok).line)).set 0 rfl 5 (.int .i64 (0 : Nat)))
          go_wp2
          refine bodyPost_ret (v := rdV rd0 0) (by simp [results, Tryd.results51, go_sem, rdV, rd0, y10, y11, y12, y13, y14, y15]) rfl ?_
          exact ⟨rd0, 0, rfl, Or.inl ⟨rfl, hT'.out⟩, hF.out.bel⟩
  · have i1 : decide ((1 : Int) < (l.length : Int)) = false := decide_eq_false (by omega)
    have i2 : decide (1 < l.length) = false := decide_eq_false h1
    clear h1 h34 hD0
    go_wp2_with fail
    refine (HD.out _ _).mono ?_
    rintro e w' ⟨rfl, rfl⟩
    go_wp2
    clear g0 g1 g3
    go_loopw [6] (fun s6 wr => ∃ n : Nat, s6 = .int .i64 n ∧ n ≤ M ∧ (∀ m, n < m → m ≤ M → ¬ l.take m ∈ symsR) ∧ Below W.heap.size W wr) (fun s6 _ => (intOf s6).toNat)
    case atStart => exact ⟨M, rfl, Nat.le_refl _, fun m h h' => absurd h (by omega), Below.refl _ _⟩
    case round =>
      obtain ⟨n, rfl, hnM, hno, hbw⟩ := hrel
      replace hno := Lib.hid hno
      have hBw := hbw.size
      by_cases hn0 : 0 < n
      · have d1 : decide ((0 : Int) < (n : Int)) = true := decide_eq_true (by omega)
        have d2 : decide (0 < n) = true := decide_eq_true hn0
        have hx := bS_to l n
        have hnl : n ≤ l.length := by omega
        have htl : (l.take n).length = n := by rw [List.length_take]; omega
        have HF := Lib.hid (fun (h : l.take n ∈ symsR) => sym_found hl0 hn0 (by omega) hnl h (fun m a b c => hno.out m a (by omega)))
        have HNo := Lib.hid (fun (h : ¬ l.take n ∈ symsR) => (show ∀ m, n - 1 < m → m ≤ M → ¬ l.take m ∈ symsR from fun m a b => by
          rcases Nat.lt_or_ge n m with c | c
          · exact hno.out m c b
          · obtain rfl : m = n := by omega
            exact h))
        have HS1 := Lib.hid (HS.out (l.take n) wr)
        obtain ⟨t, ht'⟩ : ∃ t, l.take n = t := ⟨_, rfl⟩
        rw [ht'] at hx HF HNo HS1 htl
        clear ht' hno
        by_cases hm : t ∈ symsR
        · have hs := HF.out hm
          rw [hs] at hT
          have hT' : Hid (nextT l = some (⟨4, t, 0, [], 0⟩, n)) := Lib.hid (by rw [hT.out]; simp only [htl])
          rw [decide_eq_true hm] at HS1
          clear hm HF HNo hs hT htl
          go_wp2_with fail
          refine HS1.out.mono ?_
          rintro e w2 ⟨rfl, hb2⟩
          replace S := Lib.hid (S.out.call (hbw.trans (hb2.mono hBw)))
          clear y10 y11 y12 y13 y14 y15 z1 f1 HS1 hb2 hbw
          obtain ⟨⟨z1, f1, y10, y11, y12, y13, y14, y15, -⟩, -⟩ := S.out.facts
          have hF := Lib.hid ((((((S.out.set 0 rfl 0 (.int .i64 (⟨4, t, 0, [], 0⟩ : Tok).kind)).set 0 rfl 1 (.string (bS (⟨4, t, 0, [], 0⟩ : Tok).text))).set 0 rfl 2 (.int .i64 (⟨4, t, 0, [], 0⟩ : Tok).int)).set 0 rfl 3 (.string (bS (⟨4, t, 0, [], 0⟩ : Tok).str))).set 0 rfl 4 (.int .i64 (⟨4, t, 0, [], 0⟩ : Tok).line)).set 0 rfl 5 (.int .i64 (n : Nat)))
          go_wp2
          refine bodyPost_ret (v := rdV ⟨4, t, 0, [], 0⟩ n) (by simp [results, Tryd.results51, go_sem, rdV, y10, y11, y12, y13, y14, y15]) rfl ?_
          exact ⟨⟨4, t, 0, [], 0⟩, n, rfl, Or.inr hT'.out, hF.out.bel⟩
        · have hN := Lib.hid (HNo.out hm)
          rw [decide_eq_false hm] at HS1
          have w1 : IntKind.i64.wrap ((n : Int) - 1) = ((n - 1 : Nat) : Int) := by simp [IntKind.wrap, IntKind.bits, IntKind.signed]; omega
          have hn1 : ((n - 1 : Nat) : Int) = (n : Int) - 1 := by omega
          rw [hn1] at w1
          replace hn1 := Lib.hid hn1
          clear hm HF HNo htl
          go_wp2_with fail
          refine HS1.out.mono ?_
          rintro e w2 ⟨rfl, hb2⟩
          have hb3 := Lib.hid (hbw.trans (hb2.mono hBw))
          clear hb2 hbw HS1
          go_wp2
          go_roundw
          case rel => exact ⟨n - 1, congrArg _ hn1.out.symm, by omega, hN.out, hb3.out⟩
          case measure => simp [intOf]; omega
      · obtain rfl : n = 0 := by omega
        have hT' : Hid (nextT l = none) := Lib.hid (by rw [hT.out, sym_none hl0 (fun m a b c => hno.out m a (by omega))])
        replace S := Lib.hid (S.out.call hbw)
        clear y10 y11 y12 y13 y14 y15 z1 f1 hbw hno hn0 hT
        obtain ⟨⟨z1, f1, y10, y11, y12, y13, y14, y15, -⟩, -⟩ := S.out.facts
        have hF := Lib.hid ((((((S.out.set 0 rfl 0 (.int .i64 (rd0 : Tok).kind)).set 0 rfl 1 (.string (bS (rd0 : Tok).text))).set 0 rfl 2 (.int .i64 (rd0 : Tok).int)).set 0 rfl 3 (.string (bS (rd0 : Tok).str))).set 0 rfl 4 (.int .i64 (rd0 : Tok).line)).set 0 rfl 5 (.int .i64 (0 : Nat)))
        go_wp2
        refine bodyPost_ret (v := rdV rd0 0) (by simp [results, Tryd.results51, go_sem, rdV, rd0, y10, y11, y12, y13, y14, y15]) rfl ?_
        exact ⟨rd0, 0, rfl, Or.inl ⟨rfl, hT'.out⟩, hF.out.bel⟩
theorem next_any (l : Bs) (w : World) (ht : Tb w) (hl0 : 0 < l.length) (hn : l.length ≤ 100000) :
    Calls Tryd.prog 51 #[.string (bS l)] w (NxR l w) := by
  cases hL : isL l[0] with
  | true => exact next_L l w ⟨hl0, hL⟩ hl0 hn
  | false =>
    by_cases hD : dCase l
    · exact next_D l w ht ⟨hl0, hL⟩ hD hl0 hn
    · by_cases h34 : l[0].toNat = 34
      · exact next_Q l w ⟨hl0, hL⟩ hD (fun _ => h34) hl0 hn
      · exact next_S l w ⟨hl0, hL⟩ hD (fun _ => h34) hl0 hn
end Go.Proofs.YtmhnocgoknmljaaDoor
