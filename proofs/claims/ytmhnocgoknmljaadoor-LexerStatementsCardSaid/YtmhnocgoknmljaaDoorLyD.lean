/-
  CONTRACTS of a token's text (both texts) and of apart.
  Conditions: those that each theorem names.
-/
import Derived.Test.YtmhnocgoknmljaaDoorLyC
namespace Go.Proofs.YtmhnocgoknmljaaDoor
open Go.RowKit Go.Sv Go.Lx
theorem word2 {t : Tok} (h : t.kind = 2) : word t = Lib.itoa t.int := by unfold word; rw [if_pos h]
theorem word3 {t : Tok} (h : t.kind = 3) : word t = qform t.str := by unfold word; rw [if_neg (by omega), if_pos h]
theorem word0 {t : Tok} (h2 : ¬ t.kind = 2) (h3 : ¬ t.kind = 3) : word t = t.text := by unfold word; rw [if_neg h2, if_neg h3]
set_option maxHeartbeats 1000000 in
set_option maxRecDepth 100000 in
theorem text_any (t : Tok) (w : World) (ht : Tb w) (hi : I64 t) (hn : t.str.length ≤ 1000000) :
    Calls Tryd.prog 46 #[tokV t] w fun e w' => e = .returned (.string (bS (word t))) ∧ Below w.heap.size w w' := by
  obtain ⟨k, x, n, s, ln⟩ := t
  unfold tokV
  obtain ⟨W, hW, S⟩ : ∃ W, w.alloc (.cells #[.int .i64 k, .string (bS x), .int .i64 n, .string (bS s), .int .i64 ln] 25) = W ∧ Fm w W [⟨w.heap.size, 25, [.int .i64 k, .string (bS x), .int .i64 n, .string (bS s), .int .i64 ln]⟩] [] :=
    ⟨_, rfl, (Fm.init w).box 25 _⟩
  obtain ⟨⟨z1, f1, y10, y11, y12, y13, y14, -⟩, -⟩ := S.facts
  have hB := Lib.hid S.bel
  have hT := Lib.hid (ht.to S.bel)
  have hsz := S.bel.size
  clear S
  by_cases k2 : k = 2
  · subst k2
    have HF := Lib.hid (fmt_any n hi.1 hi.2 W hT.out)
    have hV := Lib.hid (word2 (t := ⟨2, x, n, s, ln⟩) rfl)
    go_enter Tryd.func46, Tryd.ntmps46
    go_wp2_with fail
    clear hW
    refine HF.out.mono ?_
    rintro e w2 ⟨rfl, hb2⟩
    have hF := Lib.hid (hB.out.trans (hb2.mono hsz))
    go_wp2
    go_ret
    rw [hV.out]
    exact ⟨rfl, hF.out⟩
  by_cases k3 : k = 3
  · subst k3
    have HQ := Lib.hid (quote_any s W hn)
    have hV := Lib.hid (word3 (t := ⟨3, x, n, s, ln⟩) rfl)
    clear k2
    go_enter Tryd.func46, Tryd.ntmps46
    go_wp2_with fail
    clear hW
    refine HQ.out.mono ?_
    rintro e w2 ⟨rfl, hb2⟩
    have hF := Lib.hid (hB.out.trans (hb2.mono hsz))
    clear hb2
    go_wp2
    go_ret
    rw [hV.out]
    exact ⟨rfl, hF.out⟩
  · have hV := Lib.hid (word0 (t := ⟨k, x, n, s, ln⟩) k2 k3)
    have t2 : (k == 2) = false := beq_eq_false_iff_ne.2 k2
    have t3 : (k == 3) = false := beq_eq_false_iff_ne.2 k3
    clear k2 k3
    go_enter Tryd.func46, Tryd.ntmps46
    go_wp2
    go_ret
    rw [hV.out]
    exact ⟨rfl, hB.out⟩
set_option maxHeartbeats 1000000 in
set_option maxRecDepth 100000 in
theorem rWord_any (t : Tok) (w : World) (ht : Tb w) (hi : I64 t) (hn : t.str.length ≤ 1000000) :
    Calls Tryd.prog 18 #[tokV t] w fun e w' => e = .returned (.string (bS (word t))) ∧ Below w.heap.size w w' := by
  obtain ⟨k, x, n, s, ln⟩ := t
  unfold tokV
  obtain ⟨W, hW, S⟩ : ∃ W, w.alloc (.cells #[.int .i64 k, .string (bS x), .int .i64 n, .string (bS s), .int .i64 ln] 25) = W ∧ Fm w W [⟨w.heap.size, 25, [.int .i64 k, .string (bS x), .int .i64 n, .string (bS s), .int .i64 ln]⟩] [] :=
    ⟨_, rfl, (Fm.init w).box 25 _⟩
  obtain ⟨⟨z1, f1, y10, y11, y12, y13, y14, -⟩, -⟩ := S.facts
  have hB := Lib.hid S.bel
  have hT := Lib.hid (ht.to S.bel)
  have hsz := S.bel.size
  clear S
  by_cases k2 : k = 2
  · subst k2
    have HF := Lib.hid (fmt_any n hi.1 hi.2 W hT.out)
    have hV := Lib.hid (word2 (t := ⟨2, x, n, s, ln⟩) rfl)
    go_enter Tryd.func18, Tryd.ntmps18
    go_wp2_with fail
    clear hW
    refine HF.out.mono ?_
    rintro e w2 ⟨rfl, hb2⟩
    have hF := Lib.hid (hB.out.trans (hb2.mono hsz))
    go_wp2
    go_ret
    rw [hV.out]
    exact ⟨rfl, hF.out⟩
  by_cases k3 : k = 3
  · subst k3
    have HQ := Lib.hid (rQuote_any s W hn)
    have hV := Lib.hid (word3 (t := ⟨3, x, n, s, ln⟩) rfl)
    clear k2
    go_enter Tryd.func18, Tryd.ntmps18
    go_wp2_with fail
    clear hW
    refine HQ.out.mono ?_
    rintro e w2 ⟨rfl, hb2⟩
    have hF := Lib.hid (hB.out.trans (hb2.below.mono hsz))
    clear hb2
    go_wp2
    go_ret
    rw [hV.out]
    exact ⟨rfl, hF.out⟩
  · have hV := Lib.hid (word0 (t := ⟨k, x, n, s, ln⟩) k2 k3)
    have t2 : (k == 2) = false := beq_eq_false_iff_ne.2 k2
    have t3 : (k == 3) = false := beq_eq_false_iff_ne.2 k3
    clear k2 k3
    go_enter Tryd.func18, Tryd.ntmps18
    go_wp2
    go_ret
    rw [hV.out]
    exact ⟨rfl, hB.out⟩

theorem ap1 {a b : Tok} (h : a.kind = 1) : apartB a b = ((b.kind == 1) || ((b.kind == 2) && decide (0 ≤ b.int))) := by unfold apartB; rw [if_pos h]; rfl
theorem ap2 {a b : Tok} (h : a.kind = 2) : apartB a b = ((b.kind == 2) && decide (0 ≤ b.int)) := by unfold apartB; rw [if_neg (by omega), if_pos h]; rfl
theorem ap4 {a b : Tok} (h : a.kind = 4) : apartB a b = ((a.text == [46]) && (b.kind == 4) && decide (b.text.head? = some 46)) := by
  unfold apartB; rw [if_neg (by omega), if_neg (by omega), if_pos h]
  congr 2
  rw [Bool.eq_iff_iff]; simp
theorem ap0 {a b : Tok} (h1 : ¬ a.kind = 1) (h2 : ¬ a.kind = 2) (h4 : ¬ a.kind = 4) : apartB a b = false := by unfold apartB; rw [if_neg h1, if_neg h2, if_neg h4]
set_option maxHeartbeats 2000000 in
set_option maxRecDepth 100000 in
theorem apart_any (a b : Tok) (w : World) (hb0 : b.kind = 4 → 0 < b.text.length) :
    Calls Tryd.prog 43 #[tokV a, tokV b] w fun e w' => e = .returned (.bool (apartB a b)) ∧ Below w.heap.size w w' := by
  obtain ⟨k, x, n, s, ln⟩ := a
  obtain ⟨k', x', n', s', ln'⟩ := b
  unfold tokV
  obtain ⟨W, hW, S⟩ : ∃ W, (w.alloc (.cells #[.int .i64 k, .string (bS x), .int .i64 n, .string (bS s), .int .i64 ln] 25)).alloc (.cells #[.int .i64 k', .string (bS x'), .int .i64 n', .string (bS s'), .int .i64 ln'] 25) = W ∧
      Fm w W [⟨w.heap.size + 1, 25, [.int .i64 k', .string (bS x'), .int .i64 n', .string (bS s'), .int .i64 ln']⟩, ⟨w.heap.size, 25, [.int .i64 k, .string (bS x), .int .i64 n, .string (bS s), .int .i64 ln]⟩] [] :=
    ⟨_, rfl, ((Fm.init w).box 25 [.int .i64 k, .string (bS x), .int .i64 n, .string (bS s), .int .i64 ln]).box' 25 _ (by simp)⟩
  obtain ⟨⟨z1, f1, y10, y11, y12, y13, y14, -⟩, ⟨z0, f0, y00, y01, y02, y03, y04, -⟩, -⟩ := S.facts
  have hB := Lib.hid S.bel
  clear S
  have hb0 : k' = 4 → 0 < x'.length := hb0
  by_cases k1 : k = 1
  · subst k1
    have hV := Lib.hid (ap1 (a := ⟨1, x, n, s, ln⟩) (b := ⟨k', x', n', s', ln'⟩) rfl)
    dsimp only at hV
    clear hb0
    cases b1 : (k' == 1) <;> cases b2 : (k' == 2) <;> cases b3 : decide (0 ≤ n') <;> (
      rw [b1, b2, b3] at hV
      go_enter Tryd.func43, Tryd.ntmps43
      go_wp2
      go_ret
      exact ⟨ret_b hV.out.symm, hB.out⟩)
  by_cases k2 : k = 2
  · subst k2
    have hV := Lib.hid (ap2 (a := ⟨2, x, n, s, ln⟩) (b := ⟨k', x', n', s', ln'⟩) rfl)
    dsimp only at hV
    clear hb0 k1
    cases b1 : (k' == 1) <;> cases b2 : (k' == 2) <;> cases b3 : decide (0 ≤ n') <;> (
      rw [b2, b3] at hV
      go_enter Tryd.func43, Tryd.ntmps43
      go_wp2
      go_ret
      exact ⟨ret_b hV.out.symm, hB.out⟩)
  by_cases k4 : k = 4
  · subst k4
    have hV := Lib.hid (ap4 (a := ⟨4, x, n, s, ln⟩) (b := ⟨k', x', n', s', ln'⟩) rfl)
    dsimp only at hV
    clear k1 k2
    by_cases kb : k' = 4
    · subst kb
      have hx0 := hb0 rfl
      obtain ⟨c, r, rfl⟩ : ∃ c r, x' = c :: r := by
        cases x' with
        | nil => simp at hx0
        | cons c r => exact ⟨c, r, rfl⟩
      have g0 : ∀ h : 0 < (bS (c :: r)).size, (bS (c :: r))[0]'h = c := fun h => rfl
      have g0 := g0 (by rw [bS_size]; exact hx0)
      have e46 : Hid (decide ((c :: r).head? = some 46) = ((c.toNat : Int) == 46)) := Lib.hid (by
        rw [Bool.eq_iff_iff, decide_eq_true_eq, beq_iff_eq]
        constructor
        · intro h; have : c = 46 := Option.some.inj h; rw [this]; rfl
        · intro h; rw [u8_eq (show c.toNat = 46 by omega)]; rfl)
      rw [e46.out] at hV
      clear hb0 e46
      cases b1 : (x == [46]) <;> cases b2 : ((c.toNat : Int) == 46) <;> (
        rw [b1, b2] at hV
        go_enter Tryd.func43, Tryd.ntmps43
        go_wp2
        go_ret
        exact ⟨ret_b hV.out.symm, hB.out⟩)
    · have t4 : (k' == 4) = false := beq_eq_false_iff_ne.2 kb
      rw [t4, Bool.and_false, Bool.false_and] at hV
      clear hb0 kb
      cases b1 : (x == [46]) <;> cases b2 : (k' == 1) <;> cases b3 : (k' == 2) <;> (
        go_enter Tryd.func43, Tryd.ntmps43
        go_wp2
        go_ret
        exact ⟨ret_b hV.out.symm, hB.out⟩)
  · have hV := Lib.hid (ap0 (a := ⟨k, x, n, s, ln⟩) (b := ⟨k', x', n', s', ln'⟩) k1 k2 k4)
    have t1 : (k == 1) = false := beq_eq_false_iff_ne.2 k1
    have t2 : (k == 2) = false := beq_eq_false_iff_ne.2 k2
    have t4 : (k == 4) = false := beq_eq_false_iff_ne.2 k4
    clear k1 k2 k4 hb0
    cases b2 : (k' == 1) <;> cases b3 : (k' == 2) <;> (
      go_enter Tryd.func43, Tryd.ntmps43
      go_wp2
      go_ret
      exact ⟨ret_b hV.out.symm, hB.out⟩)
end Go.Proofs.YtmhnocgoknmljaaDoor
