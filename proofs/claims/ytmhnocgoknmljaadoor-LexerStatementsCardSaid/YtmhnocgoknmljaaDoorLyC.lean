/-
  CONTRACTS of Valid of both texts.
  Conditions: those that each theorem names.
-/
import Derived.Test.YtmhnocgoknmljaaDoorLyA
namespace Go.Proofs.YtmhnocgoknmljaaDoor
open Go.RowKit Go.Sv Go.Lx
theorem syms_perm : ∀ x : Bs, (x ∈ syms) ↔ (x ∈ symsR) := by
  intro x
  simp only [syms, sing, symsR, List.map_cons, List.map_nil, List.mem_cons, List.not_mem_nil, or_false]
  constructor
  · intro h; grind
  · intro h; grind
theorem syms_dec (x : Bs) : decide (x ∈ symsR) = syms.contains x := by
  rw [Bool.eq_iff_iff, decide_eq_true_eq, List.contains_iff_mem]
  exact (syms_perm x).symm
theorem contains_any (x : Bs) (b o c : Nat) (w : World) (hs : ∀ j (h : j < syms.length), w.cell? ⟨b, o + j, none⟩ = some (.string (bS (syms[j]'h)))) :
    Calls Tryd.prog 37 #[.slice (some ⟨b, o, none⟩) 18 c, .string (bS x)] w fun e w' => e = .returned (.bool (syms.contains x)) ∧ w = w' := by
  refine (Tryd.slices_Contains_string b o 18 c (syms.map bS) (bS x) w (by simp [syms_len]) (by omega) (fun j hj => ?_)).mono ?_
  · have hj' : j < syms.length := by simpa using hj
    rw [hs j hj']
    simp [hj']
  · rintro e w' ⟨rfl, rfl⟩
    refine ⟨ret_b ?_, rfl⟩
    rw [Bool.eq_iff_iff, Lib.containsS_iff, List.take_of_length_le (by simp [syms_len]), List.contains_iff_mem]
    simp only [List.mem_map]
    constructor
    · rintro ⟨y, hy, e⟩
      rw [← bS_inj e]; exact hy
    · intro h; exact ⟨x, h, rfl⟩
theorem v1 {t : Tok} (h : t.kind = 1) : validT t = (nameB t.text && (t.int == 0) && t.str.isEmpty) := by unfold validT; rw [if_pos h]; rfl
theorem v2 {t : Tok} (h : t.kind = 2) : validT t = (t.text.isEmpty && t.str.isEmpty) := by unfold validT; rw [if_neg (by omega), if_pos h]
theorem v3 {t : Tok} (h : t.kind = 3) : validT t = (t.text.isEmpty && (t.int == 0)) := by unfold validT; rw [if_neg (by omega), if_neg (by omega), if_pos h]; rfl
theorem v4 {t : Tok} (h : t.kind = 4) : validT t = (syms.contains t.text && (t.int == 0) && t.str.isEmpty) := by unfold validT; rw [if_neg (by omega), if_neg (by omega), if_neg (by omega), if_pos h]; rfl
theorem v0 {t : Tok} (h1 : ¬ t.kind = 1) (h2 : ¬ t.kind = 2) (h3 : ¬ t.kind = 3) (h4 : ¬ t.kind = 4) : validT t = false := by unfold validT; rw [if_neg h1, if_neg h2, if_neg h3, if_neg h4]
set_option maxHeartbeats 1000000 in
set_option maxRecDepth 100000 in
theorem valid_any (t : Tok) (w : World) (ht : Tb w) (hn : t.text.length ≤ 100000) :
    Calls Tryd.prog 14 #[tokV t] w fun e w' => e = .returned (.bool (validT t)) ∧ Below w.heap.size w w' := by
  obtain ⟨k, x, n, s, ln⟩ := t
  unfold tokV
  obtain ⟨W, hW, S⟩ : ∃ W, w.alloc (.cells #[.int .i64 k, .string (bS x), .int .i64 n, .string (bS s), .int .i64 ln] 25) = W ∧ Fm w W [⟨w.heap.size, 25, [.int .i64 k, .string (bS x), .int .i64 n, .string (bS s), .int .i64 ln]⟩] [] :=
    ⟨_, rfl, (Fm.init w).box 25 _⟩
  obtain ⟨⟨z1, f1, y10, y11, y12, y13, y14, -⟩, -⟩ := S.facts
  have hB := Lib.hid S.bel
  have hS := Lib.hid (ht.to S.bel).sym
  replace S := Lib.hid S
  by_cases k1 : k = 1
  · subst k1
    have hV := Lib.hid (v1 (t := ⟨1, x, n, s, ln⟩) rfl)
    have HN := Lib.hid (isName_any x W hn)
    dsimp only at hV
    cases b1 : nameB x <;> cases b2 : (n == 0) <;> cases b3 : s.isEmpty <;> (
      rw [b1, b2, b3] at hV
      rw [b1] at HN
      replace b1 := Lib.hid b1
      go_enter Tryd.func14, Tryd.ntmps14
      go_wp2_with fail
      clear hW
      refine HN.out.mono ?_
      rintro e w' ⟨rfl, rfl⟩
      go_wp2
      go_ret
      exact ⟨ret_b hV.out.symm, hB.out⟩)
  by_cases k2 : k = 2
  · subst k2
    have hV := Lib.hid (v2 (t := ⟨2, x, n, s, ln⟩) rfl)
    dsimp only at hV
    clear k1
    cases b1 : x.isEmpty <;> cases b3 : s.isEmpty <;> (
      rw [b1, b3] at hV
      go_enter Tryd.func14, Tryd.ntmps14
      go_wp2
      go_ret
      exact ⟨ret_b hV.out.symm, hB.out⟩)
  by_cases k3 : k = 3
  · subst k3
    have hV := Lib.hid (v3 (t := ⟨3, x, n, s, ln⟩) rfl)
    dsimp only at hV
    clear k1 k2
    cases b1 : x.isEmpty <;> cases b2 : (n == 0) <;> (
      rw [b1, b2] at hV
      go_enter Tryd.func14, Tryd.ntmps14
      go_wp2
      go_ret
      exact ⟨ret_b hV.out.symm, hB.out⟩)
  by_cases k4 : k = 4
  · subst k4
    have hV := Lib.hid (v4 (t := ⟨4, x, n, s, ln⟩) rfl)
    dsimp only at hV
    clear k1 k2 k3
    obtain ⟨b, o, c, ys, hbl, hs⟩ := hS.out
    have HC := Lib.hid (contains_any x b o c W hs)
    clear hs hS
    cases b1 : syms.contains x <;> cases b2 : (n == 0) <;> cases b3 : s.isEmpty <;> (
      rw [b1, b2, b3] at hV
      rw [b1] at HC
      replace b1 := Lib.hid b1
      go_enter Tryd.func14, Tryd.ntmps14
      go_wp2_with fail
      clear hW
      refine HC.out.mono ?_
      rintro e w' ⟨rfl, rfl⟩
      go_wp2
      go_ret
      exact ⟨ret_b hV.out.symm, hB.out⟩)
  · have hV := Lib.hid (v0 (t := ⟨k, x, n, s, ln⟩) k1 k2 k3 k4)
    have t1 : (k == 1) = false := beq_eq_false_iff_ne.2 k1
    have t2 : (k == 2) = false := beq_eq_false_iff_ne.2 k2
    have t3 : (k == 3) = false := beq_eq_false_iff_ne.2 k3
    have t4 : (k == 4) = false := beq_eq_false_iff_ne.2 k4
    clear k1 k2 k3 k4
    go_enter Tryd.func14, Tryd.ntmps14
    go_wp2
    go_ret
    exact ⟨ret_b hV.out.symm, hB.out⟩
set_option maxHeartbeats 1000000 in
set_option maxRecDepth 100000 in
theorem rvalid_any (t : Tok) (w : World) (ht : Tb w) (hn : t.text.length ≤ 100000) :
    Calls Tryd.prog 15 #[tokV t] w fun e w' => e = .returned (.bool (validT t)) ∧ Below w.heap.size w w' := by
  obtain ⟨k, x, n, s, ln⟩ := t
  unfold tokV
  obtain ⟨W, hW, S⟩ : ∃ W, w.alloc (.cells #[.int .i64 k, .string (bS x), .int .i64 n, .string (bS s), .int .i64 ln] 25) = W ∧ Fm w W [⟨w.heap.size, 25, [.int .i64 k, .string (bS x), .int .i64 n, .string (bS s), .int .i64 ln]⟩] [] :=
    ⟨_, rfl, (Fm.init w).box 25 _⟩
  obtain ⟨⟨z1, f1, y10, y11, y12, y13, y14, -⟩, -⟩ := S.facts
  have hB := Lib.hid S.bel
  have hS := Lib.hid (ht.to S.bel).sym
  replace S := Lib.hid S
  by_cases k1 : k = 1
  · subst k1
    have hV := Lib.hid (v1 (t := ⟨1, x, n, s, ln⟩) rfl)
    have HN := Lib.hid (rIsName_any x W hn)
    dsimp only at hV
    cases b1 : nameB x <;> cases b2 : (n == 0) <;> cases b3 : s.isEmpty <;> (
      rw [b1, b2, b3] at hV
      rw [b1] at HN
      replace b1 := Lib.hid b1
      go_enter Tryd.func15, Tryd.ntmps15
      go_wp2_with fail
      clear hW
      refine HN.out.mono ?_
      rintro e w' ⟨rfl, rfl⟩
      go_wp2
      go_ret
      exact ⟨ret_b hV.out.symm, hB.out⟩)
  by_cases k2 : k = 2
  · subst k2
    have hV := Lib.hid (v2 (t := ⟨2, x, n, s, ln⟩) rfl)
    dsimp only at hV
    clear k1
    cases b1 : x.isEmpty <;> cases b3 : s.isEmpty <;> (
      rw [b1, b3] at hV
      go_enter Tryd.func15, Tryd.ntmps15
      go_wp2
      go_ret
      exact ⟨ret_b hV.out.symm, hB.out⟩)
  by_cases k3 : k = 3
  · subst k3
    have hV := Lib.hid (v3 (t := ⟨3, x, n, s, ln⟩) rfl)
    dsimp only at hV
    clear k1 k2
    cases b1 : x.isEmpty <;> cases b2 : (n == 0) <;> (
      rw [b1, b2] at hV
      go_enter Tryd.func15, Tryd.ntmps15
      go_wp2
      go_ret
      exact ⟨ret_b hV.out.symm, hB.out⟩)
  by_cases k4 : k = 4
  · subst k4
    have hV := Lib.hid (v4 (t := ⟨4, x, n, s, ln⟩) rfl)
    dsimp only at hV
    clear k1 k2 k3
    have HC := isSym_any x W
    rw [syms_dec] at HC
    replace HC := Lib.hid HC
    cases b1 : syms.contains x <;> cases b2 : (n == 0) <;> cases b3 : s.isEmpty <;> (
      rw [b1, b2, b3] at hV
      rw [b1] at HC
      replace b1 := Lib.hid b1
      go_enter Tryd.func15, Tryd.ntmps15
      go_wp2_with fail
      clear hW
      refine HC.out.mono ?_
      rintro e w2 ⟨rfl, hb2⟩
      replace S := Lib.hid (S.out.call hb2)
      clear y10 y11 y12 y13 y14 z1 f1 hb2
      obtain ⟨⟨z1, f1, y10, y11, y12, y13, y14, -⟩, -⟩ := S.out.facts
      go_wp2
      go_ret
      exact ⟨ret_b hV.out.symm, S.out.bel⟩)
  · have hV := Lib.hid (v0 (t := ⟨k, x, n, s, ln⟩) k1 k2 k3 k4)
    have t1 : (k == 1) = false := beq_eq_false_iff_ne.2 k1
    have t2 : (k == 2) = false := beq_eq_false_iff_ne.2 k2
    have t3 : (k == 3) = false := beq_eq_false_iff_ne.2 k3
    have t4 : (k == 4) = false := beq_eq_false_iff_ne.2 k4
    clear k1 k2 k3 k4
    go_enter Tryd.func15, Tryd.ntmps15
    go_wp2
    go_ret
    exact ⟨ret_b hV.out.symm, hB.out⟩
end Go.Proofs.YtmhnocgoknmljaaDoor
