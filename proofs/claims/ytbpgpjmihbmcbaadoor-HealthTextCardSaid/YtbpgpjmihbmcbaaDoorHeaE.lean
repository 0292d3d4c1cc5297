/-
  CONTRACTS of Linear, of both texts.
  Conditions: those that each theorem names.
-/
import Derived.Test.YtbpgpjmihbmcbaaDoorHeaD
namespace Go.Proofs.YtbpgpjmihbmcbaaDoor
open Go.RowKit Go.Sv

theorem linA_succ (num den low : Int) (k : Nat) : iRow (linA num den low (k + 1)) = iRow (linA num den low k) ++ [.int .i64 (linLo low (((k : Int) + 1) * num / den))] := by rw [← iRow_snoc]; simp [linA, List.range_succ]
theorem linR_succ (num den high : Int) (k : Nat) : iRow (linR num den high (k + 1)) = iRow (linR num den high k) ++ [.int .i64 (linHi high ((k : Int) + 1) (((k : Int) + 1) * num / den))] := by rw [← iRow_snoc]; simp [linR, List.range_succ]
def btw (x lo hi : Int) : Bool := decide (lo ≤ x ∧ x ≤ hi)
theorem between_any (x lo hi : Int) (w : World) : Calls Tryd.prog 33 #[.int .i64 x, .int .i64 lo, .int .i64 hi] w fun e w' => e = .returned (.bool (btw x lo hi)) ∧ w = w' := by
  by_cases h1 : lo ≤ x
  · by_cases h2 : x ≤ hi
    · have E : Hid (btw x lo hi = true) := Lib.hid (decide_eq_true ⟨h1, h2⟩)
      have d1 : decide (lo ≤ x) = true := decide_eq_true h1
      have d2 : decide (x ≤ hi) = true := decide_eq_true h2
      clear h1 h2
      go_enter Tryd.func33, Tryd.ntmps33
      go_wp2
      go_ret
      exact ⟨ret_b E.out.symm, rfl⟩
    · have E : Hid (btw x lo hi = false) := Lib.hid (by unfold btw; rw [decide_eq_false_iff_not]; exact fun h => h2 h.2)
      have d1 : decide (lo ≤ x) = true := decide_eq_true h1
      have d2 : decide (x ≤ hi) = false := by rw [decide_eq_false_iff_not]; exact h2
      clear h1 h2
      go_enter Tryd.func33, Tryd.ntmps33
      go_wp2
      go_ret
      exact ⟨ret_b E.out.symm, rfl⟩
  · have E : Hid (btw x lo hi = false) := Lib.hid (by unfold btw; rw [decide_eq_false_iff_not]; exact fun h => h1 h.1)
    have d1 : decide (lo ≤ x) = false := by rw [decide_eq_false_iff_not]; exact h1
    clear h1
    go_enter Tryd.func33, Tryd.ntmps33
    go_wp2
    go_ret
    exact ⟨ret_b E.out.symm, rfl⟩
theorem btw_t {x lo hi : Int} (h1 : lo ≤ x) (h2 : x ≤ hi) : btw x lo hi = true := decide_eq_true ⟨h1, h2⟩
theorem btw_f {x lo hi : Int} (h : ¬ (lo ≤ x ∧ x ≤ hi)) : btw x lo hi = false := by unfold btw; rw [decide_eq_false_iff_not]; exact h

set_option maxHeartbeats 1000000 in
set_option maxRecDepth 100000 in
theorem linear_ok (n : Nat) (num den low high : Int) (w : World) (h0 : 0 < n) (h1 : n ≤ 64) (a1 : 1 ≤ den) (a2 : den ≤ 1000) (a3 : 0 ≤ num) (a4 : num ≤ den) (a5 : 1 ≤ low) (a6 : low ≤ 64) (a7 : 1 ≤ high) (a8 : high ≤ 64) :
    Calls Tryd.prog 17 #[.int .i64 n, .int .i64 num, .int .i64 den, .int .i64 low, .int .i64 high] w (Ret (TRes w (linT n num den low high) 0)) := by
  have d1 := btw_t (x := n) (lo := 1) (hi := 64) (by omega) (by omega)
  have d2 := btw_t a1 a2
  have d3 := btw_t a3 a4
  have d4 := btw_t a5 a6
  have d5 := btw_t a7 a8
  have hbx : Hid (Below w.heap.size w (w.alloc (.cells #[.slice none 0 0, .slice none 0 0] 26))) := Lib.hid ((Below.refl _ _).alloc (Nat.le_refl _) _)
  obtain ⟨m, hm1, hm2⟩ : ∃ m, n ≤ m + 1 ∧ m + 1 ≤ n := ⟨n - 1, by omega, by omega⟩
  go_enter Tryd.func17, Tryd.ntmps17
  go_wp2_with (go_at_call 33; refine (between_any _ _ _ _).mono ?_; rintro e w' ⟨rfl, rfl⟩)
  go_loopw [13, 14] (fun i _ wr => ∃ (k : Nat) (v1 v2 : Value), k ≤ m ∧ i = .int .i64 ((k : Int) + 1) ∧ Two (w.alloc (.cells #[.slice none 0 0, .slice none 0 0] 26)) (w.heap.size + 1) wr (w.heap.size + 1) (w.heap.size + 2) 26 3 v1 v2 v1 k (iRow (linA num den low k)) v2 k (iRow (linR num den high k))) (fun i _ _ => n - (intOf i).toNat)
  case atStart => exact ⟨0, _, _, Nat.zero_le _, rfl, Two.new rfl⟩
  case round =>
    obtain ⟨k, v1, v2, hk, rfl, T⟩ := hrel
    replace T := Lib.hid T
    have y0 : wr.cell? ⟨w.heap.size + 1, 0, none⟩ = some v1 := (T.out.box.cell 0).trans rfl
    have y1 : wr.cell? ⟨w.heap.size + 1, 1, none⟩ = some v2 := (T.out.box.cell 1).trans rfl
    have i0 : (0 : Int) ≤ k := by omega
    by_cases hlt : k < m
    · have hd : decide ((k : Int) + 1 < (n : Int)) = true := decide_eq_true (by omega)
      obtain ⟨m1, m2, m3, m4⟩ := linM_bd (num := num) (den := den) (i := (k : Int) + 1) (by omega) (by omega) a3 (by omega) a1
      have wr2 : IntKind.i64.wrap ((k : Int) + 1 + 1) = (k : Int) + 1 + 1 := IntWalk.i64_in _ (by omega)
      have wr3 : IntKind.i64.wrap (((k : Int) + 1) * num / den - low) = ((k : Int) + 1) * num / den - low := IntWalk.i64_in _ (by omega)
      have wr4 : IntKind.i64.wrap (((k : Int) + 1) * num / den + high) = ((k : Int) + 1) * num / den + high := IntWalk.i64_in _ (by omega)
      go_wp2_with fail
      refine wp_region_any (by kernel_rfl) ?_
      change wpAny _ _ _ _ _ _ _ (World.drew _)
      refine wpAny_takeD (i := 0) (d := 51) (v := ?_) rfl rfl (by kernel_rfl) (by kernel_rfl) (by kernel_rfl) (fun _ _ _ h => h) (Or.inl ⟨by rfl, ?_⟩) ?_
      rotate_left
      · (intro w; go_simp; try with_reducible rfl)
      simp only [Act.put, List.setIfInBounds_toArray, List.set_cons_succ, List.set_cons_zero]
      refine wpAny_takeD (i := 2) (d := 53) (v := ?_) rfl rfl (by kernel_rfl) (by kernel_rfl) (by kernel_rfl) (fun _ _ _ h => h) (Or.inl ⟨by rfl, ?_⟩) ?_
      rotate_left
      · (intro w; go_simp; try with_reducible rfl)
      simp only [Act.put, List.setIfInBounds_toArray, List.set_cons_succ, List.set_cons_zero]
      refine wpAny_takeD (i := 3) (d := 54) (v := ?_) rfl rfl (by kernel_rfl) (by kernel_rfl) (by kernel_rfl) (fun _ _ _ h => h) (Or.inl ⟨by rfl, ?_⟩) ?_
      rotate_left
      · (intro w; go_simp; try with_reducible rfl)
      simp only [Act.put, List.setIfInBounds_toArray, List.set_cons_succ, List.set_cons_zero]
      refine wpAny_takeD (i := 4) (d := 55) (v := ?_) rfl rfl (by kernel_rfl) (by kernel_rfl) (by kernel_rfl) (fun _ _ _ h => h) (Or.inl ⟨by rfl, ?_⟩) ?_
      rotate_left
      · (intro w; go_simp; try with_reducible rfl)
      simp only [Act.put, List.setIfInBounds_toArray, List.set_cons_succ, List.set_cons_zero]
      refine wpAny_takeD (i := 5) (d := 56) (v := ?_) rfl rfl (by kernel_rfl) (by kernel_rfl) (by kernel_rfl) (fun _ _ _ h => h) (Or.inl ⟨by rfl, ?_⟩) ?_
      rotate_left
      · (intro w; go_simp; try with_reducible rfl)
      simp only [Act.put, List.setIfInBounds_toArray, List.set_cons_succ, List.set_cons_zero]
      refine wpAny_takeD (i := 8) (d := 59) (v := ?_) rfl rfl (by kernel_rfl) (by kernel_rfl) (by kernel_rfl) (fun _ _ _ h => h) (Or.inl ⟨by rfl, ?_⟩) ?_
      rotate_left
      · (intro w; go_simp; try with_reducible rfl)
      simp only [Act.put, List.setIfInBounds_toArray, List.set_cons_succ, List.set_cons_zero]
      refine wpAny_takeD (i := 10) (d := 61) (v := ?_) rfl rfl (by kernel_rfl) (by kernel_rfl) (by kernel_rfl) (fun _ _ _ h => h) (Or.inl ⟨by rfl, ?_⟩) ?_
      rotate_left
      · (intro w; go_simp; try with_reducible rfl)
      simp only [Act.put, List.setIfInBounds_toArray, List.set_cons_succ, List.set_cons_zero]
      refine wpAny_takeD (i := 11) (d := 62) (v := ?_) rfl rfl (by kernel_rfl) (by kernel_rfl) (by kernel_rfl) (fun _ _ _ h => h) (Or.inl ⟨by rfl, ?_⟩) ?_
      rotate_left
      · (intro w; go_simp; try with_reducible rfl)
      simp only [Act.put, List.setIfInBounds_toArray, List.set_cons_succ, List.set_cons_zero]
      refine wpAny_takeD (i := 12) (d := 63) (v := ?_) rfl rfl (by kernel_rfl) (by kernel_rfl) (by kernel_rfl) (fun _ _ _ h => h) (Or.inl ⟨by rfl, ?_⟩) ?_
      rotate_left
      · (intro w; go_simp; try with_reducible rfl)
      simp only [Act.put, List.setIfInBounds_toArray, List.set_cons_succ, List.set_cons_zero]
      refine wpAny_takeD (i := 13) (d := 64) (v := ?_) rfl rfl (by kernel_rfl) (by kernel_rfl) (by kernel_rfl) (fun _ _ _ h => h) (Or.inl ⟨by rfl, ?_⟩) ?_
      rotate_left
      · (intro w; go_simp; try with_reducible rfl)
      simp only [Act.put, List.setIfInBounds_toArray, List.set_cons_succ, List.set_cons_zero]
      refine wpAny_takeD (i := 14) (d := 65) (v := ?_) rfl rfl (by kernel_rfl) (by kernel_rfl) (by kernel_rfl) (fun _ _ _ h => h) (Or.inl ⟨by rfl, ?_⟩) ?_
      rotate_left
      · (intro w; go_simp; try with_reducible rfl)
      simp only [Act.put, List.setIfInBounds_toArray, List.set_cons_succ, List.set_cons_zero]
      refine wpAny_takeD (i := 15) (d := 66) (v := ?_) rfl rfl (by kernel_rfl) (by kernel_rfl) (by kernel_rfl) (fun _ _ _ h => h) (Or.inl ⟨by rfl, ?_⟩) ?_
      rotate_left
      · (intro w; go_simp; try with_reducible rfl)
      simp only [Act.put, List.setIfInBounds_toArray, List.set_cons_succ, List.set_cons_zero]
      change wpAny _ _ _ _ _ #[true, false, true, true, true, true, false, false, true, false, true, true, true, true, true, true, false, false, false, false, false, false] _ _
      refine two8_core (l0 := #[true, false, true, true, true, true, false, false, true, false, true, true, true, true, true, true, false, false, false, false, false, false]) (X := ⟨two_ 1 9, two_ 6 16, two_ 52 60, two_ 57 67, two_ 7 17, two_ 58 68, 18, 69⟩) (T := [19, 20, 21]) (lF := #[true, true, true, true, true, true, true, true, true, true, true, true, true, true, true, true, true, true, true, false, false, false]) elInt (by omega) (by omega) rfl rfl
        (two8_of (k := 19) (b := w.heap.size + 1) (k1 := .i64) (k2 := .i64) (n1 := (linLo low (((k : Int) + 1) * num / den))) (n2 := (linHi high ((k : Int) + 1) (((k : Int) + 1) * num / den))) elInt (by kernel_rfl) (by kernel_rfl) 51 59 12 (.tmp 56) (.tmp 66) _ (by decide) ?q4hx (fun c => by cases c <;> rfl) (fun c => by cases c <;> rfl) (fun c => by cases c <;> rfl) (by rfl) Tryd.underlying26 rfl rfl rfl (by kernel_rfl) (by kernel_rfl) (by kernel_rfl) (by kernel_rfl) (by kernel_rfl) (by kernel_rfl))
        ?q4rest _ _ _ _ (by decide) (two8_start (by kernel_rfl) T.out.drew (by kernel_rfl))
      case q4hx =>
        intro x hx j hj
        simp only [List.mem_cons, List.not_mem_nil, or_false] at hx
        rcases hx with rfl | rfl <;> cases hj <;> decide
      case q4rest =>
        intro f r1 r2 w2 T2 g1 g2 g3
        obtain ⟨x0, e0⟩ : ∃ x, f 52 = x := ⟨_, rfl⟩
        obtain ⟨x1, e1⟩ : ∃ x, f 57 = x := ⟨_, rfl⟩
        obtain ⟨x3, e3⟩ : ∃ x, f 60 = x := ⟨_, rfl⟩
        obtain ⟨x4, e4⟩ : ∃ x, f 67 = x := ⟨_, rfl⟩
        replace g1 : f 58 = r1 := g1
        replace g2 : f 68 = r2 := g2
        replace g3 : f 69 = _ := g3
        simp only [Pair2.D, two_, List.foldl_cons, List.foldl_nil, List.drop_succ_cons, List.drop_zero, g1, g2, g3, e0, e1, e3, e4]
        clear e0 e1 e3 e4 g1 g2 g3 f
        have z0 : w2.cell? ⟨w.heap.size + 1, 0, none⟩ = some v1 := (T2.box.cell 0).trans rfl
        have z1 : w2.cell? ⟨w.heap.size + 1, 1, none⟩ = some v2 := (T2.box.cell 1).trans rfl
        have z2 := T2.box.frozen 0
        have z3 := T2.box.frozen 1
        obtain ⟨A1, q1, rfl, _⟩ := own_form T2.o1
        obtain ⟨A2, q2, rfl, _⟩ := own_form T2.o2
        rw [← linA_succ, ← linR_succ] at T2
        have T3 := Lib.hid T2.put
        clear T2 wr2 wr3 wr4
        go_wp2
        go_roundw
        case rel => exact ⟨k + 1, _, _, by omega, by go_num, T3.out⟩
        case measure => simp [intOf]; omega
    · have hd : decide ((k : Int) + 1 < (n : Int)) = false := by rw [decide_eq_false_iff_not]; omega
      obtain rfl : k = m := by omega
      obtain ⟨m1, m2, m3, m4⟩ := linM_bd (num := num) (den := den) (i := n) (by omega) (by omega) a3 (by omega) a1
      have wr2 : IntKind.i64.wrap ((n : Int) * num / den + 1) = (n : Int) * num / den + 1 := IntWalk.i64_in _ (by omega)
      go_wp2_with fail
      refine wp_region_any (by kernel_rfl) ?_
      change wpAny _ _ _ _ _ _ _ (World.drew _)
      refine wpAny_takeD (i := 0) (d := 76) (v := ?_) rfl rfl (by kernel_rfl) (by kernel_rfl) (by kernel_rfl) (fun _ _ _ h => h) (Or.inl ⟨by rfl, ?_⟩) ?_
      rotate_left
      · (intro w; go_simp; try with_reducible rfl)
      simp only [Act.put, List.setIfInBounds_toArray, List.set_cons_succ, List.set_cons_zero]
      refine wpAny_takeD (i := 2) (d := 78) (v := ?_) rfl rfl (by kernel_rfl) (by kernel_rfl) (by kernel_rfl) (fun _ _ _ h => h) (Or.inl ⟨by rfl, ?_⟩) ?_
      rotate_left
      · (intro w; go_simp; try with_reducible rfl)
      simp only [Act.put, List.setIfInBounds_toArray, List.set_cons_succ, List.set_cons_zero]
      refine wpAny_takeD (i := 5) (d := 81) (v := ?_) rfl rfl (by kernel_rfl) (by kernel_rfl) (by kernel_rfl) (fun _ _ _ h => h) (Or.inl ⟨by rfl, ?_⟩) ?_
      rotate_left
      · (intro w; go_simp; try with_reducible rfl)
      simp only [Act.put, List.setIfInBounds_toArray, List.set_cons_succ, List.set_cons_zero]
      refine wpAny_takeD (i := 7) (d := 83) (v := ?_) rfl rfl (by kernel_rfl) (by kernel_rfl) (by kernel_rfl) (fun _ _ _ h => h) (Or.inl ⟨by rfl, ?_⟩) ?_
      rotate_left
      · (intro w; go_simp; try with_reducible rfl)
      simp only [Act.put, List.setIfInBounds_toArray, List.set_cons_succ, List.set_cons_zero]
      refine wpAny_takeD (i := 8) (d := 84) (v := ?_) rfl rfl (by kernel_rfl) (by kernel_rfl) (by kernel_rfl) (fun _ _ _ h => h) (Or.inl ⟨by rfl, ?_⟩) ?_
      rotate_left
      · (intro w; go_simp; try with_reducible rfl)
      simp only [Act.put, List.setIfInBounds_toArray, List.set_cons_succ, List.set_cons_zero]
      change wpAny _ _ _ _ _ #[true, false, true, false, false, true, false, true, true, false, false, false, false, false, false] _ _
      refine two8_core (l0 := #[true, false, true, false, false, true, false, true, true, false, false, false, false, false, false]) (X := ⟨two_ 1 6, two_ 3 9, two_ 77 82, two_ 79 85, two_ 4 10, two_ 80 86, 11, 87⟩) (T := [12, 13, 14]) (lF := #[true, true, true, true, true, true, true, true, true, true, true, true, false, false, false]) elInt (by omega) (by omega) rfl rfl
        (two8_of (k := 12) (b := w.heap.size + 1) (k1 := .i64) (k2 := .i64) (n1 := ((n : Int) * num / den)) (n2 := ((n : Int) * num / den + 1)) elInt (by kernel_rfl) (by kernel_rfl) 76 81 12 (.tmp 78) (.tmp 84) _ (by decide) ?q5hx (fun c => by cases c <;> rfl) (fun c => by cases c <;> rfl) (fun c => by cases c <;> rfl) (by rfl) Tryd.underlying26 rfl rfl rfl (by kernel_rfl) (by kernel_rfl) (by kernel_rfl) (by kernel_rfl) (by kernel_rfl) (by kernel_rfl))
        ?q5rest _ _ _ _ (by decide) (two8_start (by kernel_rfl) T.out.drew (by kernel_rfl))
      case q5hx =>
        intro x hx j hj
        simp only [List.mem_cons, List.not_mem_nil, or_false] at hx
        rcases hx with rfl | rfl <;> cases hj <;> decide
      case q5rest =>
        intro f r1 r2 w2 T2 g1 g2 g3
        obtain ⟨x0, e0⟩ : ∃ x, f 77 = x := ⟨_, rfl⟩
        obtain ⟨x1, e1⟩ : ∃ x, f 79 = x := ⟨_, rfl⟩
        obtain ⟨x3, e3⟩ : ∃ x, f 82 = x := ⟨_, rfl⟩
        obtain ⟨x4, e4⟩ : ∃ x, f 85 = x := ⟨_, rfl⟩
        replace g1 : f 80 = r1 := g1
        replace g2 : f 86 = r2 := g2
        replace g3 : f 87 = _ := g3
        simp only [Pair2.D, two_, List.foldl_cons, List.foldl_nil, List.drop_succ_cons, List.drop_zero, g1, g2, g3, e0, e1, e3, e4]
        clear e0 e1 e3 e4 g1 g2 g3 f
        have z0 : w2.cell? ⟨w.heap.size + 1, 0, none⟩ = some v1 := (T2.box.cell 0).trans rfl
        have z1 : w2.cell? ⟨w.heap.size + 1, 1, none⟩ = some v2 := (T2.box.cell 1).trans rfl
        have z2 := T2.box.frozen 0
        have z3 := T2.box.frozen 1
        obtain ⟨s0, s1, s2, s3, s4⟩ := res_cells T2.bel
        obtain ⟨A1, q1, rfl, _⟩ := own_form T2.o1
        obtain ⟨A2, q2, rfl, _⟩ := own_form T2.o2
        obtain ⟨E1, E2, E3, E4⟩ := linT_at num den low high hm1 hm2
        unfold linM at E1 E2
        rw [← iRow_snoc, ← iRow_snoc, E1, E2] at T2
        replace E3 := Lib.hid E3
        replace E4 := Lib.hid E4
        clear E1 E2
        have T3 := T2.put
        clear T2 wr2 hd
        have R := Lib.hid (two_res (r := w.heap.size) (x := .slice A1 (k + 1) q1) (y := .slice A2 (k + 1) q2) (t := (linT n num den low high)) T3 E3.out E4.out (by omega))
        have hb := Lib.hid (((hbx.out.trans (T3.bel.mono (by omega))).setCell (p := ⟨w.heap.size, 0, none⟩) (Nat.le_refl _) (.slice A1 (k + 1) q1)).setCell (p := ⟨w.heap.size, 1, none⟩) (Nat.le_refl _) (.slice A2 (k + 1) q2))
        clear T3
        have L1 : Hid (((linT n num den low high)).acc.length = k + 1) := Lib.hid E3.out
        have L2 : Hid (((linT n num den low high)).rej.length = k + 1) := Lib.hid E4.out
        go_wp2
        refine bodyPost_ret (v := .tuple #[.agg #[.slice A1 (k + 1) q1, .slice A2 (k + 1) q2], .int .i64 0]) (by simp [results, Tryd.results17, go_sem, s0, s1]) rfl ?_
        exact Ret.mk ⟨⟨_, _, _, _⟩, by show _ = Value.tuple #[.agg #[.slice _ ((linT n num den low high)).acc.length _, .slice _ ((linT n num den low high)).rej.length _], _]; rw [L1.out, L2.out], R.out, hb.out⟩

set_option maxHeartbeats 1000000 in
set_option maxRecDepth 100000 in
theorem rlinear_ok (n : Nat) (num den low high : Int) (w : World) (h0 : 0 < n) (h1 : n ≤ 64) (a1 : 1 ≤ den) (a2 : den ≤ 1000) (a3 : 0 ≤ num) (a4 : num ≤ den) (a5 : 1 ≤ low) (a6 : low ≤ 64) (a7 : 1 ≤ high) (a8 : high ≤ 64) :
    Calls Tryd.prog 18 #[.int .i64 n, .int .i64 num, .int .i64 den, .int .i64 low, .int .i64 high] w (Ret (TRes w (linT n num den low high) 0)) := by
  have d1 : decide ((n : Int) < 1) = false := by rw [decide_eq_false_iff_not]; omega
  have d2 : decide (64 < n) = false := by rw [decide_eq_false_iff_not]; omega
  have d3 : decide (den < 1) = false := by rw [decide_eq_false_iff_not]; omega
  have d4 : decide (1000 < den) = false := by rw [decide_eq_false_iff_not]; omega
  have d5 : decide (num < 0) = false := by rw [decide_eq_false_iff_not]; omega
  have d6 : decide (den < num) = false := by rw [decide_eq_false_iff_not]; omega
  have d7 : decide (low < 1) = false := by rw [decide_eq_false_iff_not]; omega
  have d8 : decide (64 < low) = false := by rw [decide_eq_false_iff_not]; omega
  have d9 : decide (high < 1) = false := by rw [decide_eq_false_iff_not]; omega
  have d10 : decide (64 < high) = false := by rw [decide_eq_false_iff_not]; omega
  have hbx : Hid (Below w.heap.size w (w.alloc (.cells #[.slice none 0 0, .slice none 0 0] 26))) := Lib.hid ((Below.refl _ _).alloc (Nat.le_refl _) _)
  obtain ⟨m, hm1, hm2⟩ : ∃ m, n ≤ m + 1 ∧ m + 1 ≤ n := ⟨n - 1, by omega, by omega⟩
  go_enter Tryd.func18, Tryd.ntmps18
  go_wp2
  go_loopw [13, 14] (fun i _ wr => ∃ (k : Nat) (v1 v2 : Value), k ≤ m ∧ i = .int .i64 ((k : Int) + 1) ∧ Two (w.alloc (.cells #[.slice none 0 0, .slice none 0 0] 26)) (w.heap.size + 1) wr (w.heap.size + 1) (w.heap.size + 2) 26 3 v1 v2 v1 k (iRow (linA num den low k)) v2 k (iRow (linR num den high k))) (fun i _ _ => n - (intOf i).toNat)
  case atStart => exact ⟨0, _, _, Nat.zero_le _, rfl, Two.new rfl⟩
  case round =>
    obtain ⟨k, v1, v2, hk, rfl, T⟩ := hrel
    replace T := Lib.hid T
    have y0 : wr.cell? ⟨w.heap.size + 1, 0, none⟩ = some v1 := (T.out.box.cell 0).trans rfl
    have y1 : wr.cell? ⟨w.heap.size + 1, 1, none⟩ = some v2 := (T.out.box.cell 1).trans rfl
    have i0 : (0 : Int) ≤ k := by omega
    by_cases hlt : k < m
    · have hd : decide ((k : Int) + 1 < (n : Int)) = true := decide_eq_true (by omega)
      obtain ⟨m1, m2, m3, m4⟩ := linM_bd (num := num) (den := den) (i := (k : Int) + 1) (by omega) (by omega) a3 (by omega) a1
      have wr2 : IntKind.i64.wrap ((k : Int) + 1 + 1) = (k : Int) + 1 + 1 := IntWalk.i64_in _ (by omega)
      have wr3 : IntKind.i64.wrap (((k : Int) + 1) * num / den - low) = ((k : Int) + 1) * num / den - low := IntWalk.i64_in _ (by omega)
      have wr4 : IntKind.i64.wrap (((k : Int) + 1) * num / den + high) = ((k : Int) + 1) * num / den + high := IntWalk.i64_in _ (by omega)
      go_wp2_with fail
      refine wp_region_any (by kernel_rfl) ?_
      change wpAny _ _ _ _ _ _ _ (World.drew _)
      refine wpAny_takeD (i := 0) (d := 66) (v := ?_) rfl rfl (by kernel_rfl) (by kernel_rfl) (by kernel_rfl) (fun _ _ _ h => h) (Or.inl ⟨by rfl, ?_⟩) ?_
      rotate_left
      · (intro w; go_simp; try with_reducible rfl)
      simp only [Act.put, List.setIfInBounds_toArray, List.set_cons_succ, List.set_cons_zero]
      refine wpAny_takeD (i := 2) (d := 68) (v := ?_) rfl rfl (by kernel_rfl) (by kernel_rfl) (by kernel_rfl) (fun _ _ _ h => h) (Or.inl ⟨by rfl, ?_⟩) ?_
      rotate_left
      · (intro w; go_simp; try with_reducible rfl)
      simp only [Act.put, List.setIfInBounds_toArray, List.set_cons_succ, List.set_cons_zero]
      refine wpAny_takeD (i := 3) (d := 69) (v := ?_) rfl rfl (by kernel_rfl) (by kernel_rfl) (by kernel_rfl) (fun _ _ _ h => h) (Or.inl ⟨by rfl, ?_⟩) ?_
      rotate_left
      · (intro w; go_simp; try with_reducible rfl)
      simp only [Act.put, List.setIfInBounds_toArray, List.set_cons_succ, List.set_cons_zero]
      refine wpAny_takeD (i := 4) (d := 70) (v := ?_) rfl rfl (by kernel_rfl) (by kernel_rfl) (by kernel_rfl) (fun _ _ _ h => h) (Or.inl ⟨by rfl, ?_⟩) ?_
      rotate_left
      · (intro w; go_simp; try with_reducible rfl)
      simp only [Act.put, List.setIfInBounds_toArray, List.set_cons_succ, List.set_cons_zero]
      refine wpAny_takeD (i := 5) (d := 71) (v := ?_) rfl rfl (by kernel_rfl) (by kernel_rfl) (by kernel_rfl) (fun _ _ _ h => h) (Or.inl ⟨by rfl, ?_⟩) ?_
      rotate_left
      · (intro w; go_simp; try with_reducible rfl)
      simp only [Act.put, List.setIfInBounds_toArray, List.set_cons_succ, List.set_cons_zero]
      refine wpAny_takeD (i := 8) (d := 74) (v := ?_) rfl rfl (by kernel_rfl) (by kernel_rfl) (by kernel_rfl) (fun _ _ _ h => h) (Or.inl ⟨by rfl, ?_⟩) ?_
      rotate_left
      · (intro w; go_simp; try with_reducible rfl)
      simp only [Act.put, List.setIfInBounds_toArray, List.set_cons_succ, List.set_cons_zero]
      refine wpAny_takeD (i := 10) (d := 76) (v := ?_) rfl rfl (by kernel_rfl) (by kernel_rfl) (by kernel_rfl) (fun _ _ _ h => h) (Or.inl ⟨by rfl, ?_⟩) ?_
      rotate_left
      · (intro w; go_simp; try with_reducible rfl)
      simp only [Act.put, List.setIfInBounds_toArray, List.set_cons_succ, List.set_cons_zero]
      refine wpAny_takeD (i := 11) (d := 77) (v := ?_) rfl rfl (by kernel_rfl) (by kernel_rfl) (by kernel_rfl) (fun _ _ _ h => h) (Or.inl ⟨by rfl, ?_⟩) ?_
      rotate_left
      · (intro w; go_simp; try with_reducible rfl)
      simp only [Act.put, List.setIfInBounds_toArray, List.set_cons_succ, List.set_cons_zero]
      refine wpAny_takeD (i := 12) (d := 78) (v := ?_) rfl rfl (by kernel_rfl) (by kernel_rfl) (by kernel_rfl) (fun _ _ _ h => h) (Or.inl ⟨by rfl, ?_⟩) ?_
      rotate_left
      · (intro w; go_simp; try with_reducible rfl)
      simp only [Act.put, List.setIfInBounds_toArray, List.set_cons_succ, List.set_cons_zero]
      refine wpAny_takeD (i := 13) (d := 79) (v := ?_) rfl rfl (by kernel_rfl) (by kernel_rfl) (by kernel_rfl) (fun _ _ _ h => h) (Or.inl ⟨by rfl, ?_⟩) ?_
      rotate_left
      · (intro w; go_simp; try with_reducible rfl)
      simp only [Act.put, List.setIfInBounds_toArray, List.set_cons_succ, List.set_cons_zero]
      refine wpAny_takeD (i := 14) (d := 80) (v := ?_) rfl rfl (by kernel_rfl) (by kernel_rfl) (by kernel_rfl) (fun _ _ _ h => h) (Or.inl ⟨by rfl, ?_⟩) ?_
      rotate_left
      · (intro w; go_simp; try with_reducible rfl)
      simp only [Act.put, List.setIfInBounds_toArray, List.set_cons_succ, List.set_cons_zero]
      refine wpAny_takeD (i := 15) (d := 81) (v := ?_) rfl rfl (by kernel_rfl) (by kernel_rfl) (by kernel_rfl) (fun _ _ _ h => h) (Or.inl ⟨by rfl, ?_⟩) ?_
      rotate_left
      · (intro w; go_simp; try with_reducible rfl)
      simp only [Act.put, List.setIfInBounds_toArray, List.set_cons_succ, List.set_cons_zero]
      change wpAny _ _ _ _ _ #[true, false, true, true, true, true, false, false, true, false, true, true, true, true, true, true, false, false, false, false, false, false] _ _
      refine two8_core (l0 := #[true, false, true, true, true, true, false, false, true, false, true, true, true, true, true, true, false, false, false, false, false, false]) (X := ⟨two_ 1 9, two_ 6 16, two_ 67 75, two_ 72 82, two_ 7 17, two_ 73 83, 18, 84⟩) (T := [19, 20, 21]) (lF := #[true, true, true, true, true, true, true, true, true, true, true, true, true, true, true, true, true, true, true, false, false, false]) elInt (by omega) (by omega) rfl rfl
        (two8_of (k := 19) (b := w.heap.size + 1) (k1 := .i64) (k2 := .i64) (n1 := (linLo low (((k : Int) + 1) * num / den))) (n2 := (linHi high ((k : Int) + 1) (((k : Int) + 1) * num / den))) elInt (by kernel_rfl) (by kernel_rfl) 66 74 12 (.tmp 71) (.tmp 81) _ (by decide) ?q6hx (fun c => by cases c <;> rfl) (fun c => by cases c <;> rfl) (fun c => by cases c <;> rfl) (by rfl) Tryd.underlying26 rfl rfl rfl (by kernel_rfl) (by kernel_rfl) (by kernel_rfl) (by kernel_rfl) (by kernel_rfl) (by kernel_rfl))
        ?q6rest _ _ _ _ (by decide) (two8_start (by kernel_rfl) T.out.drew (by kernel_rfl))
      case q6hx =>
        intro x hx j hj
        simp only [List.mem_cons, List.not_mem_nil, or_false] at hx
        rcases hx with rfl | rfl <;> cases hj <;> decide
      case q6rest =>
        intro f r1 r2 w2 T2 g1 g2 g3
        obtain ⟨x0, e0⟩ : ∃ x, f 67 = x := ⟨_, rfl⟩
        obtain ⟨x1, e1⟩ : ∃ x, f 72 = x := ⟨_, rfl⟩
        obtain ⟨x3, e3⟩ : ∃ x, f 75 = x := ⟨_, rfl⟩
        obtain ⟨x4, e4⟩ : ∃ x, f 82 = x := ⟨_, rfl⟩
        replace g1 : f 73 = r1 := g1
        replace g2 : f 83 = r2 := g2
        replace g3 : f 84 = _ := g3
        simp only [Pair2.D, two_, List.foldl_cons, List.foldl_nil, List.drop_succ_cons, List.drop_zero, g1, g2, g3, e0, e1, e3, e4]
        clear e0 e1 e3 e4 g1 g2 g3 f
        have z0 : w2.cell? ⟨w.heap.size + 1, 0, none⟩ = some v1 := (T2.box.cell 0).trans rfl
        have z1 : w2.cell? ⟨w.heap.size + 1, 1, none⟩ = some v2 := (T2.box.cell 1).trans rfl
        have z2 := T2.box.frozen 0
        have z3 := T2.box.frozen 1
        obtain ⟨A1, q1, rfl, _⟩ := own_form T2.o1
        obtain ⟨A2, q2, rfl, _⟩ := own_form T2.o2
        rw [← linA_succ, ← linR_succ] at T2
        have T3 := Lib.hid T2.put
        clear T2 wr2 wr3 wr4
        go_wp2
        go_roundw
        case rel => exact ⟨k + 1, _, _, by omega, by go_num, T3.out⟩
        case measure => simp [intOf]; omega
    · have hd : decide ((k : Int) + 1 < (n : Int)) = false := by rw [decide_eq_false_iff_not]; omega
      obtain rfl : k = m := by omega
      obtain ⟨m1, m2, m3, m4⟩ := linM_bd (num := num) (den := den) (i := n) (by omega) (by omega) a3 (by omega) a1
      have wr2 : IntKind.i64.wrap ((n : Int) * num / den + 1) = (n : Int) * num / den + 1 := IntWalk.i64_in _ (by omega)
      go_wp2_with fail
      refine wp_region_any (by kernel_rfl) ?_
      change wpAny _ _ _ _ _ _ _ (World.drew _)
      refine wpAny_takeD (i := 0) (d := 91) (v := ?_) rfl rfl (by kernel_rfl) (by kernel_rfl) (by kernel_rfl) (fun _ _ _ h => h) (Or.inl ⟨by rfl, ?_⟩) ?_
      rotate_left
      · (intro w; go_simp; try with_reducible rfl)
      simp only [Act.put, List.setIfInBounds_toArray, List.set_cons_succ, List.set_cons_zero]
      refine wpAny_takeD (i := 2) (d := 93) (v := ?_) rfl rfl (by kernel_rfl) (by kernel_rfl) (by kernel_rfl) (fun _ _ _ h => h) (Or.inl ⟨by rfl, ?_⟩) ?_
      rotate_left
      · (intro w; go_simp; try with_reducible rfl)
      simp only [Act.put, List.setIfInBounds_toArray, List.set_cons_succ, List.set_cons_zero]
      refine wpAny_takeD (i := 5) (d := 96) (v := ?_) rfl rfl (by kernel_rfl) (by kernel_rfl) (by kernel_rfl) (fun _ _ _ h => h) (Or.inl ⟨by rfl, ?_⟩) ?_
      rotate_left
      · (intro w; go_simp; try with_reducible rfl)
      simp only [Act.put, List.setIfInBounds_toArray, List.set_cons_succ, List.set_cons_zero]
      refine wpAny_takeD (i := 7) (d := 98) (v := ?_) rfl rfl (by kernel_rfl) (by kernel_rfl) (by kernel_rfl) (fun _ _ _ h => h) (Or.inl ⟨by rfl, ?_⟩) ?_
      rotate_left
      · (intro w; go_simp; try with_reducible rfl)
      simp only [Act.put, List.setIfInBounds_toArray, List.set_cons_succ, List.set_cons_zero]
      refine wpAny_takeD (i := 8) (d := 99) (v := ?_) rfl rfl (by kernel_rfl) (by kernel_rfl) (by kernel_rfl) (fun _ _ _ h => h) (Or.inl ⟨by rfl, ?_⟩) ?_
      rotate_left
      · (intro w; go_simp; try with_reducible rfl)
      simp only [Act.put, List.setIfInBounds_toArray, List.set_cons_succ, List.set_cons_zero]
      change wpAny _ _ _ _ _ #[true, false, true, false, false, true, false, true, true, false, false, false, false, false, false] _ _
      refine two8_core (l0 := #[true, false, true, false, false, true, false, true, true, false, false, false, false, false, false]) (X := ⟨two_ 1 6, two_ 3 9, two_ 92 97, two_ 94 100, two_ 4 10, two_ 95 101, 11, 102⟩) (T := [12, 13, 14]) (lF := #[true, true, true, true, true, true, true, true, true, true, true, true, false, false, false]) elInt (by omega) (by omega) rfl rfl
        (two8_of (k := 12) (b := w.heap.size + 1) (k1 := .i64) (k2 := .i64) (n1 := ((n : Int) * num / den)) (n2 := ((n : Int) * num / den + 1)) elInt (by kernel_rfl) (by kernel_rfl) 91 96 12 (.tmp 93) (.tmp 99) _ (by decide) ?q7hx (fun c => by cases c <;> rfl) (fun c => by cases c <;> rfl) (fun c => by cases c <;> rfl) (by rfl) Tryd.underlying26 rfl rfl rfl (by kernel_rfl) (by kernel_rfl) (by kernel_rfl) (by kernel_rfl) (by kernel_rfl) (by kernel_rfl))
        ?q7rest _ _ _ _ (by decide) (two8_start (by kernel_rfl) T.out.drew (by kernel_rfl))
      case q7hx =>
        intro x hx j hj
        simp only [List.mem_cons, List.not_mem_nil, or_false] at hx
        rcases hx with rfl | rfl <;> cases hj <;> decide
      case q7rest =>
        intro f r1 r2 w2 T2 g1 g2 g3
        obtain ⟨x0, e0⟩ : ∃ x, f 92 = x := ⟨_, rfl⟩
        obtain ⟨x1, e1⟩ : ∃ x, f 94 = x := ⟨_, rfl⟩
        obtain ⟨x3, e3⟩ : ∃ x, f 97 = x := ⟨_, rfl⟩
        obtain ⟨x4, e4⟩ : ∃ x, f 100 = x := ⟨_, rfl⟩
        replace g1 : f 95 = r1 := g1
        replace g2 : f 101 = r2 := g2
        replace g3 : f 102 = _ := g3
        simp only [Pair2.D, two_, List.foldl_cons, List.foldl_nil, List.drop_succ_cons, List.drop_zero, g1, g2, g3, e0, e1, e3, e4]
        clear e0 e1 e3 e4 g1 g2 g3 f
        have z0 : w2.cell? ⟨w.heap.size + 1, 0, none⟩ = some v1 := (T2.box.cell 0).trans rfl
        have z1 : w2.cell? ⟨w.heap.size + 1, 1, none⟩ = some v2 := (T2.box.cell 1).trans rfl
        have z2 := T2.box.frozen 0
        have z3 := T2.box.frozen 1
        obtain ⟨s0, s1, s2, s3, s4⟩ := res_cells T2.bel
        obtain ⟨A1, q1, rfl, _⟩ := own_form T2.o1
        obtain ⟨A2, q2, rfl, _⟩ := own_form T2.o2
        obtain ⟨E1, E2, E3, E4⟩ := linT_at num den low high hm1 hm2
        unfold linM at E1 E2
        rw [← iRow_snoc, ← iRow_snoc, E1, E2] at T2
        replace E3 := Lib.hid E3
        replace E4 := Lib.hid E4
        clear E1 E2
        have T3 := T2.put
        clear T2 wr2 hd
        have R := Lib.hid (two_res (r := w.heap.size) (x := .slice A1 (k + 1) q1) (y := .slice A2 (k + 1) q2) (t := (linT n num den low high)) T3 E3.out E4.out (by omega))
        have hb := Lib.hid (((hbx.out.trans (T3.bel.mono (by omega))).setCell (p := ⟨w.heap.size, 0, none⟩) (Nat.le_refl _) (.slice A1 (k + 1) q1)).setCell (p := ⟨w.heap.size, 1, none⟩) (Nat.le_refl _) (.slice A2 (k + 1) q2))
        clear T3
        have L1 : Hid (((linT n num den low high)).acc.length = k + 1) := Lib.hid E3.out
        have L2 : Hid (((linT n num den low high)).rej.length = k + 1) := Lib.hid E4.out
        go_wp2
        refine bodyPost_ret (v := .tuple #[.agg #[.slice A1 (k + 1) q1, .slice A2 (k + 1) q2], .int .i64 0]) (by simp [results, Tryd.results18, go_sem, s0, s1]) rfl ?_
        exact Ret.mk ⟨⟨_, _, _, _⟩, by show _ = Value.tuple #[.agg #[.slice _ ((linT n num den low high)).acc.length _, .slice _ ((linT n num den low high)).rej.length _], _]; rw [L1.out, L2.out], R.out, hb.out⟩

set_option maxHeartbeats 1000000 in
theorem fixed_any (n c : Int) (w : World) : Calls Tryd.prog 12 #[.int .i64 n, .int .i64 c] w (Ret (TRes w (fixV n c) (fixE n c))) := by
  have hbx : Hid (∀ o : Obj, Below w.heap.size w (w.alloc o)) := Lib.hid fun o => (Below.refl _ _).alloc (Nat.le_refl _) o
  by_cases g : n < 1 ∨ 64 < n ∨ c < -1 ∨ n < c
  · have E := fixE_7 g
    have E' : fixV n c = tst0 := fixV_no (by rw [E]; omega)
    rw [E, E']
    clear E E'
    by_cases c0 : n < 1
    · have d0 : decide (n < 1) = true := decide_eq_true c0
      clear g c0
      go_enter Tryd.func12, Tryd.ntmps12
      go_wp2
      refine bodyPost_ret (v := .tuple #[.agg #[.slice none 0 0, .slice none 0 0], .int .i64 7]) (by simp [results, Tryd.results12, go_sem]) rfl (Ret.mk (TRes.none_ ?_))
      first | exact hbx.out _ | exact ((hbx.out _).setCell (Nat.le_refl _) _).setCell (Nat.le_refl _) _
    have d0 : decide (n < 1) = false := by rw [decide_eq_false_iff_not]; exact c0
    by_cases c1 : 64 < n
    · have d1 : decide (64 < n) = true := decide_eq_true c1
      clear g c1
      go_enter Tryd.func12, Tryd.ntmps12
      go_wp2
      refine bodyPost_ret (v := .tuple #[.agg #[.slice none 0 0, .slice none 0 0], .int .i64 7]) (by simp [results, Tryd.results12, go_sem]) rfl (Ret.mk (TRes.none_ ?_))
      first | exact hbx.out _ | exact ((hbx.out _).setCell (Nat.le_refl _) _).setCell (Nat.le_refl _) _
    have d1 : decide (64 < n) = false := by rw [decide_eq_false_iff_not]; exact c1
    by_cases c2 : c < -1
    · have d2 : decide (c < -1) = true := decide_eq_true c2
      clear g c2
      go_enter Tryd.func12, Tryd.ntmps12
      go_wp2
      refine bodyPost_ret (v := .tuple #[.agg #[.slice none 0 0, .slice none 0 0], .int .i64 7]) (by simp [results, Tryd.results12, go_sem]) rfl (Ret.mk (TRes.none_ ?_))
      first | exact hbx.out _ | exact ((hbx.out _).setCell (Nat.le_refl _) _).setCell (Nat.le_refl _) _
    have d2 : decide (c < -1) = false := by rw [decide_eq_false_iff_not]; exact c2
    have c3 : n < c := by omega
    have d3 : decide (n < c) = true := decide_eq_true c3
    clear g c0 c1 c2 c3
    go_enter Tryd.func12, Tryd.ntmps12
    go_wp2
    refine bodyPost_ret (v := .tuple #[.agg #[.slice none 0 0, .slice none 0 0], .int .i64 7]) (by simp [results, Tryd.results12, go_sem]) rfl (Ret.mk (TRes.none_ ?_))
    first | exact hbx.out _ | exact ((hbx.out _).setCell (Nat.le_refl _) _).setCell (Nat.le_refl _) _
  · obtain ⟨k, rfl⟩ : ∃ k : Nat, n = k := ⟨n.toNat, by omega⟩
    rw [fixE_0 g, fixV_ok (fixE_0 g)]
    exact fixed_ok k c w (by omega) (by omega) (by omega) (by omega)

set_option maxHeartbeats 1000000 in
theorem rfixed_any (n c : Int) (w : World) : Calls Tryd.prog 13 #[.int .i64 n, .int .i64 c] w (Ret (TRes w (fixV n c) (fixE n c))) := by
  have hbx : Hid (∀ o : Obj, Below w.heap.size w (w.alloc o)) := Lib.hid fun o => (Below.refl _ _).alloc (Nat.le_refl _) o
  by_cases g : n < 1 ∨ 64 < n ∨ c < -1 ∨ n < c
  · have E := fixE_7 g
    have E' : fixV n c = tst0 := fixV_no (by rw [E]; omega)
    rw [E, E']
    clear E E'
    by_cases c0 : n < 1
    · have d0 : decide (n < 1) = true := decide_eq_true c0
      clear g c0
      go_enter Tryd.func13, Tryd.ntmps13
      go_wp2
      refine bodyPost_ret (v := .tuple #[.agg #[.slice none 0 0, .slice none 0 0], .int .i64 7]) (by simp [results, Tryd.results13, go_sem]) rfl (Ret.mk (TRes.none_ ?_))
      first | exact hbx.out _ | exact ((hbx.out _).setCell (Nat.le_refl _) _).setCell (Nat.le_refl _) _
    have d0 : decide (n < 1) = false := by rw [decide_eq_false_iff_not]; exact c0
    by_cases c1 : 64 < n
    · have d1 : decide (64 < n) = true := decide_eq_true c1
      clear g c1
      go_enter Tryd.func13, Tryd.ntmps13
      go_wp2
      refine bodyPost_ret (v := .tuple #[.agg #[.slice none 0 0, .slice none 0 0], .int .i64 7]) (by simp [results, Tryd.results13, go_sem]) rfl (Ret.mk (TRes.none_ ?_))
      first | exact hbx.out _ | exact ((hbx.out _).setCell (Nat.le_refl _) _).setCell (Nat.le_refl _) _
    have d1 : decide (64 < n) = false := by rw [decide_eq_false_iff_not]; exact c1
    by_cases c2 : c < -1
    · have d2 : decide (c < -1) = true := decide_eq_true c2
      clear g c2
      go_enter Tryd.func13, Tryd.ntmps13
      go_wp2
      refine bodyPost_ret (v := .tuple #[.agg #[.slice none 0 0, .slice none 0 0], .int .i64 7]) (by simp [results, Tryd.results13, go_sem]) rfl (Ret.mk (TRes.none_ ?_))
      first | exact hbx.out _ | exact ((hbx.out _).setCell (Nat.le_refl _) _).setCell (Nat.le_refl _) _
    have d2 : decide (c < -1) = false := by rw [decide_eq_false_iff_not]; exact c2
    have c3 : n < c := by omega
    have d3 : decide (n < c) = true := decide_eq_true c3
    clear g c0 c1 c2 c3
    go_enter Tryd.func13, Tryd.ntmps13
    go_wp2
    refine bodyPost_ret (v := .tuple #[.agg #[.slice none 0 0, .slice none 0 0], .int .i64 7]) (by simp [results, Tryd.results13, go_sem]) rfl (Ret.mk (TRes.none_ ?_))
    first | exact hbx.out _ | exact ((hbx.out _).setCell (Nat.le_refl _) _).setCell (Nat.le_refl _) _
  · obtain ⟨k, rfl⟩ : ∃ k : Nat, n = k := ⟨n.toNat, by omega⟩
    rw [fixE_0 g, fixV_ok (fixE_0 g)]
    exact rfixed_ok k c w (by omega) (by omega) (by omega) (by omega)

set_option maxHeartbeats 2000000 in
theorem linear_any (n num den low high : Int) (w : World) : Calls Tryd.prog 17 #[.int .i64 n, .int .i64 num, .int .i64 den, .int .i64 low, .int .i64 high] w (Ret (TRes w (linV n num den low high) (linE n num den low high))) := by
  have hbx : Hid (∀ o : Obj, Below w.heap.size w (w.alloc o)) := Lib.hid fun o => (Below.refl _ _).alloc (Nat.le_refl _) o
  by_cases g : 1 ≤ n ∧ n ≤ 64 ∧ 1 ≤ den ∧ den ≤ 1000 ∧ 0 ≤ num ∧ num ≤ den ∧ 1 ≤ low ∧ low ≤ 64 ∧ 1 ≤ high ∧ high ≤ 64
  · have E : linE n num den low high = 0 := by unfold linE; rw [if_pos g]
    have E' : linV n num den low high = linT n.toNat num den low high := by unfold linV; rw [if_pos E]
    rw [E, E']
    obtain ⟨k, rfl⟩ : ∃ k : Nat, n = k := ⟨n.toNat, by omega⟩
    exact linear_ok k num den low high w (by omega) (by omega) (by omega) (by omega) (by omega) (by omega) (by omega) (by omega) (by omega) (by omega)
  · have E : linE n num den low high = 7 := by unfold linE; rw [if_neg g]
    have E' : linV n num den low high = tst0 := by unfold linV; rw [if_neg (by rw [E]; omega)]
    rw [E, E']
    clear E E'
    by_cases c0 : 1 ≤ n ∧ n ≤ 64
    case neg =>
      have d0 : btw n 1 64 = false := btw_f c0
      clear g c0
      go_enter Tryd.func17, Tryd.ntmps17
      go_wp2_with (go_at_call 33; refine (between_any _ _ _ _).mono ?_; rintro e w' ⟨rfl, rfl⟩)
      refine bodyPost_ret (v := .tuple #[.agg #[.slice none 0 0, .slice none 0 0], .int .i64 7]) (by simp [results, Tryd.results17, go_sem]) rfl (Ret.mk (TRes.none_ ?_))
      first | exact hbx.out _ | exact ((hbx.out _).setCell (Nat.le_refl _) _).setCell (Nat.le_refl _) _
    have d0 : btw n 1 64 = true := decide_eq_true c0
    by_cases c1 : 1 ≤ den ∧ den ≤ 1000
    case neg =>
      have d1 : btw den 1 1000 = false := btw_f c1
      clear g c0 c1
      go_enter Tryd.func17, Tryd.ntmps17
      go_wp2_with (go_at_call 33; refine (between_any _ _ _ _).mono ?_; rintro e w' ⟨rfl, rfl⟩)
      refine bodyPost_ret (v := .tuple #[.agg #[.slice none 0 0, .slice none 0 0], .int .i64 7]) (by simp [results, Tryd.results17, go_sem]) rfl (Ret.mk (TRes.none_ ?_))
      first | exact hbx.out _ | exact ((hbx.out _).setCell (Nat.le_refl _) _).setCell (Nat.le_refl _) _
    have d1 : btw den 1 1000 = true := decide_eq_true c1
    by_cases c2 : 0 ≤ num ∧ num ≤ den
    case neg =>
      have d2 : btw num 0 den = false := btw_f c2
      clear g c0 c1 c2
      go_enter Tryd.func17, Tryd.ntmps17
      go_wp2_with (go_at_call 33; refine (between_any _ _ _ _).mono ?_; rintro e w' ⟨rfl, rfl⟩)
      refine bodyPost_ret (v := .tuple #[.agg #[.slice none 0 0, .slice none 0 0], .int .i64 7]) (by simp [results, Tryd.results17, go_sem]) rfl (Ret.mk (TRes.none_ ?_))
      first | exact hbx.out _ | exact ((hbx.out _).setCell (Nat.le_refl _) _).setCell (Nat.le_refl _) _
    have d2 : btw num 0 den = true := decide_eq_true c2
    by_cases c3 : 1 ≤ low ∧ low ≤ 64
    case neg =>
      have d3 : btw low 1 64 = false := btw_f c3
      clear g c0 c1 c2 c3
      go_enter Tryd.func17, Tryd.ntmps17
      go_wp2_with (go_at_call 33; refine (between_any _ _ _ _).mono ?_; rintro e w' ⟨rfl, rfl⟩)
      refine bodyPost_ret (v := .tuple #[.agg #[.slice none 0 0, .slice none 0 0], .int .i64 7]) (by simp [results, Tryd.results17, go_sem]) rfl (Ret.mk (TRes.none_ ?_))
      first | exact hbx.out _ | exact ((hbx.out _).setCell (Nat.le_refl _) _).setCell (Nat.le_refl _) _
    have d3 : btw low 1 64 = true := decide_eq_true c3
    have c4 : ¬ (1 ≤ high ∧ high ≤ 64) := by omega
    have d4 : btw high 1 64 = false := btw_f c4
    clear g c0 c1 c2 c3 c4
    go_enter Tryd.func17, Tryd.ntmps17
    go_wp2_with (go_at_call 33; refine (between_any _ _ _ _).mono ?_; rintro e w' ⟨rfl, rfl⟩)
    refine bodyPost_ret (v := .tuple #[.agg #[.slice none 0 0, .slice none 0 0], .int .i64 7]) (by simp [results, Tryd.results17, go_sem]) rfl (Ret.mk (TRes.none_ ?_))
    first | exact hbx.out _ | exact ((hbx.out _).setCell (Nat.le_refl _) _).setCell (Nat.le_refl _) _

set_option maxHeartbeats 2000000 in
theorem rlinear_any (n num den low high : Int) (w : World) : Calls Tryd.prog 18 #[.int .i64 n, .int .i64 num, .int .i64 den, .int .i64 low, .int .i64 high] w (Ret (TRes w (linV n num den low high) (linE n num den low high))) := by
  have hbx : Hid (∀ o : Obj, Below w.heap.size w (w.alloc o)) := Lib.hid fun o => (Below.refl _ _).alloc (Nat.le_refl _) o
  by_cases g : 1 ≤ n ∧ n ≤ 64 ∧ 1 ≤ den ∧ den ≤ 1000 ∧ 0 ≤ num ∧ num ≤ den ∧ 1 ≤ low ∧ low ≤ 64 ∧ 1 ≤ high ∧ high ≤ 64
  · have E : linE n num den low high = 0 := by unfold linE; rw [if_pos g]
    have E' : linV n num den low high = linT n.toNat num den low high := by unfold linV; rw [if_pos E]
    rw [E, E']
    obtain ⟨k, rfl⟩ : ∃ k : Nat, n = k := ⟨n.toNat, by omega⟩
    exact rlinear_ok k num den low high w (by omega) (by omega) (by omega) (by omega) (by omega) (by omega) (by omega) (by omega) (by omega) (by omega)
  · have E : linE n num den low high = 7 := by unfold linE; rw [if_neg g]
    have E' : linV n num den low high = tst0 := by unfold linV; rw [if_neg (by rw [E]; omega)]
    rw [E, E']
    clear E E'
    by_cases c0 : ¬ n < 1
    case neg =>
      have d0 : decide (n < 1) = true := decide_eq_true (Classical.not_not.1 c0)
      clear g c0
      go_enter Tryd.func18, Tryd.ntmps18
      go_wp2
      refine bodyPost_ret (v := .tuple #[.agg #[.slice none 0 0, .slice none 0 0], .int .i64 7]) (by simp [results, Tryd.results18, go_sem]) rfl (Ret.mk (TRes.none_ ?_))
      first | exact hbx.out _ | exact ((hbx.out _).setCell (Nat.le_refl _) _).setCell (Nat.le_refl _) _
    have d0 : decide (n < 1) = false := by rw [decide_eq_false_iff_not]; exact c0
    by_cases c1 : ¬ 64 < n
    case neg =>
      have d1 : decide (64 < n) = true := decide_eq_true (Classical.not_not.1 c1)
      clear g c0 c1
      go_enter Tryd.func18, Tryd.ntmps18
      go_wp2
      refine bodyPost_ret (v := .tuple #[.agg #[.slice none 0 0, .slice none 0 0], .int .i64 7]) (by simp [results, Tryd.results18, go_sem]) rfl (Ret.mk (TRes.none_ ?_))
      first | exact hbx.out _ | exact ((hbx.out _).setCell (Nat.le_refl _) _).setCell (Nat.le_refl _) _
    have d1 : decide (64 < n) = false := by rw [decide_eq_false_iff_not]; exact c1
    by_cases c2 : ¬ den < 1
    case neg =>
      have d2 : decide (den < 1) = true := decide_eq_true (Classical.not_not.1 c2)
      clear g c0 c1 c2
      go_enter Tryd.func18, Tryd.ntmps18
      go_wp2
      refine bodyPost_ret (v := .tuple #[.agg #[.slice none 0 0, .slice none 0 0], .int .i64 7]) (by simp [results, Tryd.results18, go_sem]) rfl (Ret.mk (TRes.none_ ?_))
      first | exact hbx.out _ | exact ((hbx.out _).setCell (Nat.le_refl _) _).setCell (Nat.le_refl _) _
    have d2 : decide (den < 1) = false := by rw [decide_eq_false_iff_not]; exact c2
    by_cases c3 : ¬ 1000 < den
    case neg =>
      have d3 : decide (1000 < den) = true := decide_eq_true (Classical.not_not.1 c3)
      clear g c0 c1 c2 c3
      go_enter Tryd.func18, Tryd.ntmps18
      go_wp2
      refine bodyPost_ret (v := .tuple #[.agg #[.slice none 0 0, .slice none 0 0], .int .i64 7]) (by simp [results, Tryd.results18, go_sem]) rfl (Ret.mk (TRes.none_ ?_))
      first | exact hbx.out _ | exact ((hbx.out _).setCell (Nat.le_refl _) _).setCell (Nat.le_refl _) _
    have d3 : decide (1000 < den) = false := by rw [decide_eq_false_iff_not]; exact c3
    by_cases c4 : ¬ num < 0
    case neg =>
      have d4 : decide (num < 0) = true := decide_eq_true (Classical.not_not.1 c4)
      clear g c0 c1 c2 c3 c4
      go_enter Tryd.func18, Tryd.ntmps18
      go_wp2
      refine bodyPost_ret (v := .tuple #[.agg #[.slice none 0 0, .slice none 0 0], .int .i64 7]) (by simp [results, Tryd.results18, go_sem]) rfl (Ret.mk (TRes.none_ ?_))
      first | exact hbx.out _ | exact ((hbx.out _).setCell (Nat.le_refl _) _).setCell (Nat.le_refl _) _
    have d4 : decide (num < 0) = false := by rw [decide_eq_false_iff_not]; exact c4
    by_cases c5 : ¬ den < num
    case neg =>
      have d5 : decide (den < num) = true := decide_eq_true (Classical.not_not.1 c5)
      clear g c0 c1 c2 c3 c4 c5
      go_enter Tryd.func18, Tryd.ntmps18
      go_wp2
      refine bodyPost_ret (v := .tuple #[.agg #[.slice none 0 0, .slice none 0 0], .int .i64 7]) (by simp [results, Tryd.results18, go_sem]) rfl (Ret.mk (TRes.none_ ?_))
      first | exact hbx.out _ | exact ((hbx.out _).setCell (Nat.le_refl _) _).setCell (Nat.le_refl _) _
    have d5 : decide (den < num) = false := by rw [decide_eq_false_iff_not]; exact c5
    by_cases c6 : ¬ low < 1
    case neg =>
      have d6 : decide (low < 1) = true := decide_eq_true (Classical.not_not.1 c6)
      clear g c0 c1 c2 c3 c4 c5 c6
      go_enter Tryd.func18, Tryd.ntmps18
      go_wp2
      refine bodyPost_ret (v := .tuple #[.agg #[.slice none 0 0, .slice none 0 0], .int .i64 7]) (by simp [results, Tryd.results18, go_sem]) rfl (Ret.mk (TRes.none_ ?_))
      first | exact hbx.out _ | exact ((hbx.out _).setCell (Nat.le_refl _) _).setCell (Nat.le_refl _) _
    have d6 : decide (low < 1) = false := by rw [decide_eq_false_iff_not]; exact c6
    by_cases c7 : ¬ 64 < low
    case neg =>
      have d7 : decide (64 < low) = true := decide_eq_true (Classical.not_not.1 c7)
      clear g c0 c1 c2 c3 c4 c5 c6 c7
      go_enter Tryd.func18, Tryd.ntmps18
      go_wp2
      refine bodyPost_ret (v := .tuple #[.agg #[.slice none 0 0, .slice none 0 0], .int .i64 7]) (by simp [results, Tryd.results18, go_sem]) rfl (Ret.mk (TRes.none_ ?_))
      first | exact hbx.out _ | exact ((hbx.out _).setCell (Nat.le_refl _) _).setCell (Nat.le_refl _) _
    have d7 : decide (64 < low) = false := by rw [decide_eq_false_iff_not]; exact c7
    by_cases c8 : ¬ high < 1
    case neg =>
      have d8 : decide (high < 1) = true := decide_eq_true (Classical.not_not.1 c8)
      clear g c0 c1 c2 c3 c4 c5 c6 c7 c8
      go_enter Tryd.func18, Tryd.ntmps18
      go_wp2
      refine bodyPost_ret (v := .tuple #[.agg #[.slice none 0 0, .slice none 0 0], .int .i64 7]) (by simp [results, Tryd.results18, go_sem]) rfl (Ret.mk (TRes.none_ ?_))
      first | exact hbx.out _ | exact ((hbx.out _).setCell (Nat.le_refl _) _).setCell (Nat.le_refl _) _
    have d8 : decide (high < 1) = false := by rw [decide_eq_false_iff_not]; exact c8
    have c9 : ¬ (¬ 64 < high) := by omega
    have d9 : decide (64 < high) = true := decide_eq_true (Classical.not_not.1 c9)
    clear g c0 c1 c2 c3 c4 c5 c6 c7 c8 c9
    go_enter Tryd.func18, Tryd.ntmps18
    go_wp2
    refine bodyPost_ret (v := .tuple #[.agg #[.slice none 0 0, .slice none 0 0], .int .i64 7]) (by simp [results, Tryd.results18, go_sem]) rfl (Ret.mk (TRes.none_ ?_))
    first | exact hbx.out _ | exact ((hbx.out _).setCell (Nat.le_refl _) _).setCell (Nat.le_refl _) _

end Go.Proofs.YtbpgpjmihbmcbaaDoor
