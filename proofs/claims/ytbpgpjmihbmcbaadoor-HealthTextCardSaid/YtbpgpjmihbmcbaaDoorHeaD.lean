/-
  CONTRACTS of Fixed and Linear, of both texts.
  Conditions: those that each theorem names.
-/
import Derived.Test.YtbpgpjmihbmcbaaDoorHeaC
import Derived.Test.YtbpgpjmihbmcbaaDoorTwoR
import Derived.Deep.RegionHeld3
namespace Go.Proofs.YtbpgpjmihbmcbaaDoor
open Go.RowKit Go.Sv

def iRow (l : List Int) : List Value := l.map (Value.int .i64)
theorem iRow_snoc (l : List Int) (x : Int) : iRow (l ++ [x]) = iRow l ++ [.int .i64 x] := by simp [iRow]
theorem iRow_get {l : List Int} {k : Nat} (h : k < l.length) : (iRow l)[k]? = some (iv l k) := by simp [iRow, iv, gi, h]
theorem iRow_set (l : List Int) (k : Nat) (x : Int) : (iRow l).set k (.int .i64 x) = iRow (l.set k x) := by simp [iRow, List.map_set]
theorem iRow_len (l : List Int) : (iRow l).length = l.length := by simp [iRow]
theorem own_iarr {w : World} {base : Nat} {e : TypeId} {A : Option Addr} {n c : Nat} {l : List Int} (h : w.ownsRow base e 1 (.slice A n c) n (iRow l)) (hl : l.length = n) : Arr w w.heap.size A l.length (iv l) := by
  obtain ⟨A', c', hv, _, _, ha⟩ := own_arr h (f := iv l) (fun k hk => iRow_get (by omega))
  injection hv with h1
  subst h1
  rw [hl]; exact ha
theorem two_res {W w : World} {B0 b base r : Nat} {tt e : TypeId} {v1 v2 x y : Value} {A1 A2 : Option Addr} {n q1 q2 : Nat} {t : Tst} (T : Two W B0 w b base tt e v1 v2 (.slice A1 n q1) n (iRow t.acc) (.slice A2 n q2) n (iRow t.rej)) (h1 : t.acc.length = n) (h2 : t.rej.length = n) (hr : r < base) :
    RTst ((w.setCell ⟨r, 0, none⟩ x).setCell ⟨r, 1, none⟩ y) ((w.setCell ⟨r, 0, none⟩ x).setCell ⟨r, 1, none⟩ y).heap.size t ⟨A1, q1, A2, q2⟩ :=
  ⟨own_iarr (ownsRow_setCell_below (ownsRow_setCell_below T.o1 (a := ⟨r, 0, none⟩) hr x) (a := ⟨r, 1, none⟩) hr y) h1, own_iarr (ownsRow_setCell_below (ownsRow_setCell_below T.o2 (a := ⟨r, 0, none⟩) hr x) (a := ⟨r, 1, none⟩) hr y) h2⟩
/-- the result's cells, behind all -/
theorem res_cells {w w' : World} {t : TypeId} (h : Below (w.heap.size + 1) (w.alloc (.cells #[.slice none 0 0, .slice none 0 0] t)) w') :
    w'.cell? ⟨w.heap.size, 0, none⟩ = some (.slice none 0 0) ∧ w'.cell? ⟨w.heap.size, 1, none⟩ = some (.slice none 0 0) ∧ w'.frozen? ⟨w.heap.size, 0, none⟩ = false ∧ w'.frozen? ⟨w.heap.size, 1, none⟩ = false ∧ w.heap.size < w'.heap.size := by
  have hs := h.size
  simp at hs
  have hW := Whole.new w t #[.slice none 0 0, .slice none 0 0]
  refine ⟨(h.cell (by simp)).trans ((hW.cell 0).trans rfl), (h.cell (by simp)).trans ((hW.cell 1).trans rfl), (h.frozen (by simp)).trans (hW.frozen 0), (h.frozen (by simp)).trans (hW.frozen 1), by omega⟩
theorem fixA_succ (k : Nat) : iRow (fixA (k + 1)) = iRow (fixA k) ++ [.int .i64 (-1)] := by rw [← iRow_snoc]; simp [fixA, List.replicate_succ']
theorem fixR_succ (k : Nat) : iRow (fixR (k + 1)) = iRow (fixR k) ++ [.int .i64 ((k : Int) + 2)] := by rw [← iRow_snoc]; simp [fixR, List.range_succ]

set_option maxHeartbeats 1000000 in
set_option maxRecDepth 100000 in
theorem fixed_ok (n : Nat) (c : Int) (w : World) (h0 : 0 < n) (h1 : n ≤ 64) (h2 : -1 ≤ c) (h3 : c ≤ n) :
    Calls Tryd.prog 12 #[.int .i64 n, .int .i64 c] w (Ret (TRes w (fixT n c) 0)) := by
  have d1 : decide ((n : Int) < 1) = false := by rw [decide_eq_false_iff_not]; omega
  have d2 : decide (64 < n) = false := by rw [decide_eq_false_iff_not]; omega
  have d3 : decide (c < -1) = false := by rw [decide_eq_false_iff_not]; omega
  have d4 : decide ((n : Int) < c) = false := by rw [decide_eq_false_iff_not]; omega
  have hbx : Hid (Below w.heap.size w (w.alloc (.cells #[.slice none 0 0, .slice none 0 0] 26))) := Lib.hid ((Below.refl _ _).alloc (Nat.le_refl _) _)
  go_enter Tryd.func12, Tryd.ntmps12
  go_wp2
  go_loopw [25] (fun i wr => ∃ (k : Nat) (v1 v2 : Value), k ≤ n ∧ i = .int .i64 k ∧ Two (w.alloc (.cells #[.slice none 0 0, .slice none 0 0] 26)) (w.heap.size + 1) wr (w.heap.size + 1) (w.heap.size + 2) 26 3 v1 v2 v1 k (iRow (fixA k)) v2 k (iRow (fixR k))) (fun i _ => n - (intOf i).toNat)
  case atStart => exact ⟨0, _, _, Nat.zero_le _, rfl, Two.new rfl⟩
  case round =>
    obtain ⟨k, v1, v2, hk, rfl, T⟩ := hrel
    replace T := Lib.hid T
    by_cases hlt : k < n
    · have y0 : wr.cell? ⟨w.heap.size + 1, 0, none⟩ = some v1 := (T.out.box.cell 0).trans rfl
      have y1 : wr.cell? ⟨w.heap.size + 1, 1, none⟩ = some v2 := (T.out.box.cell 1).trans rfl
      have i0 : (0 : Int) ≤ k := by omega
      have wr2 : IntKind.i64.wrap ((k : Int) + 2) = (k : Int) + 2 := IntWalk.i64_in _ (by omega)
      go_wp2_with fail
      refine wp_region_any (by kernel_rfl) ?_
      change wpAny _ _ _ _ _ _ _ (World.drew _)
      refine wpAny_takeD (i := 0) (d := 28) (v := ?_) rfl rfl (by kernel_rfl) (by kernel_rfl) (by kernel_rfl) (fun _ _ _ h => h) (Or.inl ⟨by rfl, ?_⟩) ?_
      rotate_left
      · (intro w; go_simp; try with_reducible rfl)
      simp only [Act.put, List.setIfInBounds_toArray, List.set_cons_succ, List.set_cons_zero]
      refine wpAny_takeD (i := 4) (d := 32) (v := ?_) rfl rfl (by kernel_rfl) (by kernel_rfl) (by kernel_rfl) (fun _ _ _ h => h) (Or.inl ⟨by rfl, ?_⟩) ?_
      rotate_left
      · (intro w; go_simp; try with_reducible rfl)
      simp only [Act.put, List.setIfInBounds_toArray, List.set_cons_succ, List.set_cons_zero]
      refine wpAny_takeD (i := 6) (d := 34) (v := ?_) rfl rfl (by kernel_rfl) (by kernel_rfl) (by kernel_rfl) (fun _ _ _ h => h) (Or.inl ⟨by rfl, ?_⟩) ?_
      rotate_left
      · (intro w; go_simp; try with_reducible rfl)
      simp only [Act.put, List.setIfInBounds_toArray, List.set_cons_succ, List.set_cons_zero]
      refine wpAny_takeD (i := 7) (d := 35) (v := ?_) rfl rfl (by kernel_rfl) (by kernel_rfl) (by kernel_rfl) (fun _ _ _ h => h) (Or.inl ⟨by rfl, ?_⟩) ?_
      rotate_left
      · (intro w; go_simp; try with_reducible rfl)
      simp only [Act.put, List.setIfInBounds_toArray, List.set_cons_succ, List.set_cons_zero]
      change wpAny _ _ _ _ _ #[true, false, false, false, true, false, true, true, false, false, false, false, false, false] _ _
      refine two8_core (l0 := #[true, false, false, false, true, false, true, true, false, false, false, false, false, false]) (X := ⟨two_ 1 5, two_ 2 8, two_ 29 33, two_ 30 36, two_ 3 9, two_ 31 37, 10, 38⟩) (T := [11, 12, 13]) (lF := #[true, true, true, true, true, true, true, true, true, true, true, false, false, false]) elInt (by omega) (by omega) rfl rfl
        (two8_of (k := 11) (b := w.heap.size + 1) (k1 := .i64) (k2 := .i64) (n1 := (-1)) (n2 := ((k : Int) + 2)) elInt (by kernel_rfl) (by kernel_rfl) 28 32 6 (.const (.int .i64 (-1))) (.tmp 35) _ (by decide) ?q1hx (fun c => by cases c <;> rfl) (fun c => by cases c <;> rfl) (fun c => by cases c <;> rfl) (by rfl) Tryd.underlying26 rfl rfl rfl (by kernel_rfl) (by kernel_rfl) (by kernel_rfl) (by kernel_rfl) (by kernel_rfl) (by kernel_rfl))
        ?q1rest _ _ _ _ (by decide) (two8_start (by kernel_rfl) T.out.drew (by kernel_rfl))
      case q1hx =>
        intro x hx j hj
        simp only [List.mem_cons, List.not_mem_nil, or_false] at hx
        rcases hx with rfl | rfl <;> cases hj <;> decide
      case q1rest =>
        intro f r1 r2 w2 T2 g1 g2 g3
        obtain ⟨x0, e0⟩ : ∃ x, f 29 = x := ⟨_, rfl⟩
        obtain ⟨x1, e1⟩ : ∃ x, f 30 = x := ⟨_, rfl⟩
        obtain ⟨x3, e3⟩ : ∃ x, f 33 = x := ⟨_, rfl⟩
        obtain ⟨x4, e4⟩ : ∃ x, f 36 = x := ⟨_, rfl⟩
        replace g1 : f 31 = r1 := g1
        replace g2 : f 37 = r2 := g2
        replace g3 : f 38 = _ := g3
        simp only [Pair2.D, two_, List.foldl_cons, List.foldl_nil, List.drop_succ_cons, List.drop_zero, g1, g2, g3, e0, e1, e3, e4]
        clear e0 e1 e3 e4 g1 g2 g3 f
        have z0 : w2.cell? ⟨w.heap.size + 1, 0, none⟩ = some v1 := (T2.box.cell 0).trans rfl
        have z1 : w2.cell? ⟨w.heap.size + 1, 1, none⟩ = some v2 := (T2.box.cell 1).trans rfl
        have z2 := T2.box.frozen 0
        have z3 := T2.box.frozen 1
        obtain ⟨A1, q1, rfl, _⟩ := own_form T2.o1
        obtain ⟨A2, q2, rfl, _⟩ := own_form T2.o2
        rw [← fixA_succ, ← fixR_succ] at T2
        have T3 := Lib.hid T2.put
        clear T2 wr2
        go_wp2
        go_roundw
        case rel => exact ⟨k + 1, _, _, by omega, by go_num, T3.out⟩
        case measure => simp [intOf]; omega
    · obtain rfl : k = n := by omega
      obtain ⟨g1, q1, rfl, l1, l1'⟩ := T.out.o1.form h0
      obtain ⟨g2, q2, rfl, l2, l2'⟩ := T.out.o2.form h0
      have TL := Lib.hid ((T.out.last (k - 1) (k - 1) (.int .i64 c) (.int .i64 (c + 1))).drew)
      rw [iRow_set, iRow_set, fixA_set c h0, fixR_set c h0] at TL
      have y0 : wr.cell? ⟨w.heap.size + 1, 0, none⟩ = some (.slice (some ⟨g1, 0, none⟩) k q1) := (T.out.box.cell 0).trans rfl
      have y1 : wr.cell? ⟨w.heap.size + 1, 1, none⟩ = some (.slice (some ⟨g2, 0, none⟩) k q2) := (T.out.box.cell 1).trans rfl
      have e1 : ((k : Int) - 1).toNat = k - 1 := by omega
      have i0 : (0 : Int) ≤ (k : Int) - 1 := by omega
      have i1 : (k : Int) - 1 < (k : Int) := by omega
      have i2 : (1 : Int) ≤ (k : Int) := by omega
      have i3 : ¬ ((k : Int) - 1 < 0) := by omega
      have i4 : 0 < k := h0
      have s1 : wr.cell? ⟨g1, k - 1, none⟩ = some (iv (fixA k) (k - 1)) := (T.out.o1.cellAt (k - 1) (by omega)).trans (iRow_get (by rw [fixA_len]; omega))
      have s2 : wr.cell? ⟨g2, k - 1, none⟩ = some (iv (fixR k) (k - 1)) := (T.out.o2.cellAt (k - 1) (by omega)).trans (iRow_get (by rw [fixR_len]; omega))
      unfold iv at s1 s2
      have f1 : wr.frozen? ⟨g1, k - 1, none⟩ = false := T.out.o1.frozenAt _
      have f2 : wr.frozen? ⟨g2, k - 1, none⟩ = false := T.out.o2.frozenAt _
      have n1 : g1 ≠ g2 := fun e => T.out.ap g1 rfl (by rw [e]; rfl)
      have n2 : g1 ≠ w.heap.size + 1 := by omega
      have n3 : g2 ≠ w.heap.size + 1 := by omega
      have wr2 : IntKind.i64.wrap (c + 1) = c + 1 := IntWalk.i64_in _ (by omega)
      have wr3 : IntKind.i64.wrap ((k : Int) - 1) = (k : Int) - 1 := IntWalk.i64_in _ (by omega)
      go_wp2_with fail
      go_region_held3 (fun w' => w'.cell? ⟨w.heap.size + 1, 0, none⟩ = some (.slice (some ⟨g1, 0, none⟩) k q1) ∧ w'.cell? ⟨w.heap.size + 1, 1, none⟩ = some (.slice (some ⟨g2, 0, none⟩) k q2)) (go_keep) (fail)
      obtain ⟨W, hW⟩ : ∃ W : World, W = ((wr.setCell ⟨g1, k - 1, none⟩ (.int .i64 c)).setCell ⟨g2, k - 1, none⟩ (.int .i64 (c + 1))).drew := ⟨_, rfl⟩
      rw [← hW] at TL ⊢
      clear hW y0 y1 s1 s2 f1 f2 n1 n2 n3 wr2 wr3 e1 i0 i1
      obtain ⟨r0, r1, r2, r3, r4⟩ := res_cells TL.out.bel
      have y0 : W.cell? ⟨w.heap.size + 1, 0, none⟩ = some (.slice (some ⟨g1, 0, none⟩) k q1) := (TL.out.box.cell 0).trans rfl
      have y1 : W.cell? ⟨w.heap.size + 1, 1, none⟩ = some (.slice (some ⟨g2, 0, none⟩) k q2) := (TL.out.box.cell 1).trans rfl
      have R := Lib.hid (two_res (r := w.heap.size) (x := .slice (some ⟨g1, 0, none⟩) k q1) (y := .slice (some ⟨g2, 0, none⟩) k q2) (t := fixT k c) TL.out (fixT_len c h0).1 (fixT_len c h0).2 (by omega))
      have hb := Lib.hid (((hbx.out.trans (TL.out.bel.mono (by omega))).setCell (p := ⟨w.heap.size, 0, none⟩) (Nat.le_refl _) (.slice (some ⟨g1, 0, none⟩) k q1)).setCell (p := ⟨w.heap.size, 1, none⟩) (Nat.le_refl _) (.slice (some ⟨g2, 0, none⟩) k q2))
      have L1 := Lib.hid (fixT_len c h0).1
      have L2 := Lib.hid (fixT_len c h0).2
      go_wp2
      refine bodyPost_ret (v := .tuple #[.agg #[.slice (some ⟨g1, 0, none⟩) k q1, .slice (some ⟨g2, 0, none⟩) k q2], .int .i64 0]) (by simp [results, Tryd.results12, go_sem, r0, r1]) rfl ?_
      exact Ret.mk ⟨⟨_, _, _, _⟩, by show _ = Value.tuple #[.agg #[.slice _ (fixT k c).acc.length _, .slice _ (fixT k c).rej.length _], _]; rw [L1.out, L2.out], R.out, hb.out⟩

set_option maxHeartbeats 1000000 in
set_option maxRecDepth 100000 in
theorem rfixed_ok (n : Nat) (c : Int) (w : World) (h0 : 0 < n) (h1 : n ≤ 64) (h2 : -1 ≤ c) (h3 : c ≤ n) :
    Calls Tryd.prog 13 #[.int .i64 n, .int .i64 c] w (Ret (TRes w (fixT n c) 0)) := by
  have d1 : decide ((n : Int) < 1) = false := by rw [decide_eq_false_iff_not]; omega
  have d2 : decide (64 < n) = false := by rw [decide_eq_false_iff_not]; omega
  have d3 : decide (c < -1) = false := by rw [decide_eq_false_iff_not]; omega
  have d4 : decide ((n : Int) < c) = false := by rw [decide_eq_false_iff_not]; omega
  have hbx : Hid (Below w.heap.size w (w.alloc (.cells #[.slice none 0 0, .slice none 0 0] 26))) := Lib.hid ((Below.refl _ _).alloc (Nat.le_refl _) _)
  obtain ⟨m, hm1, hm2⟩ : ∃ m, n ≤ m + 1 ∧ m + 1 ≤ n := ⟨n - 1, by omega, by omega⟩
  go_enter Tryd.func13, Tryd.ntmps13
  go_wp2
  go_loopw [7] (fun i wr => ∃ (k : Nat) (v1 v2 : Value), k ≤ m ∧ i = .int .i64 k ∧ Two (w.alloc (.cells #[.slice none 0 0, .slice none 0 0] 26)) (w.heap.size + 1) wr (w.heap.size + 1) (w.heap.size + 2) 26 3 v1 v2 v1 k (iRow (fixA k)) v2 k (iRow (fixR k))) (fun i _ => n - (intOf i).toNat)
  case atStart => exact ⟨0, _, _, Nat.zero_le _, rfl, Two.new rfl⟩
  case round =>
    obtain ⟨k, v1, v2, hk, rfl, T⟩ := hrel
    replace T := Lib.hid T
    have y0 : wr.cell? ⟨w.heap.size + 1, 0, none⟩ = some v1 := (T.out.box.cell 0).trans rfl
    have y1 : wr.cell? ⟨w.heap.size + 1, 1, none⟩ = some v2 := (T.out.box.cell 1).trans rfl
    have i0 : (0 : Int) ≤ k := by omega
    by_cases hlt : k < m
    · have wr2 : IntKind.i64.wrap ((k : Int) + 2) = (k : Int) + 2 := IntWalk.i64_in _ (by omega)
      have hd : decide ((k : Int) < (n : Int) - 1) = true := decide_eq_true (by omega)
      go_wp2_with fail
      refine wp_region_any (by kernel_rfl) ?_
      change wpAny _ _ _ _ _ _ _ (World.drew _)
      refine wpAny_takeD (i := 0) (d := 30) (v := ?_) rfl rfl (by kernel_rfl) (by kernel_rfl) (by kernel_rfl) (fun _ _ _ h => h) (Or.inl ⟨by rfl, ?_⟩) ?_
      rotate_left
      · (intro w; go_simp; try with_reducible rfl)
      simp only [Act.put, List.setIfInBounds_toArray, List.set_cons_succ, List.set_cons_zero]
      refine wpAny_takeD (i := 4) (d := 34) (v := ?_) rfl rfl (by kernel_rfl) (by kernel_rfl) (by kernel_rfl) (fun _ _ _ h => h) (Or.inl ⟨by rfl, ?_⟩) ?_
      rotate_left
      · (intro w; go_simp; try with_reducible rfl)
      simp only [Act.put, List.setIfInBounds_toArray, List.set_cons_succ, List.set_cons_zero]
      refine wpAny_takeD (i := 6) (d := 36) (v := ?_) rfl rfl (by kernel_rfl) (by kernel_rfl) (by kernel_rfl) (fun _ _ _ h => h) (Or.inl ⟨by rfl, ?_⟩) ?_
      rotate_left
      · (intro w; go_simp; try with_reducible rfl)
      simp only [Act.put, List.setIfInBounds_toArray, List.set_cons_succ, List.set_cons_zero]
      refine wpAny_takeD (i := 7) (d := 37) (v := ?_) rfl rfl (by kernel_rfl) (by kernel_rfl) (by kernel_rfl) (fun _ _ _ h => h) (Or.inl ⟨by rfl, ?_⟩) ?_
      rotate_left
      · (intro w; go_simp; try with_reducible rfl)
      simp only [Act.put, List.setIfInBounds_toArray, List.set_cons_succ, List.set_cons_zero]
      change wpAny _ _ _ _ _ #[true, false, false, false, true, false, true, true, false, false, false, false, false, false] _ _
      refine two8_core (l0 := #[true, false, false, false, true, false, true, true, false, false, false, false, false, false]) (X := ⟨two_ 1 5, two_ 2 8, two_ 31 35, two_ 32 38, two_ 3 9, two_ 33 39, 10, 40⟩) (T := [11, 12, 13]) (lF := #[true, true, true, true, true, true, true, true, true, true, true, false, false, false]) elInt (by omega) (by omega) rfl rfl
        (two8_of (k := 11) (b := w.heap.size + 1) (k1 := .i64) (k2 := .i64) (n1 := (-1)) (n2 := ((k : Int) + 2)) elInt (by kernel_rfl) (by kernel_rfl) 30 34 6 (.const (.int .i64 (-1))) (.tmp 37) _ (by decide) ?q2hx (fun c => by cases c <;> rfl) (fun c => by cases c <;> rfl) (fun c => by cases c <;> rfl) (by rfl) Tryd.underlying26 rfl rfl rfl (by kernel_rfl) (by kernel_rfl) (by kernel_rfl) (by kernel_rfl) (by kernel_rfl) (by kernel_rfl))
        ?q2rest _ _ _ _ (by decide) (two8_start (by kernel_rfl) T.out.drew (by kernel_rfl))
      case q2hx =>
        intro x hx j hj
        simp only [List.mem_cons, List.not_mem_nil, or_false] at hx
        rcases hx with rfl | rfl <;> cases hj <;> decide
      case q2rest =>
        intro f r1 r2 w2 T2 g1 g2 g3
        obtain ⟨x0, e0⟩ : ∃ x, f 31 = x := ⟨_, rfl⟩
        obtain ⟨x1, e1⟩ : ∃ x, f 32 = x := ⟨_, rfl⟩
        obtain ⟨x3, e3⟩ : ∃ x, f 35 = x := ⟨_, rfl⟩
        obtain ⟨x4, e4⟩ : ∃ x, f 38 = x := ⟨_, rfl⟩
        replace g1 : f 33 = r1 := g1
        replace g2 : f 39 = r2 := g2
        replace g3 : f 40 = _ := g3
        simp only [Pair2.D, two_, List.foldl_cons, List.foldl_nil, List.drop_succ_cons, List.drop_zero, g1, g2, g3, e0, e1, e3, e4]
        clear e0 e1 e3 e4 g1 g2 g3 f
        have z0 : w2.cell? ⟨w.heap.size + 1, 0, none⟩ = some v1 := (T2.box.cell 0).trans rfl
        have z1 : w2.cell? ⟨w.heap.size + 1, 1, none⟩ = some v2 := (T2.box.cell 1).trans rfl
        have z2 := T2.box.frozen 0
        have z3 := T2.box.frozen 1
        obtain ⟨A1, q1, rfl, _⟩ := own_form T2.o1
        obtain ⟨A2, q2, rfl, _⟩ := own_form T2.o2
        rw [← fixA_succ, ← fixR_succ] at T2
        have T3 := Lib.hid T2.put
        clear T2 wr2
        go_wp2
        go_roundw
        case rel => exact ⟨k + 1, _, _, by omega, by go_num, T3.out⟩
        case measure => simp [intOf]; omega
    · have hd : decide ((k : Int) < (n : Int) - 1) = false := by rw [decide_eq_false_iff_not]; omega
      obtain rfl : k = m := by omega
      have wr2 : IntKind.i64.wrap (c + 1) = c + 1 := IntWalk.i64_in _ (by omega)
      go_wp2_with fail
      refine wp_region_any (by kernel_rfl) ?_
      change wpAny _ _ _ _ _ _ _ (World.drew _)
      refine wpAny_takeD (i := 0) (d := 42) (v := ?_) rfl rfl (by kernel_rfl) (by kernel_rfl) (by kernel_rfl) (fun _ _ _ h => h) (Or.inl ⟨by rfl, ?_⟩) ?_
      rotate_left
      · (intro w; go_simp; try with_reducible rfl)
      simp only [Act.put, List.setIfInBounds_toArray, List.set_cons_succ, List.set_cons_zero]
      refine wpAny_takeD (i := 2) (d := 44) (v := ?_) rfl rfl (by kernel_rfl) (by kernel_rfl) (by kernel_rfl) (fun _ _ _ h => h) (Or.inl ⟨by rfl, ?_⟩) ?_
      rotate_left
      · (intro w; go_simp; try with_reducible rfl)
      simp only [Act.put, List.setIfInBounds_toArray, List.set_cons_succ, List.set_cons_zero]
      refine wpAny_takeD (i := 5) (d := 47) (v := ?_) rfl rfl (by kernel_rfl) (by kernel_rfl) (by kernel_rfl) (fun _ _ _ h => h) (Or.inl ⟨by rfl, ?_⟩) ?_
      rotate_left
      · (intro w; go_simp; try with_reducible rfl)
      simp only [Act.put, List.setIfInBounds_toArray, List.set_cons_succ, List.set_cons_zero]
      refine wpAny_takeD (i := 7) (d := 49) (v := ?_) rfl rfl (by kernel_rfl) (by kernel_rfl) (by kernel_rfl) (fun _ _ _ h => h) (Or.inl ⟨by rfl, ?_⟩) ?_
      rotate_left
      · (intro w; go_simp; try with_reducible rfl)
      simp only [Act.put, List.setIfInBounds_toArray, List.set_cons_succ, List.set_cons_zero]
      refine wpAny_takeD (i := 8) (d := 50) (v := ?_) rfl rfl (by kernel_rfl) (by kernel_rfl) (by kernel_rfl) (fun _ _ _ h => h) (Or.inl ⟨by rfl, ?_⟩) ?_
      rotate_left
      · (intro w; go_simp; try with_reducible rfl)
      simp only [Act.put, List.setIfInBounds_toArray, List.set_cons_succ, List.set_cons_zero]
      change wpAny _ _ _ _ _ #[true, false, true, false, false, true, false, true, true, false, false, false, false, false, false] _ _
      refine two8_core (l0 := #[true, false, true, false, false, true, false, true, true, false, false, false, false, false, false]) (X := ⟨two_ 1 6, two_ 3 9, two_ 43 48, two_ 45 51, two_ 4 10, two_ 46 52, 11, 53⟩) (T := [12, 13, 14]) (lF := #[true, true, true, true, true, true, true, true, true, true, true, true, false, false, false]) elInt (by omega) (by omega) rfl rfl
        (two8_of (k := 12) (b := w.heap.size + 1) (k1 := .i64) (k2 := .i64) (n1 := c) (n2 := (c + 1)) elInt (by kernel_rfl) (by kernel_rfl) 42 47 6 (.tmp 44) (.tmp 50) _ (by decide) ?q3hx (fun c => by cases c <;> rfl) (fun c => by cases c <;> rfl) (fun c => by cases c <;> rfl) (by rfl) Tryd.underlying26 rfl rfl rfl (by kernel_rfl) (by kernel_rfl) (by kernel_rfl) (by kernel_rfl) (by kernel_rfl) (by kernel_rfl))
        ?q3rest _ _ _ _ (by decide) (two8_start (by kernel_rfl) T.out.drew (by kernel_rfl))
      case q3hx =>
        intro x hx j hj
        simp only [List.mem_cons, List.not_mem_nil, or_false] at hx
        rcases hx with rfl | rfl <;> cases hj <;> decide
      case q3rest =>
        intro f r1 r2 w2 T2 g1 g2 g3
        obtain ⟨x0, e0⟩ : ∃ x, f 43 = x := ⟨_, rfl⟩
        obtain ⟨x1, e1⟩ : ∃ x, f 45 = x := ⟨_, rfl⟩
        obtain ⟨x3, e3⟩ : ∃ x, f 48 = x := ⟨_, rfl⟩
        obtain ⟨x4, e4⟩ : ∃ x, f 51 = x := ⟨_, rfl⟩
        replace g1 : f 46 = r1 := g1
        replace g2 : f 52 = r2 := g2
        replace g3 : f 53 = _ := g3
        simp only [Pair2.D, two_, List.foldl_cons, List.foldl_nil, List.drop_succ_cons, List.drop_zero, g1, g2, g3, e0, e1, e3, e4]
        clear e0 e1 e3 e4 g1 g2 g3 f
        have z0 : w2.cell? ⟨w.heap.size + 1, 0, none⟩ = some v1 := (T2.box.cell 0).trans rfl
        have z1 : w2.cell? ⟨w.heap.size + 1, 1, none⟩ = some v2 := (T2.box.cell 1).trans rfl
        have z2 := T2.box.frozen 0
        have z3 := T2.box.frozen 1
        obtain ⟨s0, s1, s2, s3, s4⟩ := res_cells T2.bel
        obtain ⟨A1, q1, rfl, _⟩ := own_form T2.o1
        obtain ⟨A2, q2, rfl, _⟩ := own_form T2.o2
        obtain ⟨E1, E2, E3, E4⟩ := fixT_at c hm1 hm2
        rw [← iRow_snoc, ← iRow_snoc, E1, E2] at T2
        replace E3 := Lib.hid E3
        replace E4 := Lib.hid E4
        clear E1 E2
        have T3 := T2.put
        clear T2 wr2 hd
        have R := Lib.hid (two_res (r := w.heap.size) (x := .slice A1 (k + 1) q1) (y := .slice A2 (k + 1) q2) (t := (fixT n c)) T3 E3.out E4.out (by omega))
        have hb := Lib.hid (((hbx.out.trans (T3.bel.mono (by omega))).setCell (p := ⟨w.heap.size, 0, none⟩) (Nat.le_refl _) (.slice A1 (k + 1) q1)).setCell (p := ⟨w.heap.size, 1, none⟩) (Nat.le_refl _) (.slice A2 (k + 1) q2))
        clear T3
        have L1 : Hid (((fixT n c)).acc.length = k + 1) := Lib.hid E3.out
        have L2 : Hid (((fixT n c)).rej.length = k + 1) := Lib.hid E4.out
        go_wp2
        refine bodyPost_ret (v := .tuple #[.agg #[.slice A1 (k + 1) q1, .slice A2 (k + 1) q2], .int .i64 0]) (by simp [results, Tryd.results13, go_sem, s0, s1]) rfl ?_
        exact Ret.mk ⟨⟨_, _, _, _⟩, by show _ = Value.tuple #[.agg #[.slice _ ((fixT n c)).acc.length _, .slice _ ((fixT n c)).rej.length _], _]; rw [L1.out, L2.out], R.out, hb.out⟩
end Go.Proofs.YtbpgpjmihbmcbaaDoor
