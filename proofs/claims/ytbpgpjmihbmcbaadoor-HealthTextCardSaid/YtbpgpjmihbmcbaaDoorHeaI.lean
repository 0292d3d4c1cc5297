/-
  CONTRACT of the reference's Curtail.
  Conditions: those that each theorem names.
-/
import Derived.Test.YtbpgpjmihbmcbaaDoorHeaE
import Derived.Test.YtbpgpjmihbmcbaaDoorHeaH
namespace Go.Proofs.YtbpgpjmihbmcbaaDoor
open Go.RowKit Go.Sv

/-- the result's cells, in a block before the rest -/
theorem res_cells' {w w1 w' : World} {o : Obj} {t : TypeId} {B : Nat} (h0 : Below ((w.alloc o).alloc (.cells #[.slice none 0 0, .slice none 0 0] t)).heap.size ((w.alloc o).alloc (.cells #[.slice none 0 0, .slice none 0 0] t)) w1) (h : Below B w1 w') (hB : w.heap.size + 1 < B) :
    w'.cell? ⟨w.heap.size + 1, 0, none⟩ = some (.slice none 0 0) ∧ w'.cell? ⟨w.heap.size + 1, 1, none⟩ = some (.slice none 0 0) ∧ w'.frozen? ⟨w.heap.size + 1, 0, none⟩ = false ∧ w'.frozen? ⟨w.heap.size + 1, 1, none⟩ = false ∧ w.heap.size + 1 < w'.heap.size := by
  have hs0 := h0.size
  have hs := h.size
  simp at hs0
  have hW : Whole ((w.alloc o).alloc (.cells #[.slice none 0 0, .slice none 0 0] t)) (w.heap.size + 1) t #[.slice none 0 0, .slice none 0 0] := by
    have := Whole.new (w.alloc o) t #[.slice none 0 0, .slice none 0 0]
    simpa using this
  have hW1 := hW.below h0 (by simp)
  have hW2 := hW1.below h hB
  exact ⟨(hW2.cell 0).trans rfl, (hW2.cell 1).trans rfl, hW2.frozen 0, hW2.frozen 1, by omega⟩

set_option maxHeartbeats 1000000 in
theorem rcurtail_no (t : Tst) (q : TstP) (w : World) (h : RTst w w.heap.size t q) (hbd : TBd t) (g : validE t ≠ 0) :
    Calls Tryd.prog 23 #[tstV t q] w (Ret (TRes w tst0 (validE t))) := by
  obtain ⟨qa, qc, qb, qd⟩ := q
  have hbx : Hid (∀ o o' : Obj, Below w.heap.size w ((w.alloc o).alloc o')) := Lib.hid fun o o' => ((Below.refl _ _).alloc (Nat.le_refl _) o).alloc (by simp) o'
  have hv : Hid (∀ o o' : Obj, Calls Tryd.prog 21 #[tstV t ⟨qa, qc, qb, qd⟩] ((w.alloc o).alloc o') fun e w' => e = .returned (.int .i64 (validE t)) ∧ Below ((w.alloc o).alloc o').heap.size ((w.alloc o).alloc o') w') :=
    Lib.hid fun o o' => rvalid_any t ⟨qa, qc, qb, qd⟩ _ (h.to (hbx.out o o')) hbd
  replace h := Lib.hid h
  have hx : (validE t != 0) = true := by rw [bne_iff_ne]; exact g
  clear g
  go_enter Tryd.func23, Tryd.ntmps23
  go_wp2_with fail
  refine (hv.out _ _).mono ?_
  rintro e w1 ⟨rfl, hb1⟩
  have hb2 := Lib.hid (below_of (hbx.out _ _) (hbx.out _ _).size hb1)
  obtain ⟨s0, s1, s2, s3, s4⟩ := res_cells' hb1 (Below.refl w1.heap.size w1) (by have := hb1.size; simp at this; omega)
  clear hb1
  go_wp2
  refine bodyPost_ret (v := .tuple #[.agg #[.slice none 0 0, .slice none 0 0], .int .i64 (validE t)]) (by simp [results, Tryd.results23, go_sem, s0, s1]) rfl (Ret.mk (TRes.none_ ?_))
  exact (hb2.out.setCell (by show w.heap.size ≤ w.heap.size + 1; omega) _).setCell (by show w.heap.size ≤ w.heap.size + 1; omega) _

set_option maxHeartbeats 2000000 in
set_option maxRecDepth 100000 in
theorem rcurtail_ok (t : Tst) (q : TstP) (w : World) (h : RTst w w.heap.size t q) (hbd : TBd t) (g : validE t = 0) :
    Calls Tryd.prog 23 #[tstV t q] w (Ret (TRes w (curT t) 0)) := by
  obtain ⟨qa, qc, qb, qd⟩ := q
  have hbx : Hid (∀ o o' : Obj, Below w.heap.size w ((w.alloc o).alloc o')) := Lib.hid fun o o' => ((Below.refl _ _).alloc (Nat.le_refl _) o).alloc (by simp) o'
  have hv : Hid (∀ o o' : Obj, Calls Tryd.prog 21 #[tstV t ⟨qa, qc, qb, qd⟩] ((w.alloc o).alloc o') fun e w' => e = .returned (.int .i64 (validE t)) ∧ Below ((w.alloc o).alloc o').heap.size ((w.alloc o).alloc o') w') :=
    Lib.hid fun o o' => rvalid_any t ⟨qa, qc, qb, qd⟩ _ (h.to (hbx.out o o')) hbd
  have vl := Lib.hid (validE_vld g)
  have G := Lib.hid g
  have hx : (validE t != 0) = false := by rw [bne_eq_false_iff_eq]; exact g
  have n1 := vl.out.n1
  replace h := Lib.hid h
  clear g
  go_enter Tryd.func23, Tryd.ntmps23
  go_wp2_with fail
  refine (hv.out _ _).mono ?_
  rintro e w1 ⟨rfl, hb1⟩
  have hb2 := Lib.hid (below_of (hbx.out _ _) (hbx.out _ _).size hb1)
  have hs1 : w.heap.size + 1 < w1.heap.size := by have := hb1.size; simp at this; omega
  have hB := Lib.hid ((TBox.new (w := w) (e := 26) (q := ⟨qa, qc, qb, qd⟩)).to (((Below.refl _ _).alloc (Nat.le_refl _) (.cells #[.slice none 0 0, .slice none 0 0] 26)).trans (hb1.mono (by simp))))
  have hR := Lib.hid (fun (w' : World) (hw : Below w1.heap.size w1 w') => res_cells' hb1 hw hs1)
  clear hb1
  go_wp2
  go_loopw [6, 7, 8, 9, 10] (fun n _ _ _ _ wr => ∃ (k : Nat) (v1 v2 : Value), k ≤ t.acc.length ∧ n = .int .i64 ((k : Int) + 1) ∧ Two w1 w1.heap.size wr w1.heap.size (w1.heap.size + 1) 26 3 v1 v2 v1 k (iRow (curAl t k)) v2 k (iRow (curRl t k))) (fun n _ _ _ _ _ => t.acc.length + 1 - (intOf n).toNat)
  case atStart => exact ⟨0, _, _, Nat.zero_le _, rfl, Two.new0⟩
  case round =>
    obtain ⟨k, v1, v2, hk, rfl, T⟩ := hrel
    replace T := Lib.hid T
    have hbw := T.out.bel
    have hbww := Lib.hid (hb2.out.trans (hbw.mono hb2.out.size))
    obtain ⟨z, y0, y1⟩ := hB.out.to hbw
    dsimp only at y0 y1
    have i0 : (0 : Int) ≤ k := by omega
    by_cases hlt : k < t.acc.length
    · have hd : decide ((k : Int) + 1 ≤ (t.acc.length : Int)) = true := decide_eq_true (by omega)
      clear hbw
      go_wp2
      go_loopw [7, 8, 9, 10] (fun a r f _ wi => ∃ j : Nat, j ≤ k + 2 ∧ f = .int .i64 j ∧ a = .int .i64 (bndA (rowC t (k + 1)) j) ∧ r = .int .i64 (bndR (rowC t (k + 1)) j) ∧ Two w1 w1.heap.size wi w1.heap.size (w1.heap.size + 1) 26 3 v1 v2 v1 k (iRow (curAl t k)) v2 k (iRow (curRl t k))) (fun _ _ f _ _ => k + 2 - (intOf f).toNat)
      case atStart => exact ⟨0, Nat.zero_le _, rfl, rfl, val_i (by show (k : Int) + 1 + 1 = ((rowC t (k + 1)).length : Int); rw [rowC_len]; omega), T.out⟩
      case round =>
        obtain ⟨j, hj, rfl, rfl, rfl, T⟩ := hrel
        replace T := Lib.hid T
        have hbw := T.out.bel
        have hbww := Lib.hid (hb2.out.trans (hbw.mono hb2.out.size))
        clear z y0 y1
        obtain ⟨z, y0, y1⟩ := hB.out.to hbw
        dsimp only at y0 y1
        clear hbw
        by_cases hlt2 : j < k + 2
        · have hd2 : decide ((j : Int) ≤ (k : Int) + 1) = true := decide_eq_true (by omega)
          have hc : Hid (Calls Tryd.prog 35 #[tstV t ⟨qa, qc, qb, qd⟩, .int .i64 ((k + 1 : Nat) : Int), .int .i64 (j : Nat)] _ fun e w' => e = .returned (.int .i64 (cert t (k + 1) (j : Nat))) ∧ Below wr.heap.size wr w') :=
            Lib.hid (certain_any t ⟨qa, qc, qb, qd⟩ hbd vl.out _ (k + 1) j wr rfl (by omega) (by omega) (by omega) (by omega) (h.out.to hbww.out))
          have hcast : ((k + 1 : Nat) : Int) = (k : Int) + 1 := by omega
          rw [hcast] at hc
          clear hcast
          have eg := rowC_get (t := t) (n := k + 1) (f := j) (by omega)
          go_wp2_with fail
          refine hc.out.mono ?_
          rintro e w3 ⟨rfl, hb3⟩
          have T3 := Lib.hid (T.out.to hb3)
          clear hb3
          rw [← eg]
          clear eg
          by_cases c1 : gi (rowC t (k + 1)) j = 1
          · have e1 : (gi (rowC t (k + 1)) j == 1) = true := by rw [beq_iff_eq]; exact c1
            have e2 : (gi (rowC t (k + 1)) j == 2) = false := by rw [beq_eq_false_iff_ne]; omega
            have E1 := Lib.hid (bndA_1 c1)
            have E2 : Hid (bndR (rowC t (k + 1)) (j + 1) = bndR (rowC t (k + 1)) j) := Lib.hid (bndR_n (by omega))
            clear c1
            go_wp2
            go_roundw
            case rel => exact ⟨j + 1, by omega, by go_num, val_i E1.out.symm, val_i E2.out.symm, T3.out⟩
            case measure => simp [intOf]; omega
          have e1 : (gi (rowC t (k + 1)) j == 1) = false := by rw [beq_eq_false_iff_ne]; exact c1
          have E1 := Lib.hid (bndA_n c1)
          by_cases c2 : gi (rowC t (k + 1)) j = 2
          · have e2 : (gi (rowC t (k + 1)) j == 2) = true := by rw [beq_iff_eq]; exact c2
            have hor := bndR_or (rowC t (k + 1)) j
            by_cases c3 : bndR (rowC t (k + 1)) j = (rowC t (k + 1)).length
            · have E2 := Lib.hid (bndR_2 c2 c3)
              rw [rowC_len] at c3
              have e3 : decide ((j : Int) < bndR (rowC t (k + 1)) j) = true := decide_eq_true (by omega)
              clear c1 c2 c3 hor
              go_wp2
              go_roundw
              case rel => exact ⟨j + 1, by omega, by go_num, val_i E1.out.symm, val_i E2.out.symm, T3.out⟩
              case measure => simp [intOf]; omega
            · have E2 : Hid (bndR (rowC t (k + 1)) (j + 1) = bndR (rowC t (k + 1)) j) := Lib.hid (bndR_n (fun h => c3 h.2))
              have e3 : decide ((j : Int) < bndR (rowC t (k + 1)) j) = false := by rw [decide_eq_false_iff_not]; omega
              clear c1 c2 c3 hor
              go_wp2
              go_roundw
              case rel => exact ⟨j + 1, by omega, by go_num, val_i E1.out.symm, val_i E2.out.symm, T3.out⟩
              case measure => simp [intOf]; omega
          · have e2 : (gi (rowC t (k + 1)) j == 2) = false := by rw [beq_eq_false_iff_ne]; exact c2
            have E2 : Hid (bndR (rowC t (k + 1)) (j + 1) = bndR (rowC t (k + 1)) j) := Lib.hid (bndR_n (fun h => c2 h.1))
            clear c1 c2
            go_wp2
            go_roundw
            case rel => exact ⟨j + 1, by omega, by go_num, val_i E1.out.symm, val_i E2.out.symm, T3.out⟩
            case measure => simp [intOf]; omega
        · have hd2 : decide ((j : Int) ≤ (k : Int) + 1) = false := by rw [decide_eq_false_iff_not]; omega
          obtain rfl : j = k + 2 := by omega
          have y2 : wr.cell? ⟨w1.heap.size, 0, none⟩ = some v1 := (T.out.box.cell 0).trans rfl
          have y3 : wr.cell? ⟨w1.heap.size, 1, none⟩ = some v2 := (T.out.box.cell 1).trans rfl
          go_wp2_with fail
          refine wp_region_any (by kernel_rfl) ?_
          change wpAny _ _ _ _ _ _ _ (World.drew _)
          refine wpAny_takeD (i := 0) (d := 46) (v := ?_) rfl rfl (by kernel_rfl) (by kernel_rfl) (by kernel_rfl) (fun _ _ _ h => h) (Or.inl ⟨by rfl, ?_⟩) ?_
          rotate_left
          · (intro w; go_simp; try with_reducible rfl)
          simp only [Act.put, List.setIfInBounds_toArray, List.set_cons_succ, List.set_cons_zero]
          refine wpAny_takeD (i := 2) (d := 48) (v := ?_) rfl rfl (by kernel_rfl) (by kernel_rfl) (by kernel_rfl) (fun _ _ _ h => h) (Or.inl ⟨by rfl, ?_⟩) ?_
          rotate_left
          · (intro w; go_simp; try with_reducible rfl)
          simp only [Act.put, List.setIfInBounds_toArray, List.set_cons_succ, List.set_cons_zero]
          refine wpAny_takeD (i := 5) (d := 51) (v := ?_) rfl rfl (by kernel_rfl) (by kernel_rfl) (by kernel_rfl) (fun _ _ _ h => h) (Or.inl ⟨by rfl, ?_⟩) ?_
          rotate_left
          · (intro w; go_simp; try with_reducible rfl)
          simp only [Act.put, List.setIfInBounds_toArray, List.set_cons_succ, List.set_cons_zero]
          refine wpAny_takeD (i := 7) (d := 53) (v := ?_) rfl rfl (by kernel_rfl) (by kernel_rfl) (by kernel_rfl) (fun _ _ _ h => h) (Or.inl ⟨by rfl, ?_⟩) ?_
          rotate_left
          · (intro w; go_simp; try with_reducible rfl)
          simp only [Act.put, List.setIfInBounds_toArray, List.set_cons_succ, List.set_cons_zero]
          change wpAny _ _ _ _ _ #[true, false, true, false, false, true, false, true, false, false, false, false, false, false] _ _
          refine two8_core (l0 := #[true, false, true, false, false, true, false, true, false, false, false, false, false, false]) (X := ⟨two_ 1 6, two_ 3 8, two_ 47 52, two_ 49 54, two_ 4 9, two_ 50 55, 10, 56⟩) (T := [11, 12, 13]) (lF := #[true, true, true, true, true, true, true, true, true, true, true, false, false, false]) elInt (by omega) (by omega) rfl rfl
            (two8_of (k := 11) (b := w1.heap.size) (k1 := .i64) (k2 := .i64) (n1 := (bndA (rowC t (k + 1)) (k + 2))) (n2 := (bndR (rowC t (k + 1)) (k + 2))) elInt (by kernel_rfl) (by kernel_rfl) 46 51 5 (.tmp 48) (.tmp 53) _ (by decide) ?q1hx (fun c => by cases c <;> rfl) (fun c => by cases c <;> rfl) (fun c => by cases c <;> rfl) (by rfl) Tryd.underlying26 rfl rfl rfl (by kernel_rfl) (by kernel_rfl) (by kernel_rfl) (by kernel_rfl) (by kernel_rfl) (by kernel_rfl))
            ?q1rest _ _ _ _ (by decide) (two8_start (by kernel_rfl) T.out.drew (by kernel_rfl))
          case q1hx =>
            intro x hx j hj
            simp only [List.mem_cons, List.not_mem_nil, or_false] at hx
            rcases hx with rfl | rfl <;> cases hj <;> decide
          case q1rest =>
            intro f r1 r2 w2 T2 g1 g2 g3
            obtain ⟨x0, e0⟩ : ∃ x, f 47 = x := ⟨_, rfl⟩
            obtain ⟨x1, e1⟩ : ∃ x, f 49 = x := ⟨_, rfl⟩
            obtain ⟨x3, e3⟩ : ∃ x, f 52 = x := ⟨_, rfl⟩
            obtain ⟨x4, e4⟩ : ∃ x, f 54 = x := ⟨_, rfl⟩
            replace g1 : f 50 = r1 := g1
            replace g2 : f 55 = r2 := g2
            replace g3 : f 56 = _ := g3
            simp only [Pair2.D, two_, List.foldl_cons, List.foldl_nil, List.drop_succ_cons, List.drop_zero, g1, g2, g3, e0, e1, e3, e4]
            clear e0 e1 e3 e4 g1 g2 g3 f
            have z0 : w2.cell? ⟨w1.heap.size, 0, none⟩ = some v1 := (T2.box.cell 0).trans rfl
            have z1 : w2.cell? ⟨w1.heap.size, 1, none⟩ = some v2 := (T2.box.cell 1).trans rfl
            have z2 := T2.box.frozen 0
            have z3 := T2.box.frozen 1
            obtain ⟨A1, q1, rfl, _⟩ := own_form T2.o1
            obtain ⟨A2, q2, rfl, _⟩ := own_form T2.o2
            have E1 : curAl t k ++ [bndA (rowC t (k + 1)) (k + 2)] = curAl t (k + 1) := (curAl_succ t k).symm
            have E2 : curRl t k ++ [bndR (rowC t (k + 1)) (k + 2)] = curRl t (k + 1) := (curRl_succ t k).symm
            rw [← iRow_snoc, ← iRow_snoc, E1, E2] at T2
            have T3 := Lib.hid T2.put
            clear T2 E1 E2 y2 y3 hd2 z y0 y1
            go_wp2
            go_roundw
            case rel => exact ⟨k + 1, _, _, by omega, by go_num, T3.out⟩
            case measure => simp [intOf]; omega
    · have hd : decide ((k : Int) + 1 ≤ (t.acc.length : Int)) = false := by rw [decide_eq_false_iff_not]; omega
      obtain ⟨A1, q1, e1, _⟩ := own_form T.out.o1
      obtain ⟨A2, q2, e2, _⟩ := own_form T.out.o2
      subst e1 e2
      have hkk : k = t.acc.length := by omega
      obtain ⟨L1, L2⟩ := curT_len t
      rw [← hkk] at L1 L2
      have E1 : curAl t k = (curT t).acc := by rw [hkk]; rfl
      have E2 : curRl t k = (curT t).rej := by rw [hkk]; rfl
      have T4 := T.out
      rw [E1, E2] at T4
      clear T E1 E2
      obtain ⟨s0, s1, s2, s3, s4⟩ := hR.out wr hbw
      have y2 : wr.cell? ⟨w1.heap.size, 0, none⟩ = some (.slice A1 k q1) := (T4.box.cell 0).trans rfl
      have y3 : wr.cell? ⟨w1.heap.size, 1, none⟩ = some (.slice A2 k q2) := (T4.box.cell 1).trans rfl
      have R := Lib.hid (two_res (r := w.heap.size + 1) (x := .slice A1 k q1) (y := .slice A2 k q2) (t := curT t) T4 L1 L2 (by omega))
      have hb := Lib.hid ((hbww.out.setCell (p := ⟨w.heap.size + 1, 0, none⟩) (by show w.heap.size ≤ w.heap.size + 1; omega) (.slice A1 k q1)).setCell (p := ⟨w.heap.size + 1, 1, none⟩) (by show w.heap.size ≤ w.heap.size + 1; omega) (.slice A2 k q2))
      replace L1 := Lib.hid L1
      replace L2 := Lib.hid L2
      clear T4 hkk
      go_wp2
      refine bodyPost_ret (v := .tuple #[.agg #[.slice A1 k q1, .slice A2 k q2], .int .i64 0]) (by simp [results, Tryd.results23, go_sem, s0, s1]) rfl ?_
      exact Ret.mk ⟨⟨_, _, _, _⟩, by show _ = Value.tuple #[.agg #[.slice _ (curT t).acc.length _, .slice _ (curT t).rej.length _], _]; rw [L1.out, L2.out], R.out, hb.out⟩
end Go.Proofs.YtbpgpjmihbmcbaaDoor
