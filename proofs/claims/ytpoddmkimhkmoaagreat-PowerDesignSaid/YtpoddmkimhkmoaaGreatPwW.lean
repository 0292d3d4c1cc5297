/-
  CONTRACTS of power.Fail, Pass, Expected with an error; of sheaveref46.atMost, Few, probability, Error.
  Conditions: those that each theorem names.
-/
import Derived.Test.YtpoddmkimhkmoaaGreatPb7
import Derived.Test.YtpoddmkimhkmoaaGreatPb6
import Derived.Test.YtpoddmkimhkmoaaGreatPb5
namespace Go.Proofs.YtpoddmkimhkmoaaGreat
open Go.RowKit Go.Sv Go.Pw
set_option maxHeartbeats 2000000 in
set_option maxRecDepth 100000 in
theorem pass_err (t : Tst) (q : TstP) (n d : List Int) (qn qd : LmP) (w : World) (h : RTst w w.heap.size t q) (hbd : TBd t) (hn : RLm w w.heap.size n qn) (hd : RLm w w.heap.size d qd) (ln : Lim n) (ld : Lim d) (he : chE t n d ≠ 0) :
    Calls Tryz.prog 15 #[tstV t q, ratV n qn d qd] w (Ret (RRes2 w [] [] (chE t n d))) := by
  obtain ⟨ta, tc, tb, td⟩ := q
  obtain ⟨qna, qnc⟩ := qn
  obtain ⟨qda, qdc⟩ := qd
  have HC := Lib.hid (fun w' (h' : RTst w' w'.heap.size t ⟨ta, tc, tb, td⟩) (h1 : RLm w' w'.heap.size n ⟨qna, qnc⟩) (h2 : RLm w' w'.heap.size d ⟨qda, qdc⟩) => check_any t ⟨ta, tc, tb, td⟩ n d ⟨qna, qnc⟩ ⟨qda, qdc⟩ w' h' hbd h1 h2 ln ld)
  have S := Lib.hid ((natArg (natArg (Fm.init w) hd) hn).arg (tstRd w.heap.size t ⟨ta, tc, tb, td⟩) h (fun g hg => hg))
  obtain ⟨E, hE⟩ : ∃ E, chE t n d = E := ⟨_, rfl⟩
  rw [hE] at HC he
  rw [hE]
  have hx : (E != 0) = true := by rw [bne_iff_ne]; exact he
  clear h hbd hn hd ln ld hE he
  replace S := Lib.hid (S.out.box 32 [.slice ta t.acc.length tc, .slice tb t.rej.length td])
  replace S := Lib.hid (S.out.box' 26 [.slice qna n.length qnc, .slice qda d.length qdc] (K := w.heap.size + 1) (by simp))
  replace S := Lib.hid (S.out.box' 26 [.slice none 0 0, .slice none 0 0] (K := w.heap.size + 1 + 1) (by simp))
  go_enter Tryz.func15, Tryz.ntmps15
  go_wp2_with fail
  refine (HC.out _ (rtst_more S.out.r0 S.out.size) S.out.r1 S.out.r2).mono ?_
  rintro e w1 ⟨rfl, hb⟩
  replace S := Lib.hid (S.out.call hb)
  clear hb
  obtain ⟨⟨z2, f2, y2, y2a, -⟩, ⟨z1, f1, y1, y1a, -⟩, ⟨z0, f0, y0, y0a, -⟩, -⟩ := S.out.facts
  replace S := Lib.hid ((S.out.set 0 rfl 0 (.slice none 0 0)).set 0 rfl 1 (.slice none 0 0))
  go_wp2
  refine bodyPost_ret (v := .tuple #[.agg #[.slice none 0 0, .slice none 0 0], .int .i64 E]) (by simp [results, Tryz.results15, go_sem, y2, y2a]) rfl ?_
  exact Ret.mk (fm_rres0 S.out)
set_option maxHeartbeats 2000000 in
set_option maxRecDepth 100000 in
theorem expd_err (t : Tst) (q : TstP) (n d : List Int) (qn qd : LmP) (w : World) (h : RTst w w.heap.size t q) (hbd : TBd t) (hn : RLm w w.heap.size n qn) (hd : RLm w w.heap.size d qd) (ln : Lim n) (ld : Lim d) (he : chE t n d ≠ 0) :
    Calls Tryz.prog 17 #[tstV t q, ratV n qn d qd] w (Ret (RRes2 w [] [] (chE t n d))) := by
  obtain ⟨ta, tc, tb, td⟩ := q
  obtain ⟨qna, qnc⟩ := qn
  obtain ⟨qda, qdc⟩ := qd
  have HC := Lib.hid (fun w' (h' : RTst w' w'.heap.size t ⟨ta, tc, tb, td⟩) (h1 : RLm w' w'.heap.size n ⟨qna, qnc⟩) (h2 : RLm w' w'.heap.size d ⟨qda, qdc⟩) => check_any t ⟨ta, tc, tb, td⟩ n d ⟨qna, qnc⟩ ⟨qda, qdc⟩ w' h' hbd h1 h2 ln ld)
  have S := Lib.hid ((natArg (natArg (Fm.init w) hd) hn).arg (tstRd w.heap.size t ⟨ta, tc, tb, td⟩) h (fun g hg => hg))
  obtain ⟨E, hE⟩ : ∃ E, chE t n d = E := ⟨_, rfl⟩
  rw [hE] at HC he
  rw [hE]
  have hx : (E != 0) = true := by rw [bne_iff_ne]; exact he
  clear h hbd hn hd ln ld hE he
  replace S := Lib.hid (S.out.box 32 [.slice ta t.acc.length tc, .slice tb t.rej.length td])
  replace S := Lib.hid (S.out.box' 26 [.slice qna n.length qnc, .slice qda d.length qdc] (K := w.heap.size + 1) (by simp))
  replace S := Lib.hid (S.out.box' 26 [.slice none 0 0, .slice none 0 0] (K := w.heap.size + 1 + 1) (by simp))
  go_enter Tryz.func17, Tryz.ntmps17
  go_wp2_with fail
  refine (HC.out _ (rtst_more S.out.r0 S.out.size) S.out.r1 S.out.r2).mono ?_
  rintro e w1 ⟨rfl, hb⟩
  replace S := Lib.hid (S.out.call hb)
  clear hb
  obtain ⟨⟨z2, f2, y2, y2a, -⟩, ⟨z1, f1, y1, y1a, -⟩, ⟨z0, f0, y0, y0a, -⟩, -⟩ := S.out.facts
  replace S := Lib.hid ((S.out.set 0 rfl 0 (.slice none 0 0)).set 0 rfl 1 (.slice none 0 0))
  go_wp2
  refine bodyPost_ret (v := .tuple #[.agg #[.slice none 0 0, .slice none 0 0], .int .i64 E]) (by simp [results, Tryz.results17, go_sem, y2, y2a]) rfl ?_
  exact Ret.mk (fm_rres0 S.out)
set_option maxHeartbeats 2000000 in
set_option maxRecDepth 100000 in
theorem ratMost_any (w : World) (n d m e : List Int) (q r q' r' : LmP) (h1 : RLm w w.heap.size n q) (h2 : RLm w w.heap.size d r) (h3 : RLm w w.heap.size m q') (h4 : RLm w w.heap.size e r') (l1 : Lim n) (l2 : Lim d) (l3 : Lim m) (l4 : Lim e) :
    Calls Tryz.prog 35 #[ratV n q d r, ratV m q' e r'] w (fun f w' => f = .returned (.bool (decide (rcV n d m e ≤ 0))) ∧ Below w.heap.size w w') := by
  have S := Lib.hid (natArg (natArg (natArg (natArg (Fm.init w) h4) h3) h2) h1)
  have HC := Lib.hid (fun q r q' r' w' h1 h2 h3 h4 => by
    have := xrcmp_any w' n q h1 l1 d r h2 l2 m q' h3 l3 e r' h4 l4
    rw [(cmp_ref n d m e).1, (cmp_ref n d m e).2] at this
    exact this)
  obtain ⟨V, hV⟩ : ∃ V, rcV n d m e = V := ⟨_, rfl⟩
  obtain ⟨E, hE⟩ : ∃ V, crE n d m e = V := ⟨_, rfl⟩
  rw [hV, hE] at HC
  rw [hV]
  clear hV hE h1 h2 h3 h4 l1 l2 l3 l4
  obtain ⟨qa, qc⟩ := q
  obtain ⟨ra, rc⟩ := r
  obtain ⟨qb, qe⟩ := q'
  obtain ⟨rb, re⟩ := r'
  replace S := Lib.hid (S.out.box 26 [.slice qa n.length qc, .slice ra d.length rc])
  replace S := Lib.hid (S.out.box' 26 [.slice qb m.length qe, .slice rb e.length re] (K := w.heap.size + 1) (by simp))
  go_enter Tryz.func35, Tryz.ntmps35
  go_wp2_with fail
  refine (HC.out _ _ _ _ _ S.out.r0 S.out.r1 S.out.r2 S.out.r3).mono ?_
  rintro f w1 ⟨rfl, hb⟩
  replace S := Lib.hid (S.out.call hb)
  clear hb
  go_wp2
  go_ret
  exact ⟨rfl, S.out.bel⟩
theorem few_any (w : World) (n d : List Int) (q r : LmP) (hn : n.length ≤ 9223372036854775807) (hd : d.length ≤ 9223372036854775807) :
    Calls Tryz.prog 21 #[ratV n q d r] w (fun f w' => f = .returned (.bool (decide (n.length ≤ 2 ∧ d.length ≤ 2))) ∧ Below w.heap.size w w') := by
  have hbx : Hid (∀ o : Obj, Below w.heap.size w (w.alloc o)) := Lib.hid fun o => (Below.refl _ _).alloc (Nat.le_refl _) o
  obtain ⟨qa, qc⟩ := q
  obtain ⟨ra, rc⟩ := r
  by_cases c1 : n.length ≤ 2
  · have d1 : decide ((n.length : Int) ≤ 2) = true := decide_eq_true (by omega)
    by_cases c2 : d.length ≤ 2
    · have d2 : decide ((d.length : Int) ≤ 2) = true := decide_eq_true (by omega)
      rw [decide_eq_true (⟨c1, c2⟩ : n.length ≤ 2 ∧ d.length ≤ 2)]
      clear c1 c2
      go_enter Tryz.func21, Tryz.ntmps21
      go_wp2
      go_ret
      exact ⟨rfl, hbx.out _⟩
    · have d2 : decide ((d.length : Int) ≤ 2) = false := by rw [decide_eq_false_iff_not]; omega
      rw [decide_eq_false (fun h => c2 h.2 : ¬ (n.length ≤ 2 ∧ d.length ≤ 2))]
      clear c1 c2
      go_enter Tryz.func21, Tryz.ntmps21
      go_wp2
      go_ret
      exact ⟨rfl, hbx.out _⟩
  · have d1 : decide ((n.length : Int) ≤ 2) = false := by rw [decide_eq_false_iff_not]; omega
    rw [decide_eq_false (fun h => c1 h.1 : ¬ (n.length ≤ 2 ∧ d.length ≤ 2))]
    clear c1
    go_enter Tryz.func21, Tryz.ntmps21
    go_wp2
    go_ret
    exact ⟨rfl, hbx.out _⟩
set_option maxHeartbeats 2000000 in
set_option maxRecDepth 100000 in
theorem prob_any (w : World) (n d : List Int) (q r : LmP) (h1 : RLm w w.heap.size n q) (h2 : RLm w w.heap.size d r) (l1 : Lim n) (l2 : Lim d) :
    Calls Tryz.prog 33 #[ratV n q d r] w (fun f w' => f = .returned (.bool (decide (rcV n d (lim 1) (lim 1) ≤ 0 ∧ cmpL d (lim 1000) ≤ 0))) ∧ Below w.heap.size w w') := by
  have S := Lib.hid (natArg (natArg (Fm.init w) h2) h1)
  have HO := Lib.hid (fun w' => one_any w')
  have HM := Lib.hid (fun q r q' r' w' h1 h2 h3 h4 => ratMost_any w' n d (lim 1) (lim 1) q r q' r' h1 h2 h3 h4 l1 l2 (lim_lim _) (lim_lim _))
  have HK := Lib.hid (fun w' => by
    have := rof_any 1000 w' (by omega) (by omega)
    rw [show (1000 : Int).toNat = 1000 from rfl] at this
    exact this)
  have HC := Lib.hid (fun q r w' h1 h2 => rcmp_any d (lim 1000) q r w' h1 h2 l2 (lim_lim _))
  obtain ⟨V, hV⟩ : ∃ V, rcV n d (lim 1) (lim 1) = V := ⟨_, rfl⟩
  obtain ⟨C, hC⟩ : ∃ V, cmpL d (lim 1000) = V := ⟨_, rfl⟩
  obtain ⟨Ov, hO⟩ : ∃ v, lim 1 = v := ⟨_, rfl⟩
  obtain ⟨Kv, hK⟩ : ∃ v, lim 1000 = v := ⟨_, rfl⟩
  rw [hV] at HM
  rw [hC] at HC
  rw [hV, hC]
  rw [hO] at HO HM
  rw [hK] at HK HC
  clear hV hC hO hK h1 h2 l1 l2
  obtain ⟨qa, qc⟩ := q
  obtain ⟨ra, rc⟩ := r
  replace S := Lib.hid (S.out.box 26 [.slice qa n.length qc, .slice ra d.length rc])
  by_cases c1 : V ≤ 0
  · rw [decide_eq_true c1] at HM
    have hR : decide (V ≤ 0 ∧ C ≤ 0) = decide (C ≤ 0) := decide_eq_decide.2 ⟨fun h => h.2, fun h => ⟨c1, h⟩⟩
    rw [hR]
    clear c1 hR
    go_enter Tryz.func33, Tryz.ntmps33
    go_wp2_with fail
    replace S := Lib.hid S.out.drew
    obtain ⟨⟨z0, f0, y0, y0a, -⟩, -⟩ := S.out.facts
    go_region_held3 (fun w' => w'.cell? ⟨w.heap.size, 0, none⟩ = some (.slice qa n.length qc) ∧ w'.cell? ⟨w.heap.size, 1, none⟩ = some (.slice ra d.length rc)) (go_keep)
      (first
        | ((with_reducible refine (HO.out _).mono ?_); rintro e wx ⟨_, rfl, qx, qy, rfl, hr, hr2, hf, hf2, hb⟩; replace S := Lib.hid (natRes2 S.out hr hr2 hf hf2 hb); clear hr hr2 hf hf2 hb z0 f0 y0 y0a; obtain ⟨⟨z0, f0, y0, y0a, -⟩, -⟩ := S.out.facts)
        | ((with_reducible refine (HM.out ⟨qa, qc⟩ ⟨ra, rc⟩ _ _ _ (natOld S.out (by simp)) (natOld S.out (by simp)) (natOld S.out (by simp)) (natOld S.out (by simp))).mono ?_); rintro e wx ⟨rfl, hb⟩; replace S := Lib.hid (S.out.call hb); clear hb z0 f0 y0 y0a; obtain ⟨⟨z0, f0, y0, y0a, -⟩, -⟩ := S.out.facts)
        | ((with_reducible refine (HK.out _).mono ?_); rintro e wx ⟨_, rfl, qx, rfl, hr, hf, hb⟩; replace S := Lib.hid (natRes S.out hr hf hb); clear hr hf hb z0 f0 y0 y0a; obtain ⟨⟨z0, f0, y0, y0a, -⟩, -⟩ := S.out.facts)
        | ((with_reducible refine (HC.out ⟨ra, rc⟩ _ _ (natOld S.out (by simp)) (natOld S.out (by simp))).mono ?_); rintro e wx ⟨rfl, hb⟩; replace S := Lib.hid (S.out.call hb); clear hb z0 f0 y0 y0a; obtain ⟨⟨z0, f0, y0, y0a, -⟩, -⟩ := S.out.facts))
    all_goals
      go_wp2
      go_ret
      exact ⟨rfl, S.out.bel⟩
  · rw [decide_eq_false c1] at HM
    rw [decide_eq_false (fun h => c1 h.1 : ¬ (V ≤ 0 ∧ C ≤ 0))]
    clear c1
    go_enter Tryz.func33, Tryz.ntmps33
    go_wp2_with fail
    replace S := Lib.hid S.out.drew
    obtain ⟨⟨z0, f0, y0, y0a, -⟩, -⟩ := S.out.facts
    first
      | (go_region_law (first
          | (go_simp; go_at_call 56; refine (HO.out _).mono ?_; rintro e wx ⟨_, rfl, qx, qy, rfl, hr, hr2, hf, hf2, hb⟩; replace S := Lib.hid (natRes2 S.out hr hr2 hf hf2 hb); clear hr hr2 hf hf2 hb z0 f0 y0 y0a; obtain ⟨⟨z0, f0, y0, y0a, -⟩, -⟩ := S.out.facts)
          | (go_simp; go_at_call 35; refine (HM.out ⟨qa, qc⟩ ⟨ra, rc⟩ _ _ _ (natOld S.out (by simp)) (natOld S.out (by simp)) (natOld S.out (by simp)) (natOld S.out (by simp))).mono ?_; rintro e wx ⟨rfl, hb⟩; replace S := Lib.hid (S.out.call hb); clear hb z0 f0 y0 y0a; obtain ⟨⟨z0, f0, y0, y0a, -⟩, -⟩ := S.out.facts)))
      | fail
    all_goals
      go_wp2
      go_ret
      exact ⟨rfl, S.out.bel⟩
end Go.Proofs.YtpoddmkimhkmoaaGreat
