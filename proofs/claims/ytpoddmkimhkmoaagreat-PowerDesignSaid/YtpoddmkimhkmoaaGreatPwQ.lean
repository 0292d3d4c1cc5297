/-
  CONTRACTS of sheaveref46.Fail, Pass, Expected.
  Conditions: those that each theorem names.
-/
import Derived.Test.YtpoddmkimhkmoaaGreatPwP
namespace Go.Proofs.YtpoddmkimhkmoaaGreat
open Go.RowKit Go.Sv Go.Pw
theorem kk_F : kk false 2 = kF := by funext v n; simp [kk, kF]
theorem kk_P : kk false 1 = kP := by funext v n; simp [kk, kP]
theorem kk_E : kk true 0 = kE := by funext v n; simp [kk, kE]
set_option maxHeartbeats 2000000 in
set_option maxRecDepth 100000 in
theorem rfail_any (t : Tst) (q : TstP) (a d : Nat) (qn qd : LmP) (w : World) (h : RTst w w.heap.size t q) (hbd : TBd t) (hv : validE t = 0) (hp : PrB a d) (hn : RLm w w.heap.size (lim a) qn) (hd : RLm w w.heap.size (lim d) qd) (h8 : t.acc.length ≤ 8) :
    Calls Tryz.prog 36 #[tstV t q, ratV (lim a) qn (lim d) qd] w (Ret (RRes w (rdN (allS (VT t) a (d - a) t.acc.length kF) (d ^ t.acc.length)) (rdD (allS (VT t) a (d - a) t.acc.length kF) (d ^ t.acc.length)))) := by
  obtain ⟨ta, tc, tb, td⟩ := q
  obtain ⟨qna, qnc⟩ := qn
  obtain ⟨qda, qdc⟩ := qd
  have HS := Lib.hid (fun w' (h' : RTst w' w'.heap.size t ⟨ta, tc, tb, td⟩) (h1 : RLm w' w'.heap.size (lim a) ⟨qna, qnc⟩) (h2 : RLm w' w'.heap.size (lim d) ⟨qda, qdc⟩) => by
    have := sum_any t ⟨ta, tc, tb, td⟩ a d ⟨qna, qnc⟩ ⟨qda, qdc⟩ 2 false w' h' hbd hv hp h1 h2 h8
    rw [kk_F] at this
    exact this)
  have S := Lib.hid ((natArg (natArg (Fm.init w) hd) hn).arg (tstRd w.heap.size t ⟨ta, tc, tb, td⟩) h (fun g hg => hg))
  clear h hbd hv hn hd hp
  obtain ⟨Av, hA⟩ : ∃ v, lim a = v := ⟨_, rfl⟩
  obtain ⟨Dv, hD⟩ : ∃ v, lim d = v := ⟨_, rfl⟩
  obtain ⟨N, hN⟩ : ∃ v, rdN (allS (VT t) a (d - a) t.acc.length kF) (d ^ t.acc.length) = v := ⟨_, rfl⟩
  obtain ⟨M, hM⟩ : ∃ v, rdD (allS (VT t) a (d - a) t.acc.length kF) (d ^ t.acc.length) = v := ⟨_, rfl⟩
  rw [hA, hD, hN, hM] at HS
  rw [hA, hD] at S
  rw [hA, hD, hN, hM]
  clear hA hD hN hM
  replace S := Lib.hid (S.out.box 32 [.slice ta t.acc.length tc, .slice tb t.rej.length td])
  replace S := Lib.hid (S.out.box' 26 [.slice qna Av.length qnc, .slice qda Dv.length qdc] (K := w.heap.size + 1) (by simp))
  replace S := Lib.hid (S.out.box' 26 [.slice none 0 0, .slice none 0 0] (K := w.heap.size + 1 + 1) (by simp))
  go_enter Tryz.func36, Tryz.ntmps36
  go_wp2_with fail
  refine (HS.out _ (rtst_more S.out.r0 S.out.size) S.out.r1 S.out.r2).mono ?_
  rintro e w2 ⟨_, rfl, q5, q6, rfl, hr, hr2, hf, hf2, hb⟩
  have fr1 := Lib.hid (hf.le S.out.size)
  have fr2 := Lib.hid (hf2.le S.out.size)
  replace S := Lib.hid (natRes2 S.out hr hr2 hf hf2 hb)
  clear hr hr2 hf hf2 hb
  obtain ⟨⟨z2, f2, y2, y2a, -⟩, -⟩ := S.out.facts
  replace S := Lib.hid ((S.out.set 0 rfl 0 (.slice q5.a N.length q5.c)).set 0 rfl 1 (.slice q6.a M.length q6.c))
  go_wp2
  refine bodyPost_ret (v := ratV N q5 M q6) (by simp [results, Tryz.results36, go_sem, y2, y2a]) rfl ?_
  exact Ret.mk (fm_rres S.out (by simp) (by simp) fr1.out fr2.out)
set_option maxHeartbeats 2000000 in
set_option maxRecDepth 100000 in
theorem rpass_any (t : Tst) (q : TstP) (a d : Nat) (qn qd : LmP) (w : World) (h : RTst w w.heap.size t q) (hbd : TBd t) (hv : validE t = 0) (hp : PrB a d) (hn : RLm w w.heap.size (lim a) qn) (hd : RLm w w.heap.size (lim d) qd) (h8 : t.acc.length ≤ 8) :
    Calls Tryz.prog 37 #[tstV t q, ratV (lim a) qn (lim d) qd] w (Ret (RRes w (rdN (allS (VT t) a (d - a) t.acc.length kP) (d ^ t.acc.length)) (rdD (allS (VT t) a (d - a) t.acc.length kP) (d ^ t.acc.length)))) := by
  obtain ⟨ta, tc, tb, td⟩ := q
  obtain ⟨qna, qnc⟩ := qn
  obtain ⟨qda, qdc⟩ := qd
  have HS := Lib.hid (fun w' (h' : RTst w' w'.heap.size t ⟨ta, tc, tb, td⟩) (h1 : RLm w' w'.heap.size (lim a) ⟨qna, qnc⟩) (h2 : RLm w' w'.heap.size (lim d) ⟨qda, qdc⟩) => by
    have := sum_any t ⟨ta, tc, tb, td⟩ a d ⟨qna, qnc⟩ ⟨qda, qdc⟩ 1 false w' h' hbd hv hp h1 h2 h8
    rw [kk_P] at this
    exact this)
  have S := Lib.hid ((natArg (natArg (Fm.init w) hd) hn).arg (tstRd w.heap.size t ⟨ta, tc, tb, td⟩) h (fun g hg => hg))
  clear h hbd hv hn hd hp
  obtain ⟨Av, hA⟩ : ∃ v, lim a = v := ⟨_, rfl⟩
  obtain ⟨Dv, hD⟩ : ∃ v, lim d = v := ⟨_, rfl⟩
  obtain ⟨N, hN⟩ : ∃ v, rdN (allS (VT t) a (d - a) t.acc.length kP) (d ^ t.acc.length) = v := ⟨_, rfl⟩
  obtain ⟨M, hM⟩ : ∃ v, rdD (allS (VT t) a (d - a) t.acc.length kP) (d ^ t.acc.length) = v := ⟨_, rfl⟩
  rw [hA, hD, hN, hM] at HS
  rw [hA, hD] at S
  rw [hA, hD, hN, hM]
  clear hA hD hN hM
  replace S := Lib.hid (S.out.box 32 [.slice ta t.acc.length tc, .slice tb t.rej.length td])
  replace S := Lib.hid (S.out.box' 26 [.slice qna Av.length qnc, .slice qda Dv.length qdc] (K := w.heap.size + 1) (by simp))
  replace S := Lib.hid (S.out.box' 26 [.slice none 0 0, .slice none 0 0] (K := w.heap.size + 1 + 1) (by simp))
  go_enter Tryz.func37, Tryz.ntmps37
  go_wp2_with fail
  refine (HS.out _ (rtst_more S.out.r0 S.out.size) S.out.r1 S.out.r2).mono ?_
  rintro e w2 ⟨_, rfl, q5, q6, rfl, hr, hr2, hf, hf2, hb⟩
  have fr1 := Lib.hid (hf.le S.out.size)
  have fr2 := Lib.hid (hf2.le S.out.size)
  replace S := Lib.hid (natRes2 S.out hr hr2 hf hf2 hb)
  clear hr hr2 hf hf2 hb
  obtain ⟨⟨z2, f2, y2, y2a, -⟩, -⟩ := S.out.facts
  replace S := Lib.hid ((S.out.set 0 rfl 0 (.slice q5.a N.length q5.c)).set 0 rfl 1 (.slice q6.a M.length q6.c))
  go_wp2
  refine bodyPost_ret (v := ratV N q5 M q6) (by simp [results, Tryz.results37, go_sem, y2, y2a]) rfl ?_
  exact Ret.mk (fm_rres S.out (by simp) (by simp) fr1.out fr2.out)
set_option maxHeartbeats 2000000 in
set_option maxRecDepth 100000 in
theorem ofP_any (a b : Nat) (w : World) (ha : a < 18446744073709551616) (hb : b < 18446744073709551616) (hz : b ≠ 0) :
    Calls Tryz.prog 16 #[.int .u64 (a : Int), .int .u64 (b : Int)] w (Ret (RRes w (rdN a b) (rdD a b))) := by
  have S := Lib.hid (Fm.init w)
  have HO := Lib.hid (fun w' => by
    have := xrof_any (a : Int) (b : Int) w' (by omega) (by omega) (by omega) (by omega)
    rw [Int.toNat_natCast, Int.toNat_natCast, (mak_lim (sm_s ha) (sm_s hb) hz).1, (mak_lim (sm_s ha) (sm_s hb) hz).2.1, (mak_lim (sm_s ha) (sm_s hb) hz).2.2] at this
    exact this)
  obtain ⟨N, hN⟩ : ∃ V, rdN a b = V := ⟨_, rfl⟩
  obtain ⟨D, hD⟩ : ∃ V, rdD a b = V := ⟨_, rfl⟩
  rw [hN, hD] at HO
  rw [hN, hD]
  clear hN hD hz ha hb
  replace S := Lib.hid (S.out.box 26 [.slice none 0 0, .slice none 0 0])
  go_enter Tryz.func16, Tryz.ntmps16
  go_wp2_with fail
  refine (HO.out _).mono ?_
  rintro e w1 ⟨_, rfl, q1, q2, rfl, hr, hr2, hf, hf2, hb⟩
  have fr1 := Lib.hid (hf.le S.out.size)
  have fr2 := Lib.hid (hf2.le S.out.size)
  replace S := Lib.hid (natRes2 S.out hr hr2 hf hf2 hb)
  clear hr hr2 hf hf2 hb
  obtain ⟨⟨z0, f0, y0, y0a, -⟩, -⟩ := S.out.facts
  replace S := Lib.hid (S.out.set 0 rfl 0 (.slice q1.a N.length q1.c))
  replace S := Lib.hid (S.out.set 0 rfl 1 (.slice q2.a D.length q2.c))
  replace S := Lib.hid (S.out.box' 26 [.slice q1.a N.length q1.c, .slice q2.a D.length q2.c] (K := w1.heap.size) (by simp))
  go_wp2
  refine bodyPost_ret (v := ratV N q1 D q2) (by simp [results, Tryz.results16, go_sem, y0, y0a, z0]) rfl ?_
  exact Ret.mk (fm_rres S.out (by simp) (by simp) fr1.out fr2.out)
end Go.Proofs.YtpoddmkimhkmoaaGreat
