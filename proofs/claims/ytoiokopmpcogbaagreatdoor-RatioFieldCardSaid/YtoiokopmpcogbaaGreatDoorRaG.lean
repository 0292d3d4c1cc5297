/-
  CONTRACTS of Add, Sub, Mul.
  Conditions: those that each theorem names.
-/
import Derived.Test.YtoiokopmpcogbaaGreatDoorRaF
namespace Go.Proofs.YtoiokopmpcogbaaGreatDoor
open Go.RowKit Go.Sv
theorem cut_good {N : Nat} (h : cutE N = 0) : Lim (cutV N) ∧ vN (cutV N) = true ∧ vl (cutV N) = N := by
  unfold cutE at h
  unfold cutV
  split at h
  · exact absurd h (by decide)
  · rename_i c
    rw [if_neg c]
    exact ⟨lim_lim _, vN_lim (by omega), vl_lim _⟩
theorem mul_good {a b : List Int} (h : mulE a b = 0) : Lim (mulV a b) ∧ vN (mulV a b) = true ∧ vl (mulV a b) = vl a * vl b := by
  unfold mulE at h
  unfold mulV
  split at h
  · rename_i c
    rw [if_pos c]
    exact cut_good h
  · exact absurd h (by decide)
theorem sum_good {a b : List Int} (h : sumE a b = 0) : Lim (sumV a b) ∧ vN (sumV a b) = true ∧ vl (sumV a b) = vl a + vl b := by
  unfold sumE at h
  unfold sumV
  split at h
  · rename_i c
    rw [if_pos c]
    exact cut_good h
  · exact absurd h (by decide)
theorem dif_good {a b : List Int} (la : Lim a) (h : difE a b = 0) : Lim (difV a b) ∧ vN (difV a b) = true ∧ vl (difV a b) = vl a - vl b ∧ vl b ≤ vl a := by
  unfold difE at h
  unfold difV
  split at h
  · rename_i c
    split at h
    · rename_i k
      rw [if_pos ⟨c, k⟩]
      rw [Bool.and_eq_true] at c
      refine ⟨lim_lim _, vN_lim ?_, vl_lim _, k⟩
      have e := lim_vl la (vN_can c.1).2
      rcases Nat.lt_or_ge 128 (lim (vl a - vl b)).length with j | j
      · have := len_mono (show vl a - vl b ≤ vl a by omega) j
        rw [← e] at this
        have := (vN_can c.1).1
        omega
      · exact j
    · exact absurd h (by decide)
  · exact absurd h (by decide)
theorem vR_pos {n d : List Int} (h : vR n d = true) : vN n = true ∧ vN d = true ∧ vl d ≠ 0 ∧ Nat.gcd (vl n) (vl d) = 1 := by
  unfold vR at h
  rw [Bool.and_eq_true, Bool.and_eq_true, Bool.and_eq_true, decide_eq_true_iff, decide_eq_true_iff] at h
  exact ⟨h.1.1.1, h.1.1.2, h.1.2, h.2⟩
theorem cr_good {an ad bn bd : List Int} (h : crE an ad bn bd = 0) : vR an ad = true ∧ vR bn bd = true := by
  unfold crE at h
  split at h
  · rename_i c
    rwa [Bool.and_eq_true] at c
  · exact absurd h (by decide)
def vE (an ad bn bd : List Int) : Int := if (vR an ad && vR bn bd) = true then 0 else 1
theorem vE_good {an ad bn bd : List Int} (h : vE an ad bn bd = 0) : vR an ad = true ∧ vR bn bd = true := by
  unfold vE at h
  split at h
  · rename_i c
    rwa [Bool.and_eq_true] at c
  · exact absurd h (by decide)
theorem vE_no {an ad bn bd : List Int} (h : (vR an ad && vR bn bd) = false) : vE an ad bn bd = 1 := by unfold vE; rw [h]; rfl
theorem vE_ok {an ad bn bd : List Int} (h : (vR an ad && vR bn bd) = true) : vE an ad bn bd = 0 := by unfold vE; rw [h]; rfl
/-- the first error of three -/
def e3 (p q r : Int) : Int := if p = 0 then (if q = 0 then r else q) else p
def gN (E : Int) (x y : List Int) : List Int := if E = 0 then rdN (vl x) (vl y) else []
def gD (E : Int) (x y : List Int) : List Int := if E = 0 then rdD (vl x) (vl y) else []
theorem e3_no {E K : Int} {x y : List Int} (e : E = K) (h : K ≠ 0) : gN E x y = [] ∧ gD E x y = [] ∧ E = K := ⟨if_neg (e ▸ h), if_neg (e ▸ h), e⟩
theorem e3_a (p q r : Int) (x y : List Int) (h : ¬ p = 0) : gN (e3 p q r) x y = [] ∧ gD (e3 p q r) x y = [] ∧ e3 p q r = p := e3_no (if_neg h) h
theorem e3_b (q r : Int) (x y : List Int) (h : ¬ q = 0) : gN (e3 0 q r) x y = [] ∧ gD (e3 0 q r) x y = [] ∧ e3 0 q r = q := e3_no ((if_pos rfl).trans (if_neg h)) h
theorem e3_c (r : Int) (x y : List Int) (h : ¬ r = 0) : gN (e3 0 0 r) x y = [] ∧ gD (e3 0 0 r) x y = [] ∧ e3 0 0 r = r := e3_no rfl h
theorem e3_d (x y : List Int) : gN (e3 0 0 0) x y = rdN (vl x) (vl y) ∧ gD (e3 0 0 0) x y = rdD (vl x) (vl y) ∧ e3 0 0 0 = 0 := ⟨rfl, rfl, rfl⟩
set_option maxHeartbeats 2000000 in
set_option maxRecDepth 100000 in
theorem xadd_any (w : World) (an : List Int) (qan : LmP) (han : RLm w w.heap.size an qan) (lan : Lim an) (ad : List Int) (qad : LmP) (had : RLm w w.heap.size ad qad) (lad : Lim ad) (bn : List Int) (qbn : LmP) (hbn : RLm w w.heap.size bn qbn) (lbn : Lim bn) (bd : List Int) (qbd : LmP) (hbd : RLm w w.heap.size bd qbd) (lbd : Lim bd) :
    Calls Tryz.prog 22 #[ratV an qan ad qad, ratV bn qbn bd qbd] w (Ret (RRes2 w (gN (e3 (crE an ad bn bd) (sumE (crX an ad bn bd) (crY an ad bn bd)) (mulE ad bd)) (sumV (crX an ad bn bd) (crY an ad bn bd)) (mulV ad bd)) (gD (e3 (crE an ad bn bd) (sumE (crX an ad bn bd) (crY an ad bn bd)) (mulE ad bd)) (sumV (crX an ad bn bd) (crY an ad bn bd)) (mulV ad bd)) (e3 (crE an ad bn bd) (sumE (crX an ad bn bd) (crY an ad bn bd)) (mulE ad bd)))) := by
  have S := Lib.hid (natArg (natArg (natArg (natArg (Fm.init w) hbd) hbn) had) han)
  have HX := Lib.hid (fun q0 q1 q2 q3 w' (h0 : RLm w' w'.heap.size an q0) (h1 : RLm w' w'.heap.size ad q1) (h2 : RLm w' w'.heap.size bn q2) (h3 : RLm w' w'.heap.size bd q3) => cross_any w' an q0 h0 lan ad q1 h1 lad bn q2 h2 lbn bd q3 h3 lbd)
  obtain ⟨⟨lX, cX⟩, lY, cY⟩ := cr_lim an ad bn bd
  have HS := Lib.hid (fun q r w' (h1 : RLm w' w'.heap.size (crX an ad bn bd) q) (h2 : RLm w' w'.heap.size (crY an ad bn bd) r) => add_any _ _ q r w' h1 h2 lX lY)
  have HM := Lib.hid (fun q r w' (h1 : RLm w' w'.heap.size ad q) (h2 : RLm w' w'.heap.size bd r) => mul_any ad bd q r w' h1 h2 lad lbd)
  have HR := Lib.hid (fun (c1 : (crE an ad bn bd) = 0) (c2 : (sumE (crX an ad bn bd) (crY an ad bn bd)) = 0) (c3 : (mulE ad bd) = 0) q r w' (h1 : RLm w' w'.heap.size (sumV (crX an ad bn bd) (crY an ad bn bd)) q) (h2 : RLm w' w'.heap.size (mulV ad bd) r) => by
    obtain ⟨ga, gb⟩ := cr_good c1
    obtain ⟨ls, vs, -⟩ := sum_good c2
    obtain ⟨lm, vm, em⟩ := mul_good c3
    have := reduced_any w' _ q h1 ls _ r h2 lm vs vm (by rw [em]; exact Nat.mul_ne_zero (vR_pos ga).2.2.1 (vR_pos gb).2.2.1)
    exact this)
  obtain ⟨S1, hS1⟩ : ∃ V, (sumV (crX an ad bn bd) (crY an ad bn bd)) = V := ⟨_, rfl⟩
  obtain ⟨D1, hD1⟩ : ∃ V, (mulV ad bd) = V := ⟨_, rfl⟩
  obtain ⟨E1, hE1⟩ : ∃ V, (crE an ad bn bd) = V := ⟨_, rfl⟩
  obtain ⟨E2, hE2⟩ : ∃ V, (sumE (crX an ad bn bd) (crY an ad bn bd)) = V := ⟨_, rfl⟩
  obtain ⟨E3, hE3⟩ : ∃ V, (mulE ad bd) = V := ⟨_, rfl⟩
  rw [hE1, hE2, hE3, hS1, hD1] at HR
  rw [hS1, hE2] at HS
  rw [hD1, hE3] at HM
  rw [hE1, hE2, hE3, hS1, hD1]
  rw [hE1] at HX
  clear lX cX lY cY hE1 hE2 hE3 hS1 hD1
  obtain ⟨X, hX⟩ : ∃ V, crX an ad bn bd = V := ⟨_, rfl⟩
  obtain ⟨Y, hY⟩ : ∃ V, crY an ad bn bd = V := ⟨_, rfl⟩
  rw [hX, hY] at HX HS
  clear hX hY
  obtain ⟨qana, qanc⟩ := qan
  obtain ⟨qada, qadc⟩ := qad
  obtain ⟨qbna, qbnc⟩ := qbn
  obtain ⟨qbda, qbdc⟩ := qbd
  replace S := Lib.hid (S.out.box 28 [.slice qana an.length qanc, .slice qada ad.length qadc])
  replace S := Lib.hid (S.out.box' 28 [.slice qbna bn.length qbnc, .slice qbda bd.length qbdc] (K := w.heap.size + 1) (by simp))
  replace S := Lib.hid (S.out.box' 28 [.slice none 0 0, .slice none 0 0] (K := w.heap.size + 1 + 1) (by simp))
  clear han had hbn hbd
  go_enter Tryz.func22, Tryz.ntmps22
  go_wp2_with fail
  refine (HX.out _ _ _ _ _ S.out.r0 S.out.r1 S.out.r2 S.out.r3).mono ?_
  rintro e w1 ⟨_, rfl, q1, q2, rfl, hr, hr2, hf, hf2, hb⟩
  replace S := Lib.hid (natRes2 S.out hr hr2 hf hf2 hb)
  clear hr hr2 hf hf2 hb
  obtain ⟨⟨z2, f2, y2, y2a, -⟩, ⟨z1, f1, y1, y1a, -⟩, ⟨z0, f0, y0, y0a, -⟩, -⟩ := S.out.facts
  by_cases c : E1 = 0
  · subst c
    replace S := Lib.hid (S.out.box 24 [.slice q1.a (X).length q1.c])
    replace S := Lib.hid (S.out.box' 24 [.slice q2.a (Y).length q2.c] (K := w1.heap.size + 1) (by simp))
    go_wp2_with fail
    refine (HS.out _ _ _ S.out.r1 S.out.r0).mono ?_
    rintro e w2 ⟨_, rfl, q5, rfl, hr, hf, hb⟩
    replace S := Lib.hid (natRes S.out hr hf hb)
    clear hr hf hb z0 f0 y0 y0a z1 f1 y1 y1a z2 f2 y2 y2a
    obtain ⟨⟨z4, f4, y4, -⟩, ⟨z3, f3, y3, -⟩, ⟨z2, f2, y2, y2a, -⟩, ⟨z1, f1, y1, y1a, -⟩, ⟨z0, f0, y0, y0a, -⟩, -⟩ := S.out.facts
    by_cases c : E2 = 0
    · subst c
      replace S := Lib.hid (S.out.box 24 [.slice q5.a (S1).length q5.c])
      go_wp2_with fail
      refine (HM.out _ _ _ S.out.r4 S.out.r6).mono ?_
      rintro e w3 ⟨_, rfl, q6, rfl, hr, hf, hb⟩
      replace S := Lib.hid (natRes S.out hr hf hb)
      clear hr hf hb z0 f0 y0 y0a z1 f1 y1 y1a z2 f2 y2 y2a z3 f3 y3 z4 f4 y4
      obtain ⟨⟨z5, f5, y5, -⟩, ⟨z4, f4, y4, -⟩, ⟨z3, f3, y3, -⟩, ⟨z2, f2, y2, y2a, -⟩, ⟨z1, f1, y1, y1a, -⟩, ⟨z0, f0, y0, y0a, -⟩, -⟩ := S.out.facts
      by_cases c : E3 = 0
      · subst c
        replace S := Lib.hid (S.out.box 24 [.slice q6.a (D1).length q6.c])
        go_wp2_with fail
        refine (HR.out (by simp) (by simp) (by simp) _ _ _ S.out.r1 S.out.r0).mono ?_
        rintro e w4 ⟨_, rfl, q7, q8, rfl, hr, hr2, hf, hf2, hb⟩
        have fr7 := Lib.hid (hf.le S.out.size)
        have fr8 := Lib.hid (hf2.le S.out.size)
        replace S := Lib.hid (natRes2 S.out hr hr2 hf hf2 hb)
        clear hr hr2 hf hf2 hb z0 f0 y0 y0a z1 f1 y1 y1a z2 f2 y2 y2a z3 f3 y3 z4 f4 y4 z5 f5 y5
        obtain ⟨⟨z6, f6, y6, -⟩, ⟨z5, f5, y5, -⟩, ⟨z4, f4, y4, -⟩, ⟨z3, f3, y3, -⟩, ⟨z2, f2, y2, y2a, -⟩, ⟨z1, f1, y1, y1a, -⟩, ⟨z0, f0, y0, y0a, -⟩, -⟩ := S.out.facts
        replace S := Lib.hid (S.out.set 4 rfl 0 (.slice q7.a (rdN (vl S1) (vl D1)).length q7.c))
        replace S := Lib.hid (S.out.set 4 rfl 1 (.slice q8.a (rdD (vl S1) (vl D1)).length q8.c))
        go_wp2
        refine bodyPost_ret (v := .tuple #[ratV (rdN (vl S1) (vl D1)) q7 (rdD (vl S1) (vl D1)) q8, .int .i64 0]) (by simp [results, Tryz.results22, go_sem, y2, y2a]) rfl ?_
        rw [(e3_d S1 D1).1, (e3_d S1 D1).2.1, (e3_d S1 D1).2.2]
        exact Ret.mk (fm_rres2 S.out (by simp) (by simp) fr7.out fr8.out)
      · have dE : (E3 != 0) = true := bne_iff_ne.2 c
        have u := Lib.hid (e3_c E3 S1 D1 c)
        replace S := Lib.hid (S.out.set 3 rfl 0 (.slice none 0 0))
        replace S := Lib.hid (S.out.set 3 rfl 1 (.slice none 0 0))
        replace S := Lib.hid (S.out.box' 24 [.slice q6.a (D1).length q6.c] (K := w3.heap.size) (by simp))
        go_wp2
        refine bodyPost_ret (v := .tuple #[.agg #[.slice none 0 0, .slice none 0 0], .int .i64 E3]) (by simp [results, Tryz.results22, go_sem, y2, y2a, z2]) rfl ?_
        rw [u.out.1, u.out.2.1, u.out.2.2]
        exact Ret.mk (fm_rres0 S.out)
    · have dE : (E2 != 0) = true := bne_iff_ne.2 c
      have u := Lib.hid (e3_b E2 E3 S1 D1 c)
      replace S := Lib.hid (S.out.set 2 rfl 0 (.slice none 0 0))
      replace S := Lib.hid (S.out.set 2 rfl 1 (.slice none 0 0))
      replace S := Lib.hid (S.out.box' 24 [.slice q5.a (S1).length q5.c] (K := w2.heap.size) (by simp))
      go_wp2
      refine bodyPost_ret (v := .tuple #[.agg #[.slice none 0 0, .slice none 0 0], .int .i64 E2]) (by simp [results, Tryz.results22, go_sem, y2, y2a, z2]) rfl ?_
      rw [u.out.1, u.out.2.1, u.out.2.2]
      exact Ret.mk (fm_rres0 S.out)
  · have dE : (E1 != 0) = true := bne_iff_ne.2 c
    have u := Lib.hid (e3_a E1 E2 E3 S1 D1 c)
    replace S := Lib.hid (S.out.set 0 rfl 0 (.slice none 0 0))
    replace S := Lib.hid (S.out.set 0 rfl 1 (.slice none 0 0))
    replace S := Lib.hid (S.out.box' 24 [.slice q1.a (X).length q1.c] (K := w1.heap.size) (by simp))
    replace S := Lib.hid (S.out.box' 24 [.slice q2.a (Y).length q2.c] (K := w1.heap.size + 1) (by simp))
    go_wp2
    refine bodyPost_ret (v := .tuple #[.agg #[.slice none 0 0, .slice none 0 0], .int .i64 E1]) (by simp [results, Tryz.results22, go_sem, y2, y2a, z2, Nat.lt_succ_of_lt z2]) rfl ?_
    rw [u.out.1, u.out.2.1, u.out.2.2]
    exact Ret.mk (fm_rres0 S.out)
set_option maxHeartbeats 2000000 in
set_option maxRecDepth 100000 in
theorem xsub_any (w : World) (an : List Int) (qan : LmP) (han : RLm w w.heap.size an qan) (lan : Lim an) (ad : List Int) (qad : LmP) (had : RLm w w.heap.size ad qad) (lad : Lim ad) (bn : List Int) (qbn : LmP) (hbn : RLm w w.heap.size bn qbn) (lbn : Lim bn) (bd : List Int) (qbd : LmP) (hbd : RLm w w.heap.size bd qbd) (lbd : Lim bd) :
    Calls Tryz.prog 24 #[ratV an qan ad qad, ratV bn qbn bd qbd] w (Ret (RRes2 w (gN (e3 (crE an ad bn bd) (mulE ad bd) (difE (crX an ad bn bd) (crY an ad bn bd))) (difV (crX an ad bn bd) (crY an ad bn bd)) (mulV ad bd)) (gD (e3 (crE an ad bn bd) (mulE ad bd) (difE (crX an ad bn bd) (crY an ad bn bd))) (difV (crX an ad bn bd) (crY an ad bn bd)) (mulV ad bd)) (e3 (crE an ad bn bd) (mulE ad bd) (difE (crX an ad bn bd) (crY an ad bn bd))))) := by
  have S := Lib.hid (natArg (natArg (natArg (natArg (Fm.init w) hbd) hbn) had) han)
  have HX := Lib.hid (fun q0 q1 q2 q3 w' (h0 : RLm w' w'.heap.size an q0) (h1 : RLm w' w'.heap.size ad q1) (h2 : RLm w' w'.heap.size bn q2) (h3 : RLm w' w'.heap.size bd q3) => cross_any w' an q0 h0 lan ad q1 h1 lad bn q2 h2 lbn bd q3 h3 lbd)
  obtain ⟨⟨lX, cX⟩, lY, cY⟩ := cr_lim an ad bn bd
  have HS := Lib.hid (fun q r w' (h1 : RLm w' w'.heap.size (crX an ad bn bd) q) (h2 : RLm w' w'.heap.size (crY an ad bn bd) r) => sub_any _ _ q r w' h1 h2 lX lY)
  have HM := Lib.hid (fun q r w' (h1 : RLm w' w'.heap.size ad q) (h2 : RLm w' w'.heap.size bd r) => mul_any ad bd q r w' h1 h2 lad lbd)
  have HR := Lib.hid (fun (c1 : (crE an ad bn bd) = 0) (c2 : (mulE ad bd) = 0) (c3 : (difE (crX an ad bn bd) (crY an ad bn bd)) = 0) q r w' (h1 : RLm w' w'.heap.size (difV (crX an ad bn bd) (crY an ad bn bd)) q) (h2 : RLm w' w'.heap.size (mulV ad bd) r) => by
    obtain ⟨ga, gb⟩ := cr_good c1
    obtain ⟨ls, vs, -⟩ := dif_good lX c3
    obtain ⟨lm, vm, em⟩ := mul_good c2
    have := reduced_any w' _ q h1 ls _ r h2 lm vs vm (by rw [em]; exact Nat.mul_ne_zero (vR_pos ga).2.2.1 (vR_pos gb).2.2.1)
    exact this)
  obtain ⟨S1, hS1⟩ : ∃ V, (difV (crX an ad bn bd) (crY an ad bn bd)) = V := ⟨_, rfl⟩
  obtain ⟨D1, hD1⟩ : ∃ V, (mulV ad bd) = V := ⟨_, rfl⟩
  obtain ⟨E1, hE1⟩ : ∃ V, (crE an ad bn bd) = V := ⟨_, rfl⟩
  obtain ⟨E2, hE2⟩ : ∃ V, (mulE ad bd) = V := ⟨_, rfl⟩
  obtain ⟨E3, hE3⟩ : ∃ V, (difE (crX an ad bn bd) (crY an ad bn bd)) = V := ⟨_, rfl⟩
  rw [hE1, hE2, hE3, hS1, hD1] at HR
  rw [hS1, hE3] at HS
  rw [hD1, hE2] at HM
  rw [hE1, hE2, hE3, hS1, hD1]
  rw [hE1] at HX
  clear lX cX lY cY hE1 hE2 hE3 hS1 hD1
  obtain ⟨X, hX⟩ : ∃ V, crX an ad bn bd = V := ⟨_, rfl⟩
  obtain ⟨Y, hY⟩ : ∃ V, crY an ad bn bd = V := ⟨_, rfl⟩
  rw [hX, hY] at HX HS
  clear hX hY
  obtain ⟨qana, qanc⟩ := qan
  obtain ⟨qada, qadc⟩ := qad
  obtain ⟨qbna, qbnc⟩ := qbn
  obtain ⟨qbda, qbdc⟩ := qbd
  replace S := Lib.hid (S.out.box 28 [.slice qana an.length qanc, .slice qada ad.length qadc])
  replace S := Lib.hid (S.out.box' 28 [.slice qbna bn.length qbnc, .slice qbda bd.length qbdc] (K := w.heap.size + 1) (by simp))
  replace S := Lib.hid (S.out.box' 28 [.slice none 0 0, .slice none 0 0] (K := w.heap.size + 1 + 1) (by simp))
  clear han had hbn hbd
  go_enter Tryz.func24, Tryz.ntmps24
  go_wp2_with fail
  refine (HX.out _ _ _ _ _ S.out.r0 S.out.r1 S.out.r2 S.out.r3).mono ?_
  rintro e w1 ⟨_, rfl, q1, q2, rfl, hr, hr2, hf, hf2, hb⟩
  replace S := Lib.hid (natRes2 S.out hr hr2 hf hf2 hb)
  clear hr hr2 hf hf2 hb
  obtain ⟨⟨z2, f2, y2, y2a, -⟩, ⟨z1, f1, y1, y1a, -⟩, ⟨z0, f0, y0, y0a, -⟩, -⟩ := S.out.facts
  by_cases c : E1 = 0
  · subst c
    replace S := Lib.hid (S.out.box 24 [.slice q1.a (X).length q1.c])
    replace S := Lib.hid (S.out.box' 24 [.slice q2.a (Y).length q2.c] (K := w1.heap.size + 1) (by simp))
    go_wp2_with fail
    refine (HM.out _ _ _ S.out.r3 S.out.r5).mono ?_
    rintro e w2 ⟨_, rfl, q6, rfl, hr, hf, hb⟩
    replace S := Lib.hid (natRes S.out hr hf hb)
    clear hr hf hb z0 f0 y0 y0a z1 f1 y1 y1a z2 f2 y2 y2a
    obtain ⟨⟨z4, f4, y4, -⟩, ⟨z3, f3, y3, -⟩, ⟨z2, f2, y2, y2a, -⟩, ⟨z1, f1, y1, y1a, -⟩, ⟨z0, f0, y0, y0a, -⟩, -⟩ := S.out.facts
    by_cases c : E2 = 0
    · subst c
      replace S := Lib.hid (S.out.box 24 [.slice q6.a (D1).length q6.c])
      go_wp2_with fail
      refine (HS.out _ _ _ S.out.r2 S.out.r1).mono ?_
      rintro e w3 ⟨_, rfl, q5, rfl, hr, hf, hb⟩
      replace S := Lib.hid (natRes S.out hr hf hb)
      clear hr hf hb z0 f0 y0 y0a z1 f1 y1 y1a z2 f2 y2 y2a z3 f3 y3 z4 f4 y4
      obtain ⟨⟨z5, f5, y5, -⟩, ⟨z4, f4, y4, -⟩, ⟨z3, f3, y3, -⟩, ⟨z2, f2, y2, y2a, -⟩, ⟨z1, f1, y1, y1a, -⟩, ⟨z0, f0, y0, y0a, -⟩, -⟩ := S.out.facts
      by_cases c : E3 = 0
      · subst c
        replace S := Lib.hid (S.out.box 24 [.slice q5.a (S1).length q5.c])
        go_wp2_with fail
        refine (HR.out (by simp) (by simp) (by simp) _ _ _ S.out.r0 S.out.r1).mono ?_
        rintro e w4 ⟨_, rfl, q7, q8, rfl, hr, hr2, hf, hf2, hb⟩
        have fr7 := Lib.hid (hf.le S.out.size)
        have fr8 := Lib.hid (hf2.le S.out.size)
        replace S := Lib.hid (natRes2 S.out hr hr2 hf hf2 hb)
        clear hr hr2 hf hf2 hb z0 f0 y0 y0a z1 f1 y1 y1a z2 f2 y2 y2a z3 f3 y3 z4 f4 y4 z5 f5 y5
        obtain ⟨⟨z6, f6, y6, -⟩, ⟨z5, f5, y5, -⟩, ⟨z4, f4, y4, -⟩, ⟨z3, f3, y3, -⟩, ⟨z2, f2, y2, y2a, -⟩, ⟨z1, f1, y1, y1a, -⟩, ⟨z0, f0, y0, y0a, -⟩, -⟩ := S.out.facts
        replace S := Lib.hid (S.out.set 4 rfl 0 (.slice q7.a (rdN (vl S1) (vl D1)).length q7.c))
        replace S := Lib.hid (S.out.set 4 rfl 1 (.slice q8.a (rdD (vl S1) (vl D1)).length q8.c))
        go_wp2
        refine bodyPost_ret (v := .tuple #[ratV (rdN (vl S1) (vl D1)) q7 (rdD (vl S1) (vl D1)) q8, .int .i64 0]) (by simp [results, Tryz.results24, go_sem, y2, y2a]) rfl ?_
        rw [(e3_d S1 D1).1, (e3_d S1 D1).2.1, (e3_d S1 D1).2.2]
        exact Ret.mk (fm_rres2 S.out (by simp) (by simp) fr7.out fr8.out)
      · have dE : (E3 != 0) = true := bne_iff_ne.2 c
        have u := Lib.hid (e3_c E3 S1 D1 c)
        replace S := Lib.hid (S.out.set 3 rfl 0 (.slice none 0 0))
        replace S := Lib.hid (S.out.set 3 rfl 1 (.slice none 0 0))
        replace S := Lib.hid (S.out.box' 24 [.slice q5.a (S1).length q5.c] (K := w3.heap.size) (by simp))
        go_wp2
        refine bodyPost_ret (v := .tuple #[.agg #[.slice none 0 0, .slice none 0 0], .int .i64 E3]) (by simp [results, Tryz.results24, go_sem, y2, y2a, z2]) rfl ?_
        rw [u.out.1, u.out.2.1, u.out.2.2]
        exact Ret.mk (fm_rres0 S.out)
    · have dE : (E2 != 0) = true := bne_iff_ne.2 c
      have u := Lib.hid (e3_b E2 E3 S1 D1 c)
      replace S := Lib.hid (S.out.set 2 rfl 0 (.slice none 0 0))
      replace S := Lib.hid (S.out.set 2 rfl 1 (.slice none 0 0))
      replace S := Lib.hid (S.out.box' 24 [.slice q6.a (D1).length q6.c] (K := w2.heap.size) (by simp))
      go_wp2
      refine bodyPost_ret (v := .tuple #[.agg #[.slice none 0 0, .slice none 0 0], .int .i64 E2]) (by simp [results, Tryz.results24, go_sem, y2, y2a, z2]) rfl ?_
      rw [u.out.1, u.out.2.1, u.out.2.2]
      exact Ret.mk (fm_rres0 S.out)
  · have dE : (E1 != 0) = true := bne_iff_ne.2 c
    have u := Lib.hid (e3_a E1 E2 E3 S1 D1 c)
    replace S := Lib.hid (S.out.set 0 rfl 0 (.slice none 0 0))
    replace S := Lib.hid (S.out.set 0 rfl 1 (.slice none 0 0))
    replace S := Lib.hid (S.out.box' 24 [.slice q1.a (X).length q1.c] (K := w1.heap.size) (by simp))
    replace S := Lib.hid (S.out.box' 24 [.slice q2.a (Y).length q2.c] (K := w1.heap.size + 1) (by simp))
    go_wp2
    refine bodyPost_ret (v := .tuple #[.agg #[.slice none 0 0, .slice none 0 0], .int .i64 E1]) (by simp [results, Tryz.results24, go_sem, y2, y2a, z2, Nat.lt_succ_of_lt z2]) rfl ?_
    rw [u.out.1, u.out.2.1, u.out.2.2]
    exact Ret.mk (fm_rres0 S.out)
set_option maxHeartbeats 2000000 in
set_option maxRecDepth 100000 in
theorem xmul_any (w : World) (an : List Int) (qan : LmP) (han : RLm w w.heap.size an qan) (lan : Lim an) (ad : List Int) (qad : LmP) (had : RLm w w.heap.size ad qad) (lad : Lim ad) (bn : List Int) (qbn : LmP) (hbn : RLm w w.heap.size bn qbn) (lbn : Lim bn) (bd : List Int) (qbd : LmP) (hbd : RLm w w.heap.size bd qbd) (lbd : Lim bd) :
    Calls Tryz.prog 33 #[ratV an qan ad qad, ratV bn qbn bd qbd] w (Ret (RRes2 w (gN (e3 (vE an ad bn bd) (mulE an bn) (mulE ad bd)) (mulV an bn) (mulV ad bd)) (gD (e3 (vE an ad bn bd) (mulE an bn) (mulE ad bd)) (mulV an bn) (mulV ad bd)) (e3 (vE an ad bn bd) (mulE an bn) (mulE ad bd)))) := by
  have S := Lib.hid (natArg (natArg (natArg (natArg (Fm.init w) hbd) hbn) had) han)
  have HVa := Lib.hid (fun q r w' (h1 : RLm w' w'.heap.size an q) (h2 : RLm w' w'.heap.size ad r) => validR_any w' an q h1 lan ad r h2 lad)
  have HVb := Lib.hid (fun q r w' (h1 : RLm w' w'.heap.size bn q) (h2 : RLm w' w'.heap.size bd r) => validR_any w' bn q h1 lbn bd r h2 lbd)
  have HS := Lib.hid (fun q r w' (h1 : RLm w' w'.heap.size an q) (h2 : RLm w' w'.heap.size bn r) => mul_any an bn q r w' h1 h2 lan lbn)
  have HM := Lib.hid (fun q r w' (h1 : RLm w' w'.heap.size ad q) (h2 : RLm w' w'.heap.size bd r) => mul_any ad bd q r w' h1 h2 lad lbd)
  have HR := Lib.hid (fun (c1 : (vE an ad bn bd) = 0) (c2 : (mulE an bn) = 0) (c3 : (mulE ad bd) = 0) q r w' (h1 : RLm w' w'.heap.size (mulV an bn) q) (h2 : RLm w' w'.heap.size (mulV ad bd) r) => by
    obtain ⟨ga, gb⟩ := vE_good c1
    obtain ⟨ls, vs, -⟩ := mul_good c2
    obtain ⟨lm, vm, em⟩ := mul_good c3
    have := reduced_any w' _ q h1 ls _ r h2 lm vs vm (by rw [em]; exact Nat.mul_ne_zero (vR_pos ga).2.2.1 (vR_pos gb).2.2.1)
    exact this)
  have eNo := Lib.hid (vE_no (an := an) (ad := ad) (bn := bn) (bd := bd))
  have eOk := Lib.hid (vE_ok (an := an) (ad := ad) (bn := bn) (bd := bd))
  obtain ⟨va, hva⟩ : ∃ v, vR an ad = v := ⟨_, rfl⟩
  obtain ⟨vb, hvb⟩ : ∃ v, vR bn bd = v := ⟨_, rfl⟩
  rw [hva] at HVa eNo eOk
  rw [hvb] at HVb eNo eOk
  obtain ⟨S1, hS1⟩ : ∃ V, (mulV an bn) = V := ⟨_, rfl⟩
  obtain ⟨D1, hD1⟩ : ∃ V, (mulV ad bd) = V := ⟨_, rfl⟩
  obtain ⟨E1, hE1⟩ : ∃ V, (vE an ad bn bd) = V := ⟨_, rfl⟩
  obtain ⟨E2, hE2⟩ : ∃ V, (mulE an bn) = V := ⟨_, rfl⟩
  obtain ⟨E3, hE3⟩ : ∃ V, (mulE ad bd) = V := ⟨_, rfl⟩
  rw [hE1, hE2, hE3, hS1, hD1] at HR
  rw [hS1, hE2] at HS
  rw [hD1, hE3] at HM
  rw [hE1, hE2, hE3, hS1, hD1]
  rw [hE1] at eNo eOk
  clear hva hvb hE1 hE2 hE3 hS1 hD1
  obtain ⟨qana, qanc⟩ := qan
  obtain ⟨qada, qadc⟩ := qad
  obtain ⟨qbna, qbnc⟩ := qbn
  obtain ⟨qbda, qbdc⟩ := qbd
  replace S := Lib.hid (S.out.box 28 [.slice qana an.length qanc, .slice qada ad.length qadc])
  replace S := Lib.hid (S.out.box' 28 [.slice qbna bn.length qbnc, .slice qbda bd.length qbdc] (K := w.heap.size + 1) (by simp))
  replace S := Lib.hid (S.out.box' 28 [.slice none 0 0, .slice none 0 0] (K := w.heap.size + 1 + 1) (by simp))
  clear han had hbn hbd
  go_enter Tryz.func33, Tryz.ntmps33
  go_wp2_with fail
  refine (HVa.out _ _ _ S.out.r0 S.out.r1).mono ?_
  rintro e w1 ⟨rfl, hb⟩
  replace S := Lib.hid (S.out.call hb)
  clear hb
  obtain ⟨⟨z2, f2, y2, y2a, -⟩, ⟨z1, f1, y1, y1a, -⟩, ⟨z0, f0, y0, y0a, -⟩, -⟩ := S.out.facts
  clear HVa
  cases va
  · have v := eNo.out rfl
    subst v
    have u := Lib.hid (e3_a 1 E2 E3 S1 D1 (by decide))
    replace S := Lib.hid (S.out.set 0 rfl 0 (.slice none 0 0))
    replace S := Lib.hid (S.out.set 0 rfl 1 (.slice none 0 0))
    go_wp2
    refine bodyPost_ret (v := .tuple #[.agg #[.slice none 0 0, .slice none 0 0], .int .i64 1]) (by simp [results, Tryz.results33, go_sem, y2, y2a]) rfl ?_
    rw [u.out.1, u.out.2.1, u.out.2.2]
    exact Ret.mk (fm_rres0 S.out)
  · go_wp2_with fail
    refine (HVb.out _ _ _ S.out.r2 S.out.r3).mono ?_
    rintro e w2 ⟨rfl, hb⟩
    replace S := Lib.hid (S.out.call hb)
    clear hb z0 f0 y0 y0a z1 f1 y1 y1a z2 f2 y2 y2a
    obtain ⟨⟨z2, f2, y2, y2a, -⟩, ⟨z1, f1, y1, y1a, -⟩, ⟨z0, f0, y0, y0a, -⟩, -⟩ := S.out.facts
    clear HVb
    cases vb
    · have v := eNo.out rfl
      subst v
      have u := Lib.hid (e3_a 1 E2 E3 S1 D1 (by decide))
      replace S := Lib.hid (S.out.set 0 rfl 0 (.slice none 0 0))
      replace S := Lib.hid (S.out.set 0 rfl 1 (.slice none 0 0))
      go_wp2
      refine bodyPost_ret (v := .tuple #[.agg #[.slice none 0 0, .slice none 0 0], .int .i64 1]) (by simp [results, Tryz.results33, go_sem, y2, y2a]) rfl ?_
      rw [u.out.1, u.out.2.1, u.out.2.2]
      exact Ret.mk (fm_rres0 S.out)
    · have v := eOk.out rfl
      subst v
      go_wp2_with fail
      refine (HS.out _ _ _ S.out.r0 S.out.r2).mono ?_
      rintro e w3 ⟨_, rfl, q5, rfl, hr, hf, hb⟩
      replace S := Lib.hid (natRes S.out hr hf hb)
      clear hr hf hb z0 f0 y0 y0a z1 f1 y1 y1a z2 f2 y2 y2a
      obtain ⟨⟨z2, f2, y2, y2a, -⟩, ⟨z1, f1, y1, y1a, -⟩, ⟨z0, f0, y0, y0a, -⟩, -⟩ := S.out.facts
      by_cases c : E2 = 0
      · subst c
        replace S := Lib.hid (S.out.box 24 [.slice q5.a (S1).length q5.c])
        go_wp2_with fail
        refine (HM.out _ _ _ S.out.r2 S.out.r4).mono ?_
        rintro e w4 ⟨_, rfl, q6, rfl, hr, hf, hb⟩
        replace S := Lib.hid (natRes S.out hr hf hb)
        clear hr hf hb z0 f0 y0 y0a z1 f1 y1 y1a z2 f2 y2 y2a
        obtain ⟨⟨z3, f3, y3, -⟩, ⟨z2, f2, y2, y2a, -⟩, ⟨z1, f1, y1, y1a, -⟩, ⟨z0, f0, y0, y0a, -⟩, -⟩ := S.out.facts
        by_cases c : E3 = 0
        · subst c
          replace S := Lib.hid (S.out.box 24 [.slice q6.a (D1).length q6.c])
          go_wp2_with fail
          refine (HR.out (by simp) (by simp) (by simp) _ _ _ S.out.r1 S.out.r0).mono ?_
          rintro e w5 ⟨_, rfl, q7, q8, rfl, hr, hr2, hf, hf2, hb⟩
          have fr7 := Lib.hid (hf.le S.out.size)
          have fr8 := Lib.hid (hf2.le S.out.size)
          replace S := Lib.hid (natRes2 S.out hr hr2 hf hf2 hb)
          clear hr hr2 hf hf2 hb z0 f0 y0 y0a z1 f1 y1 y1a z2 f2 y2 y2a z3 f3 y3
          obtain ⟨⟨z4, f4, y4, -⟩, ⟨z3, f3, y3, -⟩, ⟨z2, f2, y2, y2a, -⟩, ⟨z1, f1, y1, y1a, -⟩, ⟨z0, f0, y0, y0a, -⟩, -⟩ := S.out.facts
          replace S := Lib.hid (S.out.set 2 rfl 0 (.slice q7.a (rdN (vl S1) (vl D1)).length q7.c))
          replace S := Lib.hid (S.out.set 2 rfl 1 (.slice q8.a (rdD (vl S1) (vl D1)).length q8.c))
          go_wp2
          refine bodyPost_ret (v := .tuple #[ratV (rdN (vl S1) (vl D1)) q7 (rdD (vl S1) (vl D1)) q8, .int .i64 0]) (by simp [results, Tryz.results33, go_sem, y2, y2a]) rfl ?_
          rw [(e3_d S1 D1).1, (e3_d S1 D1).2.1, (e3_d S1 D1).2.2]
          exact Ret.mk (fm_rres2 S.out (by simp) (by simp) fr7.out fr8.out)
        · have dE : (E3 != 0) = true := bne_iff_ne.2 c
          have u := Lib.hid (e3_c E3 S1 D1 c)
          replace S := Lib.hid (S.out.set 1 rfl 0 (.slice none 0 0))
          replace S := Lib.hid (S.out.set 1 rfl 1 (.slice none 0 0))
          replace S := Lib.hid (S.out.box' 24 [.slice q6.a (D1).length q6.c] (K := w4.heap.size) (by simp))
          go_wp2
          refine bodyPost_ret (v := .tuple #[.agg #[.slice none 0 0, .slice none 0 0], .int .i64 E3]) (by simp [results, Tryz.results33, go_sem, y2, y2a, z2]) rfl ?_
          rw [u.out.1, u.out.2.1, u.out.2.2]
          exact Ret.mk (fm_rres0 S.out)
      · have dE : (E2 != 0) = true := bne_iff_ne.2 c
        have u := Lib.hid (e3_b E2 E3 S1 D1 c)
        replace S := Lib.hid (S.out.set 0 rfl 0 (.slice none 0 0))
        replace S := Lib.hid (S.out.set 0 rfl 1 (.slice none 0 0))
        replace S := Lib.hid (S.out.box' 24 [.slice q5.a (S1).length q5.c] (K := w3.heap.size) (by simp))
        go_wp2
        refine bodyPost_ret (v := .tuple #[.agg #[.slice none 0 0, .slice none 0 0], .int .i64 E2]) (by simp [results, Tryz.results33, go_sem, y2, y2a, z2]) rfl ?_
        rw [u.out.1, u.out.2.1, u.out.2.2]
        exact Ret.mk (fm_rres0 S.out)
end Go.Proofs.YtoiokopmpcogbaaGreatDoor
