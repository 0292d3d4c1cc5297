/-
  CONTRACTS of the reference: Cmp, Add.
  Conditions: those that each theorem names.
-/
import Derived.Test.YtoiokopmpcogbaaGreatDoorRaH
namespace Go.Proofs.YtoiokopmpcogbaaGreatDoor
open Go.RowKit Go.Sv
theorem pX_lim {E : Int} {l : List Int} (h : Lim l) : Lim (pX E l) := by
  unfold pX
  split
  · exact h
  · exact Lim.nil
theorem thZ_lim (f : Bool) (ad bd : List Int) : Lim (thZ f ad bd) := by
  unfold thZ
  split
  · exact (mulV_lim _ _).1
  · exact Lim.nil
def rrcV (an ad bn bd : List Int) : Int := if rcE an ad bn bd false = 0 then cmpL (pX (rcE an ad bn bd false) (mulV an bd)) (pX (rcE an ad bn bd false) (mulV bn ad)) else 0
theorem sumV_lim (a b : List Int) : Lim (sumV a b) := by
  unfold sumV cutV
  split
  · split
    · exact Lim.nil
    · exact lim_lim _
  · exact Lim.nil
/-- a result behind two errors -/
def qN (p q : Int) (l : List Int) : List Int := if p = 0 then (if q = 0 then l else []) else []
theorem q_a (p q r : Int) (n d : List Int) (h : ¬ p = 0) : qN p q n = [] ∧ qN p q d = [] ∧ e3 p q r = p := ⟨if_neg h, if_neg h, if_neg h⟩
theorem q_b (q r : Int) (n d : List Int) (h : ¬ q = 0) : qN 0 q n = [] ∧ qN 0 q d = [] ∧ e3 0 q r = q := ⟨if_neg h, if_neg h, if_neg h⟩
/-- the reference's error of a product -/
def rM (v p q m : Int) : Int := if v = 0 then (if p = 0 then (if q = 0 then m else 3) else 3) else v
def qM (v p q : Int) (l : List Int) : List Int := if v = 0 then qN p q l else []
theorem m_no (p q m : Int) (n d : List Int) : qM 1 p q n = [] ∧ qM 1 p q d = [] ∧ rM 1 p q m = 1 := ⟨rfl, rfl, rfl⟩
theorem m_a (p q m : Int) (n d : List Int) (h : ¬ p = 0) : qM 0 p q n = [] ∧ qM 0 p q d = [] ∧ rM 0 p q m = 3 := ⟨if_neg h, if_neg h, if_neg h⟩
theorem m_b (q m : Int) (n d : List Int) (h : ¬ q = 0) : qM 0 0 q n = [] ∧ qM 0 0 q d = [] ∧ rM 0 0 q m = 3 := ⟨if_neg h, if_neg h, if_neg h⟩
set_option maxHeartbeats 2000000 in
set_option maxRecDepth 100000 in
theorem xrcmp_any (w : World) (an : List Int) (qan : LmP) (han : RLm w w.heap.size an qan) (lan : Lim an) (ad : List Int) (qad : LmP) (had : RLm w w.heap.size ad qad) (lad : Lim ad) (bn : List Int) (qbn : LmP) (hbn : RLm w w.heap.size bn qbn) (lbn : Lim bn) (bd : List Int) (qbd : LmP) (hbd : RLm w w.heap.size bd qbd) (lbd : Lim bd) :
    Calls Tryz.prog 29 #[ratV an qan ad qad, ratV bn qbn bd qbd] w (fun e w' => e = .returned (.tuple #[.int .i64 (rrcV an ad bn bd), .int .i64 (rcE an ad bn bd false)]) ∧ Below w.heap.size w w') := by
  have S := Lib.hid (natArg (natArg (natArg (natArg (Fm.init w) hbd) hbn) had) han)
  have HX := Lib.hid (fun q0 q1 q2 q3 w' (h0 : RLm w' w'.heap.size an q0) (h1 : RLm w' w'.heap.size ad q1) (h2 : RLm w' w'.heap.size bn q2) (h3 : RLm w' w'.heap.size bd q3) => rcross_false w' an q0 h0 lan ad q1 h1 lad bn q2 h2 lbn bd q3 h3 lbd)
  have lX := pX_lim (E := rcE an ad bn bd false) (mulV_lim an bd).1
  have lY := pX_lim (E := rcE an ad bn bd false) (mulV_lim bn ad).1
  have lZ := pX_lim (E := rcE an ad bn bd false) (thZ_lim false ad bd)
  have e0 := Lib.hid (show (rcE an ad bn bd false) = 0 → rrcV an ad bn bd = cmpL (pX (rcE an ad bn bd false) (mulV an bd)) (pX (rcE an ad bn bd false) (mulV bn ad)) from fun h => if_pos h)
  have e1 := Lib.hid (show ¬ (rcE an ad bn bd false) = 0 → rrcV an ad bn bd = 0 from fun h => if_neg h)
  obtain ⟨X, hX⟩ : ∃ V, (pX (rcE an ad bn bd false) (mulV an bd)) = V := ⟨_, rfl⟩
  obtain ⟨Y, hY⟩ : ∃ V, (pX (rcE an ad bn bd false) (mulV bn ad)) = V := ⟨_, rfl⟩
  obtain ⟨Z, hZ⟩ : ∃ V, (pX (rcE an ad bn bd false) (thZ false ad bd)) = V := ⟨_, rfl⟩
  obtain ⟨V0, hV0⟩ : ∃ V, rrcV an ad bn bd = V := ⟨_, rfl⟩
  obtain ⟨E, hE⟩ : ∃ V, (rcE an ad bn bd false) = V := ⟨_, rfl⟩
  rw [hX, hY, hZ, hE] at HX
  rw [hX] at lX
  rw [hY] at lY
  rw [hX, hY, hE, hV0] at e0
  rw [hE, hV0] at e1
  rw [hV0, hE]
  have HC := Lib.hid (fun q r w' (h1 : RLm w' w'.heap.size X q) (h2 : RLm w' w'.heap.size Y r) => rcmp_any X Y q r w' h1 h2 lX lY)
  clear hX hY hZ hE hV0 lX lY lZ
  obtain ⟨qana, qanc⟩ := qan
  obtain ⟨qada, qadc⟩ := qad
  obtain ⟨qbna, qbnc⟩ := qbn
  obtain ⟨qbda, qbdc⟩ := qbd
  replace S := Lib.hid (S.out.box 28 [.slice qana an.length qanc, .slice qada ad.length qadc])
  replace S := Lib.hid (S.out.box' 28 [.slice qbna bn.length qbnc, .slice qbda bd.length qbdc] (K := w.heap.size + 1) (by simp))
  clear han had hbn hbd
  go_enter Tryz.func29, Tryz.ntmps29
  go_wp2_with fail
  refine (HX.out _ _ _ _ _ S.out.r0 S.out.r1 S.out.r2 S.out.r3).mono ?_
  rintro e w1 ⟨_, rfl, q1, q2, q3, rfl, hr, hr2, hr3, hf, hf2, hf3, hb⟩
  replace S := Lib.hid (natRes3 S.out hr hr2 hr3 hf hf2 hf3 hb)
  clear hr hr2 hr3 hf hf2 hf3 hb
  obtain ⟨⟨z1, f1, y1, y1a, -⟩, ⟨z0, f0, y0, y0a, -⟩, -⟩ := S.out.facts
  replace S := Lib.hid (S.out.box 63 [.slice q1.a X.length q1.c, .slice q2.a Y.length q2.c, .slice q3.a Z.length q3.c])
  by_cases c : E = 0
  · have u := Lib.hid (e0.out c)
    clear e0 e1
    subst c
    go_wp2_with fail
    refine (HC.out _ _ _ S.out.r2 S.out.r1).mono ?_
    rintro e w2 ⟨rfl, hb⟩
    replace S := Lib.hid (S.out.call hb)
    clear hb z0 f0 y0 y0a z1 f1 y1 y1a
    obtain ⟨⟨z2, f2, y2, y2a, y2b, -⟩, ⟨z1, f1, y1, y1a, -⟩, ⟨z0, f0, y0, y0a, -⟩, -⟩ := S.out.facts
    go_wp2
    refine bodyPost_ret (v := .tuple #[.int .i64 (cmpL X Y), .int .i64 0]) (by simp [results, Tryz.results29, go_sem]) rfl ?_
    rw [u.out]
    exact ⟨rfl, S.out.bel⟩
  · have u := Lib.hid (e1.out c)
    clear e0 e1
    have dE : (E != 0) = true := bne_iff_ne.2 c
    clear c
    go_wp2
    refine bodyPost_ret (v := .tuple #[.int .i64 0, .int .i64 E]) (by simp [results, Tryz.results29, go_sem]) rfl ?_
    rw [u.out]
    exact ⟨rfl, S.out.bel⟩
set_option maxHeartbeats 2000000 in
set_option maxRecDepth 100000 in
theorem xradd_any (w : World) (an : List Int) (qan : LmP) (han : RLm w w.heap.size an qan) (lan : Lim an) (ad : List Int) (qad : LmP) (had : RLm w w.heap.size ad qad) (lad : Lim ad) (bn : List Int) (qbn : LmP) (hbn : RLm w w.heap.size bn qbn) (lbn : Lim bn) (bd : List Int) (qbd : LmP) (hbd : RLm w w.heap.size bd qbd) (lbd : Lim bd) :
    Calls Tryz.prog 23 #[ratV an qan ad qad, ratV bn qbn bd qbd] w (Ret (RRes2 w (qN (rcE an ad bn bd true) (sumE (pX (rcE an ad bn bd true) (mulV an bd)) (pX (rcE an ad bn bd true) (mulV bn ad))) (makN (sumV (pX (rcE an ad bn bd true) (mulV an bd)) (pX (rcE an ad bn bd true) (mulV bn ad))) (pX (rcE an ad bn bd true) (thZ true ad bd)))) (qN (rcE an ad bn bd true) (sumE (pX (rcE an ad bn bd true) (mulV an bd)) (pX (rcE an ad bn bd true) (mulV bn ad))) (makD (sumV (pX (rcE an ad bn bd true) (mulV an bd)) (pX (rcE an ad bn bd true) (mulV bn ad))) (pX (rcE an ad bn bd true) (thZ true ad bd)))) (e3 (rcE an ad bn bd true) (sumE (pX (rcE an ad bn bd true) (mulV an bd)) (pX (rcE an ad bn bd true) (mulV bn ad))) (makE (sumV (pX (rcE an ad bn bd true) (mulV an bd)) (pX (rcE an ad bn bd true) (mulV bn ad))) (pX (rcE an ad bn bd true) (thZ true ad bd)))))) := by
  have S := Lib.hid (natArg (natArg (natArg (natArg (Fm.init w) hbd) hbn) had) han)
  have HX := Lib.hid (fun q0 q1 q2 q3 w' (h0 : RLm w' w'.heap.size an q0) (h1 : RLm w' w'.heap.size ad q1) (h2 : RLm w' w'.heap.size bn q2) (h3 : RLm w' w'.heap.size bd q3) => rcross_true w' an q0 h0 lan ad q1 h1 lad bn q2 h2 lbn bd q3 h3 lbd)
  have lX := pX_lim (E := rcE an ad bn bd true) (mulV_lim an bd).1
  have lY := pX_lim (E := rcE an ad bn bd true) (mulV_lim bn ad).1
  have lZ := pX_lim (E := rcE an ad bn bd true) (thZ_lim true ad bd)
  have lS := sumV_lim (pX (rcE an ad bn bd true) (mulV an bd)) (pX (rcE an ad bn bd true) (mulV bn ad))
  have HS := Lib.hid (fun q r w' (h1 : RLm w' w'.heap.size (pX (rcE an ad bn bd true) (mulV an bd)) q) (h2 : RLm w' w'.heap.size (pX (rcE an ad bn bd true) (mulV bn ad)) r) => radd_any _ _ q r w' h1 h2 lX lY)
  have HM := Lib.hid (fun q r w' (h1 : RLm w' w'.heap.size (sumV (pX (rcE an ad bn bd true) (mulV an bd)) (pX (rcE an ad bn bd true) (mulV bn ad))) q) (h2 : RLm w' w'.heap.size (pX (rcE an ad bn bd true) (thZ true ad bd)) r) => rmake_any w' _ q h1 lS _ r h2 lZ)
  obtain ⟨MN, hMN⟩ : ∃ V, makN (sumV (pX (rcE an ad bn bd true) (mulV an bd)) (pX (rcE an ad bn bd true) (mulV bn ad))) (pX (rcE an ad bn bd true) (thZ true ad bd)) = V := ⟨_, rfl⟩
  obtain ⟨MD, hMD⟩ : ∃ V, makD (sumV (pX (rcE an ad bn bd true) (mulV an bd)) (pX (rcE an ad bn bd true) (mulV bn ad))) (pX (rcE an ad bn bd true) (thZ true ad bd)) = V := ⟨_, rfl⟩
  obtain ⟨ME, hME⟩ : ∃ V, makE (sumV (pX (rcE an ad bn bd true) (mulV an bd)) (pX (rcE an ad bn bd true) (mulV bn ad))) (pX (rcE an ad bn bd true) (thZ true ad bd)) = V := ⟨_, rfl⟩
  obtain ⟨S1, hS1⟩ : ∃ V, (sumV (pX (rcE an ad bn bd true) (mulV an bd)) (pX (rcE an ad bn bd true) (mulV bn ad))) = V := ⟨_, rfl⟩
  obtain ⟨E2, hE2⟩ : ∃ V, (sumE (pX (rcE an ad bn bd true) (mulV an bd)) (pX (rcE an ad bn bd true) (mulV bn ad))) = V := ⟨_, rfl⟩
  obtain ⟨X, hX⟩ : ∃ V, (pX (rcE an ad bn bd true) (mulV an bd)) = V := ⟨_, rfl⟩
  obtain ⟨Y, hY⟩ : ∃ V, (pX (rcE an ad bn bd true) (mulV bn ad)) = V := ⟨_, rfl⟩
  obtain ⟨Z, hZ⟩ : ∃ V, (pX (rcE an ad bn bd true) (thZ true ad bd)) = V := ⟨_, rfl⟩
  obtain ⟨E1, hE1⟩ : ∃ V, (rcE an ad bn bd true) = V := ⟨_, rfl⟩
  rw [hMN, hMD, hME] at HM
  rw [hS1, hZ] at HM
  rw [hS1, hE2, hX, hY] at HS
  rw [hX, hY, hZ, hE1] at HX
  rw [hMN, hMD, hME, hE2, hE1]
  clear hMN hMD hME hS1 hE2 hX hY hZ hE1 lX lY lZ lS
  obtain ⟨qana, qanc⟩ := qan
  obtain ⟨qada, qadc⟩ := qad
  obtain ⟨qbna, qbnc⟩ := qbn
  obtain ⟨qbda, qbdc⟩ := qbd
  replace S := Lib.hid (S.out.box 28 [.slice qana an.length qanc, .slice qada ad.length qadc])
  replace S := Lib.hid (S.out.box' 28 [.slice qbna bn.length qbnc, .slice qbda bd.length qbdc] (K := w.heap.size + 1) (by simp))
  replace S := Lib.hid (S.out.box' 28 [.slice none 0 0, .slice none 0 0] (K := w.heap.size + 1 + 1) (by simp))
  clear han had hbn hbd
  go_enter Tryz.func23, Tryz.ntmps23
  go_wp2_with fail
  refine (HX.out _ _ _ _ _ S.out.r0 S.out.r1 S.out.r2 S.out.r3).mono ?_
  rintro e w1 ⟨_, rfl, q1, q2, q3, rfl, hr, hr2, hr3, hf, hf2, hf3, hb⟩
  replace S := Lib.hid (natRes3 S.out hr hr2 hr3 hf hf2 hf3 hb)
  clear hr hr2 hr3 hf hf2 hf3 hb
  obtain ⟨⟨z2, f2, y2, y2a, -⟩, ⟨z1, f1, y1, y1a, -⟩, ⟨z0, f0, y0, y0a, -⟩, -⟩ := S.out.facts
  by_cases c : E1 = 0
  · subst c
    replace S := Lib.hid (S.out.box 63 [.slice q1.a X.length q1.c, .slice q2.a Y.length q2.c, .slice q3.a Z.length q3.c])
    go_wp2_with fail
    refine (HS.out _ _ _ S.out.r2 S.out.r1).mono ?_
    rintro e w2 ⟨_, rfl, q5, rfl, hr, hf, hb⟩
    replace S := Lib.hid (natRes S.out hr hf hb)
    clear hr hf hb z0 f0 y0 y0a z1 f1 y1 y1a z2 f2 y2 y2a
    obtain ⟨⟨z3, f3, y3, y3a, y3b, -⟩, ⟨z2, f2, y2, y2a, -⟩, ⟨z1, f1, y1, y1a, -⟩, ⟨z0, f0, y0, y0a, -⟩, -⟩ := S.out.facts
    by_cases c : E2 = 0
    · subst c
      replace S := Lib.hid (S.out.box 24 [.slice q5.a (S1).length q5.c])
      go_wp2_with fail
      refine (HM.out _ _ _ S.out.r0 S.out.r1).mono ?_
      rintro e w3 ⟨_, rfl, q7, q8, rfl, hr, hr2, hf, hf2, hb⟩
      have fr7 := Lib.hid (hf.le S.out.size)
      have fr8 := Lib.hid (hf2.le S.out.size)
      replace S := Lib.hid (natRes2 S.out hr hr2 hf hf2 hb)
      clear hr hr2 hf hf2 hb z0 f0 y0 y0a z1 f1 y1 y1a z2 f2 y2 y2a z3 f3 y3 y3a y3b
      obtain ⟨⟨z4, f4, y4, -⟩, ⟨z3, f3, y3, y3a, y3b, -⟩, ⟨z2, f2, y2, y2a, -⟩, ⟨z1, f1, y1, y1a, -⟩, ⟨z0, f0, y0, y0a, -⟩, -⟩ := S.out.facts
      replace S := Lib.hid (S.out.set 2 rfl 0 (.slice q7.a MN.length q7.c))
      replace S := Lib.hid (S.out.set 2 rfl 1 (.slice q8.a MD.length q8.c))
      go_wp2
      refine bodyPost_ret (v := .tuple #[ratV MN q7 MD q8, .int .i64 ME]) (by simp [results, Tryz.results23, go_sem, y2, y2a]) rfl ?_
      exact (show Ret (RRes2 w MN MD ME) _ _ from Ret.mk (fm_rres2 S.out (by simp) (by simp) fr7.out fr8.out))
    · have dE : (E2 != 0) = true := bne_iff_ne.2 c
      replace S := Lib.hid (S.out.set 1 rfl 0 (.slice none 0 0))
      replace S := Lib.hid (S.out.set 1 rfl 1 (.slice none 0 0))
      replace S := Lib.hid (S.out.box' 24 [.slice q5.a S1.length q5.c] (K := w2.heap.size) (by simp))
      have u := Lib.hid (q_b E2 ME MN MD c)
      go_wp2
      refine bodyPost_ret (v := .tuple #[.agg #[.slice none 0 0, .slice none 0 0], .int .i64 E2]) (by simp [results, Tryz.results23, go_sem, y2, y2a, z2]) rfl ?_
      rw [u.out.1, u.out.2.1, u.out.2.2]
      exact (show Ret (RRes2 w [] [] E2) _ _ from Ret.mk (fm_rres0 S.out))
  · have dE : (E1 != 0) = true := bne_iff_ne.2 c
    replace S := Lib.hid (S.out.set 0 rfl 0 (.slice none 0 0))
    replace S := Lib.hid (S.out.set 0 rfl 1 (.slice none 0 0))
    replace S := Lib.hid (S.out.box' 63 [.slice q1.a X.length q1.c, .slice q2.a Y.length q2.c, .slice q3.a Z.length q3.c] (K := w1.heap.size) (by simp))
    have u := Lib.hid (q_a E1 E2 ME MN MD c)
    go_wp2
    refine bodyPost_ret (v := .tuple #[.agg #[.slice none 0 0, .slice none 0 0], .int .i64 E1]) (by simp [results, Tryz.results23, go_sem, y2, y2a, z2]) rfl ?_
    rw [u.out.1, u.out.2.1, u.out.2.2]
    exact (show Ret (RRes2 w [] [] E1) _ _ from Ret.mk (fm_rres0 S.out))
set_option maxHeartbeats 2000000 in
set_option maxRecDepth 100000 in
theorem xrmul_any (w : World) (an : List Int) (qan : LmP) (han : RLm w w.heap.size an qan) (lan : Lim an) (ad : List Int) (qad : LmP) (had : RLm w w.heap.size ad qad) (lad : Lim ad) (bn : List Int) (qbn : LmP) (hbn : RLm w w.heap.size bn qbn) (lbn : Lim bn) (bd : List Int) (qbd : LmP) (hbd : RLm w w.heap.size bd qbd) (lbd : Lim bd) :
    Calls Tryz.prog 34 #[ratV an qan ad qad, ratV bn qbn bd qbd] w (Ret (RRes2 w (qM (vE an ad bn bd) (mulE an bn) (mulE ad bd) (makN (mulV an bn) (mulV ad bd))) (qM (vE an ad bn bd) (mulE an bn) (mulE ad bd) (makD (mulV an bn) (mulV ad bd))) (rM (vE an ad bn bd) (mulE an bn) (mulE ad bd) (makE (mulV an bn) (mulV ad bd))))) := by
  have S := Lib.hid (natArg (natArg (natArg (natArg (Fm.init w) hbd) hbn) had) han)
  have HVa := Lib.hid (fun q r w' (h1 : RLm w' w'.heap.size an q) (h2 : RLm w' w'.heap.size ad r) => rvalidR_any w' an q h1 lan ad r h2 lad)
  have HVb := Lib.hid (fun q r w' (h1 : RLm w' w'.heap.size bn q) (h2 : RLm w' w'.heap.size bd r) => rvalidR_any w' bn q h1 lbn bd r h2 lbd)
  have H1 := Lib.hid (fun q r w' (h1 : RLm w' w'.heap.size an q) (h2 : RLm w' w'.heap.size bn r) => rmul_any an bn q r w' h1 h2 lan lbn)
  have H2 := Lib.hid (fun q r w' (h1 : RLm w' w'.heap.size ad q) (h2 : RLm w' w'.heap.size bd r) => rmul_any ad bd q r w' h1 h2 lad lbd)
  have eNo := Lib.hid (vE_no (an := an) (ad := ad) (bn := bn) (bd := bd))
  have eOk := Lib.hid (vE_ok (an := an) (ad := ad) (bn := bn) (bd := bd))
  obtain ⟨va, hva⟩ : ∃ v, vR an ad = v := ⟨_, rfl⟩
  obtain ⟨vb, hvb⟩ : ∃ v, vR bn bd = v := ⟨_, rfl⟩
  rw [hva] at HVa eNo eOk
  rw [hvb] at HVb eNo eOk
  have lX := (mulV_lim an bn).1
  have lZ := (mulV_lim ad bd).1
  have HM := Lib.hid (fun q r w' (h1 : RLm w' w'.heap.size (mulV an bn) q) (h2 : RLm w' w'.heap.size (mulV ad bd) r) => rmake_any w' _ q h1 lX _ r h2 lZ)
  obtain ⟨MN, hMN⟩ : ∃ V, makN (mulV an bn) (mulV ad bd) = V := ⟨_, rfl⟩
  obtain ⟨MD, hMD⟩ : ∃ V, makD (mulV an bn) (mulV ad bd) = V := ⟨_, rfl⟩
  obtain ⟨ME, hME⟩ : ∃ V, makE (mulV an bn) (mulV ad bd) = V := ⟨_, rfl⟩
  obtain ⟨E0, hE0⟩ : ∃ V, (vE an ad bn bd) = V := ⟨_, rfl⟩
  obtain ⟨E1, hE1⟩ : ∃ V, (mulE an bn) = V := ⟨_, rfl⟩
  obtain ⟨E2, hE2⟩ : ∃ V, (mulE ad bd) = V := ⟨_, rfl⟩
  obtain ⟨X, hX⟩ : ∃ V, (mulV an bn) = V := ⟨_, rfl⟩
  obtain ⟨Z, hZ⟩ : ∃ V, (mulV ad bd) = V := ⟨_, rfl⟩
  rw [hE0] at eNo eOk
  rw [hMN, hMD, hME, hX, hZ] at HM
  rw [hX, hE1] at H1
  rw [hZ, hE2] at H2
  rw [hE0, hE1, hE2, hMN, hMD, hME]
  clear hMN hMD hME hX hZ hE0 hE1 hE2 hva hvb lX lZ
  obtain ⟨qana, qanc⟩ := qan
  obtain ⟨qada, qadc⟩ := qad
  obtain ⟨qbna, qbnc⟩ := qbn
  obtain ⟨qbda, qbdc⟩ := qbd
  replace S := Lib.hid (S.out.box 28 [.slice qana an.length qanc, .slice qada ad.length qadc])
  replace S := Lib.hid (S.out.box' 28 [.slice qbna bn.length qbnc, .slice qbda bd.length qbdc] (K := w.heap.size + 1) (by simp))
  replace S := Lib.hid (S.out.box' 28 [.slice none 0 0, .slice none 0 0] (K := w.heap.size + 1 + 1) (by simp))
  clear han had hbn hbd
  go_enter Tryz.func34, Tryz.ntmps34
  go_wp2_with fail
  refine (HVa.out _ _ _ S.out.r0 S.out.r1).mono ?_
  rintro e w1 ⟨rfl, hb⟩
  replace S := Lib.hid (S.out.call hb)
  clear hb
  obtain ⟨⟨z2, f2, y2, y2a, -⟩, ⟨z1, f1, y1, y1a, -⟩, ⟨z0, f0, y0, y0a, -⟩, -⟩ := S.out.facts
  clear HVa
  cases va
  · have v := eNo.out rfl
    subst v
    replace S := Lib.hid (S.out.set 0 rfl 0 (.slice none 0 0))
    replace S := Lib.hid (S.out.set 0 rfl 1 (.slice none 0 0))
    have u := Lib.hid (m_no E1 E2 ME MN MD)
    go_wp2
    refine bodyPost_ret (v := .tuple #[.agg #[.slice none 0 0, .slice none 0 0], .int .i64 1]) (by simp [results, Tryz.results34, go_sem, y2, y2a]) rfl ?_
    rw [u.out.1, u.out.2.1, u.out.2.2]
    exact (show Ret (RRes2 w [] [] 1) _ _ from Ret.mk (fm_rres0 S.out))
  · go_wp2_with fail
    refine (HVb.out _ _ _ S.out.r2 S.out.r3).mono ?_
    rintro e w2 ⟨rfl, hb⟩
    replace S := Lib.hid (S.out.call hb)
    clear hb z0 f0 y0 y0a z1 f1 y1 y1a z2 f2 y2 y2a
    obtain ⟨⟨z2, f2, y2, y2a, -⟩, ⟨z1, f1, y1, y1a, -⟩, ⟨z0, f0, y0, y0a, -⟩, -⟩ := S.out.facts
    clear HVb
    cases vb
    · have v := eNo.out rfl
      subst v
      replace S := Lib.hid (S.out.set 0 rfl 0 (.slice none 0 0))
      replace S := Lib.hid (S.out.set 0 rfl 1 (.slice none 0 0))
      have u := Lib.hid (m_no E1 E2 ME MN MD)
      go_wp2
      refine bodyPost_ret (v := .tuple #[.agg #[.slice none 0 0, .slice none 0 0], .int .i64 1]) (by simp [results, Tryz.results34, go_sem, y2, y2a]) rfl ?_
      rw [u.out.1, u.out.2.1, u.out.2.2]
      exact (show Ret (RRes2 w [] [] 1) _ _ from Ret.mk (fm_rres0 S.out))
    · have v := eOk.out rfl
      subst v
      go_wp2_with fail
      refine (H1.out _ _ _ S.out.r0 S.out.r2).mono ?_
      rintro e w3 ⟨_, rfl, q1, rfl, hr, hf, hb⟩
      replace S := Lib.hid (natRes S.out hr hf hb)
      clear hr hf hb z0 f0 y0 y0a z1 f1 y1 y1a z2 f2 y2 y2a
      obtain ⟨⟨z2, f2, y2, y2a, -⟩, ⟨z1, f1, y1, y1a, -⟩, ⟨z0, f0, y0, y0a, -⟩, -⟩ := S.out.facts
      replace S := Lib.hid (S.out.box 24 [.slice q1.a (X).length q1.c])
      go_wp2_with fail
      refine (H2.out _ _ _ S.out.r2 S.out.r4).mono ?_
      rintro e w4 ⟨_, rfl, q2, rfl, hr, hf, hb⟩
      replace S := Lib.hid (natRes S.out hr hf hb)
      clear hr hf hb z0 f0 y0 y0a z1 f1 y1 y1a z2 f2 y2 y2a
      obtain ⟨⟨z3, f3, y3, -⟩, ⟨z2, f2, y2, y2a, -⟩, ⟨z1, f1, y1, y1a, -⟩, ⟨z0, f0, y0, y0a, -⟩, -⟩ := S.out.facts
      by_cases c : E1 = 0
      · subst c
        by_cases c : E2 = 0
        · subst c
          replace S := Lib.hid (S.out.box 24 [.slice q2.a (Z).length q2.c])
          go_wp2_with fail
          refine (HM.out _ _ _ S.out.r1 S.out.r0).mono ?_
          rintro e w5 ⟨_, rfl, q7, q8, rfl, hr, hr2, hf, hf2, hb⟩
          have fr7 := Lib.hid (hf.le S.out.size)
          have fr8 := Lib.hid (hf2.le S.out.size)
          replace S := Lib.hid (natRes2 S.out hr hr2 hf hf2 hb)
          clear hr hr2 hf hf2 hb z0 f0 y0 y0a z1 f1 y1 y1a z2 f2 y2 y2a z3 f3 y3
          obtain ⟨⟨z4, f4, y4, -⟩, ⟨z3, f3, y3, -⟩, ⟨z2, f2, y2, y2a, -⟩, ⟨z1, f1, y1, y1a, -⟩, ⟨z0, f0, y0, y0a, -⟩, -⟩ := S.out.facts
          replace S := Lib.hid (S.out.set 2 rfl 0 (.slice q7.a MN.length q7.c))
          replace S := Lib.hid (S.out.set 2 rfl 1 (.slice q8.a MD.length q8.c))
          go_wp2
          refine bodyPost_ret (v := .tuple #[ratV MN q7 MD q8, .int .i64 ME]) (by simp [results, Tryz.results34, go_sem, y2, y2a]) rfl ?_
          exact (show Ret (RRes2 w MN MD ME) _ _ from Ret.mk (fm_rres2 S.out (by simp) (by simp) fr7.out fr8.out))
        · have dE : (E2 != 0) = true := bne_iff_ne.2 c
          replace S := Lib.hid (S.out.set 1 rfl 0 (.slice none 0 0))
          replace S := Lib.hid (S.out.set 1 rfl 1 (.slice none 0 0))
          replace S := Lib.hid (S.out.box' 24 [.slice q2.a Z.length q2.c] (K := w4.heap.size) (by simp))
          have u := Lib.hid (m_b E2 ME MN MD c)
          go_wp2
          refine bodyPost_ret (v := .tuple #[.agg #[.slice none 0 0, .slice none 0 0], .int .i64 3]) (by simp [results, Tryz.results34, go_sem, y2, y2a, z2]) rfl ?_
          rw [u.out.1, u.out.2.1, u.out.2.2]
          exact (show Ret (RRes2 w [] [] 3) _ _ from Ret.mk (fm_rres0 S.out))
      · have dE : (E1 != 0) = true := bne_iff_ne.2 c
        replace S := Lib.hid (S.out.set 1 rfl 0 (.slice none 0 0))
        replace S := Lib.hid (S.out.set 1 rfl 1 (.slice none 0 0))
        replace S := Lib.hid (S.out.box' 24 [.slice q2.a Z.length q2.c] (K := w4.heap.size) (by simp))
        have u := Lib.hid (m_a E1 E2 ME MN MD c)
        go_wp2
        refine bodyPost_ret (v := .tuple #[.agg #[.slice none 0 0, .slice none 0 0], .int .i64 3]) (by simp [results, Tryz.results34, go_sem, y2, y2a, z2]) rfl ?_
        rw [u.out.1, u.out.2.1, u.out.2.2]
        exact (show Ret (RRes2 w [] [] 3) _ _ from Ret.mk (fm_rres0 S.out))
end Go.Proofs.YtoiokopmpcogbaaGreatDoor
