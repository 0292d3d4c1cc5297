/-
  CONTRACTS of Cmp, Add, Sub, Mul.
  Conditions: those that each theorem names.
-/
import Derived.Test.YtoiokopmpcogbaaGreatDoorRaE
namespace Go.Proofs.YtoiokopmpcogbaaGreatDoor
open Go.RowKit Go.Sv
theorem mulV_lim (a b : List Int) : Lim (mulV a b) ∧ Sv.Can (mulV a b) := by
  unfold mulV cutV
  split
  · split
    · exact ⟨Lim.nil, vN_can (l := []) rfl |>.2⟩
    · exact ⟨lim_lim _, lim_can _⟩
  · exact ⟨Lim.nil, vN_can (l := []) rfl |>.2⟩
theorem cr_lim (an ad bn bd : List Int) : (Lim (crX an ad bn bd) ∧ Sv.Can (crX an ad bn bd)) ∧ (Lim (crY an ad bn bd) ∧ Sv.Can (crY an ad bn bd)) := by
  unfold crX crY
  split
  · exact ⟨mulV_lim _ _, mulV_lim _ _⟩
  · exact ⟨⟨Lim.nil, vN_can (l := []) rfl |>.2⟩, ⟨Lim.nil, vN_can (l := []) rfl |>.2⟩⟩
def rcV (an ad bn bd : List Int) : Int := if crE an ad bn bd = 0 then cmpL (crX an ad bn bd) (crY an ad bn bd) else 0
set_option maxHeartbeats 2000000 in
set_option maxRecDepth 100000 in
theorem xcmp_any (w : World) (an : List Int) (qan : LmP) (han : RLm w w.heap.size an qan) (lan : Lim an) (ad : List Int) (qad : LmP) (had : RLm w w.heap.size ad qad) (lad : Lim ad) (bn : List Int) (qbn : LmP) (hbn : RLm w w.heap.size bn qbn) (lbn : Lim bn) (bd : List Int) (qbd : LmP) (hbd : RLm w w.heap.size bd qbd) (lbd : Lim bd) :
    Calls Tryz.prog 28 #[ratV an qan ad qad, ratV bn qbn bd qbd] w (fun e w' => e = .returned (.tuple #[.int .i64 (rcV an ad bn bd), .int .i64 (crE an ad bn bd)]) ∧ Below w.heap.size w w') := by
  have S := Lib.hid (natArg (natArg (natArg (natArg (Fm.init w) hbd) hbn) had) han)
  have HX := Lib.hid (fun q0 q1 q2 q3 w' (h0 : RLm w' w'.heap.size an q0) (h1 : RLm w' w'.heap.size ad q1) (h2 : RLm w' w'.heap.size bn q2) (h3 : RLm w' w'.heap.size bd q3) => cross_any w' an q0 h0 lan ad q1 h1 lad bn q2 h2 lbn bd q3 h3 lbd)
  obtain ⟨⟨lX, cX⟩, lY, cY⟩ := cr_lim an ad bn bd
  have e0 := Lib.hid (show crE an ad bn bd = 0 → rcV an ad bn bd = cmpL (crX an ad bn bd) (crY an ad bn bd) from fun h => if_pos h)
  have e1 := Lib.hid (show ¬ crE an ad bn bd = 0 → rcV an ad bn bd = 0 from fun h => if_neg h)
  obtain ⟨X, hX⟩ : ∃ V, crX an ad bn bd = V := ⟨_, rfl⟩
  obtain ⟨Y, hY⟩ : ∃ V, crY an ad bn bd = V := ⟨_, rfl⟩
  obtain ⟨E, hE⟩ : ∃ V, crE an ad bn bd = V := ⟨_, rfl⟩
  obtain ⟨Z, hZ⟩ : ∃ V, rcV an ad bn bd = V := ⟨_, rfl⟩
  rw [hX, hY, hE] at HX
  rw [hX] at lX cX
  rw [hY] at lY cY
  rw [hX, hY, hE, hZ] at e0
  rw [hE, hZ] at e1
  rw [hZ, hE]
  have HC := Lib.hid (fun q r w' (h1 : RLm w' w'.heap.size X q) (h2 : RLm w' w'.heap.size Y r) => cmp_any X Y q r w' h1 h2 lX lY cX cY)
  clear hX hY hE hZ lX cX lY cY
  obtain ⟨qana, qanc⟩ := qan
  obtain ⟨qada, qadc⟩ := qad
  obtain ⟨qbna, qbnc⟩ := qbn
  obtain ⟨qbda, qbdc⟩ := qbd
  replace S := Lib.hid (S.out.box 28 [.slice qana an.length qanc, .slice qada ad.length qadc])
  replace S := Lib.hid (S.out.box' 28 [.slice qbna bn.length qbnc, .slice qbda bd.length qbdc] (K := w.heap.size + 1) (by simp))
  clear han had hbn hbd
  go_enter Tryz.func28, Tryz.ntmps28
  go_wp2_with fail
  refine (HX.out _ _ _ _ _ S.out.r0 S.out.r1 S.out.r2 S.out.r3).mono ?_
  rintro e w1 ⟨_, rfl, q1, q2, rfl, hr, hr2, hf, hf2, hb⟩
  replace S := Lib.hid (natRes2 S.out hr hr2 hf hf2 hb)
  clear hr hr2 hf hf2 hb
  obtain ⟨⟨z1, f1, y1, y1a, -⟩, ⟨z0, f0, y0, y0a, -⟩, -⟩ := S.out.facts
  replace S := Lib.hid (S.out.box 24 [.slice q1.a (X).length q1.c])
  replace S := Lib.hid (S.out.box' 24 [.slice q2.a (Y).length q2.c] (K := w1.heap.size + 1) (by simp))
  by_cases c : E = 0
  · have u := Lib.hid (e0.out c)
    clear e0 e1
    subst c
    go_wp2_with fail
    refine (HC.out _ _ _ S.out.r1 S.out.r0).mono ?_
    rintro e w2 ⟨rfl, hb⟩
    replace S := Lib.hid (S.out.call hb)
    clear hb z0 f0 y0 y0a z1 f1 y1 y1a
    obtain ⟨⟨z3, f3, y3, -⟩, ⟨z2, f2, y2, -⟩, ⟨z1, f1, y1, y1a, -⟩, ⟨z0, f0, y0, y0a, -⟩, -⟩ := S.out.facts
    go_wp2
    refine bodyPost_ret (v := .tuple #[.int .i64 (cmpL X Y), .int .i64 0]) (by simp [results, Tryz.results28, go_sem]) rfl ?_
    rw [u.out]
    exact ⟨rfl, S.out.bel⟩
  · have u := Lib.hid (e1.out c)
    clear e0 e1
    have dE : (E != 0) = true := bne_iff_ne.2 c
    clear c
    go_wp2
    refine bodyPost_ret (v := .tuple #[.int .i64 0, .int .i64 E]) (by simp [results, Tryz.results28, go_sem]) rfl ?_
    rw [u.out]
    exact ⟨rfl, S.out.bel⟩
end Go.Proofs.YtoiokopmpcogbaaGreatDoor
