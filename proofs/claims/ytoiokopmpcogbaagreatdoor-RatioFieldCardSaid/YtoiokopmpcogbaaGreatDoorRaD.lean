/-
  CONTRACT of cross.
  Conditions: those that each theorem names.
-/
import Derived.Test.YtoiokopmpcogbaaGreatDoorRaC
import Derived.RegionTactic
namespace Go.Proofs.YtoiokopmpcogbaaGreatDoor
open Go.RowKit Go.Sv
def crOk (an ad bn bd : List Int) : Bool := vR an ad && vR bn bd && decide (mulE an bd = 0)
def crE (an ad bn bd : List Int) : Int := if (vR an ad && vR bn bd) = true then (if mulE an bd = 0 then mulE bn ad else mulE an bd) else 1
def crX (an ad bn bd : List Int) : List Int := if crOk an ad bn bd = true then mulV an bd else []
def crY (an ad bn bd : List Int) : List Int := if crOk an ad bn bd = true then mulV bn ad else []
theorem cr_no {an ad bn bd : List Int} (h : (vR an ad && vR bn bd) = false) : crX an ad bn bd = [] ∧ crY an ad bn bd = [] ∧ crE an ad bn bd = 1 := by
  unfold crX crY crE crOk
  rw [h]
  exact ⟨rfl, rfl, rfl⟩
theorem cr_big {an ad bn bd : List Int} (h : (vR an ad && vR bn bd) = true) (h1 : mulE an bd ≠ 0) : crX an ad bn bd = [] ∧ crY an ad bn bd = [] ∧ crE an ad bn bd = mulE an bd := by
  unfold crX crY crE crOk
  rw [h, decide_eq_false h1, if_pos rfl, if_neg h1]
  exact ⟨rfl, rfl, rfl⟩
theorem cr_ok {an ad bn bd : List Int} (h : (vR an ad && vR bn bd) = true) (h1 : mulE an bd = 0) : crX an ad bn bd = mulV an bd ∧ crY an ad bn bd = mulV bn ad ∧ crE an ad bn bd = mulE bn ad := by
  unfold crX crY crE crOk
  rw [h, decide_eq_true h1, if_pos rfl, if_pos h1]
  exact ⟨rfl, rfl, rfl⟩
set_option maxHeartbeats 2000000 in
set_option maxRecDepth 100000 in
theorem cross_any (w : World) (an : List Int) (qan : LmP) (han : RLm w w.heap.size an qan) (lan : Lim an) (ad : List Int) (qad : LmP) (had : RLm w w.heap.size ad qad) (lad : Lim ad) (bn : List Int) (qbn : LmP) (hbn : RLm w w.heap.size bn qbn) (lbn : Lim bn) (bd : List Int) (qbd : LmP) (hbd : RLm w w.heap.size bd qbd) (lbd : Lim bd) :
    Calls Tryz.prog 50 #[ratV an qan ad qad, ratV bn qbn bd qbd] w (Ret (DRes w (crX an ad bn bd) (crY an ad bn bd) (crE an ad bn bd))) := by
  have S := Lib.hid (natArg (natArg (natArg (natArg (Fm.init w) hbd) hbn) had) han)
  have HVa := Lib.hid (fun q r w' (h1 : RLm w' w'.heap.size an q) (h2 : RLm w' w'.heap.size ad r) => validR_any w' an q h1 lan ad r h2 lad)
  have HVb := Lib.hid (fun q r w' (h1 : RLm w' w'.heap.size bn q) (h2 : RLm w' w'.heap.size bd r) => validR_any w' bn q h1 lbn bd r h2 lbd)
  have HM := Lib.hid (fun q0 q1 w' (h0 : RLm w' w'.heap.size (an) q0) (h1 : RLm w' w'.heap.size (bd) q1) => by
    have := mul_any (an) (bd) q0 q1 w' h0 h1 (lan) (lbd)
    exact this)
  have HN := Lib.hid (fun q0 q1 w' (h0 : RLm w' w'.heap.size (bn) q0) (h1 : RLm w' w'.heap.size (ad) q1) => by
    have := mul_any (bn) (ad) q0 q1 w' h0 h1 (lbn) (lad)
    exact this)
  have eNo := Lib.hid (cr_no (an := an) (ad := ad) (bn := bn) (bd := bd))
  have eBig := Lib.hid (cr_big (an := an) (ad := ad) (bn := bn) (bd := bd))
  have eOk := Lib.hid (cr_ok (an := an) (ad := ad) (bn := bn) (bd := bd))
  obtain ⟨va, hva⟩ : ∃ v, vR an ad = v := ⟨_, rfl⟩
  obtain ⟨vb, hvb⟩ : ∃ v, vR bn bd = v := ⟨_, rfl⟩
  obtain ⟨X, hX⟩ : ∃ V, mulV an bd = V := ⟨_, rfl⟩
  obtain ⟨Y, hY⟩ : ∃ V, mulV bn ad = V := ⟨_, rfl⟩
  obtain ⟨E, hE⟩ : ∃ V, mulE an bd = V := ⟨_, rfl⟩
  obtain ⟨F, hF⟩ : ∃ V, mulE bn ad = V := ⟨_, rfl⟩
  rw [hva] at HVa eNo eBig eOk
  rw [hvb] at HVb eNo eBig eOk
  rw [hX, hE] at HM
  rw [hY, hF] at HN
  rw [hE] at eBig
  rw [hX, hY, hE, hF] at eOk
  clear hva hvb hX hY hE hF
  obtain ⟨qana, qanc⟩ := qan
  obtain ⟨qada, qadc⟩ := qad
  obtain ⟨qbna, qbnc⟩ := qbn
  obtain ⟨qbda, qbdc⟩ := qbd
  replace S := Lib.hid (S.out.box 28 [.slice qana an.length qanc, .slice qada ad.length qadc])
  replace S := Lib.hid (S.out.box' 28 [.slice qbna bn.length qbnc, .slice qbda bd.length qbdc] (K := w.heap.size + 1) (by simp))
  replace S := Lib.hid (S.out.box' 24 [.slice none 0 0] (K := w.heap.size + 1 + 1) (by simp))
  replace S := Lib.hid (S.out.box' 24 [.slice none 0 0] (K := w.heap.size + 1 + 1 + 1) (by simp))
  clear han had hbn hbd
  go_enter Tryz.func50, Tryz.ntmps50
  go_wp2_with fail
  refine (HVa.out _ _ _ S.out.r0 S.out.r1).mono ?_
  rintro e w1 ⟨rfl, hb⟩
  replace S := Lib.hid (S.out.call hb)
  clear hb
  obtain ⟨⟨z3, f3, y3, -⟩, ⟨z2, f2, y2, -⟩, ⟨z1, f1, y1, y1a, -⟩, ⟨z0, f0, y0, y0a, -⟩, -⟩ := S.out.facts
  clear HVa
  cases va
  · replace S := Lib.hid (S.out.set 1 rfl 0 (.slice none 0 0))
    replace S := Lib.hid (S.out.set 0 rfl 0 (.slice none 0 0))
    have u := Lib.hid (eNo.out rfl)
    go_wp2
    refine bodyPost_ret (v := .tuple #[.agg #[.slice none 0 0], .agg #[.slice none 0 0], .int .i64 1]) (by simp [results, Tryz.results50, go_sem, y2, y3]) rfl ?_
    rw [u.out.1, u.out.2.1, u.out.2.2]
    exact Ret.mk (DRes.none_ S.out.bel)
  · go_wp2_with fail
    refine (HVb.out _ _ _ S.out.r2 S.out.r3).mono ?_
    rintro e w2 ⟨rfl, hb⟩
    replace S := Lib.hid (S.out.call hb)
    clear hb z0 f0 y0 y0a z1 f1 y1 y1a z2 f2 y2 z3 f3 y3
    obtain ⟨⟨z3, f3, y3, -⟩, ⟨z2, f2, y2, -⟩, ⟨z1, f1, y1, y1a, -⟩, ⟨z0, f0, y0, y0a, -⟩, -⟩ := S.out.facts
    clear HVb
    cases vb
    · replace S := Lib.hid (S.out.set 1 rfl 0 (.slice none 0 0))
      replace S := Lib.hid (S.out.set 0 rfl 0 (.slice none 0 0))
      have u := Lib.hid (eNo.out rfl)
      go_wp2
      refine bodyPost_ret (v := .tuple #[.agg #[.slice none 0 0], .agg #[.slice none 0 0], .int .i64 1]) (by simp [results, Tryz.results50, go_sem, y2, y3]) rfl ?_
      rw [u.out.1, u.out.2.1, u.out.2.2]
      exact Ret.mk (DRes.none_ S.out.bel)
    · clear eNo
      go_wp2_with fail
      refine (HM.out _ _ _ S.out.r0 S.out.r3).mono ?_
      rintro e w3 ⟨_, rfl, q1, rfl, hr, hf, hb⟩
      have fr1 := Lib.hid (hf.le S.out.size)
      replace S := Lib.hid (natRes S.out hr hf hb)
      clear hr hf hb z0 f0 y0 y0a z1 f1 y1 y1a z2 f2 y2 z3 f3 y3
      obtain ⟨⟨z3, f3, y3, -⟩, ⟨z2, f2, y2, -⟩, ⟨z1, f1, y1, y1a, -⟩, ⟨z0, f0, y0, y0a, -⟩, -⟩ := S.out.facts
      by_cases c : E = 0
      · have u := Lib.hid (eOk.out rfl c)
        clear eOk eBig
        subst c
        replace S := Lib.hid (S.out.box 24 [.slice q1.a (X).length q1.c])
        go_wp2_with fail
        refine (HN.out _ _ _ S.out.r3 S.out.r2).mono ?_
        rintro e w4 ⟨_, rfl, q2, rfl, hr, hf, hb⟩
        have fr2 := Lib.hid (hf.le S.out.size)
        replace S := Lib.hid (natRes S.out hr hf hb)
        clear hr hf hb z0 f0 y0 y0a z1 f1 y1 y1a z2 f2 y2 z3 f3 y3
        obtain ⟨⟨z4, f4, y4, -⟩, ⟨z3, f3, y3, -⟩, ⟨z2, f2, y2, -⟩, ⟨z1, f1, y1, y1a, -⟩, ⟨z0, f0, y0, y0a, -⟩, -⟩ := S.out.facts
        replace S := Lib.hid (S.out.set 2 rfl 0 (.slice q1.a X.length q1.c))
        replace S := Lib.hid (S.out.set 1 rfl 0 (.slice q2.a Y.length q2.c))
        replace S := Lib.hid (S.out.box' 24 [.slice q2.a (Y).length q2.c] (K := w4.heap.size) (by simp))
        replace S := Lib.hid S.out.drew
        go_wp2
        go_region
        all_goals
          go_wp2
          refine bodyPost_ret (v := .tuple #[natV X q1, natV Y q2, .int .i64 F]) (by simp [results, Tryz.results50, go_sem, y2, y3, z2, z3]) rfl ?_
          rw [u.out.1, u.out.2.1, u.out.2.2]
          exact Ret.mk ⟨q1, q2, rfl, natOld S.out (by simp), natOld S.out (by simp), fr1.out, fr2.out, S.out.bel⟩
      · have u := Lib.hid (eBig.out rfl c)
        clear eOk eBig
        have dE : (E != 0) = true := bne_iff_ne.2 c
        clear c
        replace S := Lib.hid (S.out.set 1 rfl 0 (.slice none 0 0))
        replace S := Lib.hid (S.out.set 0 rfl 0 (.slice none 0 0))
        replace S := Lib.hid (S.out.box' 24 [.slice q1.a (X).length q1.c] (K := w3.heap.size) (by simp))
        go_wp2
        refine bodyPost_ret (v := .tuple #[.agg #[.slice none 0 0], .agg #[.slice none 0 0], .int .i64 E]) (by simp [results, Tryz.results50, go_sem, y2, y3, z2, z3]) rfl ?_
        rw [u.out.1, u.out.2.1, u.out.2.2]
        exact Ret.mk (DRes.none_ S.out.bel)
end Go.Proofs.YtoiokopmpcogbaaGreatDoor
