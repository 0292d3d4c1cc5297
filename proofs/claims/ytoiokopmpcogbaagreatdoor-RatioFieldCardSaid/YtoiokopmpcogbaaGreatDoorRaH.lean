/-
  CONTRACTS of the reference: cross.
  Conditions: those that each theorem names.
-/
import Derived.Test.YtoiokopmpcogbaaGreatDoorRaG
namespace Go.Proofs.YtoiokopmpcogbaaGreatDoor
open Go.RowKit Go.Sv
/-- three numbers and an error -/
def PRes (w : World) (x y z : List Int) (E : Int) (v : Value) (w' : World) : Prop :=
  ∃ q r s : LmP, v = .tuple #[.agg #[.slice q.a x.length q.c, .slice r.a y.length r.c, .slice s.a z.length s.c], .int .i64 E] ∧ RLm w' w'.heap.size x q ∧ RLm w' w'.heap.size y r ∧ RLm w' w'.heap.size z s ∧ Fr w.heap.size q ∧ Fr w.heap.size r ∧ Fr w.heap.size s ∧ Below w.heap.size w w'
section
variable {w W W' : World} {bs : List Bx} {rs : List Rd} {l m n : List Int} {q r s : LmP}
theorem natRes3 (S : Fm w W bs rs) (hr : RLm W' W'.heap.size l q) (hr' : RLm W' W'.heap.size m r) (hs : RLm W' W'.heap.size n s) (hf : Fr W.heap.size q) (hf' : Fr W.heap.size r) (hg' : Fr W.heap.size s) (hb : Below W.heap.size W W') : Fm w W' bs (rowRd n s :: rowRd m r :: rowRd l q :: rs) :=
  (natRes2 S hr hr' hf hf' hb).also (rowRd n s) hs (fun g hg => ⟨rowRd_lt hs g hg, fun x hx e => by
    obtain ⟨_, a, ha, e'⟩ := hg
    have := hg' a ha
    have := S.b_lt hx
    omega⟩)
theorem PRes.none_ (w : World) {W : World} {E : Int} (hb : Below w.heap.size w W) : PRes w [] [] [] E (.tuple #[.agg #[.slice none 0 0, .slice none 0 0, .slice none 0 0], .int .i64 E]) W :=
  ⟨⟨none, 0⟩, ⟨none, 0⟩, ⟨none, 0⟩, rfl, RLm.none_ _ _, RLm.none_ _ _, RLm.none_ _ _, Fr.none_ _, Fr.none_ _, Fr.none_ _, hb⟩
end
/-- the reference's error -/
def rE3 (v p q r : Int) : Int := if v = 0 then (if p = 0 then (if q = 0 then (if r = 0 then 0 else 3) else 3) else 3) else v
def pX (E : Int) (l : List Int) : List Int := if E = 0 then l else []
theorem rE_a (q r : Int) {p : Int} (h : ¬ p = 0) : rE3 0 p q r = 3 := (if_pos rfl).trans (if_neg h)
theorem rE_b (r : Int) {q : Int} (h : ¬ q = 0) : rE3 0 0 q r = 3 := (if_pos rfl).trans ((if_pos rfl).trans (if_neg h))
theorem rE_c {r : Int} (h : ¬ r = 0) : rE3 0 0 0 r = 3 := (if_pos rfl).trans ((if_pos rfl).trans ((if_pos rfl).trans (if_neg h)))
theorem pX_no {E : Int} (K : Int) (e : E = K) (h : K ≠ 0) (a b c : List Int) : pX E a = [] ∧ pX E b = [] ∧ pX E c = [] ∧ E = K := ⟨if_neg (e ▸ h), if_neg (e ▸ h), if_neg (e ▸ h), e⟩
def thE (f : Bool) (ad bd : List Int) : Int := if f = true then mulE ad bd else 0
def thZ (f : Bool) (ad bd : List Int) : List Int := if f = true then mulV ad bd else []
def rcE (an ad bn bd : List Int) (f : Bool) : Int := rE3 (vE an ad bn bd) (mulE an bd) (mulE bn ad) (thE f ad bd)
set_option maxHeartbeats 2000000 in
set_option maxRecDepth 100000 in
theorem rcross_true (w : World) (an : List Int) (qan : LmP) (han : RLm w w.heap.size an qan) (lan : Lim an) (ad : List Int) (qad : LmP) (had : RLm w w.heap.size ad qad) (lad : Lim ad) (bn : List Int) (qbn : LmP) (hbn : RLm w w.heap.size bn qbn) (lbn : Lim bn) (bd : List Int) (qbd : LmP) (hbd : RLm w w.heap.size bd qbd) (lbd : Lim bd) :
    Calls Tryz.prog 53 #[ratV an qan ad qad, ratV bn qbn bd qbd, .bool true] w (Ret (PRes w (pX (rcE an ad bn bd true) (mulV an bd)) (pX (rcE an ad bn bd true) (mulV bn ad)) (pX (rcE an ad bn bd true) (thZ true ad bd)) (rcE an ad bn bd true))) := by
  have S := Lib.hid (natArg (natArg (natArg (natArg (Fm.init w) hbd) hbn) had) han)
  show Calls Tryz.prog 53 _ w (Ret (PRes w (pX (rE3 (vE an ad bn bd) (mulE an bd) (mulE bn ad) (mulE ad bd)) (mulV an bd)) (pX (rE3 (vE an ad bn bd) (mulE an bd) (mulE bn ad) (mulE ad bd)) (mulV bn ad)) (pX (rE3 (vE an ad bn bd) (mulE an bd) (mulE bn ad) (mulE ad bd)) (mulV ad bd)) (rE3 (vE an ad bn bd) (mulE an bd) (mulE bn ad) (mulE ad bd))))
  have HVa := Lib.hid (fun q r w' (h1 : RLm w' w'.heap.size an q) (h2 : RLm w' w'.heap.size ad r) => rvalidR_any w' an q h1 lan ad r h2 lad)
  have HVb := Lib.hid (fun q r w' (h1 : RLm w' w'.heap.size bn q) (h2 : RLm w' w'.heap.size bd r) => rvalidR_any w' bn q h1 lbn bd r h2 lbd)
  have H1 := Lib.hid (fun q r w' (h1 : RLm w' w'.heap.size an q) (h2 : RLm w' w'.heap.size bd r) => rmul_any an bd q r w' h1 h2 lan lbd)
  have H2 := Lib.hid (fun q r w' (h1 : RLm w' w'.heap.size bn q) (h2 : RLm w' w'.heap.size ad r) => rmul_any bn ad q r w' h1 h2 lbn lad)
  have H3 := Lib.hid (fun q r w' (h1 : RLm w' w'.heap.size ad q) (h2 : RLm w' w'.heap.size bd r) => rmul_any ad bd q r w' h1 h2 lad lbd)
  have eNo := Lib.hid (vE_no (an := an) (ad := ad) (bn := bn) (bd := bd))
  have eOk := Lib.hid (vE_ok (an := an) (ad := ad) (bn := bn) (bd := bd))
  obtain ⟨va, hva⟩ : ∃ v, vR an ad = v := ⟨_, rfl⟩
  obtain ⟨vb, hvb⟩ : ∃ v, vR bn bd = v := ⟨_, rfl⟩
  rw [hva] at HVa eNo eOk
  rw [hvb] at HVb eNo eOk
  obtain ⟨E0, hE0⟩ : ∃ V, vE an ad bn bd = V := ⟨_, rfl⟩
  obtain ⟨E1, hE1⟩ : ∃ V, mulE an bd = V := ⟨_, rfl⟩
  obtain ⟨E2, hE2⟩ : ∃ V, mulE bn ad = V := ⟨_, rfl⟩
  obtain ⟨X, hX⟩ : ∃ V, mulV an bd = V := ⟨_, rfl⟩
  obtain ⟨Y, hY⟩ : ∃ V, mulV bn ad = V := ⟨_, rfl⟩
  obtain ⟨E3, hE3⟩ : ∃ V, mulE ad bd = V := ⟨_, rfl⟩
  obtain ⟨Z, hZ⟩ : ∃ V, mulV ad bd = V := ⟨_, rfl⟩
  rw [hE0] at eNo eOk
  rw [hX, hE1] at H1
  rw [hY, hE2] at H2
  rw [hZ, hE3] at H3
  rw [hE0, hE1, hE2, hX, hY, hE3, hZ]
  clear hva hvb hE0 hE1 hE2 hX hY hE3 hZ
  obtain ⟨qana, qanc⟩ := qan
  obtain ⟨qada, qadc⟩ := qad
  obtain ⟨qbna, qbnc⟩ := qbn
  obtain ⟨qbda, qbdc⟩ := qbd
  replace S := Lib.hid (S.out.box 28 [.slice qana an.length qanc, .slice qada ad.length qadc])
  replace S := Lib.hid (S.out.box' 28 [.slice qbna bn.length qbnc, .slice qbda bd.length qbdc] (K := w.heap.size + 1) (by simp))
  replace S := Lib.hid (S.out.box' 63 [.slice none 0 0, .slice none 0 0, .slice none 0 0] (K := w.heap.size + 1 + 1) (by simp))
  clear han had hbn hbd
  go_enter Tryz.func53, Tryz.ntmps53
  go_wp2_with fail
  refine (HVa.out _ _ _ S.out.r0 S.out.r1).mono ?_
  rintro e w1 ⟨rfl, hb⟩
  replace S := Lib.hid (S.out.call hb)
  clear hb
  obtain ⟨⟨z2, f2, y2, y2a, y2b, -⟩, ⟨z1, f1, y1, y1a, -⟩, ⟨z0, f0, y0, y0a, -⟩, -⟩ := S.out.facts
  clear HVa
  cases va
  · have v := eNo.out rfl
    subst v
    replace S := Lib.hid (S.out.set 0 rfl 0 (.slice none 0 0))
    replace S := Lib.hid (S.out.set 0 rfl 1 (.slice none 0 0))
    replace S := Lib.hid (S.out.set 0 rfl 2 (.slice none 0 0))
    have u := Lib.hid (pX_no 1 (show rE3 1 E1 E2 E3 = 1 from rfl) (by decide) X Y Z)
    go_wp2
    refine bodyPost_ret (v := .tuple #[.agg #[.slice none 0 0, .slice none 0 0, .slice none 0 0], .int .i64 1]) (by simp [results, Tryz.results53, go_sem, y2, y2a, y2b]) rfl ?_
    rw [u.out.1, u.out.2.1, u.out.2.2.1, u.out.2.2.2]
    exact Ret.mk (PRes.none_ w S.out.bel)
  · go_wp2_with fail
    refine (HVb.out _ _ _ S.out.r2 S.out.r3).mono ?_
    rintro e w2 ⟨rfl, hb⟩
    replace S := Lib.hid (S.out.call hb)
    clear hb z0 f0 y0 y0a z1 f1 y1 y1a z2 f2 y2 y2a y2b
    obtain ⟨⟨z2, f2, y2, y2a, y2b, -⟩, ⟨z1, f1, y1, y1a, -⟩, ⟨z0, f0, y0, y0a, -⟩, -⟩ := S.out.facts
    clear HVb
    cases vb
    · have v := eNo.out rfl
      subst v
      replace S := Lib.hid (S.out.set 0 rfl 0 (.slice none 0 0))
      replace S := Lib.hid (S.out.set 0 rfl 1 (.slice none 0 0))
      replace S := Lib.hid (S.out.set 0 rfl 2 (.slice none 0 0))
      have u := Lib.hid (pX_no 1 (show rE3 1 E1 E2 E3 = 1 from rfl) (by decide) X Y Z)
      go_wp2
      refine bodyPost_ret (v := .tuple #[.agg #[.slice none 0 0, .slice none 0 0, .slice none 0 0], .int .i64 1]) (by simp [results, Tryz.results53, go_sem, y2, y2a, y2b]) rfl ?_
      rw [u.out.1, u.out.2.1, u.out.2.2.1, u.out.2.2.2]
      exact Ret.mk (PRes.none_ w S.out.bel)
    · have v := eOk.out rfl
      subst v
      replace S := Lib.hid (S.out.box 63 [.slice none 0 0, .slice none 0 0, .slice none 0 0])
      go_wp2_with fail
      refine (H1.out _ _ _ S.out.r0 S.out.r3).mono ?_
      rintro e w3 ⟨_, rfl, q1, rfl, hr, hf, hb⟩
      have fr1 := Lib.hid (hf.le S.out.size)
      replace S := Lib.hid (natRes S.out hr hf hb)
      clear hr hf hb z0 f0 y0 y0a z1 f1 y1 y1a z2 f2 y2 y2a y2b
      obtain ⟨⟨z3, f3, y3, y3a, y3b, -⟩, ⟨z2, f2, y2, y2a, y2b, -⟩, ⟨z1, f1, y1, y1a, -⟩, ⟨z0, f0, y0, y0a, -⟩, -⟩ := S.out.facts
      replace S := Lib.hid (S.out.set 0 rfl 0 (.slice q1.a X.length q1.c))
      obtain ⟨⟨z3, f3, y3, y3a, y3b, -⟩, ⟨z2, f2, y2, y2a, y2b, -⟩, ⟨z1, f1, y1, y1a, -⟩, ⟨z0, f0, y0, y0a, -⟩, -⟩ := S.out.facts
      go_wp2_with fail
      refine (H2.out _ _ _ S.out.r3 S.out.r2).mono ?_
      rintro e w4 ⟨_, rfl, q2, rfl, hr, hf, hb⟩
      have fr2 := Lib.hid (hf.le S.out.size)
      replace S := Lib.hid (natRes S.out hr hf hb)
      clear hr hf hb z0 f0 y0 y0a z1 f1 y1 y1a z2 f2 y2 y2a y2b z3 f3 y3 y3a y3b
      obtain ⟨⟨z3, f3, y3, y3a, y3b, -⟩, ⟨z2, f2, y2, y2a, y2b, -⟩, ⟨z1, f1, y1, y1a, -⟩, ⟨z0, f0, y0, y0a, -⟩, -⟩ := S.out.facts
      replace S := Lib.hid (S.out.set 0 rfl 1 (.slice q2.a Y.length q2.c))
      obtain ⟨⟨z3, f3, y3, y3a, y3b, -⟩, ⟨z2, f2, y2, y2a, y2b, -⟩, ⟨z1, f1, y1, y1a, -⟩, ⟨z0, f0, y0, y0a, -⟩, -⟩ := S.out.facts
      go_wp2_with fail
      refine (H3.out _ _ _ S.out.r3 S.out.r5).mono ?_
      rintro e w5 ⟨_, rfl, q3, rfl, hr, hf, hb⟩
      have fr3 := Lib.hid (hf.le S.out.size)
      replace S := Lib.hid (natRes S.out hr hf hb)
      clear hr hf hb z0 f0 y0 y0a z1 f1 y1 y1a z2 f2 y2 y2a y2b z3 f3 y3 y3a y3b
      obtain ⟨⟨z3, f3, y3, y3a, y3b, -⟩, ⟨z2, f2, y2, y2a, y2b, -⟩, ⟨z1, f1, y1, y1a, -⟩, ⟨z0, f0, y0, y0a, -⟩, -⟩ := S.out.facts
      replace S := Lib.hid (S.out.set 0 rfl 2 (.slice q3.a Z.length q3.c))
      obtain ⟨⟨z3, f3, y3, y3a, y3b, -⟩, ⟨z2, f2, y2, y2a, y2b, -⟩, ⟨z1, f1, y1, y1a, -⟩, ⟨z0, f0, y0, y0a, -⟩, -⟩ := S.out.facts
      by_cases c : E1 = 0
      · subst c
        by_cases c : E2 = 0
        · subst c
          by_cases c : E3 = 0
          · subst c
            replace S := Lib.hid (S.out.set 1 rfl 0 (.slice q1.a X.length q1.c))
            replace S := Lib.hid (S.out.set 1 rfl 1 (.slice q2.a Y.length q2.c))
            replace S := Lib.hid (S.out.set 1 rfl 2 (.slice q3.a Z.length q3.c))
            go_wp2
            refine bodyPost_ret (v := .tuple #[.agg #[.slice q1.a X.length q1.c, .slice q2.a Y.length q2.c, .slice q3.a Z.length q3.c], .int .i64 0]) (by simp [results, Tryz.results53, go_sem, y2, y2a, y2b]) rfl ?_
            exact (show Ret (PRes w X Y Z 0) _ _ from Ret.mk ⟨q1, q2, q3, rfl, natOld S.out (by simp), natOld S.out (by simp), natOld S.out (by simp), fr1.out, fr2.out, fr3.out, S.out.bel⟩)
          · have dE : (E3 != 0) = true := bne_iff_ne.2 c
            replace S := Lib.hid (S.out.set 1 rfl 0 (.slice none 0 0))
            replace S := Lib.hid (S.out.set 1 rfl 1 (.slice none 0 0))
            replace S := Lib.hid (S.out.set 1 rfl 2 (.slice none 0 0))
            have u := Lib.hid (pX_no 3 (rE_c c) (by decide) X Y Z)
            go_wp2
            refine bodyPost_ret (v := .tuple #[.agg #[.slice none 0 0, .slice none 0 0, .slice none 0 0], .int .i64 3]) (by simp [results, Tryz.results53, go_sem, y2, y2a, y2b]) rfl ?_
            rw [u.out.1, u.out.2.1, u.out.2.2.1, u.out.2.2.2]
            exact Ret.mk (PRes.none_ w S.out.bel)
        · have dE : (E2 != 0) = true := bne_iff_ne.2 c
          replace S := Lib.hid (S.out.set 1 rfl 0 (.slice none 0 0))
          replace S := Lib.hid (S.out.set 1 rfl 1 (.slice none 0 0))
          replace S := Lib.hid (S.out.set 1 rfl 2 (.slice none 0 0))
          have u := Lib.hid (pX_no 3 (rE_b E3 c) (by decide) X Y Z)
          go_wp2
          refine bodyPost_ret (v := .tuple #[.agg #[.slice none 0 0, .slice none 0 0, .slice none 0 0], .int .i64 3]) (by simp [results, Tryz.results53, go_sem, y2, y2a, y2b]) rfl ?_
          rw [u.out.1, u.out.2.1, u.out.2.2.1, u.out.2.2.2]
          exact Ret.mk (PRes.none_ w S.out.bel)
      · have dE : (E1 != 0) = true := bne_iff_ne.2 c
        replace S := Lib.hid (S.out.set 1 rfl 0 (.slice none 0 0))
        replace S := Lib.hid (S.out.set 1 rfl 1 (.slice none 0 0))
        replace S := Lib.hid (S.out.set 1 rfl 2 (.slice none 0 0))
        have u := Lib.hid (pX_no 3 (rE_a E2 E3 c) (by decide) X Y Z)
        go_wp2
        refine bodyPost_ret (v := .tuple #[.agg #[.slice none 0 0, .slice none 0 0, .slice none 0 0], .int .i64 3]) (by simp [results, Tryz.results53, go_sem, y2, y2a, y2b]) rfl ?_
        rw [u.out.1, u.out.2.1, u.out.2.2.1, u.out.2.2.2]
        exact Ret.mk (PRes.none_ w S.out.bel)
set_option maxHeartbeats 2000000 in
set_option maxRecDepth 100000 in
theorem rcross_false (w : World) (an : List Int) (qan : LmP) (han : RLm w w.heap.size an qan) (lan : Lim an) (ad : List Int) (qad : LmP) (had : RLm w w.heap.size ad qad) (lad : Lim ad) (bn : List Int) (qbn : LmP) (hbn : RLm w w.heap.size bn qbn) (lbn : Lim bn) (bd : List Int) (qbd : LmP) (hbd : RLm w w.heap.size bd qbd) (lbd : Lim bd) :
    Calls Tryz.prog 53 #[ratV an qan ad qad, ratV bn qbn bd qbd, .bool false] w (Ret (PRes w (pX (rcE an ad bn bd false) (mulV an bd)) (pX (rcE an ad bn bd false) (mulV bn ad)) (pX (rcE an ad bn bd false) (thZ false ad bd)) (rcE an ad bn bd false))) := by
  have S := Lib.hid (natArg (natArg (natArg (natArg (Fm.init w) hbd) hbn) had) han)
  show Calls Tryz.prog 53 _ w (Ret (PRes w (pX (rE3 (vE an ad bn bd) (mulE an bd) (mulE bn ad) 0) (mulV an bd)) (pX (rE3 (vE an ad bn bd) (mulE an bd) (mulE bn ad) 0) (mulV bn ad)) (pX (rE3 (vE an ad bn bd) (mulE an bd) (mulE bn ad) 0) []) (rE3 (vE an ad bn bd) (mulE an bd) (mulE bn ad) 0)))
  have HVa := Lib.hid (fun q r w' (h1 : RLm w' w'.heap.size an q) (h2 : RLm w' w'.heap.size ad r) => rvalidR_any w' an q h1 lan ad r h2 lad)
  have HVb := Lib.hid (fun q r w' (h1 : RLm w' w'.heap.size bn q) (h2 : RLm w' w'.heap.size bd r) => rvalidR_any w' bn q h1 lbn bd r h2 lbd)
  have H1 := Lib.hid (fun q r w' (h1 : RLm w' w'.heap.size an q) (h2 : RLm w' w'.heap.size bd r) => rmul_any an bd q r w' h1 h2 lan lbd)
  have H2 := Lib.hid (fun q r w' (h1 : RLm w' w'.heap.size bn q) (h2 : RLm w' w'.heap.size ad r) => rmul_any bn ad q r w' h1 h2 lbn lad)
  have eNo := Lib.hid (vE_no (an := an) (ad := ad) (bn := bn) (bd := bd))
  have eOk := Lib.hid (vE_ok (an := an) (ad := ad) (bn := bn) (bd := bd))
  obtain ⟨va, hva⟩ : ∃ v, vR an ad = v := ⟨_, rfl⟩
  obtain ⟨vb, hvb⟩ : ∃ v, vR bn bd = v := ⟨_, rfl⟩
  rw [hva] at HVa eNo eOk
  rw [hvb] at HVb eNo eOk
  obtain ⟨E0, hE0⟩ : ∃ V, vE an ad bn bd = V := ⟨_, rfl⟩
  obtain ⟨E1, hE1⟩ : ∃ V, mulE an bd = V := ⟨_, rfl⟩
  obtain ⟨E2, hE2⟩ : ∃ V, mulE bn ad = V := ⟨_, rfl⟩
  obtain ⟨X, hX⟩ : ∃ V, mulV an bd = V := ⟨_, rfl⟩
  obtain ⟨Y, hY⟩ : ∃ V, mulV bn ad = V := ⟨_, rfl⟩
  rw [hE0] at eNo eOk
  rw [hX, hE1] at H1
  rw [hY, hE2] at H2
  rw [hE0, hE1, hE2, hX, hY]
  clear hva hvb hE0 hE1 hE2 hX hY
  obtain ⟨qana, qanc⟩ := qan
  obtain ⟨qada, qadc⟩ := qad
  obtain ⟨qbna, qbnc⟩ := qbn
  obtain ⟨qbda, qbdc⟩ := qbd
  replace S := Lib.hid (S.out.box 28 [.slice qana an.length qanc, .slice qada ad.length qadc])
  replace S := Lib.hid (S.out.box' 28 [.slice qbna bn.length qbnc, .slice qbda bd.length qbdc] (K := w.heap.size + 1) (by simp))
  replace S := Lib.hid (S.out.box' 63 [.slice none 0 0, .slice none 0 0, .slice none 0 0] (K := w.heap.size + 1 + 1) (by simp))
  clear han had hbn hbd
  go_enter Tryz.func53, Tryz.ntmps53
  go_wp2_with fail
  refine (HVa.out _ _ _ S.out.r0 S.out.r1).mono ?_
  rintro e w1 ⟨rfl, hb⟩
  replace S := Lib.hid (S.out.call hb)
  clear hb
  obtain ⟨⟨z2, f2, y2, y2a, y2b, -⟩, ⟨z1, f1, y1, y1a, -⟩, ⟨z0, f0, y0, y0a, -⟩, -⟩ := S.out.facts
  clear HVa
  cases va
  · have v := eNo.out rfl
    subst v
    replace S := Lib.hid (S.out.set 0 rfl 0 (.slice none 0 0))
    replace S := Lib.hid (S.out.set 0 rfl 1 (.slice none 0 0))
    replace S := Lib.hid (S.out.set 0 rfl 2 (.slice none 0 0))
    have u := Lib.hid (pX_no 1 (show rE3 1 E1 E2 0 = 1 from rfl) (by decide) X Y [])
    go_wp2
    refine bodyPost_ret (v := .tuple #[.agg #[.slice none 0 0, .slice none 0 0, .slice none 0 0], .int .i64 1]) (by simp [results, Tryz.results53, go_sem, y2, y2a, y2b]) rfl ?_
    rw [u.out.1, u.out.2.1, u.out.2.2.1, u.out.2.2.2]
    exact Ret.mk (PRes.none_ w S.out.bel)
  · go_wp2_with fail
    refine (HVb.out _ _ _ S.out.r2 S.out.r3).mono ?_
    rintro e w2 ⟨rfl, hb⟩
    replace S := Lib.hid (S.out.call hb)
    clear hb z0 f0 y0 y0a z1 f1 y1 y1a z2 f2 y2 y2a y2b
    obtain ⟨⟨z2, f2, y2, y2a, y2b, -⟩, ⟨z1, f1, y1, y1a, -⟩, ⟨z0, f0, y0, y0a, -⟩, -⟩ := S.out.facts
    clear HVb
    cases vb
    · have v := eNo.out rfl
      subst v
      replace S := Lib.hid (S.out.set 0 rfl 0 (.slice none 0 0))
      replace S := Lib.hid (S.out.set 0 rfl 1 (.slice none 0 0))
      replace S := Lib.hid (S.out.set 0 rfl 2 (.slice none 0 0))
      have u := Lib.hid (pX_no 1 (show rE3 1 E1 E2 0 = 1 from rfl) (by decide) X Y [])
      go_wp2
      refine bodyPost_ret (v := .tuple #[.agg #[.slice none 0 0, .slice none 0 0, .slice none 0 0], .int .i64 1]) (by simp [results, Tryz.results53, go_sem, y2, y2a, y2b]) rfl ?_
      rw [u.out.1, u.out.2.1, u.out.2.2.1, u.out.2.2.2]
      exact Ret.mk (PRes.none_ w S.out.bel)
    · have v := eOk.out rfl
      subst v
      replace S := Lib.hid (S.out.box 63 [.slice none 0 0, .slice none 0 0, .slice none 0 0])
      go_wp2_with fail
      refine (H1.out _ _ _ S.out.r0 S.out.r3).mono ?_
      rintro e w3 ⟨_, rfl, q1, rfl, hr, hf, hb⟩
      have fr1 := Lib.hid (hf.le S.out.size)
      replace S := Lib.hid (natRes S.out hr hf hb)
      clear hr hf hb z0 f0 y0 y0a z1 f1 y1 y1a z2 f2 y2 y2a y2b
      obtain ⟨⟨z3, f3, y3, y3a, y3b, -⟩, ⟨z2, f2, y2, y2a, y2b, -⟩, ⟨z1, f1, y1, y1a, -⟩, ⟨z0, f0, y0, y0a, -⟩, -⟩ := S.out.facts
      replace S := Lib.hid (S.out.set 0 rfl 0 (.slice q1.a X.length q1.c))
      obtain ⟨⟨z3, f3, y3, y3a, y3b, -⟩, ⟨z2, f2, y2, y2a, y2b, -⟩, ⟨z1, f1, y1, y1a, -⟩, ⟨z0, f0, y0, y0a, -⟩, -⟩ := S.out.facts
      go_wp2_with fail
      refine (H2.out _ _ _ S.out.r3 S.out.r2).mono ?_
      rintro e w4 ⟨_, rfl, q2, rfl, hr, hf, hb⟩
      have fr2 := Lib.hid (hf.le S.out.size)
      replace S := Lib.hid (natRes S.out hr hf hb)
      clear hr hf hb z0 f0 y0 y0a z1 f1 y1 y1a z2 f2 y2 y2a y2b z3 f3 y3 y3a y3b
      obtain ⟨⟨z3, f3, y3, y3a, y3b, -⟩, ⟨z2, f2, y2, y2a, y2b, -⟩, ⟨z1, f1, y1, y1a, -⟩, ⟨z0, f0, y0, y0a, -⟩, -⟩ := S.out.facts
      replace S := Lib.hid (S.out.set 0 rfl 1 (.slice q2.a Y.length q2.c))
      obtain ⟨⟨z3, f3, y3, y3a, y3b, -⟩, ⟨z2, f2, y2, y2a, y2b, -⟩, ⟨z1, f1, y1, y1a, -⟩, ⟨z0, f0, y0, y0a, -⟩, -⟩ := S.out.facts
      by_cases c : E1 = 0
      · subst c
        by_cases c : E2 = 0
        · subst c
          replace S := Lib.hid (S.out.set 1 rfl 0 (.slice q1.a X.length q1.c))
          replace S := Lib.hid (S.out.set 1 rfl 1 (.slice q2.a Y.length q2.c))
          replace S := Lib.hid (S.out.set 1 rfl 2 (.slice none 0 0))
          go_wp2
          refine bodyPost_ret (v := .tuple #[.agg #[.slice q1.a X.length q1.c, .slice q2.a Y.length q2.c, .slice none 0 0], .int .i64 0]) (by simp [results, Tryz.results53, go_sem, y2, y2a, y2b]) rfl ?_
          exact (show Ret (PRes w X Y [] 0) _ _ from Ret.mk ⟨q1, q2, ⟨none, 0⟩, rfl, natOld S.out (by simp), natOld S.out (by simp), RLm.none_ _ _, fr1.out, fr2.out, Fr.none_ _, S.out.bel⟩)
        · have dE : (E2 != 0) = true := bne_iff_ne.2 c
          replace S := Lib.hid (S.out.set 1 rfl 0 (.slice none 0 0))
          replace S := Lib.hid (S.out.set 1 rfl 1 (.slice none 0 0))
          replace S := Lib.hid (S.out.set 1 rfl 2 (.slice none 0 0))
          have u := Lib.hid (pX_no 3 (rE_b 0 c) (by decide) X Y [])
          go_wp2
          refine bodyPost_ret (v := .tuple #[.agg #[.slice none 0 0, .slice none 0 0, .slice none 0 0], .int .i64 3]) (by simp [results, Tryz.results53, go_sem, y2, y2a, y2b]) rfl ?_
          rw [u.out.1, u.out.2.1, u.out.2.2.1, u.out.2.2.2]
          exact Ret.mk (PRes.none_ w S.out.bel)
      · have dE : (E1 != 0) = true := bne_iff_ne.2 c
        replace S := Lib.hid (S.out.set 1 rfl 0 (.slice none 0 0))
        replace S := Lib.hid (S.out.set 1 rfl 1 (.slice none 0 0))
        replace S := Lib.hid (S.out.set 1 rfl 2 (.slice none 0 0))
        have u := Lib.hid (pX_no 3 (rE_a E2 0 c) (by decide) X Y [])
        go_wp2
        refine bodyPost_ret (v := .tuple #[.agg #[.slice none 0 0, .slice none 0 0, .slice none 0 0], .int .i64 3]) (by simp [results, Tryz.results53, go_sem, y2, y2a, y2b]) rfl ?_
        rw [u.out.1, u.out.2.1, u.out.2.2.1, u.out.2.2.2]
        exact Ret.mk (PRes.none_ w S.out.bel)
end Go.Proofs.YtoiokopmpcogbaaGreatDoor
