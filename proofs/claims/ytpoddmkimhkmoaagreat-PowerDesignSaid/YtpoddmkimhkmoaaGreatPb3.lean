/-
  CONTRACTS of the reference: cross.
  Conditions: those that each theorem names.
-/
import Derived.Test.YtpoddmkimhkmoaaGreatPb2
import Derived.Test.YtpoddmkimhkmoaaGreatPb4
namespace Go.Proofs.YtpoddmkimhkmoaaGreat
open Go.RowKit Go.Sv
/-- three numbers and an error -/
def PRes (w : World) (x y z : List Int) (E : Int) (v : Value) (w' : World) : Prop :=
  ∃ q r s : LmP, v = .tuple #[.agg #[.slice q.a x.length q.c, .slice r.a y.length r.c, .slice s.a z.length s.c], .int .i64 E] ∧ RLm w' w'.heap.size x q ∧ RLm w' w'.heap.size y r ∧ RLm w' w'.heap.size z s ∧ Fr w.heap.size q ∧ Fr w.heap.size r ∧ Fr w.heap.size s ∧ Below w.heap.size w w'
section
variable {w W W' : World} {bs : List Bx} {rs : List Rd} {l m n : List Int} {q r s : LmP}
theorem natRes3 (S : Fm w W bs rs) (hr : RLm W' W'.heap.size l q) (hr' : RLm W' W'.heap.size m r) (hs : RLm W' W'.heap.size n s) (hf : Fr W.heap.size q) (hf' : Fr W.heap.size r) (hg' : Fr W.heap.size s) (hb : Below W.heap.size W W') : Fm w W' bs (rowRd n s :: rowRd m r :: rowRd l q :: rs) :=
  (natRes2 S hr hr' hf hf' hb).also (rowRd n s) hs (fun g hg => ⟨rowRd_lt hs g hg, fun x hx e => by
    obtain ⟨_, a, ha, e'⟩ := hg
    have := hg' a ha
    have := S.b_lt hx
    omega⟩)
theorem PRes.none_ (w : World) {W : World} {E : Int} (hb : Below w.heap.size w W) : PRes w [] [] [] E (.tuple #[.agg #[.slice none 0 0, .slice none 0 0, .slice none 0 0], .int .i64 E]) W :=
  ⟨⟨none, 0⟩, ⟨none, 0⟩, ⟨none, 0⟩, rfl, RLm.none_ _ _, RLm.none_ _ _, RLm.none_ _ _, Fr.none_ _, Fr.none_ _, Fr.none_ _, hb⟩
end
/-- the reference's error -/
def rE3 (v p q r : Int) : Int := if v = 0 then (if p = 0 then (if q = 0 then (if r = 0 then 0 else 3) else 3) else 3) else v
def pX (E : Int) (l : List Int) : List Int := if E = 0 then l else []
theorem rE_a (q r : Int) {p : Int} (h : ¬ p = 0) : rE3 0 p q r = 3 := (if_pos rfl).trans (if_neg h)
theorem rE_b (r : Int) {q : Int} (h : ¬ q = 0) : rE3 0 0 q r = 3 := (if_pos rfl).trans ((if_pos rfl).trans (if_neg h))
theorem rE_c {r : Int} (h : ¬ r = 0) : rE3 0 0 0 r = 3 := (if_pos rfl).trans ((if_pos rfl).trans ((if_pos rfl).trans (if_neg h)))
theorem pX_no {E : Int} (K : Int) (e : E = K) (h : K ≠ 0) (a b c : List Int) : pX E a = [] ∧ pX E b = [] ∧ pX E c = [] ∧ E = K := ⟨if_neg (e ▸ h), if_neg (e ▸ h), if_neg (e ▸ h), e⟩
def thE (f : Bool) (ad bd : List Int) : Int := if f = true then mulE ad bd else 0
def thZ (f : Bool) (ad bd : List Int) : List Int := if f = true then mulV ad bd else []
def rcE (an ad bn bd : List Int) (f : Bool) : Int := rE3 (vE an ad bn bd) (mulE an bd) (mulE bn ad) (thE f ad bd)
set_option maxHeartbeats 2000000 in
set_option maxRecDepth 100000 in
theorem rcross_true (w : World) (an : List Int) (qan : LmP) (han : RLm w w.heap.size an qan) (lan : Lim an) (ad : List Int) (qad : LmP) (had : RLm w w.heap.size ad qad) (lad : Lim ad) (bn : List Int) (qbn : LmP) (hbn : RLm w w.heap.size bn qbn) (lbn : Lim bn) (bd : List Int) (qbd : LmP) (hbd : RLm w w.heap.size bd qbd) (lbd : Lim bd) :
    Calls Tryz.prog 80 #[ratV an qan ad qad, ratV bn qbn bd qbd, .bool true] w (Ret (PRes w (pX (rcE an ad bn bd true) (mulV an bd)) (pX (rcE an ad bn bd true) (mulV bn ad)) (pX (rcE an ad bn bd true) (thZ true ad bd)) (rcE an ad bn bd true))) := by
  have S := Lib.hid (natArg (natArg (natArg (natArg (Fm.init w) hbd) hbn) had) han)
  show Calls Tryz.prog 80 _ w (Ret (PRes w (pX (rE3 (vE an ad bn bd) (mulE an bd) (mulE bn ad) (mulE ad bd)) (mulV an bd)) (pX (rE3 (vE an ad bn bd) (mulE an bd) (mulE bn ad) (mulE ad bd)) (mulV bn ad)) (pX (rE3 (vE an ad bn bd) (mulE an bd) (mulE bn ad) (mulE ad bd)) (mulV ad bd)) (rE3 (vE an ad bn bd) (mulE an bd) (mulE bn ad) (mulE ad bd))))
  have HVa := Lib.hid (fun q r w' (h1 : RLm w' w'.heap.size an q) (h2 : RLm w' w'.heap.size ad r) => rvalidR_any w' an q h1 lan ad r h2 lad)
  have HVb := Lib.hid (fun q r w' (h1 : RLm w' w'.heap.size bn q) (h2 : RLm w' w'.heap.size bd r) => rvalidR_any w' bn q h1 lbn bd r h2 lbd)
  have H1 := Lib.hid (fun q r w' (h1 : RLm w' w'.heap.size an q) (h2 : RLm w' w'.heap.size bd r) => rmul_any an bd q r w' h1 h2 lan lbd)
  have H2 := Lib.hid (fun q r w' (h1 : RLm w' w'.heap.size bn q) (h2 : RLm w' w'.heap.size ad r) => rmul_any bn ad q r w' h1 h2 lbn lad)
  have H3 := Lib.hid (fun q r w' (h1 : RLm w' w'.heap.size ad q) (h2 : RLm w' w'.heap.size bd r) => rmul_any ad bd q r w' h1 h2 lad lbd)
  have eNo := Lib.hid (vE_no (an := an) (ad := ad) (bn := bn) (bd := bd))
  have eOk := Lib.hid (vE_ok (an := an) (ad := ad) (bn := bn) (bd := bd))
  obtain ⟨va, hva⟩ : ∃ v, vR an ad = v := ⟨_, rfl⟩
  obtain ⟨vb, hvb⟩ : ∃ v, vR bn bd = v := ⟨_, rfl⟩
  rw [hva] at HVa eNo eOk
  rw [hvb] at HVb eNo eOk
  obtain ⟨E0, hE0⟩ : ∃ V, vE an ad bn bd = V := ⟨_, rfl⟩
  obtain ⟨E1, hE1⟩ : ∃ V, mulE an bd = V := ⟨_, rfl⟩
  obtain ⟨E2, hE2⟩ : ∃ V, mulE bn ad = V := ⟨_, rfl⟩
  obtain ⟨X, hX⟩ : ∃ V, mulV an bd = V := ⟨_, rfl⟩
  obtain ⟨Y, hY⟩ : ∃ V, mulV bn ad = V := ⟨_, rfl⟩
  obtain ⟨E3, hE3⟩ : ∃ V, mulE ad bd = V := ⟨_, rfl⟩
  obtain ⟨Z, hZ⟩ : ∃ V, mulV ad bd = V := ⟨_, rfl⟩
  rw [hE0] at eNo eOk
  rw [hX, hE1] at H1
  rw [hY, hE2] at H2
  rw [hZ, hE3] at H3
  rw [hE0, hE1, hE2, hX, hY, hE3, hZ]
  clear hva hvb hE0 hE1 hE2 hX hY hE3 hZ
  obtain ⟨qana, qanc⟩ := qan
  obtain ⟨qada, qadc⟩ := qad
  obtain ⟨qbna, qbnc⟩ := qbn
  obtain ⟨qbda, qbdc⟩ := qbd
  replace S := Lib.hid (S.out.box 26 [.slice qana an.length qanc, .slice qada ad.length qadc])
  replace S := Lib.hid (S.out.box' 26 [.slice qbna bn.length qbnc, .slice qbda bd.length qbdc] (K := w.heap.size + 1) (by simp))
  replace S := Lib.hid (S.out.box' 101 [.slice none 0 0, .slice none 0 0, .slice none 0 0] (K := w.heap.size + 1 + 1) (by simp))
  clear han had hbn hbd
  go_enter Tryz.func80, Tryz.ntmps80
  go_wp2_with fail
  refine (HVa.out _ _ _ S.out.r0 S.out.r1).mono ?_
  rintro e w1 ⟨rfl, hb⟩
  replace S := Lib.hid (S.out.call hb)
  clear hb
  obtain ⟨⟨z2, f2, y2, y2a, y2b, -⟩, ⟨z1, f1, y1, y1a, -⟩, ⟨z0, f0, y0, y0a, -⟩, -⟩ := S.out.facts
  clear HVa
  cases va
  · have v := eNo.out rfl
    subst v
    replace S := Lib.hid (S.out.set 0 rfl 0 (.slice none 0 0))
    replace S := Lib.hid (S.out.set 0 rfl 1 (.slice none 0 0))
    replace S := Lib.hid (S.out.set 0 rfl 2 (.slice none 0 0))
    have u := Lib.hid (pX_no 1 (show rE3 1 E1 E2 E3 = 1 from rfl) (by decide) X Y Z)
    go_wp2
    refine bodyPost_ret (v := .tuple #[.agg #[.slice none 0 0, .slice none 0 0, .slice none 0 0], .int .i64 1]) (by simp [results, Tryz.results80, go_sem, y2, y2a, y2b]) rfl ?_
    rw [u.out.1, u.out.2.1, u.out.2.2.1, u.out.2.2.2]
    exact Ret.mk (PRes.none_ w S.out.bel)
  · go_wp2_with fail
    refine (HVb.out _ _ _ S.out.r2 S.out.r3).mono ?_
    rintro e w2 ⟨rfl, hb⟩
    replace S := Lib.hid (S.out.call hb)
    clear hb z0 f0 y0 y0a z1 f1 y1 y1a z2 f2 y2 y2a y2b
    obtain ⟨⟨z2, f2, y2, y2a, y2b, -⟩, ⟨z1, f1, y1, y1a, -⟩, ⟨z0, f0, y0, y0a, -⟩, -⟩ := S.out.facts
    clear HVb
    cases vb
    · have v := eNo.out rfl
      subst v
      replace S := Lib.hid (S.out.set 0 rfl 0 (.slice none 0 0))
      replace S := Lib.hid (S.out.set 0 rfl 1 (.slice none 0 0))
      replace S := Lib.hid (S.out.set 0 rfl 2 (.slice none 0 0))
      have u := Lib.hid (pX_no 1 (show rE3 1 E1 E2 E3 = 1 from rfl) (by decide) X Y Z)
      go_wp2
      refine bodyPost_ret (v := .tuple #[.agg #[.slice none 0 0, .slice none 0 0, .slice none 0 0], .int .i64 1]) (by simp [results, Tryz.results80, go_sem, y2, y2a, y2b]) rfl ?_
      rw [u.out.1, u.out.2.1, u.out.2.2.1, u.out.2.2.2]
      exact Ret.mk (PRes.none_ w S.out.bel)
    · have v := eOk.out rfl
      subst v
      replace S := Lib.hid (S.out.box 101 [.slice none 0 0, .slice none 0 0, .slice none 0 0])
      go_wp2_with fail
      refine (H1.out _ _ _ S.out.r0 S.out.r3).mono ?_
      rintro e w3 ⟨_, rfl, q1, rfl, hr, hf, hb⟩
      have fr1 := Lib.hid (hf.le S.out.size)
      replace S := Lib.hid (natRes S.out hr hf hb)
      clear hr hf hb z0 f0 y0 y0a z1 f1 y1 y1a z2 f2 y2 y2a y2b
      obtain ⟨⟨z3, f3, y3, y3a, y3b, -⟩, ⟨z2, f2, y2, y2a, y2b, -⟩, ⟨z1, f1, y1, y1a, -⟩, ⟨z0, f0, y0, y0a, -⟩, -⟩ := S.out.facts
      replace S := Lib.hid (S.out.set 0 rfl 0 (.slice q1.a X.length q1.c))
      obtain ⟨⟨z3, f3, y3, y3a, y3b, -⟩, ⟨z2, f2, y2, y2a, y2b, -⟩, ⟨z1, f1, y1, y1a, -⟩, ⟨z0, f0, y0, y0a, -⟩, -⟩ := S.out.facts
      go_wp2_with fail
      refine (H2.out _ _ _ S.out.r3 S.out.r2).mono ?_
      rintro e w4 ⟨_, rfl, q2, rfl, hr, hf, hb⟩
      have fr2 := Lib.hid (hf.le S.out.size)
      replace S := Lib.hid (natRes S.out hr hf hb)
      clear hr hf hb z0 f0 y0 y0a z1 f1 y1 y1a z2 f2 y2 y2a y2b z3 f3 y3 y3a y3b
      obtain ⟨⟨z3, f3, y3, y3a, y3b, -⟩, ⟨z2, f2, y2, y2a, y2b, -⟩, ⟨z1, f1, y1, y1a, -⟩, ⟨z0, f0, y0, y0a, -⟩, -⟩ := S.out.facts
      replace S := Lib.hid (S.out.set 0 rfl 1 (.slice q2.a Y.length q2.c))
      obtain ⟨⟨z3, f3, y3, y3a, y3b, -⟩, ⟨z2, f2, y2, y2a, y2b, -⟩, ⟨z1, f1, y1, y1a, -⟩, ⟨z0, f0, y0, y0a, -⟩, -⟩ := S.out.facts
      go_wp2_with fail
      refine (H3.out _ _ _ S.out.r3 S.out.r5).mono ?_
      rintro e w5 ⟨_, rfl, q3, rfl, hr, hf, hb⟩
      have fr3 := Lib.hid (hf.le S.out.size)
      replace S := Lib.hid (natRes S.out hr hf hb)
      clear hr hf hb z0 f0 y0 y0a z1 f1 y1 y1a z2 f2 y2 y2a y2b z3 f3 y3 y3a y3b
      obtain ⟨⟨z3, f3, y3, y3a, y3b, -⟩, ⟨z2, f2, y2, y2a, y2b, -⟩, ⟨z1, f1, y1, y1a, -⟩, ⟨z0, f0, y0, y0a, -⟩, -⟩ := S.out.facts
      replace S := Lib.hid (S.out.set 0 rfl 2 (.slice q3.a Z.length q3.c))
      obtain ⟨⟨z3, f3, y3, y3a, y3b, -⟩, ⟨z2, f2, y2, y2a, y2b, -⟩, ⟨z1, f1, y1, y1a, -⟩, ⟨z0, f0, y0, y0a, -⟩, -⟩ := S.out.facts
      by_cases c : E1 = 0
      · subst c
        by_cases c : E2 = 0
        · subst c
          by_cases c : E3 = 0
          · subst c
            replace S := Lib.hid (S.out.set 1 rfl 0 (.slice q1.a X.length q1.c))
            replace S := Lib.hid (S.out.set 1 rfl 1 (.slice q2.a Y.length q2.c))
            replace S := Lib.hid (S.out.set 1 rfl 2 (.slice q3.a Z.length q3.c))
            go_wp2
            refine bodyPost_ret (v := .tuple #[.agg #[.slice q1.a X.length q1.c, .slice q2.a Y.length q2.c, .slice q3.a Z.length q3.c], .int .i64 0]) (by simp [results, Tryz.results80, go_sem, y2, y2a, y2b]) rfl ?_
            exact (show Ret (PRes w X Y Z 0) _ _ from Ret.mk ⟨q1, q2, q3, rfl, natOld S.out (by simp), natOld S.out (by simp), natOld S.out (by simp), fr1.out, fr2.out, fr3.out, S.out.bel⟩)
          · have dE : (E3 != 0) = true := bne_iff_ne.2 c
            replace S := Lib.hid (S.out.set 1 rfl 0 (.slice none 0 0))
            replace S := Lib.hid (S.out.set 1 rfl 1 (.slice none 0 0))
            replace S := Lib.hid (S.out.set 1 rfl 2 (.slice none 0 0))
            have u := Lib.hid (pX_no 3 (rE_c c) (by decide) X Y Z)
            go_wp2
            refine bodyPost_ret (v := .tuple #[.agg #[.slice none 0 0, .slice none 0 0, .slice none 0 0], .int .i64 3]) (by simp [results, Tryz.results80, go_sem, y2, y2a, y2b]) rfl ?_
            rw [u.out.1, u.out.2.1, u.out.2.2.1, u.out.2.2.2]
            exact Ret.mk (PRes.none_ w S.out.bel)
        · have dE : (E2 != 0) = true := bne_iff_ne.2 c
          replace S := Lib.hid (S.out.set 1 rfl 0 (.slice none 0 0))
          replace S := Lib.hid (S.out.set 1 rfl 1 (.slice none 0 0))
          replace S := Lib.hid (S.out.set 1 rfl 2 (.slice none 0 0))
          have u := Lib.hid (pX_no 3 (rE_b E3 c) (by decide) X Y Z)
          go_wp2
          refine bodyPost_ret (v := .tuple #[.agg #[.slice none 0 0, .slice none 0 0, .slice none 0 0], .int .i64 3]) (by simp [results, Tryz.results80, go_sem, y2, y2a, y2b]) rfl ?_
          rw [u.out.1, u.out.2.1, u.out.2.2.1, u.out.2.2.2]
          exact Ret.mk (PRes.none_ w S.out.bel)
      · have dE : (E1 != 0) = true := bne_iff_ne.2 c
        replace S := Lib.hid (S.out.set 1 rfl 0 (.slice none 0 0))
        replace S := Lib.hid (S.out.set 1 rfl 1 (.slice none 0 0))
        replace S := Lib.hid (S.out.set 1 rfl 2 (.slice none 0 0))
        have u := Lib.hid (pX_no 3 (rE_a E2 E3 c) (by decide) X Y Z)
        go_wp2
        refine bodyPost_ret (v := .tuple #[.agg #[.slice none 0 0, .slice none 0 0, .slice none 0 0], .int .i64 3]) (by simp [results, Tryz.results80, go_sem, y2, y2a, y2b]) rfl ?_
        rw [u.out.1, u.out.2.1, u.out.2.2.1, u.out.2.2.2]
        exact Ret.mk (PRes.none_ w S.out.bel)
set_option maxHeartbeats 2000000 in
set_option maxRecDepth 100000 in
theorem rcross_false (w : World) (an : List Int) (qan : LmP) (han : RLm w w.heap.size an qan) (lan : Lim an) (ad : List Int) (qad : LmP) (had : RLm w w.heap.size ad qad) (lad : Lim ad) (bn : List Int) (qbn : LmP) (hbn : RLm w w.heap.size bn qbn) (lbn : Lim bn) (bd : List Int) (qbd : LmP) (hbd : RLm w w.heap.size bd qbd) (lbd : Lim bd) :
    Calls Tryz.prog 80 #[ratV an qan ad qad, ratV bn qbn bd qbd, .bool false] w (Ret (PRes w (pX (rcE an ad bn bd false) (mulV an bd)) (pX (rcE an ad bn bd false) (mulV bn ad)) (pX (rcE an ad bn bd false) (thZ false ad bd)) (rcE an ad bn bd false))) := by
  have S := Lib.hid (natArg (natArg (natArg (natArg (Fm.init w) hbd) hbn) had) han)
  show Calls Tryz.prog 80 _ w (Ret (PRes w (pX (rE3 (vE an ad bn bd) (mulE an bd) (mulE bn ad) 0) (mulV an bd)) (pX (rE3 (vE an ad bn bd) (mulE an bd) (mulE bn ad) 0) (mulV bn ad)) (pX (rE3 (vE an ad bn bd) (mulE an bd) (mulE bn ad) 0) []) (rE3 (vE an ad bn bd) (mulE an bd) (mulE bn ad) 0)))
  have HVa := Lib.hid (fun q r w' (h1 : RLm w' w'.heap.size an q) (h2 : RLm w' w'.heap.size ad r) => rvalidR_any w' an q h1 lan ad r h2 lad)
  have HVb := Lib.hid (fun q r w' (h1 : RLm w' w'.heap.size bn q) (h2 : RLm w' w'.heap.size bd r) => rvalidR_any w' bn q h1 lbn bd r h2 lbd)
  have H1 := Lib.hid (fun q r w' (h1 : RLm w' w'.heap.size an q) (h2 : RLm w' w'.heap.size bd r) => rmul_any an bd q r w' h1 h2 lan lbd)
  have H2 := Lib.hid (fun q r w' (h1 : RLm w' w'.heap.size bn q) (h2 : RLm w' w'.heap.size ad r) => rmul_any bn ad q r w' h1 h2 lbn lad)
  have eNo := Lib.hid (vE_no (an := an) (ad := ad) (bn := bn) (bd := bd))
  have eOk := Lib.hid (vE_ok (an := an) (ad := ad) (bn := bn) (bd := bd))
  obtain ⟨va, hva⟩ : ∃ v, vR an ad = v := ⟨_, rfl⟩
  obtain ⟨vb, hvb⟩ : ∃ v, vR bn bd = v := ⟨_, rfl⟩
  rw [hva] at HVa eNo eOk
  rw [hvb] at HVb eNo eOk
  obtain ⟨E0, hE0⟩ : ∃ V, vE an ad bn bd = V := ⟨_, rfl⟩
  obtain ⟨E1, hE1⟩ : ∃ V, mulE an bd = V := ⟨_, rfl⟩
  obtain ⟨E2, hE2⟩ : ∃ V, mulE bn ad = V := ⟨_, rfl⟩
  obtain ⟨X, hX⟩ : ∃ V, mulV an bd = V := ⟨_, rfl⟩
  obtain ⟨Y, hY⟩ : ∃ V, mulV bn ad = V := ⟨_, rfl⟩
  rw [hE0] at eNo eOk
  rw [hX, hE1] at H1
  rw [hY, hE2] at H2
  rw [hE0, hE1, hE2, hX, hY]
  clear hva hvb hE0 hE1 hE2 hX hY
  obtain ⟨qana, qanc⟩ := qan
  obtain ⟨qada, qadc⟩ := qad
  obtain ⟨qbna, qbnc⟩ := qbn
  obtain ⟨qbda, qbdc⟩ := qbd
  replace S := Lib.hid (S.out.box 26 [.slice qana an.length qanc, .slice qada ad.length qadc])
  replace S := Lib.hid (S.out.box' 26 [.slice qbna bn.length qbnc, .slice qbda bd.length qbdc] (K := w.heap.size + 1) (by simp))
  replace S := Lib.hid (S.out.box' 101 [.slice none 0 0, .slice none 0 0, .slice none 0 0] (K := w.heap.size + 1 + 1) (by simp))
  clear han had hbn hbd
  go_enter Tryz.func80, Tryz.ntmps80
  go_wp2_with fail
  refine (HVa.out _ _ _ S.out.r0 S.out.r1).mono ?_
  rintro e w1 ⟨rfl, hb⟩
  replace S := Lib.hid (S.out.call hb)
  clear hb
  obtain ⟨⟨z2, f2, y2, y2a, y2b, -⟩, ⟨z1, f1, y1, y1a, -⟩, ⟨z0, f0, y0, y0a, -⟩, -⟩ := S.out.facts
  clear HVa
  cases va
  · have v := eNo.out rfl
    subst v
    replace S := Lib.hid (S.out.set 0 rfl 0 (.slice none 0 0))
    replace S := Lib.hid (S.out.set 0 rfl 1 (.slice none 0 0))
    replace S := Lib.hid (S.out.set 0 rfl 2 (.slice none 0 0))
    have u := Lib.hid (pX_no 1 (show rE3 1 E1 E2 0 = 1 from rfl) (by decide) X Y [])
    go_wp2
    refine bodyPost_ret (v := .tuple #[.agg #[.slice none 0 0, .slice none 0 0, .slice none 0 0], .int .i64 1]) (by simp [results, Tryz.results80, go_sem, y2, y2a, y2b]) rfl ?_
    rw [u.out.1, u.out.2.1, u.out.2.2.1, u.out.2.2.2]
    exact Ret.mk (PRes.none_ w S.out.bel)
  · go_wp2_with fail
    refine (HVb.out _ _ _ S.out.r2 S.out.r3).mono ?_
    rintro e w2 ⟨rfl, hb⟩
    replace S := Lib.hid (S.out.call hb)
    clear hb z0 f0 y0 y0a z1 f1 y1 y1a z2 f2 y2 y2a y2b
    obtain ⟨⟨z2, f2, y2, y2a, y2b, -⟩, ⟨z1, f1, y1, y1a, -⟩, ⟨z0, f0, y0, y0a, -⟩, -⟩ := S.out.facts
    clear HVb
    cases vb
    · have v := eNo.out rfl
      subst v
      replace S := Lib.hid (S.out.set 0 rfl 0 (.slice none 0 0))
      replace S := Lib.hid (S.out.set 0 rfl 1 (.slice none 0 0))
      replace S := Lib.hid (S.out.set 0 rfl 2 (.slice none 0 0))
      have u := Lib.hid (pX_no 1 (show rE3 1 E1 E2 0 = 1 from rfl) (by decide) X Y [])
      go_wp2
      refine bodyPost_ret (v := .tuple #[.agg #[.slice none 0 0, .slice none 0 0, .slice none 0 0], .int .i64 1]) (by simp [results, Tryz.results80, go_sem, y2, y2a, y2b]) rfl ?_
      rw [u.out.1, u.out.2.1, u.out.2.2.1, u.out.2.2.2]
      exact Ret.mk (PRes.none_ w S.out.bel)
    · have v := eOk.out rfl
      subst v
      replace S := Lib.hid (S.out.box 101 [.slice none 0 0, .slice none 0 0, .slice none 0 0])
      go_wp2_with fail
      refine (H1.out _ _ _ S.out.r0 S.out.r3).mono ?_
      rintro e w3 ⟨_, rfl, q1, rfl, hr, hf, hb⟩
      have fr1 := Lib.hid (hf.le S.out.size)
      replace S := Lib.hid (natRes S.out hr hf hb)
      clear hr hf hb z0 f0 y0 y0a z1 f1 y1 y1a z2 f2 y2 y2a y2b
      obtain ⟨⟨z3, f3, y3, y3a, y3b, -⟩, ⟨z2, f2, y2, y2a, y2b, -⟩, ⟨z1, f1, y1, y1a, -⟩, ⟨z0, f0, y0, y0a, -⟩, -⟩ := S.out.facts
      replace S := Lib.hid (S.out.set 0 rfl 0 (.slice q1.a X.length q1.c))
      obtain ⟨⟨z3, f3, y3, y3a, y3b, -⟩, ⟨z2, f2, y2, y2a, y2b, -⟩, ⟨z1, f1, y1, y1a, -⟩, ⟨z0, f0, y0, y0a, -⟩, -⟩ := S.out.facts
      go_wp2_with fail
      refine (H2.out _ _ _ S.out.r3 S.out.r2).mono ?_
      rintro e w4 ⟨_, rfl, q2, rfl, hr, hf, hb⟩
      have fr2 := Lib.hid (hf.le S.out.size)
      replace S := Lib.hid (natRes S.out hr hf hb)
      clear hr hf hb z0 f0 y0 y0a z1 f1 y1 y1a z2 f2 y2 y2a y2b z3 f3 y3 y3a y3b
      obtain ⟨⟨z3, f3, y3, y3a, y3b, -⟩, ⟨z2, f2, y2, y2a, y2b, -⟩, ⟨z1, f1, y1, y1a, -⟩, ⟨z0, f0, y0, y0a, -⟩, -⟩ := S.out.facts
      replace S := Lib.hid (S.out.set 0 rfl 1 (.slice q2.a Y.length q2.c))
      obtain ⟨⟨z3, f3, y3, y3a, y3b, -⟩, ⟨z2, f2, y2, y2a, y2b, -⟩, ⟨z1, f1, y1, y1a, -⟩, ⟨z0, f0, y0, y0a, -⟩, -⟩ := S.out.facts
      by_cases c : E1 = 0
      · subst c
        by_cases c : E2 = 0
        · subst c
          replace S := Lib.hid (S.out.set 1 rfl 0 (.slice q1.a X.length q1.c))
          replace S := Lib.hid (S.out.set 1 rfl 1 (.slice q2.a Y.length q2.c))
          replace S := Lib.hid (S.out.set 1 rfl 2 (.slice none 0 0))
          go_wp2
          refine bodyPost_ret (v := .tuple #[.agg #[.slice q1.a X.length q1.c, .slice q2.a Y.length q2.c, .slice none 0 0], .int .i64 0]) (by simp [results, Tryz.results80, go_sem, y2, y2a, y2b]) rfl ?_
          exact (show Ret (PRes w X Y [] 0) _ _ from Ret.mk ⟨q1, q2, ⟨none, 0⟩, rfl, natOld S.out (by simp), natOld S.out (by simp), RLm.none_ _ _, fr1.out, fr2.out, Fr.none_ _, S.out.bel⟩)
        · have dE : (E2 != 0) = true := bne_iff_ne.2 c
          replace S := Lib.hid (S.out.set 1 rfl 0 (.slice none 0 0))
          replace S := Lib.hid (S.out.set 1 rfl 1 (.slice none 0 0))
          replace S := Lib.hid (S.out.set 1 rfl 2 (.slice none 0 0))
          have u := Lib.hid (pX_no 3 (rE_b 0 c) (by decide) X Y [])
          go_wp2
          refine bodyPost_ret (v := .tuple #[.agg #[.slice none 0 0, .slice none 0 0, .slice none 0 0], .int .i64 3]) (by simp [results, Tryz.results80, go_sem, y2, y2a, y2b]) rfl ?_
          rw [u.out.1, u.out.2.1, u.out.2.2.1, u.out.2.2.2]
          exact Ret.mk (PRes.none_ w S.out.bel)
      · have dE : (E1 != 0) = true := bne_iff_ne.2 c
        replace S := Lib.hid (S.out.set 1 rfl 0 (.slice none 0 0))
        replace S := Lib.hid (S.out.set 1 rfl 1 (.slice none 0 0))
        replace S := Lib.hid (S.out.set 1 rfl 2 (.slice none 0 0))
        have u := Lib.hid (pX_no 3 (rE_a E2 0 c) (by decide) X Y [])
        go_wp2
        refine bodyPost_ret (v := .tuple #[.agg #[.slice none 0 0, .slice none 0 0, .slice none 0 0], .int .i64 3]) (by simp [results, Tryz.results80, go_sem, y2, y2a, y2b]) rfl ?_
        rw [u.out.1, u.out.2.1, u.out.2.2.1, u.out.2.2.2]
        exact Ret.mk (PRes.none_ w S.out.bel)
end Go.Proofs.YtpoddmkimhkmoaaGreat
namespace Go.Proofs.YtpoddmkimhkmoaaGreat
open Go.RowKit Go.Sv
theorem pX_lim {E : Int} {l : List Int} (h : Lim l) : Lim (pX E l) := by
  unfold pX
  split
  · exact h
  · exact Lim.nil
theorem thZ_lim (f : Bool) (ad bd : List Int) : Lim (thZ f ad bd) := by
  unfold thZ
  split
  · exact (mulV_lim _ _).1
  · exact Lim.nil
def rrcV (an ad bn bd : List Int) : Int := if rcE an ad bn bd false = 0 then cmpL (pX (rcE an ad bn bd false) (mulV an bd)) (pX (rcE an ad bn bd false) (mulV bn ad)) else 0
theorem sumV_lim (a b : List Int) : Lim (sumV a b) := by
  unfold sumV cutV
  split
  · split
    · exact Lim.nil
    · exact lim_lim _
  · exact Lim.nil
/-- a result behind two errors -/
def qN (p q : Int) (l : List Int) : List Int := if p = 0 then (if q = 0 then l else []) else []
theorem q_a (p q r : Int) (n d : List Int) (h : ¬ p = 0) : qN p q n = [] ∧ qN p q d = [] ∧ e3 p q r = p := ⟨if_neg h, if_neg h, if_neg h⟩
theorem q_b (q r : Int) (n d : List Int) (h : ¬ q = 0) : qN 0 q n = [] ∧ qN 0 q d = [] ∧ e3 0 q r = q := ⟨if_neg h, if_neg h, if_neg h⟩
/-- the reference's error of a product -/
def rM (v p q m : Int) : Int := if v = 0 then (if p = 0 then (if q = 0 then m else 3) else 3) else v
def qM (v p q : Int) (l : List Int) : List Int := if v = 0 then qN p q l else []
theorem m_no (p q m : Int) (n d : List Int) : qM 1 p q n = [] ∧ qM 1 p q d = [] ∧ rM 1 p q m = 1 := ⟨rfl, rfl, rfl⟩
theorem m_a (p q m : Int) (n d : List Int) (h : ¬ p = 0) : qM 0 p q n = [] ∧ qM 0 p q d = [] ∧ rM 0 p q m = 3 := ⟨if_neg h, if_neg h, if_neg h⟩
theorem m_b (q m : Int) (n d : List Int) (h : ¬ q = 0) : qM 0 0 q n = [] ∧ qM 0 0 q d = [] ∧ rM 0 0 q m = 3 := ⟨if_neg h, if_neg h, if_neg h⟩
set_option maxHeartbeats 2000000 in
set_option maxRecDepth 100000 in
theorem xrcmp_any (w : World) (an : List Int) (qan : LmP) (han : RLm w w.heap.size an qan) (lan : Lim an) (ad : List Int) (qad : LmP) (had : RLm w w.heap.size ad qad) (lad : Lim ad) (bn : List Int) (qbn : LmP) (hbn : RLm w w.heap.size bn qbn) (lbn : Lim bn) (bd : List Int) (qbd : LmP) (hbd : RLm w w.heap.size bd qbd) (lbd : Lim bd) :
    Calls Tryz.prog 58 #[ratV an qan ad qad, ratV bn qbn bd qbd] w (fun e w' => e = .returned (.tuple #[.int .i64 (rrcV an ad bn bd), .int .i64 (rcE an ad bn bd false)]) ∧ Below w.heap.size w w') := by
  have S := Lib.hid (natArg (natArg (natArg (natArg (Fm.init w) hbd) hbn) had) han)
  have HX := Lib.hid (fun q0 q1 q2 q3 w' (h0 : RLm w' w'.heap.size an q0) (h1 : RLm w' w'.heap.size ad q1) (h2 : RLm w' w'.heap.size bn q2) (h3 : RLm w' w'.heap.size bd q3) => rcross_false w' an q0 h0 lan ad q1 h1 lad bn q2 h2 lbn bd q3 h3 lbd)
  have lX := pX_lim (E := rcE an ad bn bd false) (mulV_lim an bd).1
  have lY := pX_lim (E := rcE an ad bn bd false) (mulV_lim bn ad).1
  have lZ := pX_lim (E := rcE an ad bn bd false) (thZ_lim false ad bd)
  have e0 := Lib.hid (show (rcE an ad bn bd false) = 0 → rrcV an ad bn bd = cmpL (pX (rcE an ad bn bd false) (mulV an bd)) (pX (rcE an ad bn bd false) (mulV bn ad)) from fun h => if_pos h)
  have e1 := Lib.hid (show ¬ (rcE an ad bn bd false) = 0 → rrcV an ad bn bd = 0 from fun h => if_neg h)
  obtain ⟨X, hX⟩ : ∃ V, (pX (rcE an ad bn bd false) (mulV an bd)) = V := ⟨_, rfl⟩
  obtain ⟨Y, hY⟩ : ∃ V, (pX (rcE an ad bn bd false) (mulV bn ad)) = V := ⟨_, rfl⟩
  obtain ⟨Z, hZ⟩ : ∃ V, (pX (rcE an ad bn bd false) (thZ false ad bd)) = V := ⟨_, rfl⟩
  obtain ⟨V0, hV0⟩ : ∃ V, rrcV an ad bn bd = V := ⟨_, rfl⟩
  obtain ⟨E, hE⟩ : ∃ V, (rcE an ad bn bd false) = V := ⟨_, rfl⟩
  rw [hX, hY, hZ, hE] at HX
  rw [hX] at lX
  rw [hY] at lY
  rw [hX, hY, hE, hV0] at e0
  rw [hE, hV0] at e1
  rw [hV0, hE]
  have HC := Lib.hid (fun q r w' (h1 : RLm w' w'.heap.size X q) (h2 : RLm w' w'.heap.size Y r) => rcmp_any X Y q r w' h1 h2 lX lY)
  clear hX hY hZ hE hV0 lX lY lZ
  obtain ⟨qana, qanc⟩ := qan
  obtain ⟨qada, qadc⟩ := qad
  obtain ⟨qbna, qbnc⟩ := qbn
  obtain ⟨qbda, qbdc⟩ := qbd
  replace S := Lib.hid (S.out.box 26 [.slice qana an.length qanc, .slice qada ad.length qadc])
  replace S := Lib.hid (S.out.box' 26 [.slice qbna bn.length qbnc, .slice qbda bd.length qbdc] (K := w.heap.size + 1) (by simp))
  clear han had hbn hbd
  go_enter Tryz.func58, Tryz.ntmps58
  go_wp2_with fail
  refine (HX.out _ _ _ _ _ S.out.r0 S.out.r1 S.out.r2 S.out.r3).mono ?_
  rintro e w1 ⟨_, rfl, q1, q2, q3, rfl, hr, hr2, hr3, hf, hf2, hf3, hb⟩
  replace S := Lib.hid (natRes3 S.out hr hr2 hr3 hf hf2 hf3 hb)
  clear hr hr2 hr3 hf hf2 hf3 hb
  obtain ⟨⟨z1, f1, y1, y1a, -⟩, ⟨z0, f0, y0, y0a, -⟩, -⟩ := S.out.facts
  replace S := Lib.hid (S.out.box 101 [.slice q1.a X.length q1.c, .slice q2.a Y.length q2.c, .slice q3.a Z.length q3.c])
  by_cases c : E = 0
  · have u := Lib.hid (e0.out c)
    clear e0 e1
    subst c
    go_wp2_with fail
    refine (HC.out _ _ _ S.out.r2 S.out.r1).mono ?_
    rintro e w2 ⟨rfl, hb⟩
    replace S := Lib.hid (S.out.call hb)
    clear hb z0 f0 y0 y0a z1 f1 y1 y1a
    obtain ⟨⟨z2, f2, y2, y2a, y2b, -⟩, ⟨z1, f1, y1, y1a, -⟩, ⟨z0, f0, y0, y0a, -⟩, -⟩ := S.out.facts
    go_wp2
    refine bodyPost_ret (v := .tuple #[.int .i64 (cmpL X Y), .int .i64 0]) (by simp [results, Tryz.results58, go_sem]) rfl ?_
    rw [u.out]
    exact ⟨rfl, S.out.bel⟩
  · have u := Lib.hid (e1.out c)
    clear e0 e1
    have dE : (E != 0) = true := bne_iff_ne.2 c
    clear c
    go_wp2
    refine bodyPost_ret (v := .tuple #[.int .i64 0, .int .i64 E]) (by simp [results, Tryz.results58, go_sem]) rfl ?_
    rw [u.out]
    exact ⟨rfl, S.out.bel⟩
set_option maxHeartbeats 2000000 in
set_option maxRecDepth 100000 in
theorem xradd_any (w : World) (an : List Int) (qan : LmP) (han : RLm w w.heap.size an qan) (lan : Lim an) (ad : List Int) (qad : LmP) (had : RLm w w.heap.size ad qad) (lad : Lim ad) (bn : List Int) (qbn : LmP) (hbn : RLm w w.heap.size bn qbn) (lbn : Lim bn) (bd : List Int) (qbd : LmP) (hbd : RLm w w.heap.size bd qbd) (lbd : Lim bd) :
    Calls Tryz.prog 86 #[ratV an qan ad qad, ratV bn qbn bd qbd] w (Ret (RRes2 w (qN (rcE an ad bn bd true) (sumE (pX (rcE an ad bn bd true) (mulV an bd)) (pX (rcE an ad bn bd true) (mulV bn ad))) (makN (sumV (pX (rcE an ad bn bd true) (mulV an bd)) (pX (rcE an ad bn bd true) (mulV bn ad))) (pX (rcE an ad bn bd true) (thZ true ad bd)))) (qN (rcE an ad bn bd true) (sumE (pX (rcE an ad bn bd true) (mulV an bd)) (pX (rcE an ad bn bd true) (mulV bn ad))) (makD (sumV (pX (rcE an ad bn bd true) (mulV an bd)) (pX (rcE an ad bn bd true) (mulV bn ad))) (pX (rcE an ad bn bd true) (thZ true ad bd)))) (e3 (rcE an ad bn bd true) (sumE (pX (rcE an ad bn bd true) (mulV an bd)) (pX (rcE an ad bn bd true) (mulV bn ad))) (makE (sumV (pX (rcE an ad bn bd true) (mulV an bd)) (pX (rcE an ad bn bd true) (mulV bn ad))) (pX (rcE an ad bn bd true) (thZ true ad bd)))))) := by
  have S := Lib.hid (natArg (natArg (natArg (natArg (Fm.init w) hbd) hbn) had) han)
  have HX := Lib.hid (fun q0 q1 q2 q3 w' (h0 : RLm w' w'.heap.size an q0) (h1 : RLm w' w'.heap.size ad q1) (h2 : RLm w' w'.heap.size bn q2) (h3 : RLm w' w'.heap.size bd q3) => rcross_true w' an q0 h0 lan ad q1 h1 lad bn q2 h2 lbn bd q3 h3 lbd)
  have lX := pX_lim (E := rcE an ad bn bd true) (mulV_lim an bd).1
  have lY := pX_lim (E := rcE an ad bn bd true) (mulV_lim bn ad).1
  have lZ := pX_lim (E := rcE an ad bn bd true) (thZ_lim true ad bd)
  have lS := sumV_lim (pX (rcE an ad bn bd true) (mulV an bd)) (pX (rcE an ad bn bd true) (mulV bn ad))
  have HS := Lib.hid (fun q r w' (h1 : RLm w' w'.heap.size (pX (rcE an ad bn bd true) (mulV an bd)) q) (h2 : RLm w' w'.heap.size (pX (rcE an ad bn bd true) (mulV bn ad)) r) => radd_any _ _ q r w' h1 h2 lX lY)
  have HM := Lib.hid (fun q r w' (h1 : RLm w' w'.heap.size (sumV (pX (rcE an ad bn bd true) (mulV an bd)) (pX (rcE an ad bn bd true) (mulV bn ad))) q) (h2 : RLm w' w'.heap.size (pX (rcE an ad bn bd true) (thZ true ad bd)) r) => rmake_any w' _ q h1 lS _ r h2 lZ)
  obtain ⟨MN, hMN⟩ : ∃ V, makN (sumV (pX (rcE an ad bn bd true) (mulV an bd)) (pX (rcE an ad bn bd true) (mulV bn ad))) (pX (rcE an ad bn bd true) (thZ true ad bd)) = V := ⟨_, rfl⟩
  obtain ⟨MD, hMD⟩ : ∃ V, makD (sumV (pX (rcE an ad bn bd true) (mulV an bd)) (pX (rcE an ad bn bd true) (mulV bn ad))) (pX (rcE an ad bn bd true) (thZ true ad bd)) = V := ⟨_, rfl⟩
  obtain ⟨ME, hME⟩ : ∃ V, makE (sumV (pX (rcE an ad bn bd true) (mulV an bd)) (pX (rcE an ad bn bd true) (mulV bn ad))) (pX (rcE an ad bn bd true) (thZ true ad bd)) = V := ⟨_, rfl⟩
  obtain ⟨S1, hS1⟩ : ∃ V, (sumV (pX (rcE an ad bn bd true) (mulV an bd)) (pX (rcE an ad bn bd true) (mulV bn ad))) = V := ⟨_, rfl⟩
  obtain ⟨E2, hE2⟩ : ∃ V, (sumE (pX (rcE an ad bn bd true) (mulV an bd)) (pX (rcE an ad bn bd true) (mulV bn ad))) = V := ⟨_, rfl⟩
  obtain ⟨X, hX⟩ : ∃ V, (pX (rcE an ad bn bd true) (mulV an bd)) = V := ⟨_, rfl⟩
  obtain ⟨Y, hY⟩ : ∃ V, (pX (rcE an ad bn bd true) (mulV bn ad)) = V := ⟨_, rfl⟩
  obtain ⟨Z, hZ⟩ : ∃ V, (pX (rcE an ad bn bd true) (thZ true ad bd)) = V := ⟨_, rfl⟩
  obtain ⟨E1, hE1⟩ : ∃ V, (rcE an ad bn bd true) = V := ⟨_, rfl⟩
  rw [hMN, hMD, hME] at HM
  rw [hS1, hZ] at HM
  rw [hS1, hE2, hX, hY] at HS
  rw [hX, hY, hZ, hE1] at HX
  rw [hMN, hMD, hME, hE2, hE1]
  clear hMN hMD hME hS1 hE2 hX hY hZ hE1 lX lY lZ lS
  obtain ⟨qana, qanc⟩ := qan
  obtain ⟨qada, qadc⟩ := qad
  obtain ⟨qbna, qbnc⟩ := qbn
  obtain ⟨qbda, qbdc⟩ := qbd
  replace S := Lib.hid (S.out.box 26 [.slice qana an.length qanc, .slice qada ad.length qadc])
  replace S := Lib.hid (S.out.box' 26 [.slice qbna bn.length qbnc, .slice qbda bd.length qbdc] (K := w.heap.size + 1) (by simp))
  replace S := Lib.hid (S.out.box' 26 [.slice none 0 0, .slice none 0 0] (K := w.heap.size + 1 + 1) (by simp))
  clear han had hbn hbd
  go_enter Tryz.func86, Tryz.ntmps86
  go_wp2_with fail
  refine (HX.out _ _ _ _ _ S.out.r0 S.out.r1 S.out.r2 S.out.r3).mono ?_
  rintro e w1 ⟨_, rfl, q1, q2, q3, rfl, hr, hr2, hr3, hf, hf2, hf3, hb⟩
  replace S := Lib.hid (natRes3 S.out hr hr2 hr3 hf hf2 hf3 hb)
  clear hr hr2 hr3 hf hf2 hf3 hb
  obtain ⟨⟨z2, f2, y2, y2a, -⟩, ⟨z1, f1, y1, y1a, -⟩, ⟨z0, f0, y0, y0a, -⟩, -⟩ := S.out.facts
  by_cases c : E1 = 0
  · subst c
    replace S := Lib.hid (S.out.box 101 [.slice q1.a X.length q1.c, .slice q2.a Y.length q2.c, .slice q3.a Z.length q3.c])
    go_wp2_with fail
    refine (HS.out _ _ _ S.out.r2 S.out.r1).mono ?_
    rintro e w2 ⟨_, rfl, q5, rfl, hr, hf, hb⟩
    replace S := Lib.hid (natRes S.out hr hf hb)
    clear hr hf hb z0 f0 y0 y0a z1 f1 y1 y1a z2 f2 y2 y2a
    obtain ⟨⟨z3, f3, y3, y3a, y3b, -⟩, ⟨z2, f2, y2, y2a, -⟩, ⟨z1, f1, y1, y1a, -⟩, ⟨z0, f0, y0, y0a, -⟩, -⟩ := S.out.facts
    by_cases c : E2 = 0
    · subst c
      replace S := Lib.hid (S.out.box 24 [.slice q5.a (S1).length q5.c])
      go_wp2_with fail
      refine (HM.out _ _ _ S.out.r0 S.out.r1).mono ?_
      rintro e w3 ⟨_, rfl, q7, q8, rfl, hr, hr2, hf, hf2, hb⟩
      have fr7 := Lib.hid (hf.le S.out.size)
      have fr8 := Lib.hid (hf2.le S.out.size)
      replace S := Lib.hid (natRes2 S.out hr hr2 hf hf2 hb)
      clear hr hr2 hf hf2 hb z0 f0 y0 y0a z1 f1 y1 y1a z2 f2 y2 y2a z3 f3 y3 y3a y3b
      obtain ⟨⟨z4, f4, y4, -⟩, ⟨z3, f3, y3, y3a, y3b, -⟩, ⟨z2, f2, y2, y2a, -⟩, ⟨z1, f1, y1, y1a, -⟩, ⟨z0, f0, y0, y0a, -⟩, -⟩ := S.out.facts
      replace S := Lib.hid (S.out.set 2 rfl 0 (.slice q7.a MN.length q7.c))
      replace S := Lib.hid (S.out.set 2 rfl 1 (.slice q8.a MD.length q8.c))
      go_wp2
      refine bodyPost_ret (v := .tuple #[ratV MN q7 MD q8, .int .i64 ME]) (by simp [results, Tryz.results86, go_sem, y2, y2a]) rfl ?_
      exact (show Ret (RRes2 w MN MD ME) _ _ from Ret.mk (fm_rres2 S.out (by simp) (by simp) fr7.out fr8.out))
    · have dE : (E2 != 0) = true := bne_iff_ne.2 c
      replace S := Lib.hid (S.out.set 1 rfl 0 (.slice none 0 0))
      replace S := Lib.hid (S.out.set 1 rfl 1 (.slice none 0 0))
      replace S := Lib.hid (S.out.box' 24 [.slice q5.a S1.length q5.c] (K := w2.heap.size) (by simp))
      have u := Lib.hid (q_b E2 ME MN MD c)
      go_wp2
      refine bodyPost_ret (v := .tuple #[.agg #[.slice none 0 0, .slice none 0 0], .int .i64 E2]) (by simp [results, Tryz.results86, go_sem, y2, y2a, z2]) rfl ?_
      rw [u.out.1, u.out.2.1, u.out.2.2]
      exact (show Ret (RRes2 w [] [] E2) _ _ from Ret.mk (fm_rres0 S.out))
  · have dE : (E1 != 0) = true := bne_iff_ne.2 c
    replace S := Lib.hid (S.out.set 0 rfl 0 (.slice none 0 0))
    replace S := Lib.hid (S.out.set 0 rfl 1 (.slice none 0 0))
    replace S := Lib.hid (S.out.box' 101 [.slice q1.a X.length q1.c, .slice q2.a Y.length q2.c, .slice q3.a Z.length q3.c] (K := w1.heap.size) (by simp))
    have u := Lib.hid (q_a E1 E2 ME MN MD c)
    go_wp2
    refine bodyPost_ret (v := .tuple #[.agg #[.slice none 0 0, .slice none 0 0], .int .i64 E1]) (by simp [results, Tryz.results86, go_sem, y2, y2a, z2]) rfl ?_
    rw [u.out.1, u.out.2.1, u.out.2.2]
    exact (show Ret (RRes2 w [] [] E1) _ _ from Ret.mk (fm_rres0 S.out))
set_option maxHeartbeats 2000000 in
set_option maxRecDepth 100000 in
theorem xrmul_any (w : World) (an : List Int) (qan : LmP) (han : RLm w w.heap.size an qan) (lan : Lim an) (ad : List Int) (qad : LmP) (had : RLm w w.heap.size ad qad) (lad : Lim ad) (bn : List Int) (qbn : LmP) (hbn : RLm w w.heap.size bn qbn) (lbn : Lim bn) (bd : List Int) (qbd : LmP) (hbd : RLm w w.heap.size bd qbd) (lbd : Lim bd) :
    Calls Tryz.prog 84 #[ratV an qan ad qad, ratV bn qbn bd qbd] w (Ret (RRes2 w (qM (vE an ad bn bd) (mulE an bn) (mulE ad bd) (makN (mulV an bn) (mulV ad bd))) (qM (vE an ad bn bd) (mulE an bn) (mulE ad bd) (makD (mulV an bn) (mulV ad bd))) (rM (vE an ad bn bd) (mulE an bn) (mulE ad bd) (makE (mulV an bn) (mulV ad bd))))) := by
  have S := Lib.hid (natArg (natArg (natArg (natArg (Fm.init w) hbd) hbn) had) han)
  have HVa := Lib.hid (fun q r w' (h1 : RLm w' w'.heap.size an q) (h2 : RLm w' w'.heap.size ad r) => rvalidR_any w' an q h1 lan ad r h2 lad)
  have HVb := Lib.hid (fun q r w' (h1 : RLm w' w'.heap.size bn q) (h2 : RLm w' w'.heap.size bd r) => rvalidR_any w' bn q h1 lbn bd r h2 lbd)
  have H1 := Lib.hid (fun q r w' (h1 : RLm w' w'.heap.size an q) (h2 : RLm w' w'.heap.size bn r) => rmul_any an bn q r w' h1 h2 lan lbn)
  have H2 := Lib.hid (fun q r w' (h1 : RLm w' w'.heap.size ad q) (h2 : RLm w' w'.heap.size bd r) => rmul_any ad bd q r w' h1 h2 lad lbd)
  have eNo := Lib.hid (vE_no (an := an) (ad := ad) (bn := bn) (bd := bd))
  have eOk := Lib.hid (vE_ok (an := an) (ad := ad) (bn := bn) (bd := bd))
  obtain ⟨va, hva⟩ : ∃ v, vR an ad = v := ⟨_, rfl⟩
  obtain ⟨vb, hvb⟩ : ∃ v, vR bn bd = v := ⟨_, rfl⟩
  rw [hva] at HVa eNo eOk
  rw [hvb] at HVb eNo eOk
  have lX := (mulV_lim an bn).1
  have lZ := (mulV_lim ad bd).1
  have HM := Lib.hid (fun q r w' (h1 : RLm w' w'.heap.size (mulV an bn) q) (h2 : RLm w' w'.heap.size (mulV ad bd) r) => rmake_any w' _ q h1 lX _ r h2 lZ)
  obtain ⟨MN, hMN⟩ : ∃ V, makN (mulV an bn) (mulV ad bd) = V := ⟨_, rfl⟩
  obtain ⟨MD, hMD⟩ : ∃ V, makD (mulV an bn) (mulV ad bd) = V := ⟨_, rfl⟩
  obtain ⟨ME, hME⟩ : ∃ V, makE (mulV an bn) (mulV ad bd) = V := ⟨_, rfl⟩
  obtain ⟨E0, hE0⟩ : ∃ V, (vE an ad bn bd) = V := ⟨_, rfl⟩
  obtain ⟨E1, hE1⟩ : ∃ V, (mulE an bn) = V := ⟨_, rfl⟩
  obtain ⟨E2, hE2⟩ : ∃ V, (mulE ad bd) = V := ⟨_, rfl⟩
  obtain ⟨X, hX⟩ : ∃ V, (mulV an bn) = V := ⟨_, rfl⟩
  obtain ⟨Z, hZ⟩ : ∃ V, (mulV ad bd) = V := ⟨_, rfl⟩
  rw [hE0] at eNo eOk
  rw [hMN, hMD, hME, hX, hZ] at HM
  rw [hX, hE1] at H1
  rw [hZ, hE2] at H2
  rw [hE0, hE1, hE2, hMN, hMD, hME]
  clear hMN hMD hME hX hZ hE0 hE1 hE2 hva hvb lX lZ
  obtain ⟨qana, qanc⟩ := qan
  obtain ⟨qada, qadc⟩ := qad
  obtain ⟨qbna, qbnc⟩ := qbn
  obtain ⟨qbda, qbdc⟩ := qbd
  replace S := Lib.hid (S.out.box 26 [.slice qana an.length qanc, .slice qada ad.length qadc])
  replace S := Lib.hid (S.out.box' 26 [.slice qbna bn.length qbnc, .slice qbda bd.length qbdc] (K := w.heap.size + 1) (by simp))
  replace S := Lib.hid (S.out.box' 26 [.slice none 0 0, .slice none 0 0] (K := w.heap.size + 1 + 1) (by simp))
  clear han had hbn hbd
  go_enter Tryz.func84, Tryz.ntmps84
  go_wp2_with fail
  refine (HVa.out _ _ _ S.out.r0 S.out.r1).mono ?_
  rintro e w1 ⟨rfl, hb⟩
  replace S := Lib.hid (S.out.call hb)
  clear hb
  obtain ⟨⟨z2, f2, y2, y2a, -⟩, ⟨z1, f1, y1, y1a, -⟩, ⟨z0, f0, y0, y0a, -⟩, -⟩ := S.out.facts
  clear HVa
  cases va
  · have v := eNo.out rfl
    subst v
    replace S := Lib.hid (S.out.set 0 rfl 0 (.slice none 0 0))
    replace S := Lib.hid (S.out.set 0 rfl 1 (.slice none 0 0))
    have u := Lib.hid (m_no E1 E2 ME MN MD)
    go_wp2
    refine bodyPost_ret (v := .tuple #[.agg #[.slice none 0 0, .slice none 0 0], .int .i64 1]) (by simp [results, Tryz.results84, go_sem, y2, y2a]) rfl ?_
    rw [u.out.1, u.out.2.1, u.out.2.2]
    exact (show Ret (RRes2 w [] [] 1) _ _ from Ret.mk (fm_rres0 S.out))
  · go_wp2_with fail
    refine (HVb.out _ _ _ S.out.r2 S.out.r3).mono ?_
    rintro e w2 ⟨rfl, hb⟩
    replace S := Lib.hid (S.out.call hb)
    clear hb z0 f0 y0 y0a z1 f1 y1 y1a z2 f2 y2 y2a
    obtain ⟨⟨z2, f2, y2, y2a, -⟩, ⟨z1, f1, y1, y1a, -⟩, ⟨z0, f0, y0, y0a, -⟩, -⟩ := S.out.facts
    clear HVb
    cases vb
    · have v := eNo.out rfl
      subst v
      replace S := Lib.hid (S.out.set 0 rfl 0 (.slice none 0 0))
      replace S := Lib.hid (S.out.set 0 rfl 1 (.slice none 0 0))
      have u := Lib.hid (m_no E1 E2 ME MN MD)
      go_wp2
      refine bodyPost_ret (v := .tuple #[.agg #[.slice none 0 0, .slice none 0 0], .int .i64 1]) (by simp [results, Tryz.results84, go_sem, y2, y2a]) rfl ?_
      rw [u.out.1, u.out.2.1, u.out.2.2]
      exact (show Ret (RRes2 w [] [] 1) _ _ from Ret.mk (fm_rres0 S.out))
    · have v := eOk.out rfl
      subst v
      go_wp2_with fail
      refine (H1.out _ _ _ S.out.r0 S.out.r2).mono ?_
      rintro e w3 ⟨_, rfl, q1, rfl, hr, hf, hb⟩
      replace S := Lib.hid (natRes S.out hr hf hb)
      clear hr hf hb z0 f0 y0 y0a z1 f1 y1 y1a z2 f2 y2 y2a
      obtain ⟨⟨z2, f2, y2, y2a, -⟩, ⟨z1, f1, y1, y1a, -⟩, ⟨z0, f0, y0, y0a, -⟩, -⟩ := S.out.facts
      replace S := Lib.hid (S.out.box 24 [.slice q1.a (X).length q1.c])
      go_wp2_with fail
      refine (H2.out _ _ _ S.out.r2 S.out.r4).mono ?_
      rintro e w4 ⟨_, rfl, q2, rfl, hr, hf, hb⟩
      replace S := Lib.hid (natRes S.out hr hf hb)
      clear hr hf hb z0 f0 y0 y0a z1 f1 y1 y1a z2 f2 y2 y2a
      obtain ⟨⟨z3, f3, y3, -⟩, ⟨z2, f2, y2, y2a, -⟩, ⟨z1, f1, y1, y1a, -⟩, ⟨z0, f0, y0, y0a, -⟩, -⟩ := S.out.facts
      by_cases c : E1 = 0
      · subst c
        by_cases c : E2 = 0
        · subst c
          replace S := Lib.hid (S.out.box 24 [.slice q2.a (Z).length q2.c])
          go_wp2_with fail
          refine (HM.out _ _ _ S.out.r1 S.out.r0).mono ?_
          rintro e w5 ⟨_, rfl, q7, q8, rfl, hr, hr2, hf, hf2, hb⟩
          have fr7 := Lib.hid (hf.le S.out.size)
          have fr8 := Lib.hid (hf2.le S.out.size)
          replace S := Lib.hid (natRes2 S.out hr hr2 hf hf2 hb)
          clear hr hr2 hf hf2 hb z0 f0 y0 y0a z1 f1 y1 y1a z2 f2 y2 y2a z3 f3 y3
          obtain ⟨⟨z4, f4, y4, -⟩, ⟨z3, f3, y3, -⟩, ⟨z2, f2, y2, y2a, -⟩, ⟨z1, f1, y1, y1a, -⟩, ⟨z0, f0, y0, y0a, -⟩, -⟩ := S.out.facts
          replace S := Lib.hid (S.out.set 2 rfl 0 (.slice q7.a MN.length q7.c))
          replace S := Lib.hid (S.out.set 2 rfl 1 (.slice q8.a MD.length q8.c))
          go_wp2
          refine bodyPost_ret (v := .tuple #[ratV MN q7 MD q8, .int .i64 ME]) (by simp [results, Tryz.results84, go_sem, y2, y2a]) rfl ?_
          exact (show Ret (RRes2 w MN MD ME) _ _ from Ret.mk (fm_rres2 S.out (by simp) (by simp) fr7.out fr8.out))
        · have dE : (E2 != 0) = true := bne_iff_ne.2 c
          replace S := Lib.hid (S.out.set 1 rfl 0 (.slice none 0 0))
          replace S := Lib.hid (S.out.set 1 rfl 1 (.slice none 0 0))
          replace S := Lib.hid (S.out.box' 24 [.slice q2.a Z.length q2.c] (K := w4.heap.size) (by simp))
          have u := Lib.hid (m_b E2 ME MN MD c)
          go_wp2
          refine bodyPost_ret (v := .tuple #[.agg #[.slice none 0 0, .slice none 0 0], .int .i64 3]) (by simp [results, Tryz.results84, go_sem, y2, y2a, z2]) rfl ?_
          rw [u.out.1, u.out.2.1, u.out.2.2]
          exact (show Ret (RRes2 w [] [] 3) _ _ from Ret.mk (fm_rres0 S.out))
      · have dE : (E1 != 0) = true := bne_iff_ne.2 c
        replace S := Lib.hid (S.out.set 1 rfl 0 (.slice none 0 0))
        replace S := Lib.hid (S.out.set 1 rfl 1 (.slice none 0 0))
        replace S := Lib.hid (S.out.box' 24 [.slice q2.a Z.length q2.c] (K := w4.heap.size) (by simp))
        have u := Lib.hid (m_a E1 E2 ME MN MD c)
        go_wp2
        refine bodyPost_ret (v := .tuple #[.agg #[.slice none 0 0, .slice none 0 0], .int .i64 3]) (by simp [results, Tryz.results84, go_sem, y2, y2a, z2]) rfl ?_
        rw [u.out.1, u.out.2.1, u.out.2.2]
        exact (show Ret (RRes2 w [] [] 3) _ _ from Ret.mk (fm_rres0 S.out))
end Go.Proofs.YtpoddmkimhkmoaaGreat
namespace Go.Proofs.YtpoddmkimhkmoaaGreat
open Go.RowKit Go.Sv
theorem difV_lim (a b : List Int) : Lim (difV a b) := by
  unfold difV
  split
  · exact lim_lim _
  · exact Lim.nil
set_option maxHeartbeats 2000000 in
set_option maxRecDepth 100000 in
theorem xrsub_any (w : World) (an : List Int) (qan : LmP) (han : RLm w w.heap.size an qan) (lan : Lim an) (ad : List Int) (qad : LmP) (had : RLm w w.heap.size ad qad) (lad : Lim ad) (bn : List Int) (qbn : LmP) (hbn : RLm w w.heap.size bn qbn) (lbn : Lim bn) (bd : List Int) (qbd : LmP) (hbd : RLm w w.heap.size bd qbd) (lbd : Lim bd) :
    Calls Tryz.prog 102 #[ratV an qan ad qad, ratV bn qbn bd qbd] w (Ret (RRes2 w (qN (rcE an ad bn bd true) (difE (pX (rcE an ad bn bd true) (mulV an bd)) (pX (rcE an ad bn bd true) (mulV bn ad))) (makN (difV (pX (rcE an ad bn bd true) (mulV an bd)) (pX (rcE an ad bn bd true) (mulV bn ad))) (pX (rcE an ad bn bd true) (thZ true ad bd)))) (qN (rcE an ad bn bd true) (difE (pX (rcE an ad bn bd true) (mulV an bd)) (pX (rcE an ad bn bd true) (mulV bn ad))) (makD (difV (pX (rcE an ad bn bd true) (mulV an bd)) (pX (rcE an ad bn bd true) (mulV bn ad))) (pX (rcE an ad bn bd true) (thZ true ad bd)))) (e3 (rcE an ad bn bd true) (difE (pX (rcE an ad bn bd true) (mulV an bd)) (pX (rcE an ad bn bd true) (mulV bn ad))) (makE (difV (pX (rcE an ad bn bd true) (mulV an bd)) (pX (rcE an ad bn bd true) (mulV bn ad))) (pX (rcE an ad bn bd true) (thZ true ad bd)))))) := by
  have S := Lib.hid (natArg (natArg (natArg (natArg (Fm.init w) hbd) hbn) had) han)
  have HX := Lib.hid (fun q0 q1 q2 q3 w' (h0 : RLm w' w'.heap.size an q0) (h1 : RLm w' w'.heap.size ad q1) (h2 : RLm w' w'.heap.size bn q2) (h3 : RLm w' w'.heap.size bd q3) => rcross_true w' an q0 h0 lan ad q1 h1 lad bn q2 h2 lbn bd q3 h3 lbd)
  have lX := pX_lim (E := rcE an ad bn bd true) (mulV_lim an bd).1
  have lY := pX_lim (E := rcE an ad bn bd true) (mulV_lim bn ad).1
  have lZ := pX_lim (E := rcE an ad bn bd true) (thZ_lim true ad bd)
  have lS := difV_lim (pX (rcE an ad bn bd true) (mulV an bd)) (pX (rcE an ad bn bd true) (mulV bn ad))
  have HS := Lib.hid (fun q r w' (h1 : RLm w' w'.heap.size (pX (rcE an ad bn bd true) (mulV an bd)) q) (h2 : RLm w' w'.heap.size (pX (rcE an ad bn bd true) (mulV bn ad)) r) => rsub_any _ _ q r w' h1 h2 lX lY)
  have HM := Lib.hid (fun q r w' (h1 : RLm w' w'.heap.size (difV (pX (rcE an ad bn bd true) (mulV an bd)) (pX (rcE an ad bn bd true) (mulV bn ad))) q) (h2 : RLm w' w'.heap.size (pX (rcE an ad bn bd true) (thZ true ad bd)) r) => rmake_any w' _ q h1 lS _ r h2 lZ)
  obtain ⟨MN, hMN⟩ : ∃ V, makN (difV (pX (rcE an ad bn bd true) (mulV an bd)) (pX (rcE an ad bn bd true) (mulV bn ad))) (pX (rcE an ad bn bd true) (thZ true ad bd)) = V := ⟨_, rfl⟩
  obtain ⟨MD, hMD⟩ : ∃ V, makD (difV (pX (rcE an ad bn bd true) (mulV an bd)) (pX (rcE an ad bn bd true) (mulV bn ad))) (pX (rcE an ad bn bd true) (thZ true ad bd)) = V := ⟨_, rfl⟩
  obtain ⟨ME, hME⟩ : ∃ V, makE (difV (pX (rcE an ad bn bd true) (mulV an bd)) (pX (rcE an ad bn bd true) (mulV bn ad))) (pX (rcE an ad bn bd true) (thZ true ad bd)) = V := ⟨_, rfl⟩
  obtain ⟨S1, hS1⟩ : ∃ V, (difV (pX (rcE an ad bn bd true) (mulV an bd)) (pX (rcE an ad bn bd true) (mulV bn ad))) = V := ⟨_, rfl⟩
  obtain ⟨E2, hE2⟩ : ∃ V, (difE (pX (rcE an ad bn bd true) (mulV an bd)) (pX (rcE an ad bn bd true) (mulV bn ad))) = V := ⟨_, rfl⟩
  obtain ⟨X, hX⟩ : ∃ V, (pX (rcE an ad bn bd true) (mulV an bd)) = V := ⟨_, rfl⟩
  obtain ⟨Y, hY⟩ : ∃ V, (pX (rcE an ad bn bd true) (mulV bn ad)) = V := ⟨_, rfl⟩
  obtain ⟨Z, hZ⟩ : ∃ V, (pX (rcE an ad bn bd true) (thZ true ad bd)) = V := ⟨_, rfl⟩
  obtain ⟨E1, hE1⟩ : ∃ V, (rcE an ad bn bd true) = V := ⟨_, rfl⟩
  rw [hMN, hMD, hME] at HM
  rw [hS1, hZ] at HM
  rw [hS1, hE2, hX, hY] at HS
  rw [hX, hY, hZ, hE1] at HX
  rw [hMN, hMD, hME, hE2, hE1]
  clear hMN hMD hME hS1 hE2 hX hY hZ hE1 lX lY lZ lS
  obtain ⟨qana, qanc⟩ := qan
  obtain ⟨qada, qadc⟩ := qad
  obtain ⟨qbna, qbnc⟩ := qbn
  obtain ⟨qbda, qbdc⟩ := qbd
  replace S := Lib.hid (S.out.box 26 [.slice qana an.length qanc, .slice qada ad.length qadc])
  replace S := Lib.hid (S.out.box' 26 [.slice qbna bn.length qbnc, .slice qbda bd.length qbdc] (K := w.heap.size + 1) (by simp))
  replace S := Lib.hid (S.out.box' 26 [.slice none 0 0, .slice none 0 0] (K := w.heap.size + 1 + 1) (by simp))
  clear han had hbn hbd
  go_enter Tryz.func102, Tryz.ntmps102
  go_wp2_with fail
  refine (HX.out _ _ _ _ _ S.out.r0 S.out.r1 S.out.r2 S.out.r3).mono ?_
  rintro e w1 ⟨_, rfl, q1, q2, q3, rfl, hr, hr2, hr3, hf, hf2, hf3, hb⟩
  replace S := Lib.hid (natRes3 S.out hr hr2 hr3 hf hf2 hf3 hb)
  clear hr hr2 hr3 hf hf2 hf3 hb
  obtain ⟨⟨z2, f2, y2, y2a, -⟩, ⟨z1, f1, y1, y1a, -⟩, ⟨z0, f0, y0, y0a, -⟩, -⟩ := S.out.facts
  by_cases c : E1 = 0
  · subst c
    replace S := Lib.hid (S.out.box 101 [.slice q1.a X.length q1.c, .slice q2.a Y.length q2.c, .slice q3.a Z.length q3.c])
    go_wp2_with fail
    refine (HS.out _ _ _ S.out.r2 S.out.r1).mono ?_
    rintro e w2 ⟨_, rfl, q5, rfl, hr, hf, hb⟩
    replace S := Lib.hid (natRes S.out hr hf hb)
    clear hr hf hb z0 f0 y0 y0a z1 f1 y1 y1a z2 f2 y2 y2a
    obtain ⟨⟨z3, f3, y3, y3a, y3b, -⟩, ⟨z2, f2, y2, y2a, -⟩, ⟨z1, f1, y1, y1a, -⟩, ⟨z0, f0, y0, y0a, -⟩, -⟩ := S.out.facts
    by_cases c : E2 = 0
    · subst c
      replace S := Lib.hid (S.out.box 24 [.slice q5.a (S1).length q5.c])
      go_wp2_with fail
      refine (HM.out _ _ _ S.out.r0 S.out.r1).mono ?_
      rintro e w3 ⟨_, rfl, q7, q8, rfl, hr, hr2, hf, hf2, hb⟩
      have fr7 := Lib.hid (hf.le S.out.size)
      have fr8 := Lib.hid (hf2.le S.out.size)
      replace S := Lib.hid (natRes2 S.out hr hr2 hf hf2 hb)
      clear hr hr2 hf hf2 hb z0 f0 y0 y0a z1 f1 y1 y1a z2 f2 y2 y2a z3 f3 y3 y3a y3b
      obtain ⟨⟨z4, f4, y4, -⟩, ⟨z3, f3, y3, y3a, y3b, -⟩, ⟨z2, f2, y2, y2a, -⟩, ⟨z1, f1, y1, y1a, -⟩, ⟨z0, f0, y0, y0a, -⟩, -⟩ := S.out.facts
      replace S := Lib.hid (S.out.set 2 rfl 0 (.slice q7.a MN.length q7.c))
      replace S := Lib.hid (S.out.set 2 rfl 1 (.slice q8.a MD.length q8.c))
      go_wp2
      refine bodyPost_ret (v := .tuple #[ratV MN q7 MD q8, .int .i64 ME]) (by simp [results, Tryz.results102, go_sem, y2, y2a]) rfl ?_
      exact (show Ret (RRes2 w MN MD ME) _ _ from Ret.mk (fm_rres2 S.out (by simp) (by simp) fr7.out fr8.out))
    · have dE : (E2 != 0) = true := bne_iff_ne.2 c
      replace S := Lib.hid (S.out.set 1 rfl 0 (.slice none 0 0))
      replace S := Lib.hid (S.out.set 1 rfl 1 (.slice none 0 0))
      replace S := Lib.hid (S.out.box' 24 [.slice q5.a S1.length q5.c] (K := w2.heap.size) (by simp))
      have u := Lib.hid (q_b E2 ME MN MD c)
      go_wp2
      refine bodyPost_ret (v := .tuple #[.agg #[.slice none 0 0, .slice none 0 0], .int .i64 E2]) (by simp [results, Tryz.results102, go_sem, y2, y2a, z2]) rfl ?_
      rw [u.out.1, u.out.2.1, u.out.2.2]
      exact (show Ret (RRes2 w [] [] E2) _ _ from Ret.mk (fm_rres0 S.out))
  · have dE : (E1 != 0) = true := bne_iff_ne.2 c
    replace S := Lib.hid (S.out.set 0 rfl 0 (.slice none 0 0))
    replace S := Lib.hid (S.out.set 0 rfl 1 (.slice none 0 0))
    replace S := Lib.hid (S.out.box' 101 [.slice q1.a X.length q1.c, .slice q2.a Y.length q2.c, .slice q3.a Z.length q3.c] (K := w1.heap.size) (by simp))
    have u := Lib.hid (q_a E1 E2 ME MN MD c)
    go_wp2
    refine bodyPost_ret (v := .tuple #[.agg #[.slice none 0 0, .slice none 0 0], .int .i64 E1]) (by simp [results, Tryz.results102, go_sem, y2, y2a, z2]) rfl ?_
    rw [u.out.1, u.out.2.1, u.out.2.2]
    exact (show Ret (RRes2 w [] [] E1) _ _ from Ret.mk (fm_rres0 S.out))
end Go.Proofs.YtpoddmkimhkmoaaGreat
namespace Go.Proofs.YtpoddmkimhkmoaaGreat
open Go.RowKit Go.Sv
theorem cut_03 (n : Nat) : cutE n = 0 ∨ cutE n = 3 := by
  unfold cutE
  split
  · exact Or.inr rfl
  · exact Or.inl rfl
theorem mul_v {a b : List Int} (va : vN a = true) (vb : vN b = true) : mulE a b = cutE (vl a * vl b) ∧ mulV a b = cutV (vl a * vl b) := by
  unfold mulE mulV
  rw [va, vb, Bool.and_self, if_pos rfl, if_pos rfl]
  exact ⟨rfl, rfl⟩
theorem sum_v {a b : List Int} (va : vN a = true) (vb : vN b = true) : sumE a b = cutE (vl a + vl b) ∧ sumV a b = cutV (vl a + vl b) := by
  unfold sumE sumV
  rw [va, vb, Bool.and_self, if_pos rfl, if_pos rfl]
  exact ⟨rfl, rfl⟩
theorem mul_03 {a b : List Int} (va : vN a = true) (vb : vN b = true) : mulE a b = 0 ∨ mulE a b = 3 := by rw [(mul_v va vb).1]; exact cut_03 _
theorem sum_03 {a b : List Int} (va : vN a = true) (vb : vN b = true) : sumE a b = 0 ∨ sumE a b = 3 := by rw [(sum_v va vb).1]; exact cut_03 _
theorem mak_good {n d : List Int} (vn : vN n = true) (vd : vN d = true) (hz : vl d ≠ 0) : makN n d = rdN (vl n) (vl d) ∧ makD n d = rdD (vl n) (vl d) ∧ makE n d = 0 := by
  have hv : (vN n && vN d) = true := by rw [vn, vd]; rfl
  exact ⟨if_pos ⟨hv, hz⟩, if_pos ⟨hv, hz⟩, by unfold makE; rw [if_pos hv, if_neg hz]⟩
/-- the program's answers -/
def addE (an ad bn bd : List Int) : Int := e3 (crE an ad bn bd) (sumE (crX an ad bn bd) (crY an ad bn bd)) (mulE ad bd)
def addN (an ad bn bd : List Int) : List Int := gN (addE an ad bn bd) (sumV (crX an ad bn bd) (crY an ad bn bd)) (mulV ad bd)
def addD (an ad bn bd : List Int) : List Int := gD (addE an ad bn bd) (sumV (crX an ad bn bd) (crY an ad bn bd)) (mulV ad bd)
def subE (an ad bn bd : List Int) : Int := e3 (crE an ad bn bd) (mulE ad bd) (difE (crX an ad bn bd) (crY an ad bn bd))
def subN (an ad bn bd : List Int) : List Int := gN (subE an ad bn bd) (difV (crX an ad bn bd) (crY an ad bn bd)) (mulV ad bd)
def subD (an ad bn bd : List Int) : List Int := gD (subE an ad bn bd) (difV (crX an ad bn bd) (crY an ad bn bd)) (mulV ad bd)
def prdE (an ad bn bd : List Int) : Int := e3 (vE an ad bn bd) (mulE an bn) (mulE ad bd)
def prdN (an ad bn bd : List Int) : List Int := gN (prdE an ad bn bd) (mulV an bn) (mulV ad bd)
def prdD (an ad bn bd : List Int) : List Int := gD (prdE an ad bn bd) (mulV an bn) (mulV ad bd)
theorem vR_not {an ad bn bd : List Int} (hv : ¬ (vR an ad && vR bn bd) = true) : vE an ad bn bd = 1 ∧ crE an ad bn bd = 1 ∧ ∀ f, rcE an ad bn bd f = 1 := by
  have h := Bool.eq_false_iff.2 hv
  refine ⟨vE_no h, (cr_no h).2.2, fun f => ?_⟩
  unfold rcE
  rw [vE_no h]
  rfl
theorem g_no {E K : Int} (h : E = K) (hK : ¬ K = 0) (x y : List Int) : gN E x y = [] ∧ gD E x y = [] := by subst h; exact ⟨if_neg hK, if_neg hK⟩
theorem q_no {p q : Int} (h : ¬ p = 0 ∨ ¬ q = 0) (l : List Int) : qN p q l = [] := by
  unfold qN
  rcases h with h | h
  · rw [if_neg h]
  · by_cases c : p = 0
    · rw [if_pos c, if_neg h]
    · rw [if_neg c]
theorem add_ref (an ad bn bd : List Int) :
    qN (rcE an ad bn bd true) (sumE (pX (rcE an ad bn bd true) (mulV an bd)) (pX (rcE an ad bn bd true) (mulV bn ad))) (makN (sumV (pX (rcE an ad bn bd true) (mulV an bd)) (pX (rcE an ad bn bd true) (mulV bn ad))) (pX (rcE an ad bn bd true) (thZ true ad bd))) = addN an ad bn bd ∧
    qN (rcE an ad bn bd true) (sumE (pX (rcE an ad bn bd true) (mulV an bd)) (pX (rcE an ad bn bd true) (mulV bn ad))) (makD (sumV (pX (rcE an ad bn bd true) (mulV an bd)) (pX (rcE an ad bn bd true) (mulV bn ad))) (pX (rcE an ad bn bd true) (thZ true ad bd))) = addD an ad bn bd ∧
    e3 (rcE an ad bn bd true) (sumE (pX (rcE an ad bn bd true) (mulV an bd)) (pX (rcE an ad bn bd true) (mulV bn ad))) (makE (sumV (pX (rcE an ad bn bd true) (mulV an bd)) (pX (rcE an ad bn bd true) (mulV bn ad))) (pX (rcE an ad bn bd true) (thZ true ad bd))) = addE an ad bn bd := by
  by_cases hv : (vR an ad && vR bn bd) = true
  · have hv0 := vE_ok hv
    obtain ⟨ga, gb⟩ := (Bool.and_eq_true _ _).mp hv
    obtain ⟨vn, vd, zd, -⟩ := vR_pos ga
    obtain ⟨vn2, vd2, zd2, -⟩ := vR_pos gb
    by_cases h0 : mulE an bd = 0 ∧ mulE bn ad = 0
    · obtain ⟨h1, h2⟩ := h0
      obtain ⟨eX, eY, eE⟩ := cr_ok hv h1
      rw [h2] at eE
      obtain ⟨-, vX, -⟩ := mul_good h1
      obtain ⟨-, vY, -⟩ := mul_good h2
      rcases mul_03 vd vd2 with h3 | h3
      · have R0 : rcE an ad bn bd true = 0 := by unfold rcE thE; rw [hv0, h1, h2, if_pos rfl, h3]; rfl
        obtain ⟨-, vZ, eZ⟩ := mul_good h3
        have hz : vl (mulV ad bd) ≠ 0 := by rw [eZ]; exact Nat.mul_ne_zero zd zd2
        rw [R0]
        unfold addN addD addE
        rw [eX, eY, eE, h3]
        show qN 0 (sumE (mulV an bd) (mulV bn ad)) (makN (sumV (mulV an bd) (mulV bn ad)) (mulV ad bd)) = _ ∧ qN 0 (sumE (mulV an bd) (mulV bn ad)) (makD (sumV (mulV an bd) (mulV bn ad)) (mulV ad bd)) = _ ∧ e3 0 (sumE (mulV an bd) (mulV bn ad)) (makE (sumV (mulV an bd) (mulV bn ad)) (mulV ad bd)) = _
        rcases sum_03 vX vY with h4 | h4
        · obtain ⟨-, vS, -⟩ := sum_good h4
          obtain ⟨m1, m2, m3⟩ := mak_good vS vZ hz
          rw [h4, m1, m2, m3]
          exact ⟨rfl, rfl, rfl⟩
        · rw [h4]; exact ⟨rfl, rfl, rfl⟩
      · have R3 : rcE an ad bn bd true = 3 := by unfold rcE thE; rw [hv0, h1, h2, if_pos rfl, h3]; rfl
        have a3 : addE an ad bn bd = 3 := by
          unfold addE
          rw [eX, eY, eE, h3]
          rcases sum_03 vX vY with h4 | h4 <;> rw [h4] <;> rfl
        unfold addN addD
        rw [R3, a3]
        exact ⟨rfl, rfl, rfl⟩
    · have R3 : rcE an ad bn bd true = 3 := by
        unfold rcE
        rw [hv0]
        rcases mul_03 vn vd2 with h1 | h1
        · rcases mul_03 vn2 vd with h2 | h2
          · exact absurd ⟨h1, h2⟩ h0
          · rw [h1, h2]; rfl
        · rw [h1]; rfl
      have C3 : crE an ad bn bd = 3 := by
        unfold crE
        rw [if_pos hv]
        rcases mul_03 vn vd2 with h1 | h1
        · rcases mul_03 vn2 vd with h2 | h2
          · exact absurd ⟨h1, h2⟩ h0
          · rw [h1, h2]; rfl
        · rw [h1]; rfl
      have a3 : addE an ad bn bd = 3 := by unfold addE; rw [C3]; rfl
      unfold addN addD
      rw [R3, a3]
      exact ⟨rfl, rfl, rfl⟩
  · obtain ⟨-, c1, r1⟩ := vR_not hv
    have a1 : addE an ad bn bd = 1 := by unfold addE; rw [c1]; rfl
    unfold addN addD
    rw [r1, a1]
    exact ⟨rfl, rfl, rfl⟩
theorem sub_ref (an ad bn bd : List Int) :
    qN (rcE an ad bn bd true) (difE (pX (rcE an ad bn bd true) (mulV an bd)) (pX (rcE an ad bn bd true) (mulV bn ad))) (makN (difV (pX (rcE an ad bn bd true) (mulV an bd)) (pX (rcE an ad bn bd true) (mulV bn ad))) (pX (rcE an ad bn bd true) (thZ true ad bd))) = subN an ad bn bd ∧
    qN (rcE an ad bn bd true) (difE (pX (rcE an ad bn bd true) (mulV an bd)) (pX (rcE an ad bn bd true) (mulV bn ad))) (makD (difV (pX (rcE an ad bn bd true) (mulV an bd)) (pX (rcE an ad bn bd true) (mulV bn ad))) (pX (rcE an ad bn bd true) (thZ true ad bd))) = subD an ad bn bd ∧
    e3 (rcE an ad bn bd true) (difE (pX (rcE an ad bn bd true) (mulV an bd)) (pX (rcE an ad bn bd true) (mulV bn ad))) (makE (difV (pX (rcE an ad bn bd true) (mulV an bd)) (pX (rcE an ad bn bd true) (mulV bn ad))) (pX (rcE an ad bn bd true) (thZ true ad bd))) = subE an ad bn bd := by
  by_cases hv : (vR an ad && vR bn bd) = true
  · have hv0 := vE_ok hv
    obtain ⟨ga, gb⟩ := (Bool.and_eq_true _ _).mp hv
    obtain ⟨vn, vd, zd, -⟩ := vR_pos ga
    obtain ⟨vn2, vd2, zd2, -⟩ := vR_pos gb
    by_cases h0 : mulE an bd = 0 ∧ mulE bn ad = 0
    · obtain ⟨h1, h2⟩ := h0
      obtain ⟨eX, eY, eE⟩ := cr_ok hv h1
      rw [h2] at eE
      obtain ⟨lX, vX, -⟩ := mul_good h1
      obtain ⟨-, vY, -⟩ := mul_good h2
      rcases mul_03 vd vd2 with h3 | h3
      · have R0 : rcE an ad bn bd true = 0 := by unfold rcE thE; rw [hv0, h1, h2, if_pos rfl, h3]; rfl
        obtain ⟨-, vZ, eZ⟩ := mul_good h3
        have hz : vl (mulV ad bd) ≠ 0 := by rw [eZ]; exact Nat.mul_ne_zero zd zd2
        rw [R0]
        unfold subN subD subE
        rw [eX, eY, eE, h3]
        show qN 0 (difE (mulV an bd) (mulV bn ad)) (makN (difV (mulV an bd) (mulV bn ad)) (mulV ad bd)) = _ ∧ qN 0 (difE (mulV an bd) (mulV bn ad)) (makD (difV (mulV an bd) (mulV bn ad)) (mulV ad bd)) = _ ∧ e3 0 (difE (mulV an bd) (mulV bn ad)) (makE (difV (mulV an bd) (mulV bn ad)) (mulV ad bd)) = _
        by_cases h4 : difE (mulV an bd) (mulV bn ad) = 0
        · obtain ⟨-, vS, -⟩ := dif_good lX h4
          obtain ⟨m1, m2, m3⟩ := mak_good vS vZ hz
          rw [h4, m1, m2, m3]
          exact ⟨rfl, rfl, rfl⟩
        · obtain ⟨q1, q2, q3⟩ := q_b (difE (mulV an bd) (mulV bn ad)) (makE (difV (mulV an bd) (mulV bn ad)) (mulV ad bd)) (makN (difV (mulV an bd) (mulV bn ad)) (mulV ad bd)) (makD (difV (mulV an bd) (mulV bn ad)) (mulV ad bd)) h4
          have e : e3 0 0 (difE (mulV an bd) (mulV bn ad)) = difE (mulV an bd) (mulV bn ad) := rfl
          obtain ⟨g1, g2⟩ := g_no e h4 (difV (mulV an bd) (mulV bn ad)) (mulV ad bd)
          rw [q1, q2, q3, g1, g2]
          exact ⟨rfl, rfl, rfl⟩
      · have R3 : rcE an ad bn bd true = 3 := by unfold rcE thE; rw [hv0, h1, h2, if_pos rfl, h3]; rfl
        have a3 : subE an ad bn bd = 3 := by
          unfold subE
          rw [eE, h3]
          rfl
        unfold subN subD
        rw [R3, a3]
        exact ⟨rfl, rfl, rfl⟩
    · have R3 : rcE an ad bn bd true = 3 := by
        unfold rcE
        rw [hv0]
        rcases mul_03 vn vd2 with h1 | h1
        · rcases mul_03 vn2 vd with h2 | h2
          · exact absurd ⟨h1, h2⟩ h0
          · rw [h1, h2]; rfl
        · rw [h1]; rfl
      have C3 : crE an ad bn bd = 3 := by
        unfold crE
        rw [if_pos hv]
        rcases mul_03 vn vd2 with h1 | h1
        · rcases mul_03 vn2 vd with h2 | h2
          · exact absurd ⟨h1, h2⟩ h0
          · rw [h1, h2]; rfl
        · rw [h1]; rfl
      have a3 : subE an ad bn bd = 3 := by unfold subE; rw [C3]; rfl
      unfold subN subD
      rw [R3, a3]
      exact ⟨rfl, rfl, rfl⟩
  · obtain ⟨-, c1, r1⟩ := vR_not hv
    have a1 : subE an ad bn bd = 1 := by unfold subE; rw [c1]; rfl
    unfold subN subD
    rw [r1, a1]
    exact ⟨rfl, rfl, rfl⟩
theorem mul_ref (an ad bn bd : List Int) :
    qM (vE an ad bn bd) (mulE an bn) (mulE ad bd) (makN (mulV an bn) (mulV ad bd)) = prdN an ad bn bd ∧
    qM (vE an ad bn bd) (mulE an bn) (mulE ad bd) (makD (mulV an bn) (mulV ad bd)) = prdD an ad bn bd ∧
    rM (vE an ad bn bd) (mulE an bn) (mulE ad bd) (makE (mulV an bn) (mulV ad bd)) = prdE an ad bn bd := by
  unfold prdN prdD prdE
  by_cases hv : (vR an ad && vR bn bd) = true
  · have hv0 := vE_ok hv
    obtain ⟨ga, gb⟩ := (Bool.and_eq_true _ _).mp hv
    obtain ⟨vn, vd, zd, -⟩ := vR_pos ga
    obtain ⟨vn2, vd2, zd2, -⟩ := vR_pos gb
    rw [hv0]
    rcases mul_03 vn vn2 with h1 | h1
    · rcases mul_03 vd vd2 with h2 | h2
      · obtain ⟨-, vX, -⟩ := mul_good h1
        obtain ⟨-, vZ, eZ⟩ := mul_good h2
        obtain ⟨m1, m2, m3⟩ := mak_good vX vZ (by rw [eZ]; exact Nat.mul_ne_zero zd zd2)
        rw [h1, h2, m1, m2, m3]
        exact ⟨rfl, rfl, rfl⟩
      · rw [h1, h2]; exact ⟨rfl, rfl, rfl⟩
    · rw [h1]; exact ⟨rfl, rfl, rfl⟩
  · rw [(vR_not hv).1]
    exact ⟨rfl, rfl, rfl⟩
theorem cmp_ref (an ad bn bd : List Int) : rrcV an ad bn bd = rcV an ad bn bd ∧ rcE an ad bn bd false = crE an ad bn bd := by
  unfold rrcV rcV
  by_cases hv : (vR an ad && vR bn bd) = true
  · have hv0 := vE_ok hv
    obtain ⟨ga, gb⟩ := (Bool.and_eq_true _ _).mp hv
    obtain ⟨vn, vd, zd, -⟩ := vR_pos ga
    obtain ⟨vn2, vd2, zd2, -⟩ := vR_pos gb
    rcases mul_03 vn vd2 with h1 | h1
    · obtain ⟨eX, eY, eE⟩ := cr_ok hv h1
      have R : rcE an ad bn bd false = mulE bn ad := by
        unfold rcE thE
        rw [hv0, h1, if_neg (by decide)]
        rcases mul_03 vn2 vd with h2 | h2 <;> rw [h2] <;> rfl
      rw [R, eX, eY, eE]
      by_cases c : mulE bn ad = 0
      · rw [c]; exact ⟨rfl, rfl⟩
      · rw [if_neg c, if_neg c]; exact ⟨rfl, rfl⟩
    · obtain ⟨eX, eY, eE⟩ := cr_big hv (by rw [h1]; decide)
      have R : rcE an ad bn bd false = 3 := by
        unfold rcE
        rw [hv0, h1]
        rfl
      rw [R, eE, h1]
      exact ⟨rfl, rfl⟩
  · obtain ⟨-, c1, r1⟩ := vR_not hv
    rw [r1, c1]
    exact ⟨rfl, rfl⟩
/-- what is in lowest terms and has the same value -/
theorem rd_eq {N D n d : Nat} (hD : 0 < D) (hd : 0 < d) (hg : Nat.gcd n d = 1) (h : N * d = n * D) : rdN N D = lim n ∧ rdD N D = lim d := by
  have hG : 0 < Nat.gcd N D := Nat.gcd_pos_of_pos_right _ hD
  have e1 : d ∣ D := by
    have : d ∣ n * D := ⟨N, by rw [← h, Nat.mul_comm]⟩
    exact (Nat.Coprime.dvd_of_dvd_mul_left (Nat.coprime_comm.1 hg) this)
  obtain ⟨k, rfl⟩ := e1
  have hk : 0 < k := Nat.pos_of_ne_zero fun e => by rw [e] at hD; omega
  have eN : N = n * k := by
    have : N * d = (n * k) * d := by rw [h, Nat.mul_assoc, Nat.mul_comm d k]
    exact Nat.eq_of_mul_eq_mul_right hd this
  subst eN
  unfold rdN rdD
  rw [Nat.gcd_mul_right, hg, Nat.one_mul, Nat.mul_div_cancel _ hk, Nat.mul_div_cancel _ hk]
  exact ⟨rfl, rfl⟩
/-- the value of a fraction in lowest terms -/
theorem rd_val {N D : Nat} (hD : 0 < D) : ∃ n d : Nat, rdN N D = lim n ∧ rdD N D = lim d ∧ 0 < d ∧ Nat.gcd n d = 1 ∧ N * d = n * D ∧ n ≤ N ∧ d ≤ D := by
  have hG : 0 < Nat.gcd N D := Nat.gcd_pos_of_pos_right _ hD
  refine ⟨N / Nat.gcd N D, D / Nat.gcd N D, rfl, rfl, Nat.div_pos (Nat.le_of_dvd hD (Nat.gcd_dvd_right _ _)) hG, ?_, ?_, Nat.div_le_self _ _, Nat.div_le_self _ _⟩
  · exact Nat.gcd_div_gcd_div_gcd_of_pos_right hD
  · have a := Nat.div_mul_cancel (Nat.gcd_dvd_left N D)
    have b := Nat.div_mul_cancel (Nat.gcd_dvd_right N D)
    generalize N / Nat.gcd N D = x at a ⊢
    generalize D / Nat.gcd N D = y at b ⊢
    generalize Nat.gcd N D = g at a b
    subst a b
    rw [Nat.mul_assoc, Nat.mul_comm g y]
end Go.Proofs.YtpoddmkimhkmoaaGreat
namespace Go.Proofs.YtpoddmkimhkmoaaGreat
open Go.RowKit Go.Sv
theorem vR_lim {n d : Nat} (hn : sm n) (hd : sm d) (z : d ≠ 0) (g : Nat.gcd n d = 1) : vR (lim n) (lim d) = true := by
  unfold vR
  rw [vN_lim hn, vN_lim hd, vl_lim, vl_lim, decide_eq_true z, decide_eq_true g]; rfl
section
variable {n d n2 d2 : Nat} (v1 : vR (lim n) (lim d) = true) (v2 : vR (lim n2) (lim d2) = true) (h1 : sm (n * d2)) (h2 : sm (n2 * d)) (h3 : sm (d * d2))
include v1 v2
theorem v_sm : sm n ∧ sm d ∧ sm n2 ∧ sm d2 := by
  obtain ⟨a, b, -, -⟩ := vR_pos v1
  obtain ⟨c, e, -, -⟩ := vR_pos v2
  exact ⟨(vN_can a).1, (vN_can b).1, (vN_can c).1, (vN_can e).1⟩
include h1 h2
theorem cr_lim' : crE (lim n) (lim d) (lim n2) (lim d2) = 0 ∧ crX (lim n) (lim d) (lim n2) (lim d2) = lim (n * d2) ∧ crY (lim n) (lim d) (lim n2) (lim d2) = lim (n2 * d) := by
  obtain ⟨a, b, c, e⟩ := v_sm v1 v2
  obtain ⟨m1, m2⟩ := mul_lim a e h1
  obtain ⟨m3, m4⟩ := mul_lim c b h2
  obtain ⟨x, y, z⟩ := cr_ok (an := lim n) (ad := lim d) (bn := lim n2) (bd := lim d2) (by rw [v1, v2]; rfl) m1
  rw [x, y, z, m2, m3, m4]
  exact ⟨rfl, rfl, rfl⟩
theorem cmp_val : crE (lim n) (lim d) (lim n2) (lim d2) = 0 ∧ rcV (lim n) (lim d) (lim n2) (lim d2) = cmpL (lim (n * d2)) (lim (n2 * d)) := by
  obtain ⟨x, y, z⟩ := cr_lim' v1 v2 h1 h2
  unfold rcV
  rw [x, y, z]
  exact ⟨rfl, rfl⟩
include h3
theorem add_val (h4 : sm (n * d2 + n2 * d)) : addE (lim n) (lim d) (lim n2) (lim d2) = 0 ∧ addN (lim n) (lim d) (lim n2) (lim d2) = rdN (n * d2 + n2 * d) (d * d2) ∧ addD (lim n) (lim d) (lim n2) (lim d2) = rdD (n * d2 + n2 * d) (d * d2) := by
  obtain ⟨a, b, c, e⟩ := v_sm v1 v2
  obtain ⟨x, y, z⟩ := cr_lim' v1 v2 h1 h2
  obtain ⟨m1, m2⟩ := mul_lim b e h3
  obtain ⟨s1, s2⟩ := sum_lim h1 h2 h4
  unfold addN addD addE
  rw [x, y, z, m1, m2, s1, s2]
  unfold gN gD
  rw [vl_lim, vl_lim]
  exact ⟨rfl, rfl, rfl⟩
theorem sub_val (h4 : n2 * d ≤ n * d2) : subE (lim n) (lim d) (lim n2) (lim d2) = 0 ∧ subN (lim n) (lim d) (lim n2) (lim d2) = rdN (n * d2 - n2 * d) (d * d2) ∧ subD (lim n) (lim d) (lim n2) (lim d2) = rdD (n * d2 - n2 * d) (d * d2) := by
  obtain ⟨a, b, c, e⟩ := v_sm v1 v2
  obtain ⟨x, y, z⟩ := cr_lim' v1 v2 h1 h2
  obtain ⟨m1, m2⟩ := mul_lim b e h3
  obtain ⟨s1, s2⟩ := dif_lim h1 h2 h4
  unfold subN subD subE
  rw [x, y, z, m1, m2, s1, s2]
  unfold gN gD
  rw [vl_lim, vl_lim]
  exact ⟨rfl, rfl, rfl⟩
end
theorem prd_val {n d n2 d2 : Nat} (v1 : vR (lim n) (lim d) = true) (v2 : vR (lim n2) (lim d2) = true) (h1 : sm (n * n2)) (h2 : sm (d * d2)) : prdE (lim n) (lim d) (lim n2) (lim d2) = 0 ∧ prdN (lim n) (lim d) (lim n2) (lim d2) = rdN (n * n2) (d * d2) ∧ prdD (lim n) (lim d) (lim n2) (lim d2) = rdD (n * n2) (d * d2) := by
  obtain ⟨a, b, c, e⟩ := v_sm v1 v2
  obtain ⟨m1, m2⟩ := mul_lim a c h1
  obtain ⟨m3, m4⟩ := mul_lim b e h2
  unfold prdN prdD prdE
  rw [vE_ok (by rw [v1, v2]; rfl), m1, m2, m3, m4]
  unfold gN gD
  rw [vl_lim, vl_lim]
  exact ⟨rfl, rfl, rfl⟩
theorem mak_lim {a b : Nat} (ha : sm a) (hb : sm b) (hz : b ≠ 0) : makN (lim a) (lim b) = rdN a b ∧ makD (lim a) (lim b) = rdD a b ∧ makE (lim a) (lim b) = 0 := by
  have := mak_good (vN_lim ha) (vN_lim hb) (by rw [vl_lim]; exact hz)
  rw [vl_lim, vl_lim] at this
  exact this
theorem mak_zero {a b : Nat} (ha : sm a) (hb : sm b) (hz : b = 0) : makN (lim a) (lim b) = [] ∧ makD (lim a) (lim b) = [] ∧ makE (lim a) (lim b) = 8 := by
  have hv : (vN (lim a) && vN (lim b)) = true := by rw [vN_lim ha, vN_lim hb]; rfl
  unfold makN makD makE
  rw [if_pos hv, vl_lim, if_pos hz, if_neg (fun h => h.2 hz), if_neg (fun h => h.2 hz)]
  exact ⟨rfl, rfl, rfl⟩
theorem rd64 : rdN 6 4 = lim 3 ∧ rdD 6 4 = lim 2 := rd_eq (by decide) (by decide) (by decide) (by decide)
theorem rd12 : rdN 1 2 = lim 1 ∧ rdD 1 2 = lim 2 := rd_eq (by decide) (by decide) (by decide) (by decide)
end Go.Proofs.YtpoddmkimhkmoaaGreat
namespace Go.Proofs.YtpoddmkimhkmoaaGreat
open Go.RowKit Go.Sv
theorem rd_cross {n d m e : Nat} (hd : 0 < d) (he : 0 < e) (h : n * e = m * d) : rdN n d = rdN m e ∧ rdD n d = rdD m e := by
  obtain ⟨p, q, e1, e2, q0, g, hv, _, _⟩ := rd_val (N := m) (D := e) he
  rw [e1, e2]
  refine rd_eq hd q0 g ?_
  refine Nat.eq_of_mul_eq_mul_right he ?_
  have a1 : n * q * e = (n * e) * q := by grind
  have a2 : p * d * e = (p * e) * d := by grind
  rw [a1, a2, h, ← hv]
  grind
theorem rd_v {n d : Nat} (hd : 0 < d) (hn : sm n) (hs : sm d) : ∃ p q, rdN n d = lim p ∧ rdD n d = lim q ∧ 0 < q ∧ n * q = p * d ∧ p ≤ n ∧ q ≤ d ∧ vR (lim p) (lim q) = true := by
  obtain ⟨p, q, e1, e2, q0, g, hv, pn, qd⟩ := rd_val (N := n) (D := d) hd
  exact ⟨p, q, e1, e2, q0, hv, pn, qd, vR_lim (sm_mono pn hn) (sm_mono qd hs) (by omega) g⟩
section
variable {n d m e : Nat} (hd : 0 < d) (he : 0 < e)
include hd he
theorem fr_add (hn : sm n) (hm : sm m) (sd : sm d) (se : sm e) (h4 : sm (n * e + m * d)) (h3 : sm (d * e)) :
    addE (rdN n d) (rdD n d) (rdN m e) (rdD m e) = 0 ∧ addN (rdN n d) (rdD n d) (rdN m e) (rdD m e) = rdN (n * e + m * d) (d * e) ∧ addD (rdN n d) (rdD n d) (rdN m e) (rdD m e) = rdD (n * e + m * d) (d * e) := by
  obtain ⟨p, q, e1, e2, q0, hv, pn, qd, v1⟩ := rd_v hd hn sd
  obtain ⟨r, s, e3, e4, s0, hw, rm, se', v2⟩ := rd_v he hm se
  rw [e1, e2, e3, e4]
  have b1 : p * s ≤ n * e := Nat.mul_le_mul pn se'
  have b2 : r * q ≤ m * d := Nat.mul_le_mul rm qd
  have b3 : q * s ≤ d * e := Nat.mul_le_mul qd se'
  obtain ⟨x, y, z⟩ := add_val v1 v2 (sm_mono (by omega) h4) (sm_mono (by omega) h4) (sm_mono b3 h3) (sm_mono (by omega) h4)
  obtain ⟨c1, c2⟩ := rd_cross (n := p * s + r * q) (d := q * s) (m := n * e + m * d) (e := d * e) (Nat.mul_pos q0 s0) (Nat.mul_pos hd he) (by
    have a1 : (p * s + r * q) * (d * e) = (p * d) * (s * e) + (r * e) * (q * d) := by grind
    have a2 : (n * e + m * d) * (q * s) = (n * q) * (s * e) + (m * s) * (q * d) := by grind
    rw [a1, a2, hv, hw])
  exact ⟨x, y.trans c1, z.trans c2⟩
theorem fr_mul (hn : sm n) (hm : sm m) (sd : sm d) (se : sm e) (h1 : sm (n * m)) (h3 : sm (d * e)) :
    prdE (rdN n d) (rdD n d) (rdN m e) (rdD m e) = 0 ∧ prdN (rdN n d) (rdD n d) (rdN m e) (rdD m e) = rdN (n * m) (d * e) ∧ prdD (rdN n d) (rdD n d) (rdN m e) (rdD m e) = rdD (n * m) (d * e) := by
  obtain ⟨p, q, e1, e2, q0, hv, pn, qd, v1⟩ := rd_v hd hn sd
  obtain ⟨r, s, e3, e4, s0, hw, rm, se', v2⟩ := rd_v he hm se
  rw [e1, e2, e3, e4]
  obtain ⟨x, y, z⟩ := prd_val v1 v2 (sm_mono (Nat.mul_le_mul pn rm) h1) (sm_mono (Nat.mul_le_mul qd se') h3)
  obtain ⟨c1, c2⟩ := rd_cross (n := p * r) (d := q * s) (m := n * m) (e := d * e) (Nat.mul_pos q0 s0) (Nat.mul_pos hd he) (by
    have a1 : (p * r) * (d * e) = (p * d) * (r * e) := by grind
    have a2 : (n * m) * (q * s) = (n * q) * (m * s) := by grind
    rw [a1, a2, hv, hw])
  exact ⟨x, y.trans c1, z.trans c2⟩
end
/-- equal denominators -/
theorem fr_same {K S T : Nat} (hK : 0 < K) (hS : sm S) (hT : sm T) (sK : sm K) (h4 : sm (S * K + T * K)) (h3 : sm (K * K)) :
    addE (rdN S K) (rdD S K) (rdN T K) (rdD T K) = 0 ∧ addN (rdN S K) (rdD S K) (rdN T K) (rdD T K) = rdN (S + T) K ∧ addD (rdN S K) (rdD S K) (rdN T K) (rdD T K) = rdD (S + T) K := by
  obtain ⟨x, y, z⟩ := fr_add hK hK hS hT sK sK h4 h3
  obtain ⟨c1, c2⟩ := rd_cross (n := S * K + T * K) (d := K * K) (m := S + T) (e := K) (Nat.mul_pos hK hK) hK (by grind)
  exact ⟨x, y.trans c1, z.trans c2⟩
/-- comparing -/
theorem fr_cmp {n d m e : Nat} (hd : 0 < d) (he : 0 < e) (hn : sm n) (hm : sm m) (sd : sm d) (se : sm e) (h1 : sm (n * e)) (h2 : sm (m * d)) :
    crE (rdN n d) (rdD n d) (rdN m e) (rdD m e) = 0 ∧ rcV (rdN n d) (rdD n d) (rdN m e) (rdD m e) = cmpL (lim (n * e)) (lim (m * d)) := by
  obtain ⟨p, q, e1, e2, q0, hv, pn, qd, v1⟩ := rd_v hd hn sd
  obtain ⟨r, s, e3, e4, s0, hw, rm, se', v2⟩ := rd_v he hm se
  rw [e1, e2, e3, e4]
  obtain ⟨x, y⟩ := cmp_val v1 v2 (sm_mono (Nat.mul_le_mul pn se') h1) (sm_mono (Nat.mul_le_mul rm qd) h2)
  refine ⟨x, y.trans ?_⟩
  have a1 : (p * s) * (d * e) = (n * e) * (q * s) := by
    have : (p * s) * (d * e) = (p * d) * (s * e) := by grind
    rw [this, ← hv]
    grind
  have a2 : (r * q) * (d * e) = (m * d) * (q * s) := by
    have : (r * q) * (d * e) = (r * e) * (q * d) := by grind
    rw [this, ← hw]
    grind
  have k1 : 0 < d * e := Nat.mul_pos hd he
  have k2 : 0 < q * s := Nat.mul_pos q0 s0
  unfold cmpL cmpV
  rw [vt_lim, vt_lim, vt_lim, vt_lim]
  generalize p * s = A at a1 ⊢
  generalize r * q = B at a2 ⊢
  generalize n * e = X at a1 ⊢
  generalize m * d = Y at a2 ⊢
  generalize d * e = K at a1 a2 k1
  generalize q * s = L at a1 a2 k2
  have lt1 : A < B ↔ X < Y := by
    constructor
    · intro h
      refine Nat.lt_of_mul_lt_mul_right (a := L) ?_
      rw [← a1, ← a2]
      exact Nat.mul_lt_mul_of_pos_right h k1
    · intro h
      refine Nat.lt_of_mul_lt_mul_right (a := K) ?_
      rw [a1, a2]
      exact Nat.mul_lt_mul_of_pos_right h k2
  have lt2 : B < A ↔ Y < X := by
    constructor
    · intro h
      refine Nat.lt_of_mul_lt_mul_right (a := L) ?_
      rw [← a1, ← a2]
      exact Nat.mul_lt_mul_of_pos_right h k1
    · intro h
      refine Nat.lt_of_mul_lt_mul_right (a := K) ?_
      rw [a1, a2]
      exact Nat.mul_lt_mul_of_pos_right h k2
  simp only [Int.ofNat_lt, lt1, lt2]
end Go.Proofs.YtpoddmkimhkmoaaGreat
