/-
  CONTRACT of the law NaturalProduct.
  Conditions: those that each theorem names.
-/
import Derived.Test.YtmkkjghmgbkdgaaDoorNaV
namespace Go.Proofs.YtmkkjghmgbkdgaaDoor
open Go.RowKit Go.Sv
set_option maxHeartbeats 2000000 in
set_option maxRecDepth 100000 in
theorem law_mul_few (w : World) (a : List Int) (qa : LmP) (ha : RLm w w.heap.size a qa) (la : Lim a) (b : List Int) (qb : LmP) (hb : RLm w w.heap.size b qb) (lb : Lim b) (c : List Int) (qc : LmP) (hc : RLm w w.heap.size c qc) (lc : Lim c) (ht : Tab w) (hF : ([(a, qa), (b, qb), (c, qc)] : List LQ).all (fun x => decide ((x.1.length : Int) ≤ 130)) = false) :
    Calls Tryd.prog 4 #[natV a qa, natV b qb, natV c qc] w fun e w' => e = .returned (.bool true) ∧ Below w.heap.size w w' := by
  have ht' := Lib.hid (fun w' (hb : Below w.heap.size w w') => ht.to hb)
  have HAw := Lib.hid (fun w' (h : Below w.heap.size w w') => awake_any w' (ht'.out _ h))
  have S := Lib.hid (natArg (natArg (natArg (Fm.init w) hc) hb) ha)
  have HFew : Hid (∀ W kb kc kt bs rs, Fm w W (⟨kb, kt, [.slice qa.a a.length qa.c, .slice qb.a b.length qb.c, .slice qc.a c.length qc.c]⟩ :: bs) rs → Calls Tryd.prog 20 #[.int .i64 130, .slice (some ⟨kb, 0, none⟩) 3 kc] W fun e w' => e = .returned (.bool false) ∧ Below W.heap.size W w') := Lib.hid fun W kb kc kt bs rs S => by
    have := few_fm (c := kc) 130 [(a, qa), (b, qb), (c, qc)] S (by simp)
    rw [hF] at this
    exact this
  obtain ⟨qaa, qac⟩ := qa
  obtain ⟨qba, qbc⟩ := qb
  obtain ⟨qca, qcc⟩ := qc
  dsimp only at S HFew
  replace S := Lib.hid (S.out.box 26 [.slice qaa a.length qac])
  replace S := Lib.hid (S.out.box' 26 [.slice qba b.length qbc] (K := w.heap.size + 1) (by simp))
  replace S := Lib.hid (S.out.box' 26 [.slice qca c.length qcc] (K := w.heap.size + 1 + 1) (by simp))
  clear ha hb hc ht
  go_enter Tryd.func4, Tryd.ntmps4
  go_wp2_with fail
  refine (HAw.out _ S.out.bel).mono ?_
  rintro e w1 ⟨rfl, hb⟩
  replace S := Lib.hid (S.out.call hb)
  clear hb
  obtain ⟨⟨z2, f2, y2, -⟩, ⟨z1, f1, y1, -⟩, ⟨z0, f0, y0, -⟩, -⟩ := S.out.facts
  replace S := Lib.hid (S.out.box 26 [.slice qaa a.length qac, .slice qba b.length qbc, .slice qca c.length qcc])
  go_wp2_with fail
  refine (HFew.out _ _ _ _ _ _ S.out).mono ?_
  rintro e w2 ⟨rfl, hb⟩
  replace S := Lib.hid (S.out.call hb)
  clear hb z0 f0 y0 z1 f1 y1 z2 f2 y2
  obtain ⟨⟨z3, f3, y3, y3b, y3c, -⟩, ⟨z2, f2, y2, -⟩, ⟨z1, f1, y1, -⟩, ⟨z0, f0, y0, -⟩, -⟩ := S.out.facts
  go_wp2_with fail
  refine (HAw.out _ S.out.bel).mono ?_
  rintro e w3 ⟨rfl, hb⟩
  replace S := Lib.hid (S.out.call hb)
  clear hb z0 f0 y0 z1 f1 y1 z2 f2 y2 z3 f3 y3 y3b y3c
  obtain ⟨⟨z3, f3, y3, y3b, y3c, -⟩, ⟨z2, f2, y2, -⟩, ⟨z1, f1, y1, -⟩, ⟨z0, f0, y0, -⟩, -⟩ := S.out.facts
  go_wp2
  go_ret
  exact ⟨rfl, S.out.bel⟩
set_option maxHeartbeats 2000000 in
set_option maxRecDepth 100000 in
theorem law_mul_0 (w : World) (a : List Int) (qa : LmP) (ha : RLm w w.heap.size a qa) (la : Lim a) (b : List Int) (qb : LmP) (hb : RLm w w.heap.size b qb) (lb : Lim b) (c : List Int) (qc : LmP) (hc : RLm w w.heap.size c qc) (lc : Lim c) (ht : Tab w) (hF : ([(a, qa), (b, qb), (c, qc)] : List LQ).all (fun x => decide ((x.1.length : Int) ≤ 130)) = true) (e0 : mulE a b ≠ 0) :
    Calls Tryd.prog 4 #[natV a qa, natV b qb, natV c qc] w fun e w' => e = .returned (.bool true) ∧ Below w.heap.size w w' := by
  have ht' := Lib.hid (fun w' (hb : Below w.heap.size w w') => ht.to hb)
  have HAw := Lib.hid (fun w' (h : Below w.heap.size w w') => awake_any w' (ht'.out _ h))
  have S := Lib.hid (natArg (natArg (natArg (Fm.init w) hc) hb) ha)
  have HM := Lib.hid (fun q0 q1 w' (h0 : RLm w' w'.heap.size (a) q0) (h1 : RLm w' w'.heap.size (b) q1) => by
    have := mul_any (a) (b) q0 q1 w' h0 h1 (la) (lb)
    exact this)
  have HM2 := Lib.hid (fun q0 q1 w' (h0 : RLm w' w'.heap.size (a) q0) (h1 : RLm w' w'.heap.size (b) q1) => by
    have := rmul_any (a) (b) q0 q1 w' h0 h1 (la) (lb)
    exact this)
  have HM3 := Lib.hid (fun q r w' (h1 : RLm w' w'.heap.size b q) (h2 : RLm w' w'.heap.size a r) => by
    have := mul_any b a q r w' h1 h2 lb la
    rw [(mul_comm' a b).1, (mul_comm' a b).2] at this
    exact this)
  have HX := Lib.hid (fun q0 q1 w' (h0 : RLm w' w'.heap.size (a) q0) (h1 : RLm w' w'.heap.size (c) q1) => by
    have := mul_any (a) (c) q0 q1 w' h0 h1 (la) (lc)
    exact this)
  have HS1 := Lib.hid (fun q0 q1 w' (h0 : RLm w' w'.heap.size (b) q0) (h1 : RLm w' w'.heap.size (c) q1) => by
    have := add_any (b) (c) q0 q1 w' h0 h1 (lb) (lc)
    exact this)
  have HY := Lib.hid (fun q0 q1 w' (h0 : RLm w' w'.heap.size (mulV a b) q0) (h1 : RLm w' w'.heap.size (mulV a c) q1) => by
    have := add_any (mulV a b) (mulV a c) q0 q1 w' h0 h1 (mulV_lim _ _) (mulV_lim _ _)
    exact this)
  obtain ⟨P, hP⟩ : ∃ V, mulV a b = V := ⟨_, rfl⟩
  obtain ⟨X, hX⟩ : ∃ V, mulV a c = V := ⟨_, rfl⟩
  obtain ⟨U, hU⟩ : ∃ V, sumV b c = V := ⟨_, rfl⟩
  obtain ⟨Y, hY⟩ : ∃ V, sumV (mulV a b) (mulV a c) = V := ⟨_, rfl⟩
  rw [hY] at HY
  rw [hP] at HM HM2 HM3 HY
  rw [hX] at HX HY
  rw [hU] at HS1
  obtain ⟨E0, hE0⟩ : ∃ E, mulE a b = E := ⟨_, rfl⟩
  rw [hE0] at HM HM2 HM3
  rw [hE0] at e0
  have dE : (E0 != 0) = true := bne_iff_ne.2 e0
  obtain ⟨E1, hE1⟩ : ∃ E, mulE a c = E := ⟨_, rfl⟩
  rw [hE1] at HX
  obtain ⟨E2, hE2⟩ : ∃ E, sumE b c = E := ⟨_, rfl⟩
  rw [hE2] at HS1
  obtain ⟨E3, hE3⟩ : ∃ E, sumE P X = E := ⟨_, rfl⟩
  rw [hE3] at HY
  clear hP hX hU hY e0 hE0 hE1 hE2 hE3
  have HSP := Lib.hid (fun q r w' (h1 : RLm w' w'.heap.size (P) q) (h2 : RLm w' w'.heap.size (P) r) => by
    have := same_any (P) (P) q r w' h1 h2
    rw [decide_eq_true rfl] at this
    exact this)
  have HFew : Hid (∀ W kb kc kt bs rs, Fm w W (⟨kb, kt, [.slice qa.a a.length qa.c, .slice qb.a b.length qb.c, .slice qc.a c.length qc.c]⟩ :: bs) rs → Calls Tryd.prog 20 #[.int .i64 130, .slice (some ⟨kb, 0, none⟩) 3 kc] W fun e w' => e = .returned (.bool true) ∧ Below W.heap.size W w') := Lib.hid fun W kb kc kt bs rs S => by
    have := few_fm (c := kc) 130 [(a, qa), (b, qb), (c, qc)] S (by simp)
    rw [hF] at this
    exact this
  obtain ⟨qaa, qac⟩ := qa
  obtain ⟨qba, qbc⟩ := qb
  obtain ⟨qca, qcc⟩ := qc
  dsimp only at S HFew
  replace S := Lib.hid (S.out.box 26 [.slice qaa a.length qac])
  replace S := Lib.hid (S.out.box' 26 [.slice qba b.length qbc] (K := w.heap.size + 1) (by simp))
  replace S := Lib.hid (S.out.box' 26 [.slice qca c.length qcc] (K := w.heap.size + 1 + 1) (by simp))
  clear ha hb hc ht
  go_enter Tryd.func4, Tryd.ntmps4
  go_wp2_with fail
  refine (HAw.out _ S.out.bel).mono ?_
  rintro e w1 ⟨rfl, hb⟩
  replace S := Lib.hid (S.out.call hb)
  clear hb
  obtain ⟨⟨z2, f2, y2, -⟩, ⟨z1, f1, y1, -⟩, ⟨z0, f0, y0, -⟩, -⟩ := S.out.facts
  replace S := Lib.hid (S.out.box 26 [.slice qaa a.length qac, .slice qba b.length qbc, .slice qca c.length qcc])
  go_wp2_with fail
  refine (HFew.out _ _ _ _ _ _ S.out).mono ?_
  rintro e w2 ⟨rfl, hb⟩
  replace S := Lib.hid (S.out.call hb)
  clear hb z0 f0 y0 z1 f1 y1 z2 f2 y2
  obtain ⟨⟨z3, f3, y3, y3b, y3c, -⟩, ⟨z2, f2, y2, -⟩, ⟨z1, f1, y1, -⟩, ⟨z0, f0, y0, -⟩, -⟩ := S.out.facts
  replace S := Lib.hid (S.out.drop _ _ (List.sublist_cons_self _ _) (List.Sublist.refl _))
  go_wp2_with fail
  refine (HM.out _ _ _ S.out.r0 S.out.r1).mono ?_
  rintro e w3 ⟨_, rfl, q1, rfl, hr, hf, hb⟩
  replace S := Lib.hid (natRes S.out hr hf hb)
  clear hr hf hb z0 f0 y0 z1 f1 y1 z2 f2 y2 z3 f3 y3
  obtain ⟨⟨z2, f2, y2, -⟩, ⟨z1, f1, y1, -⟩, ⟨z0, f0, y0, -⟩, -⟩ := S.out.facts
  replace S := Lib.hid (S.out.box 26 [.slice q1.a (P).length q1.c])
  go_wp2_with fail
  refine (HM2.out _ _ _ S.out.r1 S.out.r2).mono ?_
  rintro e w4 ⟨_, rfl, q2, rfl, hr, hf, hb⟩
  replace S := Lib.hid (natRes S.out hr hf hb)
  clear hr hf hb z0 f0 y0 z1 f1 y1 z2 f2 y2
  obtain ⟨⟨z3, f3, y3, -⟩, ⟨z2, f2, y2, -⟩, ⟨z1, f1, y1, -⟩, ⟨z0, f0, y0, -⟩, -⟩ := S.out.facts
  replace S := Lib.hid (S.out.box 26 [.slice q2.a (P).length q2.c])
  go_wp2_with fail
  refine (HM3.out _ _ _ S.out.r3 S.out.r2).mono ?_
  rintro e w5 ⟨_, rfl, q3, rfl, hr, hf, hb⟩
  replace S := Lib.hid (natRes S.out hr hf hb)
  clear hr hf hb z0 f0 y0 z1 f1 y1 z2 f2 y2 z3 f3 y3
  obtain ⟨⟨z4, f4, y4, -⟩, ⟨z3, f3, y3, -⟩, ⟨z2, f2, y2, -⟩, ⟨z1, f1, y1, -⟩, ⟨z0, f0, y0, -⟩, -⟩ := S.out.facts
  replace S := Lib.hid (S.out.box 26 [.slice q3.a (P).length q3.c])
  go_wp2_with fail
  refine (HSP.out _ _ _ S.out.r2 S.out.r1).mono ?_
  rintro e w6 ⟨rfl, hb⟩
  replace S := Lib.hid (S.out.call hb)
  clear hb z0 f0 y0 z1 f1 y1 z2 f2 y2 z3 f3 y3 z4 f4 y4
  obtain ⟨⟨z5, f5, y5, -⟩, ⟨z4, f4, y4, -⟩, ⟨z3, f3, y3, -⟩, ⟨z2, f2, y2, -⟩, ⟨z1, f1, y1, -⟩, ⟨z0, f0, y0, -⟩, -⟩ := S.out.facts
  go_wp2_with fail
  refine (HSP.out _ _ _ S.out.r0 S.out.r1).mono ?_
  rintro e w7 ⟨rfl, hb⟩
  replace S := Lib.hid (S.out.call hb)
  clear hb z0 f0 y0 z1 f1 y1 z2 f2 y2 z3 f3 y3 z4 f4 y4 z5 f5 y5
  obtain ⟨⟨z5, f5, y5, -⟩, ⟨z4, f4, y4, -⟩, ⟨z3, f3, y3, -⟩, ⟨z2, f2, y2, -⟩, ⟨z1, f1, y1, -⟩, ⟨z0, f0, y0, -⟩, -⟩ := S.out.facts
  go_wp2_with fail
  refine (HX.out _ _ _ S.out.r3 S.out.r5).mono ?_
  rintro e w8 ⟨_, rfl, q4, rfl, hr, hf, hb⟩
  replace S := Lib.hid (natRes S.out hr hf hb)
  clear hr hf hb z0 f0 y0 z1 f1 y1 z2 f2 y2 z3 f3 y3 z4 f4 y4 z5 f5 y5
  obtain ⟨⟨z5, f5, y5, -⟩, ⟨z4, f4, y4, -⟩, ⟨z3, f3, y3, -⟩, ⟨z2, f2, y2, -⟩, ⟨z1, f1, y1, -⟩, ⟨z0, f0, y0, -⟩, -⟩ := S.out.facts
  replace S := Lib.hid (S.out.box 26 [.slice q4.a (X).length q4.c])
  go_wp2_with fail
  refine (HS1.out _ _ _ S.out.r5 S.out.r6).mono ?_
  rintro e w9 ⟨_, rfl, q5, rfl, hr, hf, hb⟩
  replace S := Lib.hid (natRes S.out hr hf hb)
  clear hr hf hb z0 f0 y0 z1 f1 y1 z2 f2 y2 z3 f3 y3 z4 f4 y4 z5 f5 y5
  obtain ⟨⟨z6, f6, y6, -⟩, ⟨z5, f5, y5, -⟩, ⟨z4, f4, y4, -⟩, ⟨z3, f3, y3, -⟩, ⟨z2, f2, y2, -⟩, ⟨z1, f1, y1, -⟩, ⟨z0, f0, y0, -⟩, -⟩ := S.out.facts
  replace S := Lib.hid (S.out.box 26 [.slice q5.a (U).length q5.c])
  go_wp2_with fail
  refine (HY.out _ _ _ S.out.r4 S.out.r1).mono ?_
  rintro e w10 ⟨_, rfl, q6, rfl, hr, hf, hb⟩
  replace S := Lib.hid (natRes S.out hr hf hb)
  clear hr hf hb z0 f0 y0 z1 f1 y1 z2 f2 y2 z3 f3 y3 z4 f4 y4 z5 f5 y5 z6 f6 y6
  obtain ⟨⟨z7, f7, y7, -⟩, ⟨z6, f6, y6, -⟩, ⟨z5, f5, y5, -⟩, ⟨z4, f4, y4, -⟩, ⟨z3, f3, y3, -⟩, ⟨z2, f2, y2, -⟩, ⟨z1, f1, y1, -⟩, ⟨z0, f0, y0, -⟩, -⟩ := S.out.facts
  replace S := Lib.hid (S.out.box 26 [.slice q6.a (Y).length q6.c])
  go_wp2
  go_ret
  exact ⟨rfl, S.out.bel⟩
set_option maxHeartbeats 2000000 in
set_option maxRecDepth 100000 in
theorem law_mul_1 (w : World) (a : List Int) (qa : LmP) (ha : RLm w w.heap.size a qa) (la : Lim a) (b : List Int) (qb : LmP) (hb : RLm w w.heap.size b qb) (lb : Lim b) (c : List Int) (qc : LmP) (hc : RLm w w.heap.size c qc) (lc : Lim c) (ht : Tab w) (hF : ([(a, qa), (b, qb), (c, qc)] : List LQ).all (fun x => decide ((x.1.length : Int) ≤ 130)) = true) (e0 : mulE a b = 0) (e1 : mulE a c ≠ 0) :
    Calls Tryd.prog 4 #[natV a qa, natV b qb, natV c qc] w fun e w' => e = .returned (.bool true) ∧ Below w.heap.size w w' := by
  have ht' := Lib.hid (fun w' (hb : Below w.heap.size w w') => ht.to hb)
  have HAw := Lib.hid (fun w' (h : Below w.heap.size w w') => awake_any w' (ht'.out _ h))
  have S := Lib.hid (natArg (natArg (natArg (Fm.init w) hc) hb) ha)
  have HM := Lib.hid (fun q0 q1 w' (h0 : RLm w' w'.heap.size (a) q0) (h1 : RLm w' w'.heap.size (b) q1) => by
    have := mul_any (a) (b) q0 q1 w' h0 h1 (la) (lb)
    exact this)
  have HM2 := Lib.hid (fun q0 q1 w' (h0 : RLm w' w'.heap.size (a) q0) (h1 : RLm w' w'.heap.size (b) q1) => by
    have := rmul_any (a) (b) q0 q1 w' h0 h1 (la) (lb)
    exact this)
  have HM3 := Lib.hid (fun q r w' (h1 : RLm w' w'.heap.size b q) (h2 : RLm w' w'.heap.size a r) => by
    have := mul_any b a q r w' h1 h2 lb la
    rw [(mul_comm' a b).1, (mul_comm' a b).2] at this
    exact this)
  have HX := Lib.hid (fun q0 q1 w' (h0 : RLm w' w'.heap.size (a) q0) (h1 : RLm w' w'.heap.size (c) q1) => by
    have := mul_any (a) (c) q0 q1 w' h0 h1 (la) (lc)
    exact this)
  have HS1 := Lib.hid (fun q0 q1 w' (h0 : RLm w' w'.heap.size (b) q0) (h1 : RLm w' w'.heap.size (c) q1) => by
    have := add_any (b) (c) q0 q1 w' h0 h1 (lb) (lc)
    exact this)
  have HY := Lib.hid (fun q0 q1 w' (h0 : RLm w' w'.heap.size (mulV a b) q0) (h1 : RLm w' w'.heap.size (mulV a c) q1) => by
    have := add_any (mulV a b) (mulV a c) q0 q1 w' h0 h1 (mulV_lim _ _) (mulV_lim _ _)
    exact this)
  obtain ⟨P, hP⟩ : ∃ V, mulV a b = V := ⟨_, rfl⟩
  obtain ⟨X, hX⟩ : ∃ V, mulV a c = V := ⟨_, rfl⟩
  obtain ⟨U, hU⟩ : ∃ V, sumV b c = V := ⟨_, rfl⟩
  obtain ⟨Y, hY⟩ : ∃ V, sumV (mulV a b) (mulV a c) = V := ⟨_, rfl⟩
  rw [hY] at HY
  rw [hP] at HM HM2 HM3 HY
  rw [hX] at HX HY
  rw [hU] at HS1
  rw [e0] at HM HM2 HM3
  obtain ⟨E1, hE1⟩ : ∃ E, mulE a c = E := ⟨_, rfl⟩
  rw [hE1] at HX
  rw [hE1] at e1
  have dE : (E1 != 0) = true := bne_iff_ne.2 e1
  obtain ⟨E2, hE2⟩ : ∃ E, sumE b c = E := ⟨_, rfl⟩
  rw [hE2] at HS1
  obtain ⟨E3, hE3⟩ : ∃ E, sumE P X = E := ⟨_, rfl⟩
  rw [hE3] at HY
  clear hP hX hU hY e0 e1 hE1 hE2 hE3
  have HSP := Lib.hid (fun q r w' (h1 : RLm w' w'.heap.size (P) q) (h2 : RLm w' w'.heap.size (P) r) => by
    have := same_any (P) (P) q r w' h1 h2
    rw [decide_eq_true rfl] at this
    exact this)
  have HFew : Hid (∀ W kb kc kt bs rs, Fm w W (⟨kb, kt, [.slice qa.a a.length qa.c, .slice qb.a b.length qb.c, .slice qc.a c.length qc.c]⟩ :: bs) rs → Calls Tryd.prog 20 #[.int .i64 130, .slice (some ⟨kb, 0, none⟩) 3 kc] W fun e w' => e = .returned (.bool true) ∧ Below W.heap.size W w') := Lib.hid fun W kb kc kt bs rs S => by
    have := few_fm (c := kc) 130 [(a, qa), (b, qb), (c, qc)] S (by simp)
    rw [hF] at this
    exact this
  obtain ⟨qaa, qac⟩ := qa
  obtain ⟨qba, qbc⟩ := qb
  obtain ⟨qca, qcc⟩ := qc
  dsimp only at S HFew
  replace S := Lib.hid (S.out.box 26 [.slice qaa a.length qac])
  replace S := Lib.hid (S.out.box' 26 [.slice qba b.length qbc] (K := w.heap.size + 1) (by simp))
  replace S := Lib.hid (S.out.box' 26 [.slice qca c.length qcc] (K := w.heap.size + 1 + 1) (by simp))
  clear ha hb hc ht
  go_enter Tryd.func4, Tryd.ntmps4
  go_wp2_with fail
  refine (HAw.out _ S.out.bel).mono ?_
  rintro e w1 ⟨rfl, hb⟩
  replace S := Lib.hid (S.out.call hb)
  clear hb
  obtain ⟨⟨z2, f2, y2, -⟩, ⟨z1, f1, y1, -⟩, ⟨z0, f0, y0, -⟩, -⟩ := S.out.facts
  replace S := Lib.hid (S.out.box 26 [.slice qaa a.length qac, .slice qba b.length qbc, .slice qca c.length qcc])
  go_wp2_with fail
  refine (HFew.out _ _ _ _ _ _ S.out).mono ?_
  rintro e w2 ⟨rfl, hb⟩
  replace S := Lib.hid (S.out.call hb)
  clear hb z0 f0 y0 z1 f1 y1 z2 f2 y2
  obtain ⟨⟨z3, f3, y3, y3b, y3c, -⟩, ⟨z2, f2, y2, -⟩, ⟨z1, f1, y1, -⟩, ⟨z0, f0, y0, -⟩, -⟩ := S.out.facts
  replace S := Lib.hid (S.out.drop _ _ (List.sublist_cons_self _ _) (List.Sublist.refl _))
  go_wp2_with fail
  refine (HM.out _ _ _ S.out.r0 S.out.r1).mono ?_
  rintro e w3 ⟨_, rfl, q1, rfl, hr, hf, hb⟩
  replace S := Lib.hid (natRes S.out hr hf hb)
  clear hr hf hb z0 f0 y0 z1 f1 y1 z2 f2 y2 z3 f3 y3
  obtain ⟨⟨z2, f2, y2, -⟩, ⟨z1, f1, y1, -⟩, ⟨z0, f0, y0, -⟩, -⟩ := S.out.facts
  replace S := Lib.hid (S.out.box 26 [.slice q1.a (P).length q1.c])
  go_wp2_with fail
  refine (HM2.out _ _ _ S.out.r1 S.out.r2).mono ?_
  rintro e w4 ⟨_, rfl, q2, rfl, hr, hf, hb⟩
  replace S := Lib.hid (natRes S.out hr hf hb)
  clear hr hf hb z0 f0 y0 z1 f1 y1 z2 f2 y2
  obtain ⟨⟨z3, f3, y3, -⟩, ⟨z2, f2, y2, -⟩, ⟨z1, f1, y1, -⟩, ⟨z0, f0, y0, -⟩, -⟩ := S.out.facts
  replace S := Lib.hid (S.out.box 26 [.slice q2.a (P).length q2.c])
  go_wp2_with fail
  refine (HM3.out _ _ _ S.out.r3 S.out.r2).mono ?_
  rintro e w5 ⟨_, rfl, q3, rfl, hr, hf, hb⟩
  replace S := Lib.hid (natRes S.out hr hf hb)
  clear hr hf hb z0 f0 y0 z1 f1 y1 z2 f2 y2 z3 f3 y3
  obtain ⟨⟨z4, f4, y4, -⟩, ⟨z3, f3, y3, -⟩, ⟨z2, f2, y2, -⟩, ⟨z1, f1, y1, -⟩, ⟨z0, f0, y0, -⟩, -⟩ := S.out.facts
  replace S := Lib.hid (S.out.box 26 [.slice q3.a (P).length q3.c])
  go_wp2_with fail
  refine (HSP.out _ _ _ S.out.r2 S.out.r1).mono ?_
  rintro e w6 ⟨rfl, hb⟩
  replace S := Lib.hid (S.out.call hb)
  clear hb z0 f0 y0 z1 f1 y1 z2 f2 y2 z3 f3 y3 z4 f4 y4
  obtain ⟨⟨z5, f5, y5, -⟩, ⟨z4, f4, y4, -⟩, ⟨z3, f3, y3, -⟩, ⟨z2, f2, y2, -⟩, ⟨z1, f1, y1, -⟩, ⟨z0, f0, y0, -⟩, -⟩ := S.out.facts
  go_wp2_with fail
  refine (HSP.out _ _ _ S.out.r0 S.out.r1).mono ?_
  rintro e w7 ⟨rfl, hb⟩
  replace S := Lib.hid (S.out.call hb)
  clear hb z0 f0 y0 z1 f1 y1 z2 f2 y2 z3 f3 y3 z4 f4 y4 z5 f5 y5
  obtain ⟨⟨z5, f5, y5, -⟩, ⟨z4, f4, y4, -⟩, ⟨z3, f3, y3, -⟩, ⟨z2, f2, y2, -⟩, ⟨z1, f1, y1, -⟩, ⟨z0, f0, y0, -⟩, -⟩ := S.out.facts
  go_wp2_with fail
  refine (HX.out _ _ _ S.out.r3 S.out.r5).mono ?_
  rintro e w8 ⟨_, rfl, q4, rfl, hr, hf, hb⟩
  replace S := Lib.hid (natRes S.out hr hf hb)
  clear hr hf hb z0 f0 y0 z1 f1 y1 z2 f2 y2 z3 f3 y3 z4 f4 y4 z5 f5 y5
  obtain ⟨⟨z5, f5, y5, -⟩, ⟨z4, f4, y4, -⟩, ⟨z3, f3, y3, -⟩, ⟨z2, f2, y2, -⟩, ⟨z1, f1, y1, -⟩, ⟨z0, f0, y0, -⟩, -⟩ := S.out.facts
  replace S := Lib.hid (S.out.box 26 [.slice q4.a (X).length q4.c])
  go_wp2_with fail
  refine (HS1.out _ _ _ S.out.r5 S.out.r6).mono ?_
  rintro e w9 ⟨_, rfl, q5, rfl, hr, hf, hb⟩
  replace S := Lib.hid (natRes S.out hr hf hb)
  clear hr hf hb z0 f0 y0 z1 f1 y1 z2 f2 y2 z3 f3 y3 z4 f4 y4 z5 f5 y5
  obtain ⟨⟨z6, f6, y6, -⟩, ⟨z5, f5, y5, -⟩, ⟨z4, f4, y4, -⟩, ⟨z3, f3, y3, -⟩, ⟨z2, f2, y2, -⟩, ⟨z1, f1, y1, -⟩, ⟨z0, f0, y0, -⟩, -⟩ := S.out.facts
  replace S := Lib.hid (S.out.box 26 [.slice q5.a (U).length q5.c])
  go_wp2_with fail
  refine (HY.out _ _ _ S.out.r4 S.out.r1).mono ?_
  rintro e w10 ⟨_, rfl, q6, rfl, hr, hf, hb⟩
  replace S := Lib.hid (natRes S.out hr hf hb)
  clear hr hf hb z0 f0 y0 z1 f1 y1 z2 f2 y2 z3 f3 y3 z4 f4 y4 z5 f5 y5 z6 f6 y6
  obtain ⟨⟨z7, f7, y7, -⟩, ⟨z6, f6, y6, -⟩, ⟨z5, f5, y5, -⟩, ⟨z4, f4, y4, -⟩, ⟨z3, f3, y3, -⟩, ⟨z2, f2, y2, -⟩, ⟨z1, f1, y1, -⟩, ⟨z0, f0, y0, -⟩, -⟩ := S.out.facts
  replace S := Lib.hid (S.out.box 26 [.slice q6.a (Y).length q6.c])
  go_wp2
  go_ret
  exact ⟨rfl, S.out.bel⟩
set_option maxHeartbeats 2000000 in
set_option maxRecDepth 100000 in
theorem law_mul_2 (w : World) (a : List Int) (qa : LmP) (ha : RLm w w.heap.size a qa) (la : Lim a) (b : List Int) (qb : LmP) (hb : RLm w w.heap.size b qb) (lb : Lim b) (c : List Int) (qc : LmP) (hc : RLm w w.heap.size c qc) (lc : Lim c) (ht : Tab w) (hF : ([(a, qa), (b, qb), (c, qc)] : List LQ).all (fun x => decide ((x.1.length : Int) ≤ 130)) = true) (e0 : mulE a b = 0) (e1 : mulE a c = 0) (e2 : sumE b c ≠ 0) :
    Calls Tryd.prog 4 #[natV a qa, natV b qb, natV c qc] w fun e w' => e = .returned (.bool true) ∧ Below w.heap.size w w' := by
  have ht' := Lib.hid (fun w' (hb : Below w.heap.size w w') => ht.to hb)
  have HAw := Lib.hid (fun w' (h : Below w.heap.size w w') => awake_any w' (ht'.out _ h))
  have S := Lib.hid (natArg (natArg (natArg (Fm.init w) hc) hb) ha)
  have HM := Lib.hid (fun q0 q1 w' (h0 : RLm w' w'.heap.size (a) q0) (h1 : RLm w' w'.heap.size (b) q1) => by
    have := mul_any (a) (b) q0 q1 w' h0 h1 (la) (lb)
    exact this)
  have HM2 := Lib.hid (fun q0 q1 w' (h0 : RLm w' w'.heap.size (a) q0) (h1 : RLm w' w'.heap.size (b) q1) => by
    have := rmul_any (a) (b) q0 q1 w' h0 h1 (la) (lb)
    exact this)
  have HM3 := Lib.hid (fun q r w' (h1 : RLm w' w'.heap.size b q) (h2 : RLm w' w'.heap.size a r) => by
    have := mul_any b a q r w' h1 h2 lb la
    rw [(mul_comm' a b).1, (mul_comm' a b).2] at this
    exact this)
  have HX := Lib.hid (fun q0 q1 w' (h0 : RLm w' w'.heap.size (a) q0) (h1 : RLm w' w'.heap.size (c) q1) => by
    have := mul_any (a) (c) q0 q1 w' h0 h1 (la) (lc)
    exact this)
  have HS1 := Lib.hid (fun q0 q1 w' (h0 : RLm w' w'.heap.size (b) q0) (h1 : RLm w' w'.heap.size (c) q1) => by
    have := add_any (b) (c) q0 q1 w' h0 h1 (lb) (lc)
    exact this)
  have HY := Lib.hid (fun q0 q1 w' (h0 : RLm w' w'.heap.size (mulV a b) q0) (h1 : RLm w' w'.heap.size (mulV a c) q1) => by
    have := add_any (mulV a b) (mulV a c) q0 q1 w' h0 h1 (mulV_lim _ _) (mulV_lim _ _)
    exact this)
  obtain ⟨P, hP⟩ : ∃ V, mulV a b = V := ⟨_, rfl⟩
  obtain ⟨X, hX⟩ : ∃ V, mulV a c = V := ⟨_, rfl⟩
  obtain ⟨U, hU⟩ : ∃ V, sumV b c = V := ⟨_, rfl⟩
  obtain ⟨Y, hY⟩ : ∃ V, sumV (mulV a b) (mulV a c) = V := ⟨_, rfl⟩
  rw [hY] at HY
  rw [hP] at HM HM2 HM3 HY
  rw [hX] at HX HY
  rw [hU] at HS1
  rw [e0] at HM HM2 HM3
  rw [e1] at HX
  obtain ⟨E2, hE2⟩ : ∃ E, sumE b c = E := ⟨_, rfl⟩
  rw [hE2] at HS1
  rw [hE2] at e2
  have dE : (E2 != 0) = true := bne_iff_ne.2 e2
  obtain ⟨E3, hE3⟩ : ∃ E, sumE P X = E := ⟨_, rfl⟩
  rw [hE3] at HY
  clear hP hX hU hY e0 e1 e2 hE2 hE3
  have HSP := Lib.hid (fun q r w' (h1 : RLm w' w'.heap.size (P) q) (h2 : RLm w' w'.heap.size (P) r) => by
    have := same_any (P) (P) q r w' h1 h2
    rw [decide_eq_true rfl] at this
    exact this)
  have HFew : Hid (∀ W kb kc kt bs rs, Fm w W (⟨kb, kt, [.slice qa.a a.length qa.c, .slice qb.a b.length qb.c, .slice qc.a c.length qc.c]⟩ :: bs) rs → Calls Tryd.prog 20 #[.int .i64 130, .slice (some ⟨kb, 0, none⟩) 3 kc] W fun e w' => e = .returned (.bool true) ∧ Below W.heap.size W w') := Lib.hid fun W kb kc kt bs rs S => by
    have := few_fm (c := kc) 130 [(a, qa), (b, qb), (c, qc)] S (by simp)
    rw [hF] at this
    exact this
  obtain ⟨qaa, qac⟩ := qa
  obtain ⟨qba, qbc⟩ := qb
  obtain ⟨qca, qcc⟩ := qc
  dsimp only at S HFew
  replace S := Lib.hid (S.out.box 26 [.slice qaa a.length qac])
  replace S := Lib.hid (S.out.box' 26 [.slice qba b.length qbc] (K := w.heap.size + 1) (by simp))
  replace S := Lib.hid (S.out.box' 26 [.slice qca c.length qcc] (K := w.heap.size + 1 + 1) (by simp))
  clear ha hb hc ht
  go_enter Tryd.func4, Tryd.ntmps4
  go_wp2_with fail
  refine (HAw.out _ S.out.bel).mono ?_
  rintro e w1 ⟨rfl, hb⟩
  replace S := Lib.hid (S.out.call hb)
  clear hb
  obtain ⟨⟨z2, f2, y2, -⟩, ⟨z1, f1, y1, -⟩, ⟨z0, f0, y0, -⟩, -⟩ := S.out.facts
  replace S := Lib.hid (S.out.box 26 [.slice qaa a.length qac, .slice qba b.length qbc, .slice qca c.length qcc])
  go_wp2_with fail
  refine (HFew.out _ _ _ _ _ _ S.out).mono ?_
  rintro e w2 ⟨rfl, hb⟩
  replace S := Lib.hid (S.out.call hb)
  clear hb z0 f0 y0 z1 f1 y1 z2 f2 y2
  obtain ⟨⟨z3, f3, y3, y3b, y3c, -⟩, ⟨z2, f2, y2, -⟩, ⟨z1, f1, y1, -⟩, ⟨z0, f0, y0, -⟩, -⟩ := S.out.facts
  replace S := Lib.hid (S.out.drop _ _ (List.sublist_cons_self _ _) (List.Sublist.refl _))
  go_wp2_with fail
  refine (HM.out _ _ _ S.out.r0 S.out.r1).mono ?_
  rintro e w3 ⟨_, rfl, q1, rfl, hr, hf, hb⟩
  replace S := Lib.hid (natRes S.out hr hf hb)
  clear hr hf hb z0 f0 y0 z1 f1 y1 z2 f2 y2 z3 f3 y3
  obtain ⟨⟨z2, f2, y2, -⟩, ⟨z1, f1, y1, -⟩, ⟨z0, f0, y0, -⟩, -⟩ := S.out.facts
  replace S := Lib.hid (S.out.box 26 [.slice q1.a (P).length q1.c])
  go_wp2_with fail
  refine (HM2.out _ _ _ S.out.r1 S.out.r2).mono ?_
  rintro e w4 ⟨_, rfl, q2, rfl, hr, hf, hb⟩
  replace S := Lib.hid (natRes S.out hr hf hb)
  clear hr hf hb z0 f0 y0 z1 f1 y1 z2 f2 y2
  obtain ⟨⟨z3, f3, y3, -⟩, ⟨z2, f2, y2, -⟩, ⟨z1, f1, y1, -⟩, ⟨z0, f0, y0, -⟩, -⟩ := S.out.facts
  replace S := Lib.hid (S.out.box 26 [.slice q2.a (P).length q2.c])
  go_wp2_with fail
  refine (HM3.out _ _ _ S.out.r3 S.out.r2).mono ?_
  rintro e w5 ⟨_, rfl, q3, rfl, hr, hf, hb⟩
  replace S := Lib.hid (natRes S.out hr hf hb)
  clear hr hf hb z0 f0 y0 z1 f1 y1 z2 f2 y2 z3 f3 y3
  obtain ⟨⟨z4, f4, y4, -⟩, ⟨z3, f3, y3, -⟩, ⟨z2, f2, y2, -⟩, ⟨z1, f1, y1, -⟩, ⟨z0, f0, y0, -⟩, -⟩ := S.out.facts
  replace S := Lib.hid (S.out.box 26 [.slice q3.a (P).length q3.c])
  go_wp2_with fail
  refine (HSP.out _ _ _ S.out.r2 S.out.r1).mono ?_
  rintro e w6 ⟨rfl, hb⟩
  replace S := Lib.hid (S.out.call hb)
  clear hb z0 f0 y0 z1 f1 y1 z2 f2 y2 z3 f3 y3 z4 f4 y4
  obtain ⟨⟨z5, f5, y5, -⟩, ⟨z4, f4, y4, -⟩, ⟨z3, f3, y3, -⟩, ⟨z2, f2, y2, -⟩, ⟨z1, f1, y1, -⟩, ⟨z0, f0, y0, -⟩, -⟩ := S.out.facts
  go_wp2_with fail
  refine (HSP.out _ _ _ S.out.r0 S.out.r1).mono ?_
  rintro e w7 ⟨rfl, hb⟩
  replace S := Lib.hid (S.out.call hb)
  clear hb z0 f0 y0 z1 f1 y1 z2 f2 y2 z3 f3 y3 z4 f4 y4 z5 f5 y5
  obtain ⟨⟨z5, f5, y5, -⟩, ⟨z4, f4, y4, -⟩, ⟨z3, f3, y3, -⟩, ⟨z2, f2, y2, -⟩, ⟨z1, f1, y1, -⟩, ⟨z0, f0, y0, -⟩, -⟩ := S.out.facts
  go_wp2_with fail
  refine (HX.out _ _ _ S.out.r3 S.out.r5).mono ?_
  rintro e w8 ⟨_, rfl, q4, rfl, hr, hf, hb⟩
  replace S := Lib.hid (natRes S.out hr hf hb)
  clear hr hf hb z0 f0 y0 z1 f1 y1 z2 f2 y2 z3 f3 y3 z4 f4 y4 z5 f5 y5
  obtain ⟨⟨z5, f5, y5, -⟩, ⟨z4, f4, y4, -⟩, ⟨z3, f3, y3, -⟩, ⟨z2, f2, y2, -⟩, ⟨z1, f1, y1, -⟩, ⟨z0, f0, y0, -⟩, -⟩ := S.out.facts
  replace S := Lib.hid (S.out.box 26 [.slice q4.a (X).length q4.c])
  go_wp2_with fail
  refine (HS1.out _ _ _ S.out.r5 S.out.r6).mono ?_
  rintro e w9 ⟨_, rfl, q5, rfl, hr, hf, hb⟩
  replace S := Lib.hid (natRes S.out hr hf hb)
  clear hr hf hb z0 f0 y0 z1 f1 y1 z2 f2 y2 z3 f3 y3 z4 f4 y4 z5 f5 y5
  obtain ⟨⟨z6, f6, y6, -⟩, ⟨z5, f5, y5, -⟩, ⟨z4, f4, y4, -⟩, ⟨z3, f3, y3, -⟩, ⟨z2, f2, y2, -⟩, ⟨z1, f1, y1, -⟩, ⟨z0, f0, y0, -⟩, -⟩ := S.out.facts
  replace S := Lib.hid (S.out.box 26 [.slice q5.a (U).length q5.c])
  go_wp2_with fail
  refine (HY.out _ _ _ S.out.r4 S.out.r1).mono ?_
  rintro e w10 ⟨_, rfl, q6, rfl, hr, hf, hb⟩
  replace S := Lib.hid (natRes S.out hr hf hb)
  clear hr hf hb z0 f0 y0 z1 f1 y1 z2 f2 y2 z3 f3 y3 z4 f4 y4 z5 f5 y5 z6 f6 y6
  obtain ⟨⟨z7, f7, y7, -⟩, ⟨z6, f6, y6, -⟩, ⟨z5, f5, y5, -⟩, ⟨z4, f4, y4, -⟩, ⟨z3, f3, y3, -⟩, ⟨z2, f2, y2, -⟩, ⟨z1, f1, y1, -⟩, ⟨z0, f0, y0, -⟩, -⟩ := S.out.facts
  replace S := Lib.hid (S.out.box 26 [.slice q6.a (Y).length q6.c])
  go_wp2
  go_ret
  exact ⟨rfl, S.out.bel⟩
set_option maxHeartbeats 2000000 in
set_option maxRecDepth 100000 in
theorem law_mul_3 (w : World) (a : List Int) (qa : LmP) (ha : RLm w w.heap.size a qa) (la : Lim a) (b : List Int) (qb : LmP) (hb : RLm w w.heap.size b qb) (lb : Lim b) (c : List Int) (qc : LmP) (hc : RLm w w.heap.size c qc) (lc : Lim c) (ht : Tab w) (hF : ([(a, qa), (b, qb), (c, qc)] : List LQ).all (fun x => decide ((x.1.length : Int) ≤ 130)) = true) (e0 : mulE a b = 0) (e1 : mulE a c = 0) (e2 : sumE b c = 0) (e3 : sumE (mulV a b) (mulV a c) ≠ 0) :
    Calls Tryd.prog 4 #[natV a qa, natV b qb, natV c qc] w fun e w' => e = .returned (.bool true) ∧ Below w.heap.size w w' := by
  have ht' := Lib.hid (fun w' (hb : Below w.heap.size w w') => ht.to hb)
  have HAw := Lib.hid (fun w' (h : Below w.heap.size w w') => awake_any w' (ht'.out _ h))
  have S := Lib.hid (natArg (natArg (natArg (Fm.init w) hc) hb) ha)
  have HM := Lib.hid (fun q0 q1 w' (h0 : RLm w' w'.heap.size (a) q0) (h1 : RLm w' w'.heap.size (b) q1) => by
    have := mul_any (a) (b) q0 q1 w' h0 h1 (la) (lb)
    exact this)
  have HM2 := Lib.hid (fun q0 q1 w' (h0 : RLm w' w'.heap.size (a) q0) (h1 : RLm w' w'.heap.size (b) q1) => by
    have := rmul_any (a) (b) q0 q1 w' h0 h1 (la) (lb)
    exact this)
  have HM3 := Lib.hid (fun q r w' (h1 : RLm w' w'.heap.size b q) (h2 : RLm w' w'.heap.size a r) => by
    have := mul_any b a q r w' h1 h2 lb la
    rw [(mul_comm' a b).1, (mul_comm' a b).2] at this
    exact this)
  have HX := Lib.hid (fun q0 q1 w' (h0 : RLm w' w'.heap.size (a) q0) (h1 : RLm w' w'.heap.size (c) q1) => by
    have := mul_any (a) (c) q0 q1 w' h0 h1 (la) (lc)
    exact this)
  have HS1 := Lib.hid (fun q0 q1 w' (h0 : RLm w' w'.heap.size (b) q0) (h1 : RLm w' w'.heap.size (c) q1) => by
    have := add_any (b) (c) q0 q1 w' h0 h1 (lb) (lc)
    exact this)
  have HY := Lib.hid (fun q0 q1 w' (h0 : RLm w' w'.heap.size (mulV a b) q0) (h1 : RLm w' w'.heap.size (mulV a c) q1) => by
    have := add_any (mulV a b) (mulV a c) q0 q1 w' h0 h1 (mulV_lim _ _) (mulV_lim _ _)
    exact this)
  obtain ⟨P, hP⟩ : ∃ V, mulV a b = V := ⟨_, rfl⟩
  obtain ⟨X, hX⟩ : ∃ V, mulV a c = V := ⟨_, rfl⟩
  obtain ⟨U, hU⟩ : ∃ V, sumV b c = V := ⟨_, rfl⟩
  obtain ⟨Y, hY⟩ : ∃ V, sumV (mulV a b) (mulV a c) = V := ⟨_, rfl⟩
  rw [hY] at HY
  rw [hP] at HM HM2 HM3 HY
  rw [hX] at HX HY
  rw [hU] at HS1
  rw [e0] at HM HM2 HM3
  rw [e1] at HX
  rw [e2] at HS1
  obtain ⟨E3, hE3⟩ : ∃ E, sumE P X = E := ⟨_, rfl⟩
  rw [hE3] at HY
  rw [hP, hX, hE3] at e3
  have dE : (E3 != 0) = true := bne_iff_ne.2 e3
  clear hP hX hU hY e0 e1 e2 e3 hE3
  have HSP := Lib.hid (fun q r w' (h1 : RLm w' w'.heap.size (P) q) (h2 : RLm w' w'.heap.size (P) r) => by
    have := same_any (P) (P) q r w' h1 h2
    rw [decide_eq_true rfl] at this
    exact this)
  have HFew : Hid (∀ W kb kc kt bs rs, Fm w W (⟨kb, kt, [.slice qa.a a.length qa.c, .slice qb.a b.length qb.c, .slice qc.a c.length qc.c]⟩ :: bs) rs → Calls Tryd.prog 20 #[.int .i64 130, .slice (some ⟨kb, 0, none⟩) 3 kc] W fun e w' => e = .returned (.bool true) ∧ Below W.heap.size W w') := Lib.hid fun W kb kc kt bs rs S => by
    have := few_fm (c := kc) 130 [(a, qa), (b, qb), (c, qc)] S (by simp)
    rw [hF] at this
    exact this
  obtain ⟨qaa, qac⟩ := qa
  obtain ⟨qba, qbc⟩ := qb
  obtain ⟨qca, qcc⟩ := qc
  dsimp only at S HFew
  replace S := Lib.hid (S.out.box 26 [.slice qaa a.length qac])
  replace S := Lib.hid (S.out.box' 26 [.slice qba b.length qbc] (K := w.heap.size + 1) (by simp))
  replace S := Lib.hid (S.out.box' 26 [.slice qca c.length qcc] (K := w.heap.size + 1 + 1) (by simp))
  clear ha hb hc ht
  go_enter Tryd.func4, Tryd.ntmps4
  go_wp2_with fail
  refine (HAw.out _ S.out.bel).mono ?_
  rintro e w1 ⟨rfl, hb⟩
  replace S := Lib.hid (S.out.call hb)
  clear hb
  obtain ⟨⟨z2, f2, y2, -⟩, ⟨z1, f1, y1, -⟩, ⟨z0, f0, y0, -⟩, -⟩ := S.out.facts
  replace S := Lib.hid (S.out.box 26 [.slice qaa a.length qac, .slice qba b.length qbc, .slice qca c.length qcc])
  go_wp2_with fail
  refine (HFew.out _ _ _ _ _ _ S.out).mono ?_
  rintro e w2 ⟨rfl, hb⟩
  replace S := Lib.hid (S.out.call hb)
  clear hb z0 f0 y0 z1 f1 y1 z2 f2 y2
  obtain ⟨⟨z3, f3, y3, y3b, y3c, -⟩, ⟨z2, f2, y2, -⟩, ⟨z1, f1, y1, -⟩, ⟨z0, f0, y0, -⟩, -⟩ := S.out.facts
  replace S := Lib.hid (S.out.drop _ _ (List.sublist_cons_self _ _) (List.Sublist.refl _))
  go_wp2_with fail
  refine (HM.out _ _ _ S.out.r0 S.out.r1).mono ?_
  rintro e w3 ⟨_, rfl, q1, rfl, hr, hf, hb⟩
  replace S := Lib.hid (natRes S.out hr hf hb)
  clear hr hf hb z0 f0 y0 z1 f1 y1 z2 f2 y2 z3 f3 y3
  obtain ⟨⟨z2, f2, y2, -⟩, ⟨z1, f1, y1, -⟩, ⟨z0, f0, y0, -⟩, -⟩ := S.out.facts
  replace S := Lib.hid (S.out.box 26 [.slice q1.a (P).length q1.c])
  go_wp2_with fail
  refine (HM2.out _ _ _ S.out.r1 S.out.r2).mono ?_
  rintro e w4 ⟨_, rfl, q2, rfl, hr, hf, hb⟩
  replace S := Lib.hid (natRes S.out hr hf hb)
  clear hr hf hb z0 f0 y0 z1 f1 y1 z2 f2 y2
  obtain ⟨⟨z3, f3, y3, -⟩, ⟨z2, f2, y2, -⟩, ⟨z1, f1, y1, -⟩, ⟨z0, f0, y0, -⟩, -⟩ := S.out.facts
  replace S := Lib.hid (S.out.box 26 [.slice q2.a (P).length q2.c])
  go_wp2_with fail
  refine (HM3.out _ _ _ S.out.r3 S.out.r2).mono ?_
  rintro e w5 ⟨_, rfl, q3, rfl, hr, hf, hb⟩
  replace S := Lib.hid (natRes S.out hr hf hb)
  clear hr hf hb z0 f0 y0 z1 f1 y1 z2 f2 y2 z3 f3 y3
  obtain ⟨⟨z4, f4, y4, -⟩, ⟨z3, f3, y3, -⟩, ⟨z2, f2, y2, -⟩, ⟨z1, f1, y1, -⟩, ⟨z0, f0, y0, -⟩, -⟩ := S.out.facts
  replace S := Lib.hid (S.out.box 26 [.slice q3.a (P).length q3.c])
  go_wp2_with fail
  refine (HSP.out _ _ _ S.out.r2 S.out.r1).mono ?_
  rintro e w6 ⟨rfl, hb⟩
  replace S := Lib.hid (S.out.call hb)
  clear hb z0 f0 y0 z1 f1 y1 z2 f2 y2 z3 f3 y3 z4 f4 y4
  obtain ⟨⟨z5, f5, y5, -⟩, ⟨z4, f4, y4, -⟩, ⟨z3, f3, y3, -⟩, ⟨z2, f2, y2, -⟩, ⟨z1, f1, y1, -⟩, ⟨z0, f0, y0, -⟩, -⟩ := S.out.facts
  go_wp2_with fail
  refine (HSP.out _ _ _ S.out.r0 S.out.r1).mono ?_
  rintro e w7 ⟨rfl, hb⟩
  replace S := Lib.hid (S.out.call hb)
  clear hb z0 f0 y0 z1 f1 y1 z2 f2 y2 z3 f3 y3 z4 f4 y4 z5 f5 y5
  obtain ⟨⟨z5, f5, y5, -⟩, ⟨z4, f4, y4, -⟩, ⟨z3, f3, y3, -⟩, ⟨z2, f2, y2, -⟩, ⟨z1, f1, y1, -⟩, ⟨z0, f0, y0, -⟩, -⟩ := S.out.facts
  go_wp2_with fail
  refine (HX.out _ _ _ S.out.r3 S.out.r5).mono ?_
  rintro e w8 ⟨_, rfl, q4, rfl, hr, hf, hb⟩
  replace S := Lib.hid (natRes S.out hr hf hb)
  clear hr hf hb z0 f0 y0 z1 f1 y1 z2 f2 y2 z3 f3 y3 z4 f4 y4 z5 f5 y5
  obtain ⟨⟨z5, f5, y5, -⟩, ⟨z4, f4, y4, -⟩, ⟨z3, f3, y3, -⟩, ⟨z2, f2, y2, -⟩, ⟨z1, f1, y1, -⟩, ⟨z0, f0, y0, -⟩, -⟩ := S.out.facts
  replace S := Lib.hid (S.out.box 26 [.slice q4.a (X).length q4.c])
  go_wp2_with fail
  refine (HS1.out _ _ _ S.out.r5 S.out.r6).mono ?_
  rintro e w9 ⟨_, rfl, q5, rfl, hr, hf, hb⟩
  replace S := Lib.hid (natRes S.out hr hf hb)
  clear hr hf hb z0 f0 y0 z1 f1 y1 z2 f2 y2 z3 f3 y3 z4 f4 y4 z5 f5 y5
  obtain ⟨⟨z6, f6, y6, -⟩, ⟨z5, f5, y5, -⟩, ⟨z4, f4, y4, -⟩, ⟨z3, f3, y3, -⟩, ⟨z2, f2, y2, -⟩, ⟨z1, f1, y1, -⟩, ⟨z0, f0, y0, -⟩, -⟩ := S.out.facts
  replace S := Lib.hid (S.out.box 26 [.slice q5.a (U).length q5.c])
  go_wp2_with fail
  refine (HY.out _ _ _ S.out.r4 S.out.r1).mono ?_
  rintro e w10 ⟨_, rfl, q6, rfl, hr, hf, hb⟩
  replace S := Lib.hid (natRes S.out hr hf hb)
  clear hr hf hb z0 f0 y0 z1 f1 y1 z2 f2 y2 z3 f3 y3 z4 f4 y4 z5 f5 y5 z6 f6 y6
  obtain ⟨⟨z7, f7, y7, -⟩, ⟨z6, f6, y6, -⟩, ⟨z5, f5, y5, -⟩, ⟨z4, f4, y4, -⟩, ⟨z3, f3, y3, -⟩, ⟨z2, f2, y2, -⟩, ⟨z1, f1, y1, -⟩, ⟨z0, f0, y0, -⟩, -⟩ := S.out.facts
  replace S := Lib.hid (S.out.box 26 [.slice q6.a (Y).length q6.c])
  go_wp2
  go_ret
  exact ⟨rfl, S.out.bel⟩
set_option maxHeartbeats 2000000 in
set_option maxRecDepth 100000 in
theorem law_mul_4 (w : World) (a : List Int) (qa : LmP) (ha : RLm w w.heap.size a qa) (la : Lim a) (b : List Int) (qb : LmP) (hb : RLm w w.heap.size b qb) (lb : Lim b) (c : List Int) (qc : LmP) (hc : RLm w w.heap.size c qc) (lc : Lim c) (ht : Tab w) (hF : ([(a, qa), (b, qb), (c, qc)] : List LQ).all (fun x => decide ((x.1.length : Int) ≤ 130)) = true) (e0 : mulE a b = 0) (e1 : mulE a c = 0) (e2 : sumE b c = 0) (e3 : sumE (mulV a b) (mulV a c) = 0) :
    Calls Tryd.prog 4 #[natV a qa, natV b qb, natV c qc] w fun e w' => e = .returned (.bool true) ∧ Below w.heap.size w w' := by
  have ht' := Lib.hid (fun w' (hb : Below w.heap.size w w') => ht.to hb)
  have HAw := Lib.hid (fun w' (h : Below w.heap.size w w') => awake_any w' (ht'.out _ h))
  have S := Lib.hid (natArg (natArg (natArg (Fm.init w) hc) hb) ha)
  have HM := Lib.hid (fun q0 q1 w' (h0 : RLm w' w'.heap.size (a) q0) (h1 : RLm w' w'.heap.size (b) q1) => by
    have := mul_any (a) (b) q0 q1 w' h0 h1 (la) (lb)
    exact this)
  have HM2 := Lib.hid (fun q0 q1 w' (h0 : RLm w' w'.heap.size (a) q0) (h1 : RLm w' w'.heap.size (b) q1) => by
    have := rmul_any (a) (b) q0 q1 w' h0 h1 (la) (lb)
    exact this)
  have HM3 := Lib.hid (fun q r w' (h1 : RLm w' w'.heap.size b q) (h2 : RLm w' w'.heap.size a r) => by
    have := mul_any b a q r w' h1 h2 lb la
    rw [(mul_comm' a b).1, (mul_comm' a b).2] at this
    exact this)
  have HX := Lib.hid (fun q0 q1 w' (h0 : RLm w' w'.heap.size (a) q0) (h1 : RLm w' w'.heap.size (c) q1) => by
    have := mul_any (a) (c) q0 q1 w' h0 h1 (la) (lc)
    exact this)
  have HS1 := Lib.hid (fun q0 q1 w' (h0 : RLm w' w'.heap.size (b) q0) (h1 : RLm w' w'.heap.size (c) q1) => by
    have := add_any (b) (c) q0 q1 w' h0 h1 (lb) (lc)
    exact this)
  have HY := Lib.hid (fun q0 q1 w' (h0 : RLm w' w'.heap.size (mulV a b) q0) (h1 : RLm w' w'.heap.size (mulV a c) q1) => by
    have := add_any (mulV a b) (mulV a c) q0 q1 w' h0 h1 (mulV_lim _ _) (mulV_lim _ _)
    exact this)
  obtain ⟨va, vb, eP, p128⟩ := mul_ok' e0
  obtain ⟨_, vc, eX, x128⟩ := mul_ok' e1
  obtain ⟨_, _, eU, u128⟩ := sum_ok' e2
  obtain ⟨_, _, eY, y128⟩ := sum_ok' e3
  rw [eP, eX, vl_lim, vl_lim, ← Nat.mul_add] at eY y128
  have HZ := Lib.hid (fun q r w' (h1 : RLm w' w'.heap.size a q) (h2 : RLm w' w'.heap.size (lim (vl b + vl c)) r) => by
    have := mul_any a (lim (vl b + vl c)) q r w' h1 h2 la (lim_lim _)
    unfold mulV mulE at this
    rw [va, vN_lim u128, Bool.and_self, if_pos rfl, if_pos rfl, vl_lim, (cut_of y128).1, (cut_of y128).2, ← eY, ← eP, ← eX] at this
    exact this)
  rw [← eU] at HZ
  clear eP eX eU eY p128 x128 u128 y128 va vb vc
  obtain ⟨P, hP⟩ : ∃ V, mulV a b = V := ⟨_, rfl⟩
  obtain ⟨X, hX⟩ : ∃ V, mulV a c = V := ⟨_, rfl⟩
  obtain ⟨U, hU⟩ : ∃ V, sumV b c = V := ⟨_, rfl⟩
  obtain ⟨Y, hY⟩ : ∃ V, sumV (mulV a b) (mulV a c) = V := ⟨_, rfl⟩
  rw [hY] at HY HZ
  rw [hP] at HM HM2 HM3 HY
  rw [hX] at HX HY
  rw [hU] at HS1 HZ
  rw [e0] at HM HM2 HM3
  rw [e1] at HX
  rw [e2] at HS1
  rw [hP, hX] at e3
  rw [e3] at HY
  clear hP hX hU hY e0 e1 e2 e3 
  have HSP := Lib.hid (fun q r w' (h1 : RLm w' w'.heap.size (P) q) (h2 : RLm w' w'.heap.size (P) r) => by
    have := same_any (P) (P) q r w' h1 h2
    rw [decide_eq_true rfl] at this
    exact this)
  have HSY := Lib.hid (fun q r w' (h1 : RLm w' w'.heap.size (Y) q) (h2 : RLm w' w'.heap.size (Y) r) => by
    have := same_any (Y) (Y) q r w' h1 h2
    rw [decide_eq_true rfl] at this
    exact this)
  have HFew : Hid (∀ W kb kc kt bs rs, Fm w W (⟨kb, kt, [.slice qa.a a.length qa.c, .slice qb.a b.length qb.c, .slice qc.a c.length qc.c]⟩ :: bs) rs → Calls Tryd.prog 20 #[.int .i64 130, .slice (some ⟨kb, 0, none⟩) 3 kc] W fun e w' => e = .returned (.bool true) ∧ Below W.heap.size W w') := Lib.hid fun W kb kc kt bs rs S => by
    have := few_fm (c := kc) 130 [(a, qa), (b, qb), (c, qc)] S (by simp)
    rw [hF] at this
    exact this
  obtain ⟨qaa, qac⟩ := qa
  obtain ⟨qba, qbc⟩ := qb
  obtain ⟨qca, qcc⟩ := qc
  dsimp only at S HFew
  replace S := Lib.hid (S.out.box 26 [.slice qaa a.length qac])
  replace S := Lib.hid (S.out.box' 26 [.slice qba b.length qbc] (K := w.heap.size + 1) (by simp))
  replace S := Lib.hid (S.out.box' 26 [.slice qca c.length qcc] (K := w.heap.size + 1 + 1) (by simp))
  clear ha hb hc ht
  go_enter Tryd.func4, Tryd.ntmps4
  go_wp2_with fail
  refine (HAw.out _ S.out.bel).mono ?_
  rintro e w1 ⟨rfl, hb⟩
  replace S := Lib.hid (S.out.call hb)
  clear hb
  obtain ⟨⟨z2, f2, y2, -⟩, ⟨z1, f1, y1, -⟩, ⟨z0, f0, y0, -⟩, -⟩ := S.out.facts
  replace S := Lib.hid (S.out.box 26 [.slice qaa a.length qac, .slice qba b.length qbc, .slice qca c.length qcc])
  go_wp2_with fail
  refine (HFew.out _ _ _ _ _ _ S.out).mono ?_
  rintro e w2 ⟨rfl, hb⟩
  replace S := Lib.hid (S.out.call hb)
  clear hb z0 f0 y0 z1 f1 y1 z2 f2 y2
  obtain ⟨⟨z3, f3, y3, y3b, y3c, -⟩, ⟨z2, f2, y2, -⟩, ⟨z1, f1, y1, -⟩, ⟨z0, f0, y0, -⟩, -⟩ := S.out.facts
  replace S := Lib.hid (S.out.drop _ _ (List.sublist_cons_self _ _) (List.Sublist.refl _))
  go_wp2_with fail
  refine (HM.out _ _ _ S.out.r0 S.out.r1).mono ?_
  rintro e w3 ⟨_, rfl, q1, rfl, hr, hf, hb⟩
  replace S := Lib.hid (natRes S.out hr hf hb)
  clear hr hf hb z0 f0 y0 z1 f1 y1 z2 f2 y2 z3 f3 y3
  obtain ⟨⟨z2, f2, y2, -⟩, ⟨z1, f1, y1, -⟩, ⟨z0, f0, y0, -⟩, -⟩ := S.out.facts
  replace S := Lib.hid (S.out.box 26 [.slice q1.a (P).length q1.c])
  go_wp2_with fail
  refine (HM2.out _ _ _ S.out.r1 S.out.r2).mono ?_
  rintro e w4 ⟨_, rfl, q2, rfl, hr, hf, hb⟩
  replace S := Lib.hid (natRes S.out hr hf hb)
  clear hr hf hb z0 f0 y0 z1 f1 y1 z2 f2 y2
  obtain ⟨⟨z3, f3, y3, -⟩, ⟨z2, f2, y2, -⟩, ⟨z1, f1, y1, -⟩, ⟨z0, f0, y0, -⟩, -⟩ := S.out.facts
  replace S := Lib.hid (S.out.box 26 [.slice q2.a (P).length q2.c])
  go_wp2_with fail
  refine (HM3.out _ _ _ S.out.r3 S.out.r2).mono ?_
  rintro e w5 ⟨_, rfl, q3, rfl, hr, hf, hb⟩
  replace S := Lib.hid (natRes S.out hr hf hb)
  clear hr hf hb z0 f0 y0 z1 f1 y1 z2 f2 y2 z3 f3 y3
  obtain ⟨⟨z4, f4, y4, -⟩, ⟨z3, f3, y3, -⟩, ⟨z2, f2, y2, -⟩, ⟨z1, f1, y1, -⟩, ⟨z0, f0, y0, -⟩, -⟩ := S.out.facts
  replace S := Lib.hid (S.out.box 26 [.slice q3.a (P).length q3.c])
  go_wp2_with fail
  refine (HSP.out _ _ _ S.out.r2 S.out.r1).mono ?_
  rintro e w6 ⟨rfl, hb⟩
  replace S := Lib.hid (S.out.call hb)
  clear hb z0 f0 y0 z1 f1 y1 z2 f2 y2 z3 f3 y3 z4 f4 y4
  obtain ⟨⟨z5, f5, y5, -⟩, ⟨z4, f4, y4, -⟩, ⟨z3, f3, y3, -⟩, ⟨z2, f2, y2, -⟩, ⟨z1, f1, y1, -⟩, ⟨z0, f0, y0, -⟩, -⟩ := S.out.facts
  go_wp2_with fail
  refine (HSP.out _ _ _ S.out.r0 S.out.r1).mono ?_
  rintro e w7 ⟨rfl, hb⟩
  replace S := Lib.hid (S.out.call hb)
  clear hb z0 f0 y0 z1 f1 y1 z2 f2 y2 z3 f3 y3 z4 f4 y4 z5 f5 y5
  obtain ⟨⟨z5, f5, y5, -⟩, ⟨z4, f4, y4, -⟩, ⟨z3, f3, y3, -⟩, ⟨z2, f2, y2, -⟩, ⟨z1, f1, y1, -⟩, ⟨z0, f0, y0, -⟩, -⟩ := S.out.facts
  go_wp2_with fail
  refine (HX.out _ _ _ S.out.r3 S.out.r5).mono ?_
  rintro e w8 ⟨_, rfl, q4, rfl, hr, hf, hb⟩
  replace S := Lib.hid (natRes S.out hr hf hb)
  clear hr hf hb z0 f0 y0 z1 f1 y1 z2 f2 y2 z3 f3 y3 z4 f4 y4 z5 f5 y5
  obtain ⟨⟨z5, f5, y5, -⟩, ⟨z4, f4, y4, -⟩, ⟨z3, f3, y3, -⟩, ⟨z2, f2, y2, -⟩, ⟨z1, f1, y1, -⟩, ⟨z0, f0, y0, -⟩, -⟩ := S.out.facts
  replace S := Lib.hid (S.out.box 26 [.slice q4.a (X).length q4.c])
  go_wp2_with fail
  refine (HS1.out _ _ _ S.out.r5 S.out.r6).mono ?_
  rintro e w9 ⟨_, rfl, q5, rfl, hr, hf, hb⟩
  replace S := Lib.hid (natRes S.out hr hf hb)
  clear hr hf hb z0 f0 y0 z1 f1 y1 z2 f2 y2 z3 f3 y3 z4 f4 y4 z5 f5 y5
  obtain ⟨⟨z6, f6, y6, -⟩, ⟨z5, f5, y5, -⟩, ⟨z4, f4, y4, -⟩, ⟨z3, f3, y3, -⟩, ⟨z2, f2, y2, -⟩, ⟨z1, f1, y1, -⟩, ⟨z0, f0, y0, -⟩, -⟩ := S.out.facts
  replace S := Lib.hid (S.out.box 26 [.slice q5.a (U).length q5.c])
  go_wp2_with fail
  refine (HY.out _ _ _ S.out.r4 S.out.r1).mono ?_
  rintro e w10 ⟨_, rfl, q6, rfl, hr, hf, hb⟩
  replace S := Lib.hid (natRes S.out hr hf hb)
  clear hr hf hb z0 f0 y0 z1 f1 y1 z2 f2 y2 z3 f3 y3 z4 f4 y4 z5 f5 y5 z6 f6 y6
  obtain ⟨⟨z7, f7, y7, -⟩, ⟨z6, f6, y6, -⟩, ⟨z5, f5, y5, -⟩, ⟨z4, f4, y4, -⟩, ⟨z3, f3, y3, -⟩, ⟨z2, f2, y2, -⟩, ⟨z1, f1, y1, -⟩, ⟨z0, f0, y0, -⟩, -⟩ := S.out.facts
  replace S := Lib.hid (S.out.box 26 [.slice q6.a (Y).length q6.c])
  go_wp2_with fail
  refine (HZ.out _ _ _ S.out.r6 S.out.r1).mono ?_
  rintro e w11 ⟨_, rfl, q7, rfl, hr, hf, hb⟩
  replace S := Lib.hid (natRes S.out hr hf hb)
  clear hr hf hb z0 f0 y0 z1 f1 y1 z2 f2 y2 z3 f3 y3 z4 f4 y4 z5 f5 y5 z6 f6 y6 z7 f7 y7
  obtain ⟨⟨z8, f8, y8, -⟩, ⟨z7, f7, y7, -⟩, ⟨z6, f6, y6, -⟩, ⟨z5, f5, y5, -⟩, ⟨z4, f4, y4, -⟩, ⟨z3, f3, y3, -⟩, ⟨z2, f2, y2, -⟩, ⟨z1, f1, y1, -⟩, ⟨z0, f0, y0, -⟩, -⟩ := S.out.facts
  replace S := Lib.hid (S.out.box 26 [.slice q7.a (Y).length q7.c])
  go_wp2_with fail
  refine (HSY.out _ _ _ S.out.r1 S.out.r0).mono ?_
  rintro e w12 ⟨rfl, hb⟩
  replace S := Lib.hid (S.out.call hb)
  clear hb z0 f0 y0 z1 f1 y1 z2 f2 y2 z3 f3 y3 z4 f4 y4 z5 f5 y5 z6 f6 y6 z7 f7 y7 z8 f8 y8
  obtain ⟨⟨z9, f9, y9, -⟩, ⟨z8, f8, y8, -⟩, ⟨z7, f7, y7, -⟩, ⟨z6, f6, y6, -⟩, ⟨z5, f5, y5, -⟩, ⟨z4, f4, y4, -⟩, ⟨z3, f3, y3, -⟩, ⟨z2, f2, y2, -⟩, ⟨z1, f1, y1, -⟩, ⟨z0, f0, y0, -⟩, -⟩ := S.out.facts
  go_wp2
  go_ret
  exact ⟨rfl, S.out.bel⟩
set_option maxHeartbeats 2000000 in
set_option maxRecDepth 100000 in
theorem law_mul (w : World) (a : List Int) (qa : LmP) (ha : RLm w w.heap.size a qa) (la : Lim a) (b : List Int) (qb : LmP) (hb : RLm w w.heap.size b qb) (lb : Lim b) (c : List Int) (qc : LmP) (hc : RLm w w.heap.size c qc) (lc : Lim c) (ht : Tab w) :
    Calls Tryd.prog 4 #[natV a qa, natV b qb, natV c qc] w fun e w' => e = .returned (.bool true) ∧ Below w.heap.size w w' := by
  cases hF : ([(a, qa), (b, qb), (c, qc)] : List LQ).all (fun x => decide ((x.1.length : Int) ≤ 130)) with
  | false => exact law_mul_few w a qa ha la b qb hb lb c qc hc lc ht hF
  | true =>
    by_cases e0 : mulE a b = 0
    · by_cases e1 : mulE a c = 0
      · by_cases e2 : sumE b c = 0
        · by_cases e3 : sumE (mulV a b) (mulV a c) = 0
          · exact law_mul_4 w a qa ha la b qb hb lb c qc hc lc ht hF e0 e1 e2 e3
          · exact law_mul_3 w a qa ha la b qb hb lb c qc hc lc ht hF e0 e1 e2 e3
        · exact law_mul_2 w a qa ha la b qb hb lb c qc hc lc ht hF e0 e1 e2
      · exact law_mul_1 w a qa ha la b qb hb lb c qc hc lc ht hF e0 e1
    · exact law_mul_0 w a qa ha la b qb hb lb c qc hc lc ht hF e0
end Go.Proofs.YtmkkjghmgbkdgaaDoor
