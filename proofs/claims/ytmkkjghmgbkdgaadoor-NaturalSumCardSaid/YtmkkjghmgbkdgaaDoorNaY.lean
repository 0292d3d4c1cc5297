/-
  CONTRACT of the law NaturalSum.
  Conditions: those that each theorem names.
-/
import Derived.Test.YtmkkjghmgbkdgaaDoorNaV
namespace Go.Proofs.YtmkkjghmgbkdgaaDoor
open Go.RowKit Go.Sv
theorem cmpL_neg (a b : List Int) : cmpL b a = -cmpL a b := by
  unfold cmpL cmpV
  split <;> split <;> (try split) <;> omega
theorem cmpL_bd (a b : List Int) : -1 ≤ cmpL a b ∧ cmpL a b ≤ 1 := by
  unfold cmpL cmpV
  split
  · omega
  · split <;> omega
set_option maxHeartbeats 2000000 in
set_option maxRecDepth 100000 in
theorem law_sum_few (w : World) (a : List Int) (qa : LmP) (ha : RLm w w.heap.size a qa) (la : Lim a) (b : List Int) (qb : LmP) (hb : RLm w w.heap.size b qb) (lb : Lim b) (ht : Tab w) (hF : ([(a, qa), (b, qb)] : List LQ).all (fun x => decide ((x.1.length : Int) ≤ 130)) = false) :
    Calls Tryd.prog 11 #[natV a qa, natV b qb] w fun e w' => e = .returned (.bool true) ∧ Below w.heap.size w w' := by
  have ht' := Lib.hid (fun w' (hb : Below w.heap.size w w') => ht.to hb)
  have HAw := Lib.hid (fun w' (h : Below w.heap.size w w') => awake_any w' (ht'.out _ h))
  have S := Lib.hid (natArg (natArg (Fm.init w) hb) ha)
  have HFew : Hid (∀ W kb kc kt bs rs, Fm w W (⟨kb, kt, [.slice qa.a a.length qa.c, .slice qb.a b.length qb.c]⟩ :: bs) rs → Calls Tryd.prog 20 #[.int .i64 130, .slice (some ⟨kb, 0, none⟩) 2 kc] W fun e w' => e = .returned (.bool false) ∧ Below W.heap.size W w') := Lib.hid fun W kb kc kt bs rs S => by
    have := few_fm (c := kc) 130 [(a, qa), (b, qb)] S (by simp)
    rw [hF] at this
    exact this
  obtain ⟨qaa, qac⟩ := qa
  obtain ⟨qba, qbc⟩ := qb
  dsimp only at S HFew
  replace S := Lib.hid (S.out.box 26 [.slice qaa a.length qac])
  replace S := Lib.hid (S.out.box' 26 [.slice qba b.length qbc] (K := w.heap.size + 1) (by simp))
  clear ha hb ht
  go_enter Tryd.func11, Tryd.ntmps11
  go_wp2_with fail
  refine (HAw.out _ S.out.bel).mono ?_
  rintro e w1 ⟨rfl, hb⟩
  replace S := Lib.hid (S.out.call hb)
  clear hb
  obtain ⟨⟨z1, f1, y1, -⟩, ⟨z0, f0, y0, -⟩, -⟩ := S.out.facts
  replace S := Lib.hid (S.out.box 26 [.slice qaa a.length qac, .slice qba b.length qbc])
  go_wp2_with fail
  refine (HFew.out _ _ _ _ _ _ S.out).mono ?_
  rintro e w2 ⟨rfl, hb⟩
  replace S := Lib.hid (S.out.call hb)
  clear hb z0 f0 y0 z1 f1 y1
  obtain ⟨⟨z2, f2, y2, y2b, -⟩, ⟨z1, f1, y1, -⟩, ⟨z0, f0, y0, -⟩, -⟩ := S.out.facts
  go_wp2_with fail
  refine (HAw.out _ S.out.bel).mono ?_
  rintro e w3 ⟨rfl, hb⟩
  replace S := Lib.hid (S.out.call hb)
  clear hb z0 f0 y0 z1 f1 y1 z2 f2 y2 y2b
  obtain ⟨⟨z2, f2, y2, y2b, -⟩, ⟨z1, f1, y1, -⟩, ⟨z0, f0, y0, -⟩, -⟩ := S.out.facts
  go_wp2
  go_ret
  exact ⟨rfl, S.out.bel⟩
set_option maxHeartbeats 2000000 in
set_option maxRecDepth 100000 in
theorem law_sum_no0 (w : World) (a : List Int) (qa : LmP) (ha : RLm w w.heap.size a qa) (la : Lim a) (b : List Int) (qb : LmP) (hb : RLm w w.heap.size b qb) (lb : Lim b) (ht : Tab w) (hF : ([(a, qa), (b, qb)] : List LQ).all (fun x => decide ((x.1.length : Int) ≤ 130)) = true) (hv : vN a = false) :
    Calls Tryd.prog 11 #[natV a qa, natV b qb] w fun e w' => e = .returned (.bool true) ∧ Below w.heap.size w w' := by
  have ht' := Lib.hid (fun w' (hb : Below w.heap.size w w') => ht.to hb)
  have HAw := Lib.hid (fun w' (h : Below w.heap.size w w') => awake_any w' (ht'.out _ h))
  have S := Lib.hid (natArg (natArg (Fm.init w) hb) ha)
  have HA := Lib.hid (fun q0 q1 w' (h0 : RLm w' w'.heap.size (a) q0) (h1 : RLm w' w'.heap.size (b) q1) => by
    have := add_any (a) (b) q0 q1 w' h0 h1 (la) (lb)
    exact this)
  have HA2 := Lib.hid (fun q0 q1 w' (h0 : RLm w' w'.heap.size (a) q0) (h1 : RLm w' w'.heap.size (b) q1) => by
    have := radd_any (a) (b) q0 q1 w' h0 h1 (la) (lb)
    exact this)
  have HB := Lib.hid (fun q r w' (h1 : RLm w' w'.heap.size b q) (h2 : RLm w' w'.heap.size a r) => by
    have := add_any b a q r w' h1 h2 lb la
    rw [(sum_comm a b).1, (sum_comm a b).2] at this
    exact this)
  have HD := Lib.hid (fun q0 q1 w' (h0 : RLm w' w'.heap.size (a) q0) (h1 : RLm w' w'.heap.size (b) q1) => by
    have := sub_any (a) (b) q0 q1 w' h0 h1 (la) (lb)
    exact this)
  have HD2 := Lib.hid (fun q0 q1 w' (h0 : RLm w' w'.heap.size (a) q0) (h1 : RLm w' w'.heap.size (b) q1) => by
    have := rsub_any (a) (b) q0 q1 w' h0 h1 (la) (lb)
    exact this)
  obtain ⟨V, hV⟩ : ∃ V, sumV a b = V := ⟨_, rfl⟩
  obtain ⟨D, hD⟩ : ∃ V, difV a b = V := ⟨_, rfl⟩
  rw [hV] at HA HA2 HB
  rw [hD] at HD HD2
  obtain ⟨E, hE⟩ : ∃ E, sumE a b = E := ⟨_, rfl⟩
  obtain ⟨F, hF2⟩ : ∃ E, difE a b = E := ⟨_, rfl⟩
  rw [hE] at HA HA2 HB
  rw [hF2] at HD HD2
  have HVa := Lib.hid (fun q0 w' (h0 : RLm w' w'.heap.size (a) q0) => by
    have := rvalid_any (a) q0 w' h0 
    rw [hv] at this
    exact this)
  clear hV hD hE hF2 hv
  have HSV := Lib.hid (fun q r w' (h1 : RLm w' w'.heap.size (V) q) (h2 : RLm w' w'.heap.size (V) r) => by
    have := same_any (V) (V) q r w' h1 h2
    rw [decide_eq_true rfl] at this
    exact this)
  have HSD := Lib.hid (fun q r w' (h1 : RLm w' w'.heap.size (D) q) (h2 : RLm w' w'.heap.size (D) r) => by
    have := same_any (D) (D) q r w' h1 h2
    rw [decide_eq_true rfl] at this
    exact this)
  have HFew : Hid (∀ W kb kc kt bs rs, Fm w W (⟨kb, kt, [.slice qa.a a.length qa.c, .slice qb.a b.length qb.c]⟩ :: bs) rs → Calls Tryd.prog 20 #[.int .i64 130, .slice (some ⟨kb, 0, none⟩) 2 kc] W fun e w' => e = .returned (.bool true) ∧ Below W.heap.size W w') := Lib.hid fun W kb kc kt bs rs S => by
    have := few_fm (c := kc) 130 [(a, qa), (b, qb)] S (by simp)
    rw [hF] at this
    exact this
  obtain ⟨qaa, qac⟩ := qa
  obtain ⟨qba, qbc⟩ := qb
  dsimp only at S HFew
  replace S := Lib.hid (S.out.box 26 [.slice qaa a.length qac])
  replace S := Lib.hid (S.out.box' 26 [.slice qba b.length qbc] (K := w.heap.size + 1) (by simp))
  clear ha hb ht
  go_enter Tryd.func11, Tryd.ntmps11
  go_wp2_with fail
  refine (HAw.out _ S.out.bel).mono ?_
  rintro e w1 ⟨rfl, hb⟩
  replace S := Lib.hid (S.out.call hb)
  clear hb
  obtain ⟨⟨z1, f1, y1, -⟩, ⟨z0, f0, y0, -⟩, -⟩ := S.out.facts
  replace S := Lib.hid (S.out.box 26 [.slice qaa a.length qac, .slice qba b.length qbc])
  go_wp2_with fail
  refine (HFew.out _ _ _ _ _ _ S.out).mono ?_
  rintro e w2 ⟨rfl, hb⟩
  replace S := Lib.hid (S.out.call hb)
  clear hb z0 f0 y0 z1 f1 y1
  obtain ⟨⟨z2, f2, y2, y2b, -⟩, ⟨z1, f1, y1, -⟩, ⟨z0, f0, y0, -⟩, -⟩ := S.out.facts
  replace S := Lib.hid (S.out.drop _ _ (List.sublist_cons_self _ _) (List.Sublist.refl _))
  go_wp2_with fail
  refine (HA.out _ _ _ S.out.r0 S.out.r1).mono ?_
  rintro e w3 ⟨_, rfl, q1, rfl, hr, hf, hb⟩
  replace S := Lib.hid (natRes S.out hr hf hb)
  clear hr hf hb z0 f0 y0 z1 f1 y1 z2 f2 y2
  obtain ⟨⟨z1, f1, y1, -⟩, ⟨z0, f0, y0, -⟩, -⟩ := S.out.facts
  replace S := Lib.hid (S.out.box 26 [.slice q1.a (V).length q1.c])
  go_wp2_with fail
  refine (HA2.out _ _ _ S.out.r1 S.out.r2).mono ?_
  rintro e w4 ⟨_, rfl, q2, rfl, hr, hf, hb⟩
  replace S := Lib.hid (natRes S.out hr hf hb)
  clear hr hf hb z0 f0 y0 z1 f1 y1
  obtain ⟨⟨z2, f2, y2, -⟩, ⟨z1, f1, y1, -⟩, ⟨z0, f0, y0, -⟩, -⟩ := S.out.facts
  replace S := Lib.hid (S.out.box 26 [.slice q2.a (V).length q2.c])
  go_wp2_with fail
  refine (HB.out _ _ _ S.out.r3 S.out.r2).mono ?_
  rintro e w5 ⟨_, rfl, q3, rfl, hr, hf, hb⟩
  replace S := Lib.hid (natRes S.out hr hf hb)
  clear hr hf hb z0 f0 y0 z1 f1 y1 z2 f2 y2
  obtain ⟨⟨z3, f3, y3, -⟩, ⟨z2, f2, y2, -⟩, ⟨z1, f1, y1, -⟩, ⟨z0, f0, y0, -⟩, -⟩ := S.out.facts
  replace S := Lib.hid (S.out.box 26 [.slice q3.a (V).length q3.c])
  go_wp2_with fail
  refine (HD.out _ _ _ S.out.r3 S.out.r4).mono ?_
  rintro e w6 ⟨_, rfl, q4, rfl, hr, hf, hb⟩
  replace S := Lib.hid (natRes S.out hr hf hb)
  clear hr hf hb z0 f0 y0 z1 f1 y1 z2 f2 y2 z3 f3 y3
  obtain ⟨⟨z4, f4, y4, -⟩, ⟨z3, f3, y3, -⟩, ⟨z2, f2, y2, -⟩, ⟨z1, f1, y1, -⟩, ⟨z0, f0, y0, -⟩, -⟩ := S.out.facts
  replace S := Lib.hid (S.out.box 26 [.slice q4.a (D).length q4.c])
  go_wp2_with fail
  refine (HD2.out _ _ _ S.out.r4 S.out.r5).mono ?_
  rintro e w7 ⟨_, rfl, q5, rfl, hr, hf, hb⟩
  replace S := Lib.hid (natRes S.out hr hf hb)
  clear hr hf hb z0 f0 y0 z1 f1 y1 z2 f2 y2 z3 f3 y3 z4 f4 y4
  obtain ⟨⟨z5, f5, y5, -⟩, ⟨z4, f4, y4, -⟩, ⟨z3, f3, y3, -⟩, ⟨z2, f2, y2, -⟩, ⟨z1, f1, y1, -⟩, ⟨z0, f0, y0, -⟩, -⟩ := S.out.facts
  replace S := Lib.hid (S.out.box 26 [.slice q5.a (D).length q5.c])
  go_wp2_with fail
  refine (HSV.out _ _ _ S.out.r4 S.out.r3).mono ?_
  rintro e w8 ⟨rfl, hb⟩
  replace S := Lib.hid (S.out.call hb)
  clear hb z0 f0 y0 z1 f1 y1 z2 f2 y2 z3 f3 y3 z4 f4 y4 z5 f5 y5
  obtain ⟨⟨z6, f6, y6, -⟩, ⟨z5, f5, y5, -⟩, ⟨z4, f4, y4, -⟩, ⟨z3, f3, y3, -⟩, ⟨z2, f2, y2, -⟩, ⟨z1, f1, y1, -⟩, ⟨z0, f0, y0, -⟩, -⟩ := S.out.facts
  go_wp2_with fail
  refine (HSV.out _ _ _ S.out.r2 S.out.r3).mono ?_
  rintro e w9 ⟨rfl, hb⟩
  replace S := Lib.hid (S.out.call hb)
  clear hb z0 f0 y0 z1 f1 y1 z2 f2 y2 z3 f3 y3 z4 f4 y4 z5 f5 y5 z6 f6 y6
  obtain ⟨⟨z6, f6, y6, -⟩, ⟨z5, f5, y5, -⟩, ⟨z4, f4, y4, -⟩, ⟨z3, f3, y3, -⟩, ⟨z2, f2, y2, -⟩, ⟨z1, f1, y1, -⟩, ⟨z0, f0, y0, -⟩, -⟩ := S.out.facts
  go_wp2_with fail
  refine (HSD.out _ _ _ S.out.r1 S.out.r0).mono ?_
  rintro e w10 ⟨rfl, hb⟩
  replace S := Lib.hid (S.out.call hb)
  clear hb z0 f0 y0 z1 f1 y1 z2 f2 y2 z3 f3 y3 z4 f4 y4 z5 f5 y5 z6 f6 y6
  obtain ⟨⟨z6, f6, y6, -⟩, ⟨z5, f5, y5, -⟩, ⟨z4, f4, y4, -⟩, ⟨z3, f3, y3, -⟩, ⟨z2, f2, y2, -⟩, ⟨z1, f1, y1, -⟩, ⟨z0, f0, y0, -⟩, -⟩ := S.out.facts
  go_wp2_with fail
  refine (HVa.out _ _ S.out.r5).mono ?_
  rintro e w11 ⟨rfl, hb⟩
  replace S := Lib.hid (S.out.call hb)
  clear hb z0 f0 y0 z1 f1 y1 z2 f2 y2 z3 f3 y3 z4 f4 y4 z5 f5 y5 z6 f6 y6
  obtain ⟨⟨z6, f6, y6, -⟩, ⟨z5, f5, y5, -⟩, ⟨z4, f4, y4, -⟩, ⟨z3, f3, y3, -⟩, ⟨z2, f2, y2, -⟩, ⟨z1, f1, y1, -⟩, ⟨z0, f0, y0, -⟩, -⟩ := S.out.facts
  go_wp2
  go_ret
  exact ⟨rfl, S.out.bel⟩
set_option maxHeartbeats 2000000 in
set_option maxRecDepth 100000 in
theorem law_sum_no1 (w : World) (a : List Int) (qa : LmP) (ha : RLm w w.heap.size a qa) (la : Lim a) (b : List Int) (qb : LmP) (hb : RLm w w.heap.size b qb) (lb : Lim b) (ht : Tab w) (hF : ([(a, qa), (b, qb)] : List LQ).all (fun x => decide ((x.1.length : Int) ≤ 130)) = true) (hv : vN a = true) (hv2 : vN b = false) :
    Calls Tryd.prog 11 #[natV a qa, natV b qb] w fun e w' => e = .returned (.bool true) ∧ Below w.heap.size w w' := by
  have ht' := Lib.hid (fun w' (hb : Below w.heap.size w w') => ht.to hb)
  have HAw := Lib.hid (fun w' (h : Below w.heap.size w w') => awake_any w' (ht'.out _ h))
  have S := Lib.hid (natArg (natArg (Fm.init w) hb) ha)
  have HA := Lib.hid (fun q0 q1 w' (h0 : RLm w' w'.heap.size (a) q0) (h1 : RLm w' w'.heap.size (b) q1) => by
    have := add_any (a) (b) q0 q1 w' h0 h1 (la) (lb)
    exact this)
  have HA2 := Lib.hid (fun q0 q1 w' (h0 : RLm w' w'.heap.size (a) q0) (h1 : RLm w' w'.heap.size (b) q1) => by
    have := radd_any (a) (b) q0 q1 w' h0 h1 (la) (lb)
    exact this)
  have HB := Lib.hid (fun q r w' (h1 : RLm w' w'.heap.size b q) (h2 : RLm w' w'.heap.size a r) => by
    have := add_any b a q r w' h1 h2 lb la
    rw [(sum_comm a b).1, (sum_comm a b).2] at this
    exact this)
  have HD := Lib.hid (fun q0 q1 w' (h0 : RLm w' w'.heap.size (a) q0) (h1 : RLm w' w'.heap.size (b) q1) => by
    have := sub_any (a) (b) q0 q1 w' h0 h1 (la) (lb)
    exact this)
  have HD2 := Lib.hid (fun q0 q1 w' (h0 : RLm w' w'.heap.size (a) q0) (h1 : RLm w' w'.heap.size (b) q1) => by
    have := rsub_any (a) (b) q0 q1 w' h0 h1 (la) (lb)
    exact this)
  obtain ⟨V, hV⟩ : ∃ V, sumV a b = V := ⟨_, rfl⟩
  obtain ⟨D, hD⟩ : ∃ V, difV a b = V := ⟨_, rfl⟩
  rw [hV] at HA HA2 HB
  rw [hD] at HD HD2
  obtain ⟨E, hE⟩ : ∃ E, sumE a b = E := ⟨_, rfl⟩
  obtain ⟨F, hF2⟩ : ∃ E, difE a b = E := ⟨_, rfl⟩
  rw [hE] at HA HA2 HB
  rw [hF2] at HD HD2
  have HVa := Lib.hid (fun q0 w' (h0 : RLm w' w'.heap.size (a) q0) => by
    have := rvalid_any (a) q0 w' h0 
    rw [hv] at this
    exact this)
  have HVb := Lib.hid (fun q0 w' (h0 : RLm w' w'.heap.size (b) q0) => by
    have := rvalid_any (b) q0 w' h0 
    rw [hv2] at this
    exact this)
  clear hV hD hE hF2 hv hv2
  have HSV := Lib.hid (fun q r w' (h1 : RLm w' w'.heap.size (V) q) (h2 : RLm w' w'.heap.size (V) r) => by
    have := same_any (V) (V) q r w' h1 h2
    rw [decide_eq_true rfl] at this
    exact this)
  have HSD := Lib.hid (fun q r w' (h1 : RLm w' w'.heap.size (D) q) (h2 : RLm w' w'.heap.size (D) r) => by
    have := same_any (D) (D) q r w' h1 h2
    rw [decide_eq_true rfl] at this
    exact this)
  have HFew : Hid (∀ W kb kc kt bs rs, Fm w W (⟨kb, kt, [.slice qa.a a.length qa.c, .slice qb.a b.length qb.c]⟩ :: bs) rs → Calls Tryd.prog 20 #[.int .i64 130, .slice (some ⟨kb, 0, none⟩) 2 kc] W fun e w' => e = .returned (.bool true) ∧ Below W.heap.size W w') := Lib.hid fun W kb kc kt bs rs S => by
    have := few_fm (c := kc) 130 [(a, qa), (b, qb)] S (by simp)
    rw [hF] at this
    exact this
  obtain ⟨qaa, qac⟩ := qa
  obtain ⟨qba, qbc⟩ := qb
  dsimp only at S HFew
  replace S := Lib.hid (S.out.box 26 [.slice qaa a.length qac])
  replace S := Lib.hid (S.out.box' 26 [.slice qba b.length qbc] (K := w.heap.size + 1) (by simp))
  clear ha hb ht
  go_enter Tryd.func11, Tryd.ntmps11
  go_wp2_with fail
  refine (HAw.out _ S.out.bel).mono ?_
  rintro e w1 ⟨rfl, hb⟩
  replace S := Lib.hid (S.out.call hb)
  clear hb
  obtain ⟨⟨z1, f1, y1, -⟩, ⟨z0, f0, y0, -⟩, -⟩ := S.out.facts
  replace S := Lib.hid (S.out.box 26 [.slice qaa a.length qac, .slice qba b.length qbc])
  go_wp2_with fail
  refine (HFew.out _ _ _ _ _ _ S.out).mono ?_
  rintro e w2 ⟨rfl, hb⟩
  replace S := Lib.hid (S.out.call hb)
  clear hb z0 f0 y0 z1 f1 y1
  obtain ⟨⟨z2, f2, y2, y2b, -⟩, ⟨z1, f1, y1, -⟩, ⟨z0, f0, y0, -⟩, -⟩ := S.out.facts
  replace S := Lib.hid (S.out.drop _ _ (List.sublist_cons_self _ _) (List.Sublist.refl _))
  go_wp2_with fail
  refine (HA.out _ _ _ S.out.r0 S.out.r1).mono ?_
  rintro e w3 ⟨_, rfl, q1, rfl, hr, hf, hb⟩
  replace S := Lib.hid (natRes S.out hr hf hb)
  clear hr hf hb z0 f0 y0 z1 f1 y1 z2 f2 y2
  obtain ⟨⟨z1, f1, y1, -⟩, ⟨z0, f0, y0, -⟩, -⟩ := S.out.facts
  replace S := Lib.hid (S.out.box 26 [.slice q1.a (V).length q1.c])
  go_wp2_with fail
  refine (HA2.out _ _ _ S.out.r1 S.out.r2).mono ?_
  rintro e w4 ⟨_, rfl, q2, rfl, hr, hf, hb⟩
  replace S := Lib.hid (natRes S.out hr hf hb)
  clear hr hf hb z0 f0 y0 z1 f1 y1
  obtain ⟨⟨z2, f2, y2, -⟩, ⟨z1, f1, y1, -⟩, ⟨z0, f0, y0, -⟩, -⟩ := S.out.facts
  replace S := Lib.hid (S.out.box 26 [.slice q2.a (V).length q2.c])
  go_wp2_with fail
  refine (HB.out _ _ _ S.out.r3 S.out.r2).mono ?_
  rintro e w5 ⟨_, rfl, q3, rfl, hr, hf, hb⟩
  replace S := Lib.hid (natRes S.out hr hf hb)
  clear hr hf hb z0 f0 y0 z1 f1 y1 z2 f2 y2
  obtain ⟨⟨z3, f3, y3, -⟩, ⟨z2, f2, y2, -⟩, ⟨z1, f1, y1, -⟩, ⟨z0, f0, y0, -⟩, -⟩ := S.out.facts
  replace S := Lib.hid (S.out.box 26 [.slice q3.a (V).length q3.c])
  go_wp2_with fail
  refine (HD.out _ _ _ S.out.r3 S.out.r4).mono ?_
  rintro e w6 ⟨_, rfl, q4, rfl, hr, hf, hb⟩
  replace S := Lib.hid (natRes S.out hr hf hb)
  clear hr hf hb z0 f0 y0 z1 f1 y1 z2 f2 y2 z3 f3 y3
  obtain ⟨⟨z4, f4, y4, -⟩, ⟨z3, f3, y3, -⟩, ⟨z2, f2, y2, -⟩, ⟨z1, f1, y1, -⟩, ⟨z0, f0, y0, -⟩, -⟩ := S.out.facts
  replace S := Lib.hid (S.out.box 26 [.slice q4.a (D).length q4.c])
  go_wp2_with fail
  refine (HD2.out _ _ _ S.out.r4 S.out.r5).mono ?_
  rintro e w7 ⟨_, rfl, q5, rfl, hr, hf, hb⟩
  replace S := Lib.hid (natRes S.out hr hf hb)
  clear hr hf hb z0 f0 y0 z1 f1 y1 z2 f2 y2 z3 f3 y3 z4 f4 y4
  obtain ⟨⟨z5, f5, y5, -⟩, ⟨z4, f4, y4, -⟩, ⟨z3, f3, y3, -⟩, ⟨z2, f2, y2, -⟩, ⟨z1, f1, y1, -⟩, ⟨z0, f0, y0, -⟩, -⟩ := S.out.facts
  replace S := Lib.hid (S.out.box 26 [.slice q5.a (D).length q5.c])
  go_wp2_with fail
  refine (HSV.out _ _ _ S.out.r4 S.out.r3).mono ?_
  rintro e w8 ⟨rfl, hb⟩
  replace S := Lib.hid (S.out.call hb)
  clear hb z0 f0 y0 z1 f1 y1 z2 f2 y2 z3 f3 y3 z4 f4 y4 z5 f5 y5
  obtain ⟨⟨z6, f6, y6, -⟩, ⟨z5, f5, y5, -⟩, ⟨z4, f4, y4, -⟩, ⟨z3, f3, y3, -⟩, ⟨z2, f2, y2, -⟩, ⟨z1, f1, y1, -⟩, ⟨z0, f0, y0, -⟩, -⟩ := S.out.facts
  go_wp2_with fail
  refine (HSV.out _ _ _ S.out.r2 S.out.r3).mono ?_
  rintro e w9 ⟨rfl, hb⟩
  replace S := Lib.hid (S.out.call hb)
  clear hb z0 f0 y0 z1 f1 y1 z2 f2 y2 z3 f3 y3 z4 f4 y4 z5 f5 y5 z6 f6 y6
  obtain ⟨⟨z6, f6, y6, -⟩, ⟨z5, f5, y5, -⟩, ⟨z4, f4, y4, -⟩, ⟨z3, f3, y3, -⟩, ⟨z2, f2, y2, -⟩, ⟨z1, f1, y1, -⟩, ⟨z0, f0, y0, -⟩, -⟩ := S.out.facts
  go_wp2_with fail
  refine (HSD.out _ _ _ S.out.r1 S.out.r0).mono ?_
  rintro e w10 ⟨rfl, hb⟩
  replace S := Lib.hid (S.out.call hb)
  clear hb z0 f0 y0 z1 f1 y1 z2 f2 y2 z3 f3 y3 z4 f4 y4 z5 f5 y5 z6 f6 y6
  obtain ⟨⟨z6, f6, y6, -⟩, ⟨z5, f5, y5, -⟩, ⟨z4, f4, y4, -⟩, ⟨z3, f3, y3, -⟩, ⟨z2, f2, y2, -⟩, ⟨z1, f1, y1, -⟩, ⟨z0, f0, y0, -⟩, -⟩ := S.out.facts
  go_wp2_with fail
  refine (HVa.out _ _ S.out.r5).mono ?_
  rintro e w11 ⟨rfl, hb⟩
  replace S := Lib.hid (S.out.call hb)
  clear hb z0 f0 y0 z1 f1 y1 z2 f2 y2 z3 f3 y3 z4 f4 y4 z5 f5 y5 z6 f6 y6
  obtain ⟨⟨z6, f6, y6, -⟩, ⟨z5, f5, y5, -⟩, ⟨z4, f4, y4, -⟩, ⟨z3, f3, y3, -⟩, ⟨z2, f2, y2, -⟩, ⟨z1, f1, y1, -⟩, ⟨z0, f0, y0, -⟩, -⟩ := S.out.facts
  go_wp2_with fail
  refine (HVb.out _ _ S.out.r6).mono ?_
  rintro e w12 ⟨rfl, hb⟩
  replace S := Lib.hid (S.out.call hb)
  clear hb z0 f0 y0 z1 f1 y1 z2 f2 y2 z3 f3 y3 z4 f4 y4 z5 f5 y5 z6 f6 y6
  obtain ⟨⟨z6, f6, y6, -⟩, ⟨z5, f5, y5, -⟩, ⟨z4, f4, y4, -⟩, ⟨z3, f3, y3, -⟩, ⟨z2, f2, y2, -⟩, ⟨z1, f1, y1, -⟩, ⟨z0, f0, y0, -⟩, -⟩ := S.out.facts
  go_wp2
  go_ret
  exact ⟨rfl, S.out.bel⟩
set_option maxHeartbeats 2000000 in
set_option maxRecDepth 100000 in
theorem law_sum_big_low (w : World) (a : List Int) (qa : LmP) (ha : RLm w w.heap.size a qa) (la : Lim a) (b : List Int) (qb : LmP) (hb : RLm w w.heap.size b qb) (lb : Lim b) (ht : Tab w) (hF : ([(a, qa), (b, qb)] : List LQ).all (fun x => decide ((x.1.length : Int) ≤ 130)) = true) (hv : vN a = true) (hv2 : vN b = true) (hE : sumE a b ≠ 0) (hL : vl a < vl b) :
    Calls Tryd.prog 11 #[natV a qa, natV b qb] w fun e w' => e = .returned (.bool true) ∧ Below w.heap.size w w' := by
  have ht' := Lib.hid (fun w' (hb : Below w.heap.size w w') => ht.to hb)
  have HAw := Lib.hid (fun w' (h : Below w.heap.size w w') => awake_any w' (ht'.out _ h))
  have S := Lib.hid (natArg (natArg (Fm.init w) hb) ha)
  have HA := Lib.hid (fun q0 q1 w' (h0 : RLm w' w'.heap.size (a) q0) (h1 : RLm w' w'.heap.size (b) q1) => by
    have := add_any (a) (b) q0 q1 w' h0 h1 (la) (lb)
    exact this)
  have HA2 := Lib.hid (fun q0 q1 w' (h0 : RLm w' w'.heap.size (a) q0) (h1 : RLm w' w'.heap.size (b) q1) => by
    have := radd_any (a) (b) q0 q1 w' h0 h1 (la) (lb)
    exact this)
  have HB := Lib.hid (fun q r w' (h1 : RLm w' w'.heap.size b q) (h2 : RLm w' w'.heap.size a r) => by
    have := add_any b a q r w' h1 h2 lb la
    rw [(sum_comm a b).1, (sum_comm a b).2] at this
    exact this)
  have HD := Lib.hid (fun q0 q1 w' (h0 : RLm w' w'.heap.size (a) q0) (h1 : RLm w' w'.heap.size (b) q1) => by
    have := sub_any (a) (b) q0 q1 w' h0 h1 (la) (lb)
    exact this)
  have HD2 := Lib.hid (fun q0 q1 w' (h0 : RLm w' w'.heap.size (a) q0) (h1 : RLm w' w'.heap.size (b) q1) => by
    have := rsub_any (a) (b) q0 q1 w' h0 h1 (la) (lb)
    exact this)
  have HVa := Lib.hid (fun q0 w' (h0 : RLm w' w'.heap.size (a) q0) => by
    have := rvalid_any (a) q0 w' h0 
    rw [hv] at this
    exact this)
  have HVb := Lib.hid (fun q0 w' (h0 : RLm w' w'.heap.size (b) q0) => by
    have := rvalid_any (b) q0 w' h0 
    rw [hv2] at this
    exact this)
  have HC := Lib.hid (fun q0 q1 w' (h0 : RLm w' w'.heap.size (a) q0) (h1 : RLm w' w'.heap.size (b) q1) => by
    have := cmp_any (a) (b) q0 q1 w' h0 h1 (la) (lb) ((vN_can hv).2) ((vN_can hv2).2)
    exact this)
  have HC2 := Lib.hid (fun q0 q1 w' (h0 : RLm w' w'.heap.size (a) q0) (h1 : RLm w' w'.heap.size (b) q1) => by
    have := rcmp_any (a) (b) q0 q1 w' h0 h1 (la) (lb)
    exact this)
  have HC3 := Lib.hid (fun q r w' (h1 : RLm w' w'.heap.size b q) (h2 : RLm w' w'.heap.size a r) => by
    have := cmp_any b a q r w' h1 h2 lb la (vN_can hv2).2 (vN_can hv).2
    rw [cmpL_neg a b] at this
    exact this)
  have hFe : difE a b = 7 := by unfold difE; rw [hv, hv2, Bool.and_self, if_pos rfl, if_neg (by omega)]
  rw [hFe] at HD HD2
  have dC : decide (cmpL a b < 0) = true := by rw [cmpL_lt la lb]; exact decide_eq_true hL
  have dB := cmpL_bd a b
  obtain ⟨V, hV⟩ : ∃ V, sumV a b = V := ⟨_, rfl⟩
  obtain ⟨D, hD⟩ : ∃ V, difV a b = V := ⟨_, rfl⟩
  rw [hV] at HA HA2 HB
  rw [hD] at HD HD2
  obtain ⟨E, hEe⟩ : ∃ E, sumE a b = E := ⟨_, rfl⟩
  obtain ⟨C, hCe⟩ : ∃ C, cmpL a b = C := ⟨_, rfl⟩
  rw [hEe] at HA HA2 HB hE
  rw [hCe] at HC HC2 HC3 dC dB
  obtain ⟨dB1, dB2⟩ := dB
  have dE : (E != 0) = true := bne_iff_ne.2 hE
  clear hV hD hEe hCe hFe hL hv hv2 hE
  have HSV := Lib.hid (fun q r w' (h1 : RLm w' w'.heap.size (V) q) (h2 : RLm w' w'.heap.size (V) r) => by
    have := same_any (V) (V) q r w' h1 h2
    rw [decide_eq_true rfl] at this
    exact this)
  have HSD := Lib.hid (fun q r w' (h1 : RLm w' w'.heap.size (D) q) (h2 : RLm w' w'.heap.size (D) r) => by
    have := same_any (D) (D) q r w' h1 h2
    rw [decide_eq_true rfl] at this
    exact this)
  have HFew : Hid (∀ W kb kc kt bs rs, Fm w W (⟨kb, kt, [.slice qa.a a.length qa.c, .slice qb.a b.length qb.c]⟩ :: bs) rs → Calls Tryd.prog 20 #[.int .i64 130, .slice (some ⟨kb, 0, none⟩) 2 kc] W fun e w' => e = .returned (.bool true) ∧ Below W.heap.size W w') := Lib.hid fun W kb kc kt bs rs S => by
    have := few_fm (c := kc) 130 [(a, qa), (b, qb)] S (by simp)
    rw [hF] at this
    exact this
  obtain ⟨qaa, qac⟩ := qa
  obtain ⟨qba, qbc⟩ := qb
  dsimp only at S HFew
  replace S := Lib.hid (S.out.box 26 [.slice qaa a.length qac])
  replace S := Lib.hid (S.out.box' 26 [.slice qba b.length qbc] (K := w.heap.size + 1) (by simp))
  clear ha hb ht
  go_enter Tryd.func11, Tryd.ntmps11
  go_wp2_with fail
  refine (HAw.out _ S.out.bel).mono ?_
  rintro e w1 ⟨rfl, hb⟩
  replace S := Lib.hid (S.out.call hb)
  clear hb
  obtain ⟨⟨z1, f1, y1, -⟩, ⟨z0, f0, y0, -⟩, -⟩ := S.out.facts
  replace S := Lib.hid (S.out.box 26 [.slice qaa a.length qac, .slice qba b.length qbc])
  go_wp2_with fail
  refine (HFew.out _ _ _ _ _ _ S.out).mono ?_
  rintro e w2 ⟨rfl, hb⟩
  replace S := Lib.hid (S.out.call hb)
  clear hb z0 f0 y0 z1 f1 y1
  obtain ⟨⟨z2, f2, y2, y2b, -⟩, ⟨z1, f1, y1, -⟩, ⟨z0, f0, y0, -⟩, -⟩ := S.out.facts
  replace S := Lib.hid (S.out.drop _ _ (List.sublist_cons_self _ _) (List.Sublist.refl _))
  go_wp2_with fail
  refine (HA.out _ _ _ S.out.r0 S.out.r1).mono ?_
  rintro e w3 ⟨_, rfl, q1, rfl, hr, hf, hb⟩
  replace S := Lib.hid (natRes S.out hr hf hb)
  clear hr hf hb z0 f0 y0 z1 f1 y1 z2 f2 y2
  obtain ⟨⟨z1, f1, y1, -⟩, ⟨z0, f0, y0, -⟩, -⟩ := S.out.facts
  replace S := Lib.hid (S.out.box 26 [.slice q1.a (V).length q1.c])
  go_wp2_with fail
  refine (HA2.out _ _ _ S.out.r1 S.out.r2).mono ?_
  rintro e w4 ⟨_, rfl, q2, rfl, hr, hf, hb⟩
  replace S := Lib.hid (natRes S.out hr hf hb)
  clear hr hf hb z0 f0 y0 z1 f1 y1
  obtain ⟨⟨z2, f2, y2, -⟩, ⟨z1, f1, y1, -⟩, ⟨z0, f0, y0, -⟩, -⟩ := S.out.facts
  replace S := Lib.hid (S.out.box 26 [.slice q2.a (V).length q2.c])
  go_wp2_with fail
  refine (HB.out _ _ _ S.out.r3 S.out.r2).mono ?_
  rintro e w5 ⟨_, rfl, q3, rfl, hr, hf, hb⟩
  replace S := Lib.hid (natRes S.out hr hf hb)
  clear hr hf hb z0 f0 y0 z1 f1 y1 z2 f2 y2
  obtain ⟨⟨z3, f3, y3, -⟩, ⟨z2, f2, y2, -⟩, ⟨z1, f1, y1, -⟩, ⟨z0, f0, y0, -⟩, -⟩ := S.out.facts
  replace S := Lib.hid (S.out.box 26 [.slice q3.a (V).length q3.c])
  go_wp2_with fail
  refine (HD.out _ _ _ S.out.r3 S.out.r4).mono ?_
  rintro e w6 ⟨_, rfl, q4, rfl, hr, hf, hb⟩
  replace S := Lib.hid (natRes S.out hr hf hb)
  clear hr hf hb z0 f0 y0 z1 f1 y1 z2 f2 y2 z3 f3 y3
  obtain ⟨⟨z4, f4, y4, -⟩, ⟨z3, f3, y3, -⟩, ⟨z2, f2, y2, -⟩, ⟨z1, f1, y1, -⟩, ⟨z0, f0, y0, -⟩, -⟩ := S.out.facts
  replace S := Lib.hid (S.out.box 26 [.slice q4.a (D).length q4.c])
  go_wp2_with fail
  refine (HD2.out _ _ _ S.out.r4 S.out.r5).mono ?_
  rintro e w7 ⟨_, rfl, q5, rfl, hr, hf, hb⟩
  replace S := Lib.hid (natRes S.out hr hf hb)
  clear hr hf hb z0 f0 y0 z1 f1 y1 z2 f2 y2 z3 f3 y3 z4 f4 y4
  obtain ⟨⟨z5, f5, y5, -⟩, ⟨z4, f4, y4, -⟩, ⟨z3, f3, y3, -⟩, ⟨z2, f2, y2, -⟩, ⟨z1, f1, y1, -⟩, ⟨z0, f0, y0, -⟩, -⟩ := S.out.facts
  replace S := Lib.hid (S.out.box 26 [.slice q5.a (D).length q5.c])
  go_wp2_with fail
  refine (HSV.out _ _ _ S.out.r4 S.out.r3).mono ?_
  rintro e w8 ⟨rfl, hb⟩
  replace S := Lib.hid (S.out.call hb)
  clear hb z0 f0 y0 z1 f1 y1 z2 f2 y2 z3 f3 y3 z4 f4 y4 z5 f5 y5
  obtain ⟨⟨z6, f6, y6, -⟩, ⟨z5, f5, y5, -⟩, ⟨z4, f4, y4, -⟩, ⟨z3, f3, y3, -⟩, ⟨z2, f2, y2, -⟩, ⟨z1, f1, y1, -⟩, ⟨z0, f0, y0, -⟩, -⟩ := S.out.facts
  go_wp2_with fail
  refine (HSV.out _ _ _ S.out.r2 S.out.r3).mono ?_
  rintro e w9 ⟨rfl, hb⟩
  replace S := Lib.hid (S.out.call hb)
  clear hb z0 f0 y0 z1 f1 y1 z2 f2 y2 z3 f3 y3 z4 f4 y4 z5 f5 y5 z6 f6 y6
  obtain ⟨⟨z6, f6, y6, -⟩, ⟨z5, f5, y5, -⟩, ⟨z4, f4, y4, -⟩, ⟨z3, f3, y3, -⟩, ⟨z2, f2, y2, -⟩, ⟨z1, f1, y1, -⟩, ⟨z0, f0, y0, -⟩, -⟩ := S.out.facts
  go_wp2_with fail
  refine (HSD.out _ _ _ S.out.r1 S.out.r0).mono ?_
  rintro e w10 ⟨rfl, hb⟩
  replace S := Lib.hid (S.out.call hb)
  clear hb z0 f0 y0 z1 f1 y1 z2 f2 y2 z3 f3 y3 z4 f4 y4 z5 f5 y5 z6 f6 y6
  obtain ⟨⟨z6, f6, y6, -⟩, ⟨z5, f5, y5, -⟩, ⟨z4, f4, y4, -⟩, ⟨z3, f3, y3, -⟩, ⟨z2, f2, y2, -⟩, ⟨z1, f1, y1, -⟩, ⟨z0, f0, y0, -⟩, -⟩ := S.out.facts
  go_wp2_with fail
  refine (HVa.out _ _ S.out.r5).mono ?_
  rintro e w11 ⟨rfl, hb⟩
  replace S := Lib.hid (S.out.call hb)
  clear hb z0 f0 y0 z1 f1 y1 z2 f2 y2 z3 f3 y3 z4 f4 y4 z5 f5 y5 z6 f6 y6
  obtain ⟨⟨z6, f6, y6, -⟩, ⟨z5, f5, y5, -⟩, ⟨z4, f4, y4, -⟩, ⟨z3, f3, y3, -⟩, ⟨z2, f2, y2, -⟩, ⟨z1, f1, y1, -⟩, ⟨z0, f0, y0, -⟩, -⟩ := S.out.facts
  go_wp2_with fail
  refine (HVb.out _ _ S.out.r6).mono ?_
  rintro e w12 ⟨rfl, hb⟩
  replace S := Lib.hid (S.out.call hb)
  clear hb z0 f0 y0 z1 f1 y1 z2 f2 y2 z3 f3 y3 z4 f4 y4 z5 f5 y5 z6 f6 y6
  obtain ⟨⟨z6, f6, y6, -⟩, ⟨z5, f5, y5, -⟩, ⟨z4, f4, y4, -⟩, ⟨z3, f3, y3, -⟩, ⟨z2, f2, y2, -⟩, ⟨z1, f1, y1, -⟩, ⟨z0, f0, y0, -⟩, -⟩ := S.out.facts
  go_wp2_with fail
  refine (HC.out _ _ _ S.out.r5 S.out.r6).mono ?_
  rintro e w13 ⟨rfl, hb⟩
  replace S := Lib.hid (S.out.call hb)
  clear hb z0 f0 y0 z1 f1 y1 z2 f2 y2 z3 f3 y3 z4 f4 y4 z5 f5 y5 z6 f6 y6
  obtain ⟨⟨z6, f6, y6, -⟩, ⟨z5, f5, y5, -⟩, ⟨z4, f4, y4, -⟩, ⟨z3, f3, y3, -⟩, ⟨z2, f2, y2, -⟩, ⟨z1, f1, y1, -⟩, ⟨z0, f0, y0, -⟩, -⟩ := S.out.facts
  go_wp2_with fail
  refine (HC2.out _ _ _ S.out.r5 S.out.r6).mono ?_
  rintro e w14 ⟨rfl, hb⟩
  replace S := Lib.hid (S.out.call hb)
  clear hb z0 f0 y0 z1 f1 y1 z2 f2 y2 z3 f3 y3 z4 f4 y4 z5 f5 y5 z6 f6 y6
  obtain ⟨⟨z6, f6, y6, -⟩, ⟨z5, f5, y5, -⟩, ⟨z4, f4, y4, -⟩, ⟨z3, f3, y3, -⟩, ⟨z2, f2, y2, -⟩, ⟨z1, f1, y1, -⟩, ⟨z0, f0, y0, -⟩, -⟩ := S.out.facts
  go_wp2_with fail
  refine (HC3.out _ _ _ S.out.r6 S.out.r5).mono ?_
  rintro e w15 ⟨rfl, hb⟩
  replace S := Lib.hid (S.out.call hb)
  clear hb z0 f0 y0 z1 f1 y1 z2 f2 y2 z3 f3 y3 z4 f4 y4 z5 f5 y5 z6 f6 y6
  obtain ⟨⟨z6, f6, y6, -⟩, ⟨z5, f5, y5, -⟩, ⟨z4, f4, y4, -⟩, ⟨z3, f3, y3, -⟩, ⟨z2, f2, y2, -⟩, ⟨z1, f1, y1, -⟩, ⟨z0, f0, y0, -⟩, -⟩ := S.out.facts
  go_wp2
  go_ret
  exact ⟨rfl, S.out.bel⟩
set_option maxHeartbeats 2000000 in
set_option maxRecDepth 100000 in
theorem law_sum_big (w : World) (a : List Int) (qa : LmP) (ha : RLm w w.heap.size a qa) (la : Lim a) (b : List Int) (qb : LmP) (hb : RLm w w.heap.size b qb) (lb : Lim b) (ht : Tab w) (hF : ([(a, qa), (b, qb)] : List LQ).all (fun x => decide ((x.1.length : Int) ≤ 130)) = true) (hv : vN a = true) (hv2 : vN b = true) (hE : sumE a b ≠ 0) (hL : vl b ≤ vl a) :
    Calls Tryd.prog 11 #[natV a qa, natV b qb] w fun e w' => e = .returned (.bool true) ∧ Below w.heap.size w w' := by
  have ht' := Lib.hid (fun w' (hb : Below w.heap.size w w') => ht.to hb)
  have HAw := Lib.hid (fun w' (h : Below w.heap.size w w') => awake_any w' (ht'.out _ h))
  have S := Lib.hid (natArg (natArg (Fm.init w) hb) ha)
  have HA := Lib.hid (fun q0 q1 w' (h0 : RLm w' w'.heap.size (a) q0) (h1 : RLm w' w'.heap.size (b) q1) => by
    have := add_any (a) (b) q0 q1 w' h0 h1 (la) (lb)
    exact this)
  have HA2 := Lib.hid (fun q0 q1 w' (h0 : RLm w' w'.heap.size (a) q0) (h1 : RLm w' w'.heap.size (b) q1) => by
    have := radd_any (a) (b) q0 q1 w' h0 h1 (la) (lb)
    exact this)
  have HB := Lib.hid (fun q r w' (h1 : RLm w' w'.heap.size b q) (h2 : RLm w' w'.heap.size a r) => by
    have := add_any b a q r w' h1 h2 lb la
    rw [(sum_comm a b).1, (sum_comm a b).2] at this
    exact this)
  have HD := Lib.hid (fun q0 q1 w' (h0 : RLm w' w'.heap.size (a) q0) (h1 : RLm w' w'.heap.size (b) q1) => by
    have := sub_any (a) (b) q0 q1 w' h0 h1 (la) (lb)
    exact this)
  have HD2 := Lib.hid (fun q0 q1 w' (h0 : RLm w' w'.heap.size (a) q0) (h1 : RLm w' w'.heap.size (b) q1) => by
    have := rsub_any (a) (b) q0 q1 w' h0 h1 (la) (lb)
    exact this)
  have HVa := Lib.hid (fun q0 w' (h0 : RLm w' w'.heap.size (a) q0) => by
    have := rvalid_any (a) q0 w' h0 
    rw [hv] at this
    exact this)
  have HVb := Lib.hid (fun q0 w' (h0 : RLm w' w'.heap.size (b) q0) => by
    have := rvalid_any (b) q0 w' h0 
    rw [hv2] at this
    exact this)
  have HC := Lib.hid (fun q0 q1 w' (h0 : RLm w' w'.heap.size (a) q0) (h1 : RLm w' w'.heap.size (b) q1) => by
    have := cmp_any (a) (b) q0 q1 w' h0 h1 (la) (lb) ((vN_can hv).2) ((vN_can hv2).2)
    exact this)
  have HC2 := Lib.hid (fun q0 q1 w' (h0 : RLm w' w'.heap.size (a) q0) (h1 : RLm w' w'.heap.size (b) q1) => by
    have := rcmp_any (a) (b) q0 q1 w' h0 h1 (la) (lb)
    exact this)
  have HC3 := Lib.hid (fun q r w' (h1 : RLm w' w'.heap.size b q) (h2 : RLm w' w'.heap.size a r) => by
    have := cmp_any b a q r w' h1 h2 lb la (vN_can hv2).2 (vN_can hv).2
    rw [cmpL_neg a b] at this
    exact this)
  have hFe : difE a b = 0 := by unfold difE; rw [hv, hv2, Bool.and_self, if_pos rfl, if_pos hL]
  rw [hFe] at HD HD2
  have dC : decide (cmpL a b < 0) = false := by rw [cmpL_lt la lb]; exact decide_eq_false (by omega)
  have dB := cmpL_bd a b
  obtain ⟨V, hV⟩ : ∃ V, sumV a b = V := ⟨_, rfl⟩
  obtain ⟨D, hD⟩ : ∃ V, difV a b = V := ⟨_, rfl⟩
  rw [hV] at HA HA2 HB
  rw [hD] at HD HD2
  obtain ⟨E, hEe⟩ : ∃ E, sumE a b = E := ⟨_, rfl⟩
  obtain ⟨C, hCe⟩ : ∃ C, cmpL a b = C := ⟨_, rfl⟩
  rw [hEe] at HA HA2 HB hE
  rw [hCe] at HC HC2 HC3 dC dB
  obtain ⟨dB1, dB2⟩ := dB
  have dE : (E != 0) = true := bne_iff_ne.2 hE
  clear hV hD hEe hCe hFe hL hv hv2 hE
  have HSV := Lib.hid (fun q r w' (h1 : RLm w' w'.heap.size (V) q) (h2 : RLm w' w'.heap.size (V) r) => by
    have := same_any (V) (V) q r w' h1 h2
    rw [decide_eq_true rfl] at this
    exact this)
  have HSD := Lib.hid (fun q r w' (h1 : RLm w' w'.heap.size (D) q) (h2 : RLm w' w'.heap.size (D) r) => by
    have := same_any (D) (D) q r w' h1 h2
    rw [decide_eq_true rfl] at this
    exact this)
  have HFew : Hid (∀ W kb kc kt bs rs, Fm w W (⟨kb, kt, [.slice qa.a a.length qa.c, .slice qb.a b.length qb.c]⟩ :: bs) rs → Calls Tryd.prog 20 #[.int .i64 130, .slice (some ⟨kb, 0, none⟩) 2 kc] W fun e w' => e = .returned (.bool true) ∧ Below W.heap.size W w') := Lib.hid fun W kb kc kt bs rs S => by
    have := few_fm (c := kc) 130 [(a, qa), (b, qb)] S (by simp)
    rw [hF] at this
    exact this
  obtain ⟨qaa, qac⟩ := qa
  obtain ⟨qba, qbc⟩ := qb
  dsimp only at S HFew
  replace S := Lib.hid (S.out.box 26 [.slice qaa a.length qac])
  replace S := Lib.hid (S.out.box' 26 [.slice qba b.length qbc] (K := w.heap.size + 1) (by simp))
  clear ha hb ht
  go_enter Tryd.func11, Tryd.ntmps11
  go_wp2_with fail
  refine (HAw.out _ S.out.bel).mono ?_
  rintro e w1 ⟨rfl, hb⟩
  replace S := Lib.hid (S.out.call hb)
  clear hb
  obtain ⟨⟨z1, f1, y1, -⟩, ⟨z0, f0, y0, -⟩, -⟩ := S.out.facts
  replace S := Lib.hid (S.out.box 26 [.slice qaa a.length qac, .slice qba b.length qbc])
  go_wp2_with fail
  refine (HFew.out _ _ _ _ _ _ S.out).mono ?_
  rintro e w2 ⟨rfl, hb⟩
  replace S := Lib.hid (S.out.call hb)
  clear hb z0 f0 y0 z1 f1 y1
  obtain ⟨⟨z2, f2, y2, y2b, -⟩, ⟨z1, f1, y1, -⟩, ⟨z0, f0, y0, -⟩, -⟩ := S.out.facts
  replace S := Lib.hid (S.out.drop _ _ (List.sublist_cons_self _ _) (List.Sublist.refl _))
  go_wp2_with fail
  refine (HA.out _ _ _ S.out.r0 S.out.r1).mono ?_
  rintro e w3 ⟨_, rfl, q1, rfl, hr, hf, hb⟩
  replace S := Lib.hid (natRes S.out hr hf hb)
  clear hr hf hb z0 f0 y0 z1 f1 y1 z2 f2 y2
  obtain ⟨⟨z1, f1, y1, -⟩, ⟨z0, f0, y0, -⟩, -⟩ := S.out.facts
  replace S := Lib.hid (S.out.box 26 [.slice q1.a (V).length q1.c])
  go_wp2_with fail
  refine (HA2.out _ _ _ S.out.r1 S.out.r2).mono ?_
  rintro e w4 ⟨_, rfl, q2, rfl, hr, hf, hb⟩
  replace S := Lib.hid (natRes S.out hr hf hb)
  clear hr hf hb z0 f0 y0 z1 f1 y1
  obtain ⟨⟨z2, f2, y2, -⟩, ⟨z1, f1, y1, -⟩, ⟨z0, f0, y0, -⟩, -⟩ := S.out.facts
  replace S := Lib.hid (S.out.box 26 [.slice q2.a (V).length q2.c])
  go_wp2_with fail
  refine (HB.out _ _ _ S.out.r3 S.out.r2).mono ?_
  rintro e w5 ⟨_, rfl, q3, rfl, hr, hf, hb⟩
  replace S := Lib.hid (natRes S.out hr hf hb)
  clear hr hf hb z0 f0 y0 z1 f1 y1 z2 f2 y2
  obtain ⟨⟨z3, f3, y3, -⟩, ⟨z2, f2, y2, -⟩, ⟨z1, f1, y1, -⟩, ⟨z0, f0, y0, -⟩, -⟩ := S.out.facts
  replace S := Lib.hid (S.out.box 26 [.slice q3.a (V).length q3.c])
  go_wp2_with fail
  refine (HD.out _ _ _ S.out.r3 S.out.r4).mono ?_
  rintro e w6 ⟨_, rfl, q4, rfl, hr, hf, hb⟩
  replace S := Lib.hid (natRes S.out hr hf hb)
  clear hr hf hb z0 f0 y0 z1 f1 y1 z2 f2 y2 z3 f3 y3
  obtain ⟨⟨z4, f4, y4, -⟩, ⟨z3, f3, y3, -⟩, ⟨z2, f2, y2, -⟩, ⟨z1, f1, y1, -⟩, ⟨z0, f0, y0, -⟩, -⟩ := S.out.facts
  replace S := Lib.hid (S.out.box 26 [.slice q4.a (D).length q4.c])
  go_wp2_with fail
  refine (HD2.out _ _ _ S.out.r4 S.out.r5).mono ?_
  rintro e w7 ⟨_, rfl, q5, rfl, hr, hf, hb⟩
  replace S := Lib.hid (natRes S.out hr hf hb)
  clear hr hf hb z0 f0 y0 z1 f1 y1 z2 f2 y2 z3 f3 y3 z4 f4 y4
  obtain ⟨⟨z5, f5, y5, -⟩, ⟨z4, f4, y4, -⟩, ⟨z3, f3, y3, -⟩, ⟨z2, f2, y2, -⟩, ⟨z1, f1, y1, -⟩, ⟨z0, f0, y0, -⟩, -⟩ := S.out.facts
  replace S := Lib.hid (S.out.box 26 [.slice q5.a (D).length q5.c])
  go_wp2_with fail
  refine (HSV.out _ _ _ S.out.r4 S.out.r3).mono ?_
  rintro e w8 ⟨rfl, hb⟩
  replace S := Lib.hid (S.out.call hb)
  clear hb z0 f0 y0 z1 f1 y1 z2 f2 y2 z3 f3 y3 z4 f4 y4 z5 f5 y5
  obtain ⟨⟨z6, f6, y6, -⟩, ⟨z5, f5, y5, -⟩, ⟨z4, f4, y4, -⟩, ⟨z3, f3, y3, -⟩, ⟨z2, f2, y2, -⟩, ⟨z1, f1, y1, -⟩, ⟨z0, f0, y0, -⟩, -⟩ := S.out.facts
  go_wp2_with fail
  refine (HSV.out _ _ _ S.out.r2 S.out.r3).mono ?_
  rintro e w9 ⟨rfl, hb⟩
  replace S := Lib.hid (S.out.call hb)
  clear hb z0 f0 y0 z1 f1 y1 z2 f2 y2 z3 f3 y3 z4 f4 y4 z5 f5 y5 z6 f6 y6
  obtain ⟨⟨z6, f6, y6, -⟩, ⟨z5, f5, y5, -⟩, ⟨z4, f4, y4, -⟩, ⟨z3, f3, y3, -⟩, ⟨z2, f2, y2, -⟩, ⟨z1, f1, y1, -⟩, ⟨z0, f0, y0, -⟩, -⟩ := S.out.facts
  go_wp2_with fail
  refine (HSD.out _ _ _ S.out.r1 S.out.r0).mono ?_
  rintro e w10 ⟨rfl, hb⟩
  replace S := Lib.hid (S.out.call hb)
  clear hb z0 f0 y0 z1 f1 y1 z2 f2 y2 z3 f3 y3 z4 f4 y4 z5 f5 y5 z6 f6 y6
  obtain ⟨⟨z6, f6, y6, -⟩, ⟨z5, f5, y5, -⟩, ⟨z4, f4, y4, -⟩, ⟨z3, f3, y3, -⟩, ⟨z2, f2, y2, -⟩, ⟨z1, f1, y1, -⟩, ⟨z0, f0, y0, -⟩, -⟩ := S.out.facts
  go_wp2_with fail
  refine (HVa.out _ _ S.out.r5).mono ?_
  rintro e w11 ⟨rfl, hb⟩
  replace S := Lib.hid (S.out.call hb)
  clear hb z0 f0 y0 z1 f1 y1 z2 f2 y2 z3 f3 y3 z4 f4 y4 z5 f5 y5 z6 f6 y6
  obtain ⟨⟨z6, f6, y6, -⟩, ⟨z5, f5, y5, -⟩, ⟨z4, f4, y4, -⟩, ⟨z3, f3, y3, -⟩, ⟨z2, f2, y2, -⟩, ⟨z1, f1, y1, -⟩, ⟨z0, f0, y0, -⟩, -⟩ := S.out.facts
  go_wp2_with fail
  refine (HVb.out _ _ S.out.r6).mono ?_
  rintro e w12 ⟨rfl, hb⟩
  replace S := Lib.hid (S.out.call hb)
  clear hb z0 f0 y0 z1 f1 y1 z2 f2 y2 z3 f3 y3 z4 f4 y4 z5 f5 y5 z6 f6 y6
  obtain ⟨⟨z6, f6, y6, -⟩, ⟨z5, f5, y5, -⟩, ⟨z4, f4, y4, -⟩, ⟨z3, f3, y3, -⟩, ⟨z2, f2, y2, -⟩, ⟨z1, f1, y1, -⟩, ⟨z0, f0, y0, -⟩, -⟩ := S.out.facts
  go_wp2_with fail
  refine (HC.out _ _ _ S.out.r5 S.out.r6).mono ?_
  rintro e w13 ⟨rfl, hb⟩
  replace S := Lib.hid (S.out.call hb)
  clear hb z0 f0 y0 z1 f1 y1 z2 f2 y2 z3 f3 y3 z4 f4 y4 z5 f5 y5 z6 f6 y6
  obtain ⟨⟨z6, f6, y6, -⟩, ⟨z5, f5, y5, -⟩, ⟨z4, f4, y4, -⟩, ⟨z3, f3, y3, -⟩, ⟨z2, f2, y2, -⟩, ⟨z1, f1, y1, -⟩, ⟨z0, f0, y0, -⟩, -⟩ := S.out.facts
  go_wp2_with fail
  refine (HC2.out _ _ _ S.out.r5 S.out.r6).mono ?_
  rintro e w14 ⟨rfl, hb⟩
  replace S := Lib.hid (S.out.call hb)
  clear hb z0 f0 y0 z1 f1 y1 z2 f2 y2 z3 f3 y3 z4 f4 y4 z5 f5 y5 z6 f6 y6
  obtain ⟨⟨z6, f6, y6, -⟩, ⟨z5, f5, y5, -⟩, ⟨z4, f4, y4, -⟩, ⟨z3, f3, y3, -⟩, ⟨z2, f2, y2, -⟩, ⟨z1, f1, y1, -⟩, ⟨z0, f0, y0, -⟩, -⟩ := S.out.facts
  go_wp2_with fail
  refine (HC3.out _ _ _ S.out.r6 S.out.r5).mono ?_
  rintro e w15 ⟨rfl, hb⟩
  replace S := Lib.hid (S.out.call hb)
  clear hb z0 f0 y0 z1 f1 y1 z2 f2 y2 z3 f3 y3 z4 f4 y4 z5 f5 y5 z6 f6 y6
  obtain ⟨⟨z6, f6, y6, -⟩, ⟨z5, f5, y5, -⟩, ⟨z4, f4, y4, -⟩, ⟨z3, f3, y3, -⟩, ⟨z2, f2, y2, -⟩, ⟨z1, f1, y1, -⟩, ⟨z0, f0, y0, -⟩, -⟩ := S.out.facts
  go_wp2
  go_ret
  exact ⟨rfl, S.out.bel⟩
set_option maxHeartbeats 2000000 in
set_option maxRecDepth 100000 in
theorem law_sum_ok_low (w : World) (a : List Int) (qa : LmP) (ha : RLm w w.heap.size a qa) (la : Lim a) (b : List Int) (qb : LmP) (hb : RLm w w.heap.size b qb) (lb : Lim b) (ht : Tab w) (hF : ([(a, qa), (b, qb)] : List LQ).all (fun x => decide ((x.1.length : Int) ≤ 130)) = true) (hv : vN a = true) (hv2 : vN b = true) (hE : sumE a b = 0) (hL : vl a < vl b) :
    Calls Tryd.prog 11 #[natV a qa, natV b qb] w fun e w' => e = .returned (.bool true) ∧ Below w.heap.size w w' := by
  have ht' := Lib.hid (fun w' (hb : Below w.heap.size w w') => ht.to hb)
  have HAw := Lib.hid (fun w' (h : Below w.heap.size w w') => awake_any w' (ht'.out _ h))
  have S := Lib.hid (natArg (natArg (Fm.init w) hb) ha)
  have HA := Lib.hid (fun q0 q1 w' (h0 : RLm w' w'.heap.size (a) q0) (h1 : RLm w' w'.heap.size (b) q1) => by
    have := add_any (a) (b) q0 q1 w' h0 h1 (la) (lb)
    exact this)
  have HA2 := Lib.hid (fun q0 q1 w' (h0 : RLm w' w'.heap.size (a) q0) (h1 : RLm w' w'.heap.size (b) q1) => by
    have := radd_any (a) (b) q0 q1 w' h0 h1 (la) (lb)
    exact this)
  have HB := Lib.hid (fun q r w' (h1 : RLm w' w'.heap.size b q) (h2 : RLm w' w'.heap.size a r) => by
    have := add_any b a q r w' h1 h2 lb la
    rw [(sum_comm a b).1, (sum_comm a b).2] at this
    exact this)
  have HD := Lib.hid (fun q0 q1 w' (h0 : RLm w' w'.heap.size (a) q0) (h1 : RLm w' w'.heap.size (b) q1) => by
    have := sub_any (a) (b) q0 q1 w' h0 h1 (la) (lb)
    exact this)
  have HD2 := Lib.hid (fun q0 q1 w' (h0 : RLm w' w'.heap.size (a) q0) (h1 : RLm w' w'.heap.size (b) q1) => by
    have := rsub_any (a) (b) q0 q1 w' h0 h1 (la) (lb)
    exact this)
  have HVa := Lib.hid (fun q0 w' (h0 : RLm w' w'.heap.size (a) q0) => by
    have := rvalid_any (a) q0 w' h0 
    rw [hv] at this
    exact this)
  have HVb := Lib.hid (fun q0 w' (h0 : RLm w' w'.heap.size (b) q0) => by
    have := rvalid_any (b) q0 w' h0 
    rw [hv2] at this
    exact this)
  have HC := Lib.hid (fun q0 q1 w' (h0 : RLm w' w'.heap.size (a) q0) (h1 : RLm w' w'.heap.size (b) q1) => by
    have := cmp_any (a) (b) q0 q1 w' h0 h1 (la) (lb) ((vN_can hv).2) ((vN_can hv2).2)
    exact this)
  have HC2 := Lib.hid (fun q0 q1 w' (h0 : RLm w' w'.heap.size (a) q0) (h1 : RLm w' w'.heap.size (b) q1) => by
    have := rcmp_any (a) (b) q0 q1 w' h0 h1 (la) (lb)
    exact this)
  have HC3 := Lib.hid (fun q r w' (h1 : RLm w' w'.heap.size b q) (h2 : RLm w' w'.heap.size a r) => by
    have := cmp_any b a q r w' h1 h2 lb la (vN_can hv2).2 (vN_can hv).2
    rw [cmpL_neg a b] at this
    exact this)
  have hFe : difE a b = 7 := by unfold difE; rw [hv, hv2, Bool.and_self, if_pos rfl, if_neg (by omega)]
  rw [hFe] at HD HD2
  have dC : decide (cmpL a b < 0) = true := by rw [cmpL_lt la lb]; exact decide_eq_true hL
  have dB := cmpL_bd a b
  obtain ⟨_, _, eV, hS128⟩ := sum_ok' hE
  have HK := Lib.hid (fun q r w' (h1 : RLm w' w'.heap.size (lim (vl a + vl b)) q) (h2 : RLm w' w'.heap.size b r) => by
    have := sub_ok (lim (vl a + vl b)) b q r w' h1 h2 (lim_lim _) lb (vN_lim hS128) hv2 (by rw [vl_lim]; omega)
    rw [vl_lim, Nat.add_sub_cancel, ← lim_vl la (vN_can hv).2] at this
    exact this)
  rw [← eV] at HK
  have HSA := Lib.hid (fun q r w' (h1 : RLm w' w'.heap.size (a) q) (h2 : RLm w' w'.heap.size (a) r) => by
    have := same_any (a) (a) q r w' h1 h2
    rw [decide_eq_true rfl] at this
    exact this)
  obtain ⟨V, hV⟩ : ∃ V, sumV a b = V := ⟨_, rfl⟩
  obtain ⟨D, hD⟩ : ∃ V, difV a b = V := ⟨_, rfl⟩
  rw [hV] at HA HA2 HB
  rw [hD] at HD HD2
  rw [hV] at HK
  clear eV hS128
  obtain ⟨E, hEe⟩ : ∃ E, sumE a b = E := ⟨_, rfl⟩
  obtain ⟨C, hCe⟩ : ∃ C, cmpL a b = C := ⟨_, rfl⟩
  rw [hEe] at HA HA2 HB hE
  rw [hCe] at HC HC2 HC3 dC dB
  obtain ⟨dB1, dB2⟩ := dB
  subst hE
  clear hV hD hEe hCe hFe hL hv hv2
  have HSV := Lib.hid (fun q r w' (h1 : RLm w' w'.heap.size (V) q) (h2 : RLm w' w'.heap.size (V) r) => by
    have := same_any (V) (V) q r w' h1 h2
    rw [decide_eq_true rfl] at this
    exact this)
  have HSD := Lib.hid (fun q r w' (h1 : RLm w' w'.heap.size (D) q) (h2 : RLm w' w'.heap.size (D) r) => by
    have := same_any (D) (D) q r w' h1 h2
    rw [decide_eq_true rfl] at this
    exact this)
  have HFew : Hid (∀ W kb kc kt bs rs, Fm w W (⟨kb, kt, [.slice qa.a a.length qa.c, .slice qb.a b.length qb.c]⟩ :: bs) rs → Calls Tryd.prog 20 #[.int .i64 130, .slice (some ⟨kb, 0, none⟩) 2 kc] W fun e w' => e = .returned (.bool true) ∧ Below W.heap.size W w') := Lib.hid fun W kb kc kt bs rs S => by
    have := few_fm (c := kc) 130 [(a, qa), (b, qb)] S (by simp)
    rw [hF] at this
    exact this
  obtain ⟨qaa, qac⟩ := qa
  obtain ⟨qba, qbc⟩ := qb
  dsimp only at S HFew
  replace S := Lib.hid (S.out.box 26 [.slice qaa a.length qac])
  replace S := Lib.hid (S.out.box' 26 [.slice qba b.length qbc] (K := w.heap.size + 1) (by simp))
  clear ha hb ht
  go_enter Tryd.func11, Tryd.ntmps11
  go_wp2_with fail
  refine (HAw.out _ S.out.bel).mono ?_
  rintro e w1 ⟨rfl, hb⟩
  replace S := Lib.hid (S.out.call hb)
  clear hb
  obtain ⟨⟨z1, f1, y1, -⟩, ⟨z0, f0, y0, -⟩, -⟩ := S.out.facts
  replace S := Lib.hid (S.out.box 26 [.slice qaa a.length qac, .slice qba b.length qbc])
  go_wp2_with fail
  refine (HFew.out _ _ _ _ _ _ S.out).mono ?_
  rintro e w2 ⟨rfl, hb⟩
  replace S := Lib.hid (S.out.call hb)
  clear hb z0 f0 y0 z1 f1 y1
  obtain ⟨⟨z2, f2, y2, y2b, -⟩, ⟨z1, f1, y1, -⟩, ⟨z0, f0, y0, -⟩, -⟩ := S.out.facts
  replace S := Lib.hid (S.out.drop _ _ (List.sublist_cons_self _ _) (List.Sublist.refl _))
  go_wp2_with fail
  refine (HA.out _ _ _ S.out.r0 S.out.r1).mono ?_
  rintro e w3 ⟨_, rfl, q1, rfl, hr, hf, hb⟩
  replace S := Lib.hid (natRes S.out hr hf hb)
  clear hr hf hb z0 f0 y0 z1 f1 y1 z2 f2 y2
  obtain ⟨⟨z1, f1, y1, -⟩, ⟨z0, f0, y0, -⟩, -⟩ := S.out.facts
  replace S := Lib.hid (S.out.box 26 [.slice q1.a (V).length q1.c])
  go_wp2_with fail
  refine (HA2.out _ _ _ S.out.r1 S.out.r2).mono ?_
  rintro e w4 ⟨_, rfl, q2, rfl, hr, hf, hb⟩
  replace S := Lib.hid (natRes S.out hr hf hb)
  clear hr hf hb z0 f0 y0 z1 f1 y1
  obtain ⟨⟨z2, f2, y2, -⟩, ⟨z1, f1, y1, -⟩, ⟨z0, f0, y0, -⟩, -⟩ := S.out.facts
  replace S := Lib.hid (S.out.box 26 [.slice q2.a (V).length q2.c])
  go_wp2_with fail
  refine (HB.out _ _ _ S.out.r3 S.out.r2).mono ?_
  rintro e w5 ⟨_, rfl, q3, rfl, hr, hf, hb⟩
  replace S := Lib.hid (natRes S.out hr hf hb)
  clear hr hf hb z0 f0 y0 z1 f1 y1 z2 f2 y2
  obtain ⟨⟨z3, f3, y3, -⟩, ⟨z2, f2, y2, -⟩, ⟨z1, f1, y1, -⟩, ⟨z0, f0, y0, -⟩, -⟩ := S.out.facts
  replace S := Lib.hid (S.out.box 26 [.slice q3.a (V).length q3.c])
  go_wp2_with fail
  refine (HD.out _ _ _ S.out.r3 S.out.r4).mono ?_
  rintro e w6 ⟨_, rfl, q4, rfl, hr, hf, hb⟩
  replace S := Lib.hid (natRes S.out hr hf hb)
  clear hr hf hb z0 f0 y0 z1 f1 y1 z2 f2 y2 z3 f3 y3
  obtain ⟨⟨z4, f4, y4, -⟩, ⟨z3, f3, y3, -⟩, ⟨z2, f2, y2, -⟩, ⟨z1, f1, y1, -⟩, ⟨z0, f0, y0, -⟩, -⟩ := S.out.facts
  replace S := Lib.hid (S.out.box 26 [.slice q4.a (D).length q4.c])
  go_wp2_with fail
  refine (HD2.out _ _ _ S.out.r4 S.out.r5).mono ?_
  rintro e w7 ⟨_, rfl, q5, rfl, hr, hf, hb⟩
  replace S := Lib.hid (natRes S.out hr hf hb)
  clear hr hf hb z0 f0 y0 z1 f1 y1 z2 f2 y2 z3 f3 y3 z4 f4 y4
  obtain ⟨⟨z5, f5, y5, -⟩, ⟨z4, f4, y4, -⟩, ⟨z3, f3, y3, -⟩, ⟨z2, f2, y2, -⟩, ⟨z1, f1, y1, -⟩, ⟨z0, f0, y0, -⟩, -⟩ := S.out.facts
  replace S := Lib.hid (S.out.box 26 [.slice q5.a (D).length q5.c])
  go_wp2_with fail
  refine (HSV.out _ _ _ S.out.r4 S.out.r3).mono ?_
  rintro e w8 ⟨rfl, hb⟩
  replace S := Lib.hid (S.out.call hb)
  clear hb z0 f0 y0 z1 f1 y1 z2 f2 y2 z3 f3 y3 z4 f4 y4 z5 f5 y5
  obtain ⟨⟨z6, f6, y6, -⟩, ⟨z5, f5, y5, -⟩, ⟨z4, f4, y4, -⟩, ⟨z3, f3, y3, -⟩, ⟨z2, f2, y2, -⟩, ⟨z1, f1, y1, -⟩, ⟨z0, f0, y0, -⟩, -⟩ := S.out.facts
  go_wp2_with fail
  refine (HSV.out _ _ _ S.out.r2 S.out.r3).mono ?_
  rintro e w9 ⟨rfl, hb⟩
  replace S := Lib.hid (S.out.call hb)
  clear hb z0 f0 y0 z1 f1 y1 z2 f2 y2 z3 f3 y3 z4 f4 y4 z5 f5 y5 z6 f6 y6
  obtain ⟨⟨z6, f6, y6, -⟩, ⟨z5, f5, y5, -⟩, ⟨z4, f4, y4, -⟩, ⟨z3, f3, y3, -⟩, ⟨z2, f2, y2, -⟩, ⟨z1, f1, y1, -⟩, ⟨z0, f0, y0, -⟩, -⟩ := S.out.facts
  go_wp2_with fail
  refine (HSD.out _ _ _ S.out.r1 S.out.r0).mono ?_
  rintro e w10 ⟨rfl, hb⟩
  replace S := Lib.hid (S.out.call hb)
  clear hb z0 f0 y0 z1 f1 y1 z2 f2 y2 z3 f3 y3 z4 f4 y4 z5 f5 y5 z6 f6 y6
  obtain ⟨⟨z6, f6, y6, -⟩, ⟨z5, f5, y5, -⟩, ⟨z4, f4, y4, -⟩, ⟨z3, f3, y3, -⟩, ⟨z2, f2, y2, -⟩, ⟨z1, f1, y1, -⟩, ⟨z0, f0, y0, -⟩, -⟩ := S.out.facts
  go_wp2_with fail
  refine (HVa.out _ _ S.out.r5).mono ?_
  rintro e w11 ⟨rfl, hb⟩
  replace S := Lib.hid (S.out.call hb)
  clear hb z0 f0 y0 z1 f1 y1 z2 f2 y2 z3 f3 y3 z4 f4 y4 z5 f5 y5 z6 f6 y6
  obtain ⟨⟨z6, f6, y6, -⟩, ⟨z5, f5, y5, -⟩, ⟨z4, f4, y4, -⟩, ⟨z3, f3, y3, -⟩, ⟨z2, f2, y2, -⟩, ⟨z1, f1, y1, -⟩, ⟨z0, f0, y0, -⟩, -⟩ := S.out.facts
  go_wp2_with fail
  refine (HVb.out _ _ S.out.r6).mono ?_
  rintro e w12 ⟨rfl, hb⟩
  replace S := Lib.hid (S.out.call hb)
  clear hb z0 f0 y0 z1 f1 y1 z2 f2 y2 z3 f3 y3 z4 f4 y4 z5 f5 y5 z6 f6 y6
  obtain ⟨⟨z6, f6, y6, -⟩, ⟨z5, f5, y5, -⟩, ⟨z4, f4, y4, -⟩, ⟨z3, f3, y3, -⟩, ⟨z2, f2, y2, -⟩, ⟨z1, f1, y1, -⟩, ⟨z0, f0, y0, -⟩, -⟩ := S.out.facts
  go_wp2_with fail
  refine (HC.out _ _ _ S.out.r5 S.out.r6).mono ?_
  rintro e w13 ⟨rfl, hb⟩
  replace S := Lib.hid (S.out.call hb)
  clear hb z0 f0 y0 z1 f1 y1 z2 f2 y2 z3 f3 y3 z4 f4 y4 z5 f5 y5 z6 f6 y6
  obtain ⟨⟨z6, f6, y6, -⟩, ⟨z5, f5, y5, -⟩, ⟨z4, f4, y4, -⟩, ⟨z3, f3, y3, -⟩, ⟨z2, f2, y2, -⟩, ⟨z1, f1, y1, -⟩, ⟨z0, f0, y0, -⟩, -⟩ := S.out.facts
  go_wp2_with fail
  refine (HC2.out _ _ _ S.out.r5 S.out.r6).mono ?_
  rintro e w14 ⟨rfl, hb⟩
  replace S := Lib.hid (S.out.call hb)
  clear hb z0 f0 y0 z1 f1 y1 z2 f2 y2 z3 f3 y3 z4 f4 y4 z5 f5 y5 z6 f6 y6
  obtain ⟨⟨z6, f6, y6, -⟩, ⟨z5, f5, y5, -⟩, ⟨z4, f4, y4, -⟩, ⟨z3, f3, y3, -⟩, ⟨z2, f2, y2, -⟩, ⟨z1, f1, y1, -⟩, ⟨z0, f0, y0, -⟩, -⟩ := S.out.facts
  go_wp2_with fail
  refine (HC3.out _ _ _ S.out.r6 S.out.r5).mono ?_
  rintro e w15 ⟨rfl, hb⟩
  replace S := Lib.hid (S.out.call hb)
  clear hb z0 f0 y0 z1 f1 y1 z2 f2 y2 z3 f3 y3 z4 f4 y4 z5 f5 y5 z6 f6 y6
  obtain ⟨⟨z6, f6, y6, -⟩, ⟨z5, f5, y5, -⟩, ⟨z4, f4, y4, -⟩, ⟨z3, f3, y3, -⟩, ⟨z2, f2, y2, -⟩, ⟨z1, f1, y1, -⟩, ⟨z0, f0, y0, -⟩, -⟩ := S.out.facts
  go_wp2_with fail
  refine (HK.out _ _ _ S.out.r4 S.out.r6).mono ?_
  rintro e w16 ⟨_, rfl, q6, rfl, hr, hf, hb⟩
  replace S := Lib.hid (natRes S.out hr hf hb)
  clear hr hf hb z0 f0 y0 z1 f1 y1 z2 f2 y2 z3 f3 y3 z4 f4 y4 z5 f5 y5 z6 f6 y6
  obtain ⟨⟨z6, f6, y6, -⟩, ⟨z5, f5, y5, -⟩, ⟨z4, f4, y4, -⟩, ⟨z3, f3, y3, -⟩, ⟨z2, f2, y2, -⟩, ⟨z1, f1, y1, -⟩, ⟨z0, f0, y0, -⟩, -⟩ := S.out.facts
  replace S := Lib.hid (S.out.box 26 [.slice q6.a (a).length q6.c])
  go_wp2_with fail
  refine (HSA.out _ _ _ S.out.r0 S.out.r6).mono ?_
  rintro e w17 ⟨rfl, hb⟩
  replace S := Lib.hid (S.out.call hb)
  clear hb z0 f0 y0 z1 f1 y1 z2 f2 y2 z3 f3 y3 z4 f4 y4 z5 f5 y5 z6 f6 y6
  obtain ⟨⟨z7, f7, y7, -⟩, ⟨z6, f6, y6, -⟩, ⟨z5, f5, y5, -⟩, ⟨z4, f4, y4, -⟩, ⟨z3, f3, y3, -⟩, ⟨z2, f2, y2, -⟩, ⟨z1, f1, y1, -⟩, ⟨z0, f0, y0, -⟩, -⟩ := S.out.facts
  go_wp2
  go_ret
  exact ⟨rfl, S.out.bel⟩
set_option maxHeartbeats 2000000 in
set_option maxRecDepth 100000 in
theorem law_sum_ok (w : World) (a : List Int) (qa : LmP) (ha : RLm w w.heap.size a qa) (la : Lim a) (b : List Int) (qb : LmP) (hb : RLm w w.heap.size b qb) (lb : Lim b) (ht : Tab w) (hF : ([(a, qa), (b, qb)] : List LQ).all (fun x => decide ((x.1.length : Int) ≤ 130)) = true) (hv : vN a = true) (hv2 : vN b = true) (hE : sumE a b = 0) (hL : vl b ≤ vl a) :
    Calls Tryd.prog 11 #[natV a qa, natV b qb] w fun e w' => e = .returned (.bool true) ∧ Below w.heap.size w w' := by
  have ht' := Lib.hid (fun w' (hb : Below w.heap.size w w') => ht.to hb)
  have HAw := Lib.hid (fun w' (h : Below w.heap.size w w') => awake_any w' (ht'.out _ h))
  have S := Lib.hid (natArg (natArg (Fm.init w) hb) ha)
  have HA := Lib.hid (fun q0 q1 w' (h0 : RLm w' w'.heap.size (a) q0) (h1 : RLm w' w'.heap.size (b) q1) => by
    have := add_any (a) (b) q0 q1 w' h0 h1 (la) (lb)
    exact this)
  have HA2 := Lib.hid (fun q0 q1 w' (h0 : RLm w' w'.heap.size (a) q0) (h1 : RLm w' w'.heap.size (b) q1) => by
    have := radd_any (a) (b) q0 q1 w' h0 h1 (la) (lb)
    exact this)
  have HB := Lib.hid (fun q r w' (h1 : RLm w' w'.heap.size b q) (h2 : RLm w' w'.heap.size a r) => by
    have := add_any b a q r w' h1 h2 lb la
    rw [(sum_comm a b).1, (sum_comm a b).2] at this
    exact this)
  have HD := Lib.hid (fun q0 q1 w' (h0 : RLm w' w'.heap.size (a) q0) (h1 : RLm w' w'.heap.size (b) q1) => by
    have := sub_any (a) (b) q0 q1 w' h0 h1 (la) (lb)
    exact this)
  have HD2 := Lib.hid (fun q0 q1 w' (h0 : RLm w' w'.heap.size (a) q0) (h1 : RLm w' w'.heap.size (b) q1) => by
    have := rsub_any (a) (b) q0 q1 w' h0 h1 (la) (lb)
    exact this)
  have HVa := Lib.hid (fun q0 w' (h0 : RLm w' w'.heap.size (a) q0) => by
    have := rvalid_any (a) q0 w' h0 
    rw [hv] at this
    exact this)
  have HVb := Lib.hid (fun q0 w' (h0 : RLm w' w'.heap.size (b) q0) => by
    have := rvalid_any (b) q0 w' h0 
    rw [hv2] at this
    exact this)
  have HC := Lib.hid (fun q0 q1 w' (h0 : RLm w' w'.heap.size (a) q0) (h1 : RLm w' w'.heap.size (b) q1) => by
    have := cmp_any (a) (b) q0 q1 w' h0 h1 (la) (lb) ((vN_can hv).2) ((vN_can hv2).2)
    exact this)
  have HC2 := Lib.hid (fun q0 q1 w' (h0 : RLm w' w'.heap.size (a) q0) (h1 : RLm w' w'.heap.size (b) q1) => by
    have := rcmp_any (a) (b) q0 q1 w' h0 h1 (la) (lb)
    exact this)
  have HC3 := Lib.hid (fun q r w' (h1 : RLm w' w'.heap.size b q) (h2 : RLm w' w'.heap.size a r) => by
    have := cmp_any b a q r w' h1 h2 lb la (vN_can hv2).2 (vN_can hv).2
    rw [cmpL_neg a b] at this
    exact this)
  have hFe : difE a b = 0 := by unfold difE; rw [hv, hv2, Bool.and_self, if_pos rfl, if_pos hL]
  rw [hFe] at HD HD2
  have dC : decide (cmpL a b < 0) = false := by rw [cmpL_lt la lb]; exact decide_eq_false (by omega)
  have dB := cmpL_bd a b
  obtain ⟨_, _, eV, hS128⟩ := sum_ok' hE
  have HK := Lib.hid (fun q r w' (h1 : RLm w' w'.heap.size (lim (vl a + vl b)) q) (h2 : RLm w' w'.heap.size b r) => by
    have := sub_ok (lim (vl a + vl b)) b q r w' h1 h2 (lim_lim _) lb (vN_lim hS128) hv2 (by rw [vl_lim]; omega)
    rw [vl_lim, Nat.add_sub_cancel, ← lim_vl la (vN_can hv).2] at this
    exact this)
  rw [← eV] at HK
  have HSA := Lib.hid (fun q r w' (h1 : RLm w' w'.heap.size (a) q) (h2 : RLm w' w'.heap.size (a) r) => by
    have := same_any (a) (a) q r w' h1 h2
    rw [decide_eq_true rfl] at this
    exact this)
  obtain ⟨V, hV⟩ : ∃ V, sumV a b = V := ⟨_, rfl⟩
  obtain ⟨D, hD⟩ : ∃ V, difV a b = V := ⟨_, rfl⟩
  rw [hV] at HA HA2 HB
  rw [hD] at HD HD2
  rw [hV] at HK
  clear eV hS128
  obtain ⟨E, hEe⟩ : ∃ E, sumE a b = E := ⟨_, rfl⟩
  obtain ⟨C, hCe⟩ : ∃ C, cmpL a b = C := ⟨_, rfl⟩
  rw [hEe] at HA HA2 HB hE
  rw [hCe] at HC HC2 HC3 dC dB
  obtain ⟨dB1, dB2⟩ := dB
  subst hE
  clear hV hD hEe hCe hFe hL hv hv2
  have HSV := Lib.hid (fun q r w' (h1 : RLm w' w'.heap.size (V) q) (h2 : RLm w' w'.heap.size (V) r) => by
    have := same_any (V) (V) q r w' h1 h2
    rw [decide_eq_true rfl] at this
    exact this)
  have HSD := Lib.hid (fun q r w' (h1 : RLm w' w'.heap.size (D) q) (h2 : RLm w' w'.heap.size (D) r) => by
    have := same_any (D) (D) q r w' h1 h2
    rw [decide_eq_true rfl] at this
    exact this)
  have HFew : Hid (∀ W kb kc kt bs rs, Fm w W (⟨kb, kt, [.slice qa.a a.length qa.c, .slice qb.a b.length qb.c]⟩ :: bs) rs → Calls Tryd.prog 20 #[.int .i64 130, .slice (some ⟨kb, 0, none⟩) 2 kc] W fun e w' => e = .returned (.bool true) ∧ Below W.heap.size W w') := Lib.hid fun W kb kc kt bs rs S => by
    have := few_fm (c := kc) 130 [(a, qa), (b, qb)] S (by simp)
    rw [hF] at this
    exact this
  obtain ⟨qaa, qac⟩ := qa
  obtain ⟨qba, qbc⟩ := qb
  dsimp only at S HFew
  replace S := Lib.hid (S.out.box 26 [.slice qaa a.length qac])
  replace S := Lib.hid (S.out.box' 26 [.slice qba b.length qbc] (K := w.heap.size + 1) (by simp))
  clear ha hb ht
  go_enter Tryd.func11, Tryd.ntmps11
  go_wp2_with fail
  refine (HAw.out _ S.out.bel).mono ?_
  rintro e w1 ⟨rfl, hb⟩
  replace S := Lib.hid (S.out.call hb)
  clear hb
  obtain ⟨⟨z1, f1, y1, -⟩, ⟨z0, f0, y0, -⟩, -⟩ := S.out.facts
  replace S := Lib.hid (S.out.box 26 [.slice qaa a.length qac, .slice qba b.length qbc])
  go_wp2_with fail
  refine (HFew.out _ _ _ _ _ _ S.out).mono ?_
  rintro e w2 ⟨rfl, hb⟩
  replace S := Lib.hid (S.out.call hb)
  clear hb z0 f0 y0 z1 f1 y1
  obtain ⟨⟨z2, f2, y2, y2b, -⟩, ⟨z1, f1, y1, -⟩, ⟨z0, f0, y0, -⟩, -⟩ := S.out.facts
  replace S := Lib.hid (S.out.drop _ _ (List.sublist_cons_self _ _) (List.Sublist.refl _))
  go_wp2_with fail
  refine (HA.out _ _ _ S.out.r0 S.out.r1).mono ?_
  rintro e w3 ⟨_, rfl, q1, rfl, hr, hf, hb⟩
  replace S := Lib.hid (natRes S.out hr hf hb)
  clear hr hf hb z0 f0 y0 z1 f1 y1 z2 f2 y2
  obtain ⟨⟨z1, f1, y1, -⟩, ⟨z0, f0, y0, -⟩, -⟩ := S.out.facts
  replace S := Lib.hid (S.out.box 26 [.slice q1.a (V).length q1.c])
  go_wp2_with fail
  refine (HA2.out _ _ _ S.out.r1 S.out.r2).mono ?_
  rintro e w4 ⟨_, rfl, q2, rfl, hr, hf, hb⟩
  replace S := Lib.hid (natRes S.out hr hf hb)
  clear hr hf hb z0 f0 y0 z1 f1 y1
  obtain ⟨⟨z2, f2, y2, -⟩, ⟨z1, f1, y1, -⟩, ⟨z0, f0, y0, -⟩, -⟩ := S.out.facts
  replace S := Lib.hid (S.out.box 26 [.slice q2.a (V).length q2.c])
  go_wp2_with fail
  refine (HB.out _ _ _ S.out.r3 S.out.r2).mono ?_
  rintro e w5 ⟨_, rfl, q3, rfl, hr, hf, hb⟩
  replace S := Lib.hid (natRes S.out hr hf hb)
  clear hr hf hb z0 f0 y0 z1 f1 y1 z2 f2 y2
  obtain ⟨⟨z3, f3, y3, -⟩, ⟨z2, f2, y2, -⟩, ⟨z1, f1, y1, -⟩, ⟨z0, f0, y0, -⟩, -⟩ := S.out.facts
  replace S := Lib.hid (S.out.box 26 [.slice q3.a (V).length q3.c])
  go_wp2_with fail
  refine (HD.out _ _ _ S.out.r3 S.out.r4).mono ?_
  rintro e w6 ⟨_, rfl, q4, rfl, hr, hf, hb⟩
  replace S := Lib.hid (natRes S.out hr hf hb)
  clear hr hf hb z0 f0 y0 z1 f1 y1 z2 f2 y2 z3 f3 y3
  obtain ⟨⟨z4, f4, y4, -⟩, ⟨z3, f3, y3, -⟩, ⟨z2, f2, y2, -⟩, ⟨z1, f1, y1, -⟩, ⟨z0, f0, y0, -⟩, -⟩ := S.out.facts
  replace S := Lib.hid (S.out.box 26 [.slice q4.a (D).length q4.c])
  go_wp2_with fail
  refine (HD2.out _ _ _ S.out.r4 S.out.r5).mono ?_
  rintro e w7 ⟨_, rfl, q5, rfl, hr, hf, hb⟩
  replace S := Lib.hid (natRes S.out hr hf hb)
  clear hr hf hb z0 f0 y0 z1 f1 y1 z2 f2 y2 z3 f3 y3 z4 f4 y4
  obtain ⟨⟨z5, f5, y5, -⟩, ⟨z4, f4, y4, -⟩, ⟨z3, f3, y3, -⟩, ⟨z2, f2, y2, -⟩, ⟨z1, f1, y1, -⟩, ⟨z0, f0, y0, -⟩, -⟩ := S.out.facts
  replace S := Lib.hid (S.out.box 26 [.slice q5.a (D).length q5.c])
  go_wp2_with fail
  refine (HSV.out _ _ _ S.out.r4 S.out.r3).mono ?_
  rintro e w8 ⟨rfl, hb⟩
  replace S := Lib.hid (S.out.call hb)
  clear hb z0 f0 y0 z1 f1 y1 z2 f2 y2 z3 f3 y3 z4 f4 y4 z5 f5 y5
  obtain ⟨⟨z6, f6, y6, -⟩, ⟨z5, f5, y5, -⟩, ⟨z4, f4, y4, -⟩, ⟨z3, f3, y3, -⟩, ⟨z2, f2, y2, -⟩, ⟨z1, f1, y1, -⟩, ⟨z0, f0, y0, -⟩, -⟩ := S.out.facts
  go_wp2_with fail
  refine (HSV.out _ _ _ S.out.r2 S.out.r3).mono ?_
  rintro e w9 ⟨rfl, hb⟩
  replace S := Lib.hid (S.out.call hb)
  clear hb z0 f0 y0 z1 f1 y1 z2 f2 y2 z3 f3 y3 z4 f4 y4 z5 f5 y5 z6 f6 y6
  obtain ⟨⟨z6, f6, y6, -⟩, ⟨z5, f5, y5, -⟩, ⟨z4, f4, y4, -⟩, ⟨z3, f3, y3, -⟩, ⟨z2, f2, y2, -⟩, ⟨z1, f1, y1, -⟩, ⟨z0, f0, y0, -⟩, -⟩ := S.out.facts
  go_wp2_with fail
  refine (HSD.out _ _ _ S.out.r1 S.out.r0).mono ?_
  rintro e w10 ⟨rfl, hb⟩
  replace S := Lib.hid (S.out.call hb)
  clear hb z0 f0 y0 z1 f1 y1 z2 f2 y2 z3 f3 y3 z4 f4 y4 z5 f5 y5 z6 f6 y6
  obtain ⟨⟨z6, f6, y6, -⟩, ⟨z5, f5, y5, -⟩, ⟨z4, f4, y4, -⟩, ⟨z3, f3, y3, -⟩, ⟨z2, f2, y2, -⟩, ⟨z1, f1, y1, -⟩, ⟨z0, f0, y0, -⟩, -⟩ := S.out.facts
  go_wp2_with fail
  refine (HVa.out _ _ S.out.r5).mono ?_
  rintro e w11 ⟨rfl, hb⟩
  replace S := Lib.hid (S.out.call hb)
  clear hb z0 f0 y0 z1 f1 y1 z2 f2 y2 z3 f3 y3 z4 f4 y4 z5 f5 y5 z6 f6 y6
  obtain ⟨⟨z6, f6, y6, -⟩, ⟨z5, f5, y5, -⟩, ⟨z4, f4, y4, -⟩, ⟨z3, f3, y3, -⟩, ⟨z2, f2, y2, -⟩, ⟨z1, f1, y1, -⟩, ⟨z0, f0, y0, -⟩, -⟩ := S.out.facts
  go_wp2_with fail
  refine (HVb.out _ _ S.out.r6).mono ?_
  rintro e w12 ⟨rfl, hb⟩
  replace S := Lib.hid (S.out.call hb)
  clear hb z0 f0 y0 z1 f1 y1 z2 f2 y2 z3 f3 y3 z4 f4 y4 z5 f5 y5 z6 f6 y6
  obtain ⟨⟨z6, f6, y6, -⟩, ⟨z5, f5, y5, -⟩, ⟨z4, f4, y4, -⟩, ⟨z3, f3, y3, -⟩, ⟨z2, f2, y2, -⟩, ⟨z1, f1, y1, -⟩, ⟨z0, f0, y0, -⟩, -⟩ := S.out.facts
  go_wp2_with fail
  refine (HC.out _ _ _ S.out.r5 S.out.r6).mono ?_
  rintro e w13 ⟨rfl, hb⟩
  replace S := Lib.hid (S.out.call hb)
  clear hb z0 f0 y0 z1 f1 y1 z2 f2 y2 z3 f3 y3 z4 f4 y4 z5 f5 y5 z6 f6 y6
  obtain ⟨⟨z6, f6, y6, -⟩, ⟨z5, f5, y5, -⟩, ⟨z4, f4, y4, -⟩, ⟨z3, f3, y3, -⟩, ⟨z2, f2, y2, -⟩, ⟨z1, f1, y1, -⟩, ⟨z0, f0, y0, -⟩, -⟩ := S.out.facts
  go_wp2_with fail
  refine (HC2.out _ _ _ S.out.r5 S.out.r6).mono ?_
  rintro e w14 ⟨rfl, hb⟩
  replace S := Lib.hid (S.out.call hb)
  clear hb z0 f0 y0 z1 f1 y1 z2 f2 y2 z3 f3 y3 z4 f4 y4 z5 f5 y5 z6 f6 y6
  obtain ⟨⟨z6, f6, y6, -⟩, ⟨z5, f5, y5, -⟩, ⟨z4, f4, y4, -⟩, ⟨z3, f3, y3, -⟩, ⟨z2, f2, y2, -⟩, ⟨z1, f1, y1, -⟩, ⟨z0, f0, y0, -⟩, -⟩ := S.out.facts
  go_wp2_with fail
  refine (HC3.out _ _ _ S.out.r6 S.out.r5).mono ?_
  rintro e w15 ⟨rfl, hb⟩
  replace S := Lib.hid (S.out.call hb)
  clear hb z0 f0 y0 z1 f1 y1 z2 f2 y2 z3 f3 y3 z4 f4 y4 z5 f5 y5 z6 f6 y6
  obtain ⟨⟨z6, f6, y6, -⟩, ⟨z5, f5, y5, -⟩, ⟨z4, f4, y4, -⟩, ⟨z3, f3, y3, -⟩, ⟨z2, f2, y2, -⟩, ⟨z1, f1, y1, -⟩, ⟨z0, f0, y0, -⟩, -⟩ := S.out.facts
  go_wp2_with fail
  refine (HK.out _ _ _ S.out.r4 S.out.r6).mono ?_
  rintro e w16 ⟨_, rfl, q6, rfl, hr, hf, hb⟩
  replace S := Lib.hid (natRes S.out hr hf hb)
  clear hr hf hb z0 f0 y0 z1 f1 y1 z2 f2 y2 z3 f3 y3 z4 f4 y4 z5 f5 y5 z6 f6 y6
  obtain ⟨⟨z6, f6, y6, -⟩, ⟨z5, f5, y5, -⟩, ⟨z4, f4, y4, -⟩, ⟨z3, f3, y3, -⟩, ⟨z2, f2, y2, -⟩, ⟨z1, f1, y1, -⟩, ⟨z0, f0, y0, -⟩, -⟩ := S.out.facts
  replace S := Lib.hid (S.out.box 26 [.slice q6.a (a).length q6.c])
  go_wp2_with fail
  refine (HSA.out _ _ _ S.out.r0 S.out.r6).mono ?_
  rintro e w17 ⟨rfl, hb⟩
  replace S := Lib.hid (S.out.call hb)
  clear hb z0 f0 y0 z1 f1 y1 z2 f2 y2 z3 f3 y3 z4 f4 y4 z5 f5 y5 z6 f6 y6
  obtain ⟨⟨z7, f7, y7, -⟩, ⟨z6, f6, y6, -⟩, ⟨z5, f5, y5, -⟩, ⟨z4, f4, y4, -⟩, ⟨z3, f3, y3, -⟩, ⟨z2, f2, y2, -⟩, ⟨z1, f1, y1, -⟩, ⟨z0, f0, y0, -⟩, -⟩ := S.out.facts
  go_wp2
  go_ret
  exact ⟨rfl, S.out.bel⟩
set_option maxHeartbeats 2000000 in
set_option maxRecDepth 100000 in
theorem law_sum (w : World) (a : List Int) (qa : LmP) (ha : RLm w w.heap.size a qa) (la : Lim a) (b : List Int) (qb : LmP) (hb : RLm w w.heap.size b qb) (lb : Lim b) (ht : Tab w) :
    Calls Tryd.prog 11 #[natV a qa, natV b qb] w fun e w' => e = .returned (.bool true) ∧ Below w.heap.size w w' := by
  cases hF : ([(a, qa), (b, qb)] : List LQ).all (fun x => decide ((x.1.length : Int) ≤ 130)) with
  | false => exact law_sum_few w a qa ha la b qb hb lb ht hF
  | true =>
    cases hv : vN a with
    | false => exact law_sum_no0 w a qa ha la b qb hb lb ht hF hv
    | true =>
      cases hv2 : vN b with
      | false => exact law_sum_no1 w a qa ha la b qb hb lb ht hF hv hv2
      | true =>
        by_cases hE : sumE a b = 0
        · rcases Nat.lt_or_ge (vl a) (vl b) with c | c
          · exact law_sum_ok_low w a qa ha la b qb hb lb ht hF hv hv2 hE c
          · exact law_sum_ok w a qa ha la b qb hb lb ht hF hv hv2 hE c
        · rcases Nat.lt_or_ge (vl a) (vl b) with c | c
          · exact law_sum_big_low w a qa ha la b qb hb lb ht hF hv hv2 hE c
          · exact law_sum_big w a qa ha la b qb hb lb ht hF hv hv2 hE c
end Go.Proofs.YtmkkjghmgbkdgaaDoor
