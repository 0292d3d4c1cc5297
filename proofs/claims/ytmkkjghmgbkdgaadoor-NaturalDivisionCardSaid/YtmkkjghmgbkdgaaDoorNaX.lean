/-
  CONTRACT of the law NaturalDivision.
  Conditions: those that each theorem names.
-/
import Derived.Test.YtmkkjghmgbkdgaaDoorNaV
namespace Go.Proofs.YtmkkjghmgbkdgaaDoor
open Go.RowKit Go.Sv
set_option maxHeartbeats 2000000 in
set_option maxRecDepth 100000 in
theorem law_div_few (w : World) (a : List Int) (qa : LmP) (ha : RLm w w.heap.size a qa) (la : Lim a) (b : List Int) (qb : LmP) (hb : RLm w w.heap.size b qb) (lb : Lim b) (ht : Tab w) (hF : ([(a, qa), (b, qb)] : List LQ).all (fun x => decide ((x.1.length : Int) ≤ 130)) = false) :
    Calls Tryd.prog 10 #[natV a qa, natV b qb] w fun e w' => e = .returned (.bool true) ∧ Below w.heap.size w w' := by
  have ht' := Lib.hid (fun w' (hb : Below w.heap.size w w') => ht.to hb)
  have HAw := Lib.hid (fun w' (h : Below w.heap.size w w') => awake_any w' (ht'.out _ h))
  have S := Lib.hid (natArg (natArg (Fm.init w) hb) ha)
  have HFew : Hid (∀ W kb kc kt bs rs, Fm w W (⟨kb, kt, [.slice qa.a a.length qa.c, .slice qb.a b.length qb.c]⟩ :: bs) rs → Calls Tryd.prog 20 #[.int .i64 130, .slice (some ⟨kb, 0, none⟩) 2 kc] W fun e w' => e = .returned (.bool false) ∧ Below W.heap.size W w') := Lib.hid fun W kb kc kt bs rs S => by
    have := few_fm (c := kc) 130 [(a, qa), (b, qb)] S (by simp)
    rw [hF] at this
    exact this
  obtain ⟨qaa, qac⟩ := qa
  obtain ⟨qba, qbc⟩ := qb
  dsimp only at S HFew
  replace S := Lib.hid (S.out.box 26 [.slice qaa a.length qac])
  replace S := Lib.hid (S.out.box' 26 [.slice qba b.length qbc] (K := w.heap.size + 1) (by simp))
  clear ha hb ht
  go_enter Tryd.func10, Tryd.ntmps10
  go_wp2_with fail
  refine (HAw.out _ S.out.bel).mono ?_
  rintro e w1 ⟨rfl, hb⟩
  replace S := Lib.hid (S.out.call hb)
  clear hb
  obtain ⟨⟨z1, f1, y1, -⟩, ⟨z0, f0, y0, -⟩, -⟩ := S.out.facts
  replace S := Lib.hid (S.out.box 26 [.slice qaa a.length qac, .slice qba b.length qbc])
  go_wp2_with fail
  refine (HFew.out _ _ _ _ _ _ S.out).mono ?_
  rintro e w2 ⟨rfl, hb⟩
  replace S := Lib.hid (S.out.call hb)
  clear hb z0 f0 y0 z1 f1 y1
  obtain ⟨⟨z2, f2, y2, y2b, -⟩, ⟨z1, f1, y1, -⟩, ⟨z0, f0, y0, -⟩, -⟩ := S.out.facts
  go_wp2_with fail
  refine (HAw.out _ S.out.bel).mono ?_
  rintro e w3 ⟨rfl, hb⟩
  replace S := Lib.hid (S.out.call hb)
  clear hb z0 f0 y0 z1 f1 y1 z2 f2 y2 y2b
  obtain ⟨⟨z2, f2, y2, y2b, -⟩, ⟨z1, f1, y1, -⟩, ⟨z0, f0, y0, -⟩, -⟩ := S.out.facts
  go_wp2
  go_ret
  exact ⟨rfl, S.out.bel⟩
set_option maxHeartbeats 2000000 in
set_option maxRecDepth 100000 in
theorem law_div_no (w : World) (a : List Int) (qa : LmP) (ha : RLm w w.heap.size a qa) (la : Lim a) (b : List Int) (qb : LmP) (hb : RLm w w.heap.size b qb) (lb : Lim b) (ht : Tab w) (hF : ([(a, qa), (b, qb)] : List LQ).all (fun x => decide ((x.1.length : Int) ≤ 130)) = true) (hv : (vN a && vN b) = false) :
    Calls Tryd.prog 10 #[natV a qa, natV b qb] w fun e w' => e = .returned (.bool true) ∧ Below w.heap.size w w' := by
  have ht' := Lib.hid (fun w' (hb : Below w.heap.size w w') => ht.to hb)
  have HAw := Lib.hid (fun w' (h : Below w.heap.size w w') => awake_any w' (ht'.out _ h))
  have S := Lib.hid (natArg (natArg (Fm.init w) hb) ha)
  have HP := Lib.hid (fun q r w' (h1 : RLm w' w'.heap.size a q) (h2 : RLm w' w'.heap.size b r) => div_no a b q r w' h1 h2 hv)
  have HQ := Lib.hid (fun q r w' (h1 : RLm w' w'.heap.size a q) (h2 : RLm w' w'.heap.size b r) => rdiv_no a b q r w' h1 h2 hv)
  clear hv
  have HS := Lib.hid (fun q r w' (h1 : RLm w' w'.heap.size ([]) q) (h2 : RLm w' w'.heap.size ([]) r) => by
    have := same_any ([]) ([]) q r w' h1 h2
    rw [decide_eq_true rfl] at this
    exact this)
  have HFew : Hid (∀ W kb kc kt bs rs, Fm w W (⟨kb, kt, [.slice qa.a a.length qa.c, .slice qb.a b.length qb.c]⟩ :: bs) rs → Calls Tryd.prog 20 #[.int .i64 130, .slice (some ⟨kb, 0, none⟩) 2 kc] W fun e w' => e = .returned (.bool true) ∧ Below W.heap.size W w') := Lib.hid fun W kb kc kt bs rs S => by
    have := few_fm (c := kc) 130 [(a, qa), (b, qb)] S (by simp)
    rw [hF] at this
    exact this
  obtain ⟨qaa, qac⟩ := qa
  obtain ⟨qba, qbc⟩ := qb
  dsimp only at S HFew
  replace S := Lib.hid (S.out.box 26 [.slice qaa a.length qac])
  replace S := Lib.hid (S.out.box' 26 [.slice qba b.length qbc] (K := w.heap.size + 1) (by simp))
  clear ha hb ht
  go_enter Tryd.func10, Tryd.ntmps10
  go_wp2_with fail
  refine (HAw.out _ S.out.bel).mono ?_
  rintro e w1 ⟨rfl, hb⟩
  replace S := Lib.hid (S.out.call hb)
  clear hb
  obtain ⟨⟨z1, f1, y1, -⟩, ⟨z0, f0, y0, -⟩, -⟩ := S.out.facts
  replace S := Lib.hid (S.out.box 26 [.slice qaa a.length qac, .slice qba b.length qbc])
  go_wp2_with fail
  refine (HFew.out _ _ _ _ _ _ S.out).mono ?_
  rintro e w2 ⟨rfl, hb⟩
  replace S := Lib.hid (S.out.call hb)
  clear hb z0 f0 y0 z1 f1 y1
  obtain ⟨⟨z2, f2, y2, y2b, -⟩, ⟨z1, f1, y1, -⟩, ⟨z0, f0, y0, -⟩, -⟩ := S.out.facts
  replace S := Lib.hid (S.out.drop _ _ (List.sublist_cons_self _ _) (List.Sublist.refl _))
  go_wp2_with fail
  refine (HP.out _ _ _ S.out.r0 S.out.r1).mono ?_
  rintro e w3 ⟨_, rfl, q1, q2, rfl, hr, hr2, hf, hf2, hb⟩
  replace S := Lib.hid (natRes2 S.out hr hr2 hf hf2 hb)
  clear hr hr2 hf hf2 hb z0 f0 y0 z1 f1 y1 z2 f2 y2
  obtain ⟨⟨z1, f1, y1, -⟩, ⟨z0, f0, y0, -⟩, -⟩ := S.out.facts
  replace S := Lib.hid (S.out.box 26 [.slice q1.a 0 q1.c])
  replace S := Lib.hid (S.out.box' 26 [.slice q2.a 0 q2.c] (K := w3.heap.size + 1) (by simp))
  go_wp2_with fail
  refine (HQ.out _ _ _ S.out.r2 S.out.r3).mono ?_
  rintro e w4 ⟨_, rfl, q3, q4, rfl, hr, hr2, hf, hf2, hb⟩
  replace S := Lib.hid (natRes2 S.out hr hr2 hf hf2 hb)
  clear hr hr2 hf hf2 hb z0 f0 y0 z1 f1 y1
  obtain ⟨⟨z3, f3, y3, -⟩, ⟨z2, f2, y2, -⟩, ⟨z1, f1, y1, -⟩, ⟨z0, f0, y0, -⟩, -⟩ := S.out.facts
  replace S := Lib.hid (S.out.box 26 [.slice q3.a 0 q3.c])
  replace S := Lib.hid (S.out.box' 26 [.slice q4.a 0 q4.c] (K := w4.heap.size + 1) (by simp))
  go_wp2_with fail
  refine (HS.out _ _ _ S.out.r3 S.out.r1).mono ?_
  rintro e w5 ⟨rfl, hb⟩
  replace S := Lib.hid (S.out.call hb)
  clear hb z0 f0 y0 z1 f1 y1 z2 f2 y2 z3 f3 y3
  obtain ⟨⟨z5, f5, y5, -⟩, ⟨z4, f4, y4, -⟩, ⟨z3, f3, y3, -⟩, ⟨z2, f2, y2, -⟩, ⟨z1, f1, y1, -⟩, ⟨z0, f0, y0, -⟩, -⟩ := S.out.facts
  go_wp2_with fail
  refine (HS.out _ _ _ S.out.r2 S.out.r0).mono ?_
  rintro e w6 ⟨rfl, hb⟩
  replace S := Lib.hid (S.out.call hb)
  clear hb z0 f0 y0 z1 f1 y1 z2 f2 y2 z3 f3 y3 z4 f4 y4 z5 f5 y5
  obtain ⟨⟨z5, f5, y5, -⟩, ⟨z4, f4, y4, -⟩, ⟨z3, f3, y3, -⟩, ⟨z2, f2, y2, -⟩, ⟨z1, f1, y1, -⟩, ⟨z0, f0, y0, -⟩, -⟩ := S.out.facts
  go_wp2_with fail
  refine (HS.out _ _ _ S.out.r3 S.out.r1).mono ?_
  rintro e w7 ⟨rfl, hb⟩
  replace S := Lib.hid (S.out.call hb)
  clear hb z0 f0 y0 z1 f1 y1 z2 f2 y2 z3 f3 y3 z4 f4 y4 z5 f5 y5
  obtain ⟨⟨z5, f5, y5, -⟩, ⟨z4, f4, y4, -⟩, ⟨z3, f3, y3, -⟩, ⟨z2, f2, y2, -⟩, ⟨z1, f1, y1, -⟩, ⟨z0, f0, y0, -⟩, -⟩ := S.out.facts
  go_wp2_with fail
  refine (HS.out _ _ _ S.out.r2 S.out.r0).mono ?_
  rintro e w8 ⟨rfl, hb⟩
  replace S := Lib.hid (S.out.call hb)
  clear hb z0 f0 y0 z1 f1 y1 z2 f2 y2 z3 f3 y3 z4 f4 y4 z5 f5 y5
  obtain ⟨⟨z5, f5, y5, -⟩, ⟨z4, f4, y4, -⟩, ⟨z3, f3, y3, -⟩, ⟨z2, f2, y2, -⟩, ⟨z1, f1, y1, -⟩, ⟨z0, f0, y0, -⟩, -⟩ := S.out.facts
  go_wp2
  go_ret
  exact ⟨rfl, S.out.bel⟩
set_option maxHeartbeats 2000000 in
set_option maxRecDepth 100000 in
theorem law_div_zero (w : World) (a : List Int) (qa : LmP) (ha : RLm w w.heap.size a qa) (la : Lim a) (b : List Int) (qb : LmP) (hb : RLm w w.heap.size b qb) (lb : Lim b) (ht : Tab w) (hF : ([(a, qa), (b, qb)] : List LQ).all (fun x => decide ((x.1.length : Int) ≤ 130)) = true) (hv : (vN a && vN b) = true) (hb0 : b.length = 0) :
    Calls Tryd.prog 10 #[natV a qa, natV b qb] w fun e w' => e = .returned (.bool true) ∧ Below w.heap.size w w' := by
  have ht' := Lib.hid (fun w' (hb : Below w.heap.size w w') => ht.to hb)
  have HAw := Lib.hid (fun w' (h : Below w.heap.size w w') => awake_any w' (ht'.out _ h))
  have S := Lib.hid (natArg (natArg (Fm.init w) hb) ha)
  have hvv := (Bool.and_eq_true _ _).mp hv
  have HP := Lib.hid (fun q r w' (h1 : RLm w' w'.heap.size a q) (h2 : RLm w' w'.heap.size b r) => div_zero a b q r w' h1 h2 hv hb0)
  have HQ := Lib.hid (fun q r w' (h1 : RLm w' w'.heap.size a q) (h2 : RLm w' w'.heap.size b r) => rdiv_zero a b q r w' h1 h2 hvv.1 hvv.2 hb0)
  replace hb0 := Lib.hid hb0
  clear hv hvv
  have HS := Lib.hid (fun q r w' (h1 : RLm w' w'.heap.size ([]) q) (h2 : RLm w' w'.heap.size ([]) r) => by
    have := same_any ([]) ([]) q r w' h1 h2
    rw [decide_eq_true rfl] at this
    exact this)
  have HFew : Hid (∀ W kb kc kt bs rs, Fm w W (⟨kb, kt, [.slice qa.a a.length qa.c, .slice qb.a b.length qb.c]⟩ :: bs) rs → Calls Tryd.prog 20 #[.int .i64 130, .slice (some ⟨kb, 0, none⟩) 2 kc] W fun e w' => e = .returned (.bool true) ∧ Below W.heap.size W w') := Lib.hid fun W kb kc kt bs rs S => by
    have := few_fm (c := kc) 130 [(a, qa), (b, qb)] S (by simp)
    rw [hF] at this
    exact this
  obtain ⟨qaa, qac⟩ := qa
  obtain ⟨qba, qbc⟩ := qb
  dsimp only at S HFew
  replace S := Lib.hid (S.out.box 26 [.slice qaa a.length qac])
  replace S := Lib.hid (S.out.box' 26 [.slice qba b.length qbc] (K := w.heap.size + 1) (by simp))
  clear ha hb ht
  go_enter Tryd.func10, Tryd.ntmps10
  go_wp2_with fail
  refine (HAw.out _ S.out.bel).mono ?_
  rintro e w1 ⟨rfl, hb⟩
  replace S := Lib.hid (S.out.call hb)
  clear hb
  obtain ⟨⟨z1, f1, y1, -⟩, ⟨z0, f0, y0, -⟩, -⟩ := S.out.facts
  replace S := Lib.hid (S.out.box 26 [.slice qaa a.length qac, .slice qba b.length qbc])
  go_wp2_with fail
  refine (HFew.out _ _ _ _ _ _ S.out).mono ?_
  rintro e w2 ⟨rfl, hb⟩
  replace S := Lib.hid (S.out.call hb)
  clear hb z0 f0 y0 z1 f1 y1
  obtain ⟨⟨z2, f2, y2, y2b, -⟩, ⟨z1, f1, y1, -⟩, ⟨z0, f0, y0, -⟩, -⟩ := S.out.facts
  replace S := Lib.hid (S.out.drop _ _ (List.sublist_cons_self _ _) (List.Sublist.refl _))
  go_wp2_with fail
  refine (HP.out _ _ _ S.out.r0 S.out.r1).mono ?_
  rintro e w3 ⟨_, rfl, q1, q2, rfl, hr, hr2, hf, hf2, hb⟩
  replace S := Lib.hid (natRes2 S.out hr hr2 hf hf2 hb)
  clear hr hr2 hf hf2 hb z0 f0 y0 z1 f1 y1 z2 f2 y2
  obtain ⟨⟨z1, f1, y1, -⟩, ⟨z0, f0, y0, -⟩, -⟩ := S.out.facts
  replace S := Lib.hid (S.out.box 26 [.slice q1.a 0 q1.c])
  replace S := Lib.hid (S.out.box' 26 [.slice q2.a 0 q2.c] (K := w3.heap.size + 1) (by simp))
  go_wp2_with fail
  refine (HQ.out _ _ _ S.out.r2 S.out.r3).mono ?_
  rintro e w4 ⟨_, rfl, q3, q4, rfl, hr, hr2, hf, hf2, hb⟩
  replace S := Lib.hid (natRes2 S.out hr hr2 hf hf2 hb)
  clear hr hr2 hf hf2 hb z0 f0 y0 z1 f1 y1
  obtain ⟨⟨z3, f3, y3, -⟩, ⟨z2, f2, y2, -⟩, ⟨z1, f1, y1, -⟩, ⟨z0, f0, y0, -⟩, -⟩ := S.out.facts
  replace S := Lib.hid (S.out.box 26 [.slice q3.a 0 q3.c])
  replace S := Lib.hid (S.out.box' 26 [.slice q4.a 0 q4.c] (K := w4.heap.size + 1) (by simp))
  go_wp2_with fail
  refine (HS.out _ _ _ S.out.r3 S.out.r1).mono ?_
  rintro e w5 ⟨rfl, hb⟩
  replace S := Lib.hid (S.out.call hb)
  clear hb z0 f0 y0 z1 f1 y1 z2 f2 y2 z3 f3 y3
  obtain ⟨⟨z5, f5, y5, -⟩, ⟨z4, f4, y4, -⟩, ⟨z3, f3, y3, -⟩, ⟨z2, f2, y2, -⟩, ⟨z1, f1, y1, -⟩, ⟨z0, f0, y0, -⟩, -⟩ := S.out.facts
  go_wp2_with fail
  refine (HS.out _ _ _ S.out.r2 S.out.r0).mono ?_
  rintro e w6 ⟨rfl, hb⟩
  replace S := Lib.hid (S.out.call hb)
  clear hb z0 f0 y0 z1 f1 y1 z2 f2 y2 z3 f3 y3 z4 f4 y4 z5 f5 y5
  obtain ⟨⟨z5, f5, y5, -⟩, ⟨z4, f4, y4, -⟩, ⟨z3, f3, y3, -⟩, ⟨z2, f2, y2, -⟩, ⟨z1, f1, y1, -⟩, ⟨z0, f0, y0, -⟩, -⟩ := S.out.facts
  go_wp2_with fail
  refine (HS.out _ _ _ S.out.r3 S.out.r1).mono ?_
  rintro e w7 ⟨rfl, hb⟩
  replace S := Lib.hid (S.out.call hb)
  clear hb z0 f0 y0 z1 f1 y1 z2 f2 y2 z3 f3 y3 z4 f4 y4 z5 f5 y5
  obtain ⟨⟨z5, f5, y5, -⟩, ⟨z4, f4, y4, -⟩, ⟨z3, f3, y3, -⟩, ⟨z2, f2, y2, -⟩, ⟨z1, f1, y1, -⟩, ⟨z0, f0, y0, -⟩, -⟩ := S.out.facts
  go_wp2_with fail
  refine (HS.out _ _ _ S.out.r2 S.out.r0).mono ?_
  rintro e w8 ⟨rfl, hb⟩
  replace S := Lib.hid (S.out.call hb)
  clear hb z0 f0 y0 z1 f1 y1 z2 f2 y2 z3 f3 y3 z4 f4 y4 z5 f5 y5
  obtain ⟨⟨z5, f5, y5, -⟩, ⟨z4, f4, y4, -⟩, ⟨z3, f3, y3, -⟩, ⟨z2, f2, y2, -⟩, ⟨z1, f1, y1, -⟩, ⟨z0, f0, y0, -⟩, -⟩ := S.out.facts
  go_wp2
  go_ret
  exact ⟨rfl, S.out.bel⟩
set_option maxHeartbeats 2000000 in
set_option maxRecDepth 100000 in
theorem law_div_ok (w : World) (a : List Int) (qa : LmP) (ha : RLm w w.heap.size a qa) (la : Lim a) (b : List Int) (qb : LmP) (hb : RLm w w.heap.size b qb) (lb : Lim b) (ht : Tab w) (hF : ([(a, qa), (b, qb)] : List LQ).all (fun x => decide ((x.1.length : Int) ≤ 130)) = true) (hv : (vN a && vN b) = true) (hG : 0 < vl b) :
    Calls Tryd.prog 10 #[natV a qa, natV b qb] w fun e w' => e = .returned (.bool true) ∧ Below w.heap.size w w' := by
  have ht' := Lib.hid (fun w' (hb : Below w.heap.size w w') => ht.to hb)
  have HAw := Lib.hid (fun w' (h : Below w.heap.size w w') => awake_any w' (ht'.out _ h))
  have S := Lib.hid (natArg (natArg (Fm.init w) hb) ha)
  have hvv := (Bool.and_eq_true _ _).mp hv
  have e1 : quoV a b = lim (vl a / vl b) := if_pos ⟨hv, by omega⟩
  have e2 : remV a b = lim (vl a % vl b) := if_pos ⟨hv, by omega⟩
  have e3 : divE a b = 0 := by unfold divE; rw [if_pos hv, if_neg (by omega)]
  have hA := vN_len la hvv.1
  have hle := Nat.div_mul_le_self (vl a) (vl b)
  have hQ : (lim (vl a / vl b)).length ≤ 128 := len_le (Nat.div_le_self _ _) hA
  have hP : (lim (vl a / vl b * vl b)).length ≤ 128 := len_le hle hA
  have hR : (lim (vl a % vl b)).length ≤ 128 := len_le (Nat.mod_le _ _) hA
  have hsum : vl a / vl b * vl b + vl a % vl b = vl a := by rw [Nat.mul_comm]; exact Nat.div_add_mod _ _
  have HP := Lib.hid (fun q0 q1 w' (h0 : RLm w' w'.heap.size (a) q0) (h1 : RLm w' w'.heap.size (b) q1) => by
    have := div_ok (a) (b) q0 q1 w' h0 h1 (la) (lb) (hv) (hG)
    exact this)
  have HQ := Lib.hid (fun q0 q1 w' (h0 : RLm w' w'.heap.size (a) q0) (h1 : RLm w' w'.heap.size (b) q1) => by
    have := rdiv_any (a) (b) q0 q1 w' h0 h1 (la) (lb)
    rw [e1, e2, e3] at this
    exact this)
  have HM := Lib.hid (fun q0 q1 w' (h0 : RLm w' w'.heap.size (lim (vl a / vl b)) q0) (h1 : RLm w' w'.heap.size (b) q1) => by
    have := mul_any (lim (vl a / vl b)) (b) q0 q1 w' h0 h1 (lim_lim _) (lb)
    unfold mulV mulE at this
    rw [vN_lim hQ, hvv.2, Bool.and_self, if_pos rfl, if_pos rfl, vl_lim, (cut_of hP).1, (cut_of hP).2] at this
    exact this)
  have HA := Lib.hid (fun q0 q1 w' (h0 : RLm w' w'.heap.size (lim (vl a / vl b * vl b)) q0) (h1 : RLm w' w'.heap.size (lim (vl a % vl b)) q1) => by
    have := add_any (lim (vl a / vl b * vl b)) (lim (vl a % vl b)) q0 q1 w' h0 h1 (lim_lim _) (lim_lim _)
    unfold sumV sumE at this
    rw [vN_lim hP, vN_lim hR, Bool.and_self, if_pos rfl, if_pos rfl, vl_lim, vl_lim, hsum, (cut_of hA).1, (cut_of hA).2, ← lim_vl la (vN_can hvv.1).2] at this
    exact this)
  have HC := Lib.hid (fun q0 q1 w' (h0 : RLm w' w'.heap.size (lim (vl a % vl b)) q0) (h1 : RLm w' w'.heap.size (b) q1) => by
    have := cmp_any (lim (vl a % vl b)) (b) q0 q1 w' h0 h1 (lim_lim _) (lb) (lim_can _) ((vN_can hvv.2).2)
    exact this)
  have dC : decide (cmpL (lim (vl a % vl b)) b < 0) = true := by rw [cmpL_lt (lim_lim _) lb, vl_lim]; exact decide_eq_true (Nat.mod_lt _ hG)
  obtain ⟨Q, hQe⟩ : ∃ V, lim (vl a / vl b) = V := ⟨_, rfl⟩
  obtain ⟨R, hRe⟩ : ∃ V, lim (vl a % vl b) = V := ⟨_, rfl⟩
  obtain ⟨P, hPe⟩ : ∃ V, lim (vl a / vl b * vl b) = V := ⟨_, rfl⟩
  rw [hQe, hRe] at HP HQ
  rw [hQe, hPe] at HM
  rw [hPe, hRe] at HA
  rw [hRe] at HC dC
  obtain ⟨C, hCe⟩ : ∃ C, cmpL R b = C := ⟨_, rfl⟩
  rw [hCe] at HC dC
  clear hQe hRe hPe hCe e1 e2 e3 hA hle hQ hP hR hsum hv hvv hG
  have HSQ := Lib.hid (fun q r w' (h1 : RLm w' w'.heap.size (Q) q) (h2 : RLm w' w'.heap.size (Q) r) => by
    have := same_any (Q) (Q) q r w' h1 h2
    rw [decide_eq_true rfl] at this
    exact this)
  have HSR := Lib.hid (fun q r w' (h1 : RLm w' w'.heap.size (R) q) (h2 : RLm w' w'.heap.size (R) r) => by
    have := same_any (R) (R) q r w' h1 h2
    rw [decide_eq_true rfl] at this
    exact this)
  have HSA := Lib.hid (fun q r w' (h1 : RLm w' w'.heap.size (a) q) (h2 : RLm w' w'.heap.size (a) r) => by
    have := same_any (a) (a) q r w' h1 h2
    rw [decide_eq_true rfl] at this
    exact this)
  have HFew : Hid (∀ W kb kc kt bs rs, Fm w W (⟨kb, kt, [.slice qa.a a.length qa.c, .slice qb.a b.length qb.c]⟩ :: bs) rs → Calls Tryd.prog 20 #[.int .i64 130, .slice (some ⟨kb, 0, none⟩) 2 kc] W fun e w' => e = .returned (.bool true) ∧ Below W.heap.size W w') := Lib.hid fun W kb kc kt bs rs S => by
    have := few_fm (c := kc) 130 [(a, qa), (b, qb)] S (by simp)
    rw [hF] at this
    exact this
  obtain ⟨qaa, qac⟩ := qa
  obtain ⟨qba, qbc⟩ := qb
  dsimp only at S HFew
  replace S := Lib.hid (S.out.box 26 [.slice qaa a.length qac])
  replace S := Lib.hid (S.out.box' 26 [.slice qba b.length qbc] (K := w.heap.size + 1) (by simp))
  clear ha hb ht
  go_enter Tryd.func10, Tryd.ntmps10
  go_wp2_with fail
  refine (HAw.out _ S.out.bel).mono ?_
  rintro e w1 ⟨rfl, hb⟩
  replace S := Lib.hid (S.out.call hb)
  clear hb
  obtain ⟨⟨z1, f1, y1, -⟩, ⟨z0, f0, y0, -⟩, -⟩ := S.out.facts
  replace S := Lib.hid (S.out.box 26 [.slice qaa a.length qac, .slice qba b.length qbc])
  go_wp2_with fail
  refine (HFew.out _ _ _ _ _ _ S.out).mono ?_
  rintro e w2 ⟨rfl, hb⟩
  replace S := Lib.hid (S.out.call hb)
  clear hb z0 f0 y0 z1 f1 y1
  obtain ⟨⟨z2, f2, y2, y2b, -⟩, ⟨z1, f1, y1, -⟩, ⟨z0, f0, y0, -⟩, -⟩ := S.out.facts
  replace S := Lib.hid (S.out.drop _ _ (List.sublist_cons_self _ _) (List.Sublist.refl _))
  go_wp2_with fail
  refine (HP.out _ _ _ S.out.r0 S.out.r1).mono ?_
  rintro e w3 ⟨_, rfl, q1, q2, rfl, hr, hr2, hf, hf2, hb⟩
  replace S := Lib.hid (natRes2 S.out hr hr2 hf hf2 hb)
  clear hr hr2 hf hf2 hb z0 f0 y0 z1 f1 y1 z2 f2 y2
  obtain ⟨⟨z1, f1, y1, -⟩, ⟨z0, f0, y0, -⟩, -⟩ := S.out.facts
  replace S := Lib.hid (S.out.box 26 [.slice q1.a (Q).length q1.c])
  replace S := Lib.hid (S.out.box' 26 [.slice q2.a (R).length q2.c] (K := w3.heap.size + 1) (by simp))
  go_wp2_with fail
  refine (HQ.out _ _ _ S.out.r2 S.out.r3).mono ?_
  rintro e w4 ⟨_, rfl, q3, q4, rfl, hr, hr2, hf, hf2, hb⟩
  replace S := Lib.hid (natRes2 S.out hr hr2 hf hf2 hb)
  clear hr hr2 hf hf2 hb z0 f0 y0 z1 f1 y1
  obtain ⟨⟨z3, f3, y3, -⟩, ⟨z2, f2, y2, -⟩, ⟨z1, f1, y1, -⟩, ⟨z0, f0, y0, -⟩, -⟩ := S.out.facts
  replace S := Lib.hid (S.out.box 26 [.slice q3.a (Q).length q3.c])
  replace S := Lib.hid (S.out.box' 26 [.slice q4.a (R).length q4.c] (K := w4.heap.size + 1) (by simp))
  go_wp2_with fail
  refine (HSQ.out _ _ _ S.out.r3 S.out.r1).mono ?_
  rintro e w5 ⟨rfl, hb⟩
  replace S := Lib.hid (S.out.call hb)
  clear hb z0 f0 y0 z1 f1 y1 z2 f2 y2 z3 f3 y3
  obtain ⟨⟨z5, f5, y5, -⟩, ⟨z4, f4, y4, -⟩, ⟨z3, f3, y3, -⟩, ⟨z2, f2, y2, -⟩, ⟨z1, f1, y1, -⟩, ⟨z0, f0, y0, -⟩, -⟩ := S.out.facts
  go_wp2_with fail
  refine (HSR.out _ _ _ S.out.r2 S.out.r0).mono ?_
  rintro e w6 ⟨rfl, hb⟩
  replace S := Lib.hid (S.out.call hb)
  clear hb z0 f0 y0 z1 f1 y1 z2 f2 y2 z3 f3 y3 z4 f4 y4 z5 f5 y5
  obtain ⟨⟨z5, f5, y5, -⟩, ⟨z4, f4, y4, -⟩, ⟨z3, f3, y3, -⟩, ⟨z2, f2, y2, -⟩, ⟨z1, f1, y1, -⟩, ⟨z0, f0, y0, -⟩, -⟩ := S.out.facts
  go_wp2_with fail
  refine (HM.out _ _ _ S.out.r3 S.out.r5).mono ?_
  rintro e w7 ⟨_, rfl, q5, rfl, hr, hf, hb⟩
  replace S := Lib.hid (natRes S.out hr hf hb)
  clear hr hf hb z0 f0 y0 z1 f1 y1 z2 f2 y2 z3 f3 y3 z4 f4 y4 z5 f5 y5
  obtain ⟨⟨z5, f5, y5, -⟩, ⟨z4, f4, y4, -⟩, ⟨z3, f3, y3, -⟩, ⟨z2, f2, y2, -⟩, ⟨z1, f1, y1, -⟩, ⟨z0, f0, y0, -⟩, -⟩ := S.out.facts
  replace S := Lib.hid (S.out.box 26 [.slice q5.a (P).length q5.c])
  go_wp2_with fail
  refine (HA.out _ _ _ S.out.r0 S.out.r3).mono ?_
  rintro e w8 ⟨_, rfl, q6, rfl, hr, hf, hb⟩
  replace S := Lib.hid (natRes S.out hr hf hb)
  clear hr hf hb z0 f0 y0 z1 f1 y1 z2 f2 y2 z3 f3 y3 z4 f4 y4 z5 f5 y5
  obtain ⟨⟨z6, f6, y6, -⟩, ⟨z5, f5, y5, -⟩, ⟨z4, f4, y4, -⟩, ⟨z3, f3, y3, -⟩, ⟨z2, f2, y2, -⟩, ⟨z1, f1, y1, -⟩, ⟨z0, f0, y0, -⟩, -⟩ := S.out.facts
  replace S := Lib.hid (S.out.box 26 [.slice q6.a (a).length q6.c])
  go_wp2_with fail
  refine (HSA.out _ _ _ S.out.r0 S.out.r6).mono ?_
  rintro e w9 ⟨rfl, hb⟩
  replace S := Lib.hid (S.out.call hb)
  clear hb z0 f0 y0 z1 f1 y1 z2 f2 y2 z3 f3 y3 z4 f4 y4 z5 f5 y5 z6 f6 y6
  obtain ⟨⟨z7, f7, y7, -⟩, ⟨z6, f6, y6, -⟩, ⟨z5, f5, y5, -⟩, ⟨z4, f4, y4, -⟩, ⟨z3, f3, y3, -⟩, ⟨z2, f2, y2, -⟩, ⟨z1, f1, y1, -⟩, ⟨z0, f0, y0, -⟩, -⟩ := S.out.facts
  go_wp2_with fail
  refine (HC.out _ _ _ S.out.r4 S.out.r7).mono ?_
  rintro e w10 ⟨rfl, hb⟩
  replace S := Lib.hid (S.out.call hb)
  clear hb z0 f0 y0 z1 f1 y1 z2 f2 y2 z3 f3 y3 z4 f4 y4 z5 f5 y5 z6 f6 y6 z7 f7 y7
  obtain ⟨⟨z7, f7, y7, -⟩, ⟨z6, f6, y6, -⟩, ⟨z5, f5, y5, -⟩, ⟨z4, f4, y4, -⟩, ⟨z3, f3, y3, -⟩, ⟨z2, f2, y2, -⟩, ⟨z1, f1, y1, -⟩, ⟨z0, f0, y0, -⟩, -⟩ := S.out.facts
  go_wp2
  go_ret
  exact ⟨rfl, S.out.bel⟩
set_option maxHeartbeats 2000000 in
set_option maxRecDepth 100000 in
theorem law_div (w : World) (a : List Int) (qa : LmP) (ha : RLm w w.heap.size a qa) (la : Lim a) (b : List Int) (qb : LmP) (hb : RLm w w.heap.size b qb) (lb : Lim b) (ht : Tab w) :
    Calls Tryd.prog 10 #[natV a qa, natV b qb] w fun e w' => e = .returned (.bool true) ∧ Below w.heap.size w w' := by
  cases hF : ([(a, qa), (b, qb)] : List LQ).all (fun x => decide ((x.1.length : Int) ≤ 130)) with
  | false => exact law_div_few w a qa ha la b qb hb lb ht hF
  | true =>
    cases hv : (vN a && vN b) with
    | false => exact law_div_no w a qa ha la b qb hb lb ht hF hv
    | true =>
      by_cases hb0 : b.length = 0
      · exact law_div_zero w a qa ha la b qb hb lb ht hF hv hb0
      · refine law_div_ok w a qa ha la b qb hb lb ht hF hv ?_
        rcases Nat.eq_zero_or_pos (vl b) with e | e
        · exact absurd (by rw [lim_vl lb (vN_can ((Bool.and_eq_true _ _).mp hv).2).2, e, lim_zero]; rfl) hb0
        · exact e
end Go.Proofs.YtmkkjghmgbkdgaaDoor
