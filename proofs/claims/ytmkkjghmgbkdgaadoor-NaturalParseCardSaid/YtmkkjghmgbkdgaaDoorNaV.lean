/-
  CONTRACT of the law NaturalGcd.
  Conditions: those that each theorem names.
-/
import Derived.Test.YtmkkjghmgbkdgaaDoorNaU
namespace Go.Proofs.YtmkkjghmgbkdgaaDoor
open Go.RowKit Go.Sv
theorem cutV_lim (N : Nat) : Lim (cutV N) := by
  unfold cutV
  split
  · exact Lim.nil
  · exact lim_lim _
theorem mulV_lim (a b : List Int) : Lim (mulV a b) := by
  unfold mulV
  split
  · exact cutV_lim _
  · exact Lim.nil
theorem sumV_lim (a b : List Int) : Lim (sumV a b) := by
  unfold sumV
  split
  · exact cutV_lim _
  · exact Lim.nil
theorem sum_comm (a b : List Int) : sumV b a = sumV a b ∧ sumE b a = sumE a b := by
  unfold sumV sumE
  rw [Bool.and_comm, Nat.add_comm]
  exact ⟨rfl, rfl⟩
theorem mul_comm' (a b : List Int) : mulV b a = mulV a b ∧ mulE b a = mulE a b := by
  unfold mulV mulE
  rw [Bool.and_comm, Nat.mul_comm]
  exact ⟨rfl, rfl⟩
theorem cut_ok {N : Nat} (h : cutE N = 0) : cutV N = lim N ∧ (lim N).length ≤ 128 := by
  unfold cutE at h
  unfold cutV
  split at h
  · cases h
  · rename_i c
    exact ⟨if_neg c, by omega⟩
theorem cut_of {N : Nat} (h : (lim N).length ≤ 128) : cutV N = lim N ∧ cutE N = 0 := ⟨if_neg (by omega), if_neg (by omega)⟩
theorem mul_ok' {a b : List Int} (h : mulE a b = 0) : vN a = true ∧ vN b = true ∧ mulV a b = lim (vl a * vl b) ∧ (lim (vl a * vl b)).length ≤ 128 := by
  unfold mulE at h
  unfold mulV
  split at h
  · rename_i c
    rw [if_pos c]
    rw [Bool.and_eq_true] at c
    exact ⟨c.1, c.2, cut_ok h⟩
  · cases h
theorem sum_ok' {a b : List Int} (h : sumE a b = 0) : vN a = true ∧ vN b = true ∧ sumV a b = lim (vl a + vl b) ∧ (lim (vl a + vl b)).length ≤ 128 := by
  unfold sumE at h
  unfold sumV
  split at h
  · rename_i c
    rw [if_pos c]
    rw [Bool.and_eq_true] at c
    exact ⟨c.1, c.2, cut_ok h⟩
  · cases h
theorem len_le {M N : Nat} (h : M ≤ N) (hn : (lim N).length ≤ 128) : (lim M).length ≤ 128 := by
  rcases Nat.lt_or_ge 128 (lim M).length with c | c
  · exact absurd (len_mono h c) (by omega)
  · exact c
theorem vN_len {l : List Int} (ha : Lim l) (hv : vN l = true) : (lim (vl l)).length ≤ 128 := by
  obtain ⟨na, ca⟩ := vN_can hv
  rw [← lim_vl ha ca]; exact na
theorem nDig_le : ∀ (M N : Nat), N < 2 ^ M → Lib.nDigits N ≤ M + 1
  | 0, N, h => by
    have : N = 0 := by simpa using h
    subst this
    rw [Lib.nDigits_small (by decide)]
    exact Nat.le_refl _
  | M + 1, N, h => by
    by_cases c : N < 10
    · rw [Lib.nDigits_small c]; omega
    · rw [Lib.nDigits_big c]
      have := nDig_le M (N / 10) (by rw [Nat.pow_succ] at h; omega)
      omega
theorem vN_dec {l : List Int} (ha : Lim l) (hv : vN l = true) : (Lib.decDigits (vl l)).length ≤ 100000 := by
  have h3 := (lim_len_le (N := vl l) (k := 128)).1 (vN_len ha hv)
  rw [Bp_two] at h3
  rw [Lib.decDigits_length]
  have := nDig_le (32 * 128) (vl l) (Int.ofNat_lt.1 h3)
  omega
set_option maxHeartbeats 2000000 in
set_option maxRecDepth 100000 in
theorem law_gcd_few (w : World) (a : List Int) (qa : LmP) (ha : RLm w w.heap.size a qa) (la : Lim a) (b : List Int) (qb : LmP) (hb : RLm w w.heap.size b qb) (lb : Lim b) (ht : Tab w) (hF : ([(a, qa), (b, qb)] : List LQ).all (fun x => decide ((x.1.length : Int) ≤ 8)) = false) :
    Calls Tryd.prog 6 #[natV a qa, natV b qb] w fun e w' => e = .returned (.bool true) ∧ Below w.heap.size w w' := by
  have ht' := Lib.hid (fun w' (hb : Below w.heap.size w w') => ht.to hb)
  have HAw := Lib.hid (fun w' (h : Below w.heap.size w w') => awake_any w' (ht'.out _ h))
  have S := Lib.hid (natArg (natArg (Fm.init w) hb) ha)
  have HFew : Hid (∀ W kb kc kt bs rs, Fm w W (⟨kb, kt, [.slice qa.a a.length qa.c, .slice qb.a b.length qb.c]⟩ :: bs) rs → Calls Tryd.prog 20 #[.int .i64 8, .slice (some ⟨kb, 0, none⟩) 2 kc] W fun e w' => e = .returned (.bool false) ∧ Below W.heap.size W w') := Lib.hid fun W kb kc kt bs rs S => by
    have := few_fm (c := kc) 8 [(a, qa), (b, qb)] S (by simp)
    rw [hF] at this
    exact this
  obtain ⟨qaa, qac⟩ := qa
  obtain ⟨qba, qbc⟩ := qb
  dsimp only at S HFew
  replace S := Lib.hid (S.out.box 26 [.slice qaa a.length qac])
  replace S := Lib.hid (S.out.box' 26 [.slice qba b.length qbc] (K := w.heap.size + 1) (by simp))
  clear ha hb ht
  go_enter Tryd.func6, Tryd.ntmps6
  go_wp2_with fail
  refine (HAw.out _ S.out.bel).mono ?_
  rintro e w1 ⟨rfl, hb⟩
  replace S := Lib.hid (S.out.call hb)
  clear hb
  obtain ⟨⟨z1, f1, y1, -⟩, ⟨z0, f0, y0, -⟩, -⟩ := S.out.facts
  replace S := Lib.hid (S.out.box 26 [.slice qaa a.length qac, .slice qba b.length qbc])
  go_wp2_with fail
  refine (HFew.out _ _ _ _ _ _ S.out).mono ?_
  rintro e w2 ⟨rfl, hb⟩
  replace S := Lib.hid (S.out.call hb)
  clear hb z0 f0 y0 z1 f1 y1
  obtain ⟨⟨z2, f2, y2, y2b, -⟩, ⟨z1, f1, y1, -⟩, ⟨z0, f0, y0, -⟩, -⟩ := S.out.facts
  go_wp2_with fail
  refine (HAw.out _ S.out.bel).mono ?_
  rintro e w3 ⟨rfl, hb⟩
  replace S := Lib.hid (S.out.call hb)
  clear hb z0 f0 y0 z1 f1 y1 z2 f2 y2 y2b
  obtain ⟨⟨z2, f2, y2, y2b, -⟩, ⟨z1, f1, y1, -⟩, ⟨z0, f0, y0, -⟩, -⟩ := S.out.facts
  go_wp2
  go_ret
  exact ⟨rfl, S.out.bel⟩
set_option maxHeartbeats 2000000 in
set_option maxRecDepth 100000 in
theorem law_gcd_no (w : World) (a : List Int) (qa : LmP) (ha : RLm w w.heap.size a qa) (la : Lim a) (b : List Int) (qb : LmP) (hb : RLm w w.heap.size b qb) (lb : Lim b) (ht : Tab w) (hF : ([(a, qa), (b, qb)] : List LQ).all (fun x => decide ((x.1.length : Int) ≤ 8)) = true) (hv : (vN a && vN b) = false) :
    Calls Tryd.prog 6 #[natV a qa, natV b qb] w fun e w' => e = .returned (.bool true) ∧ Below w.heap.size w w' := by
  have ht' := Lib.hid (fun w' (hb : Below w.heap.size w w') => ht.to hb)
  have HAw := Lib.hid (fun w' (h : Below w.heap.size w w') => awake_any w' (ht'.out _ h))
  have S := Lib.hid (natArg (natArg (Fm.init w) hb) ha)
  have HP := Lib.hid (fun q r w' (h1 : RLm w' w'.heap.size a q) (h2 : RLm w' w'.heap.size b r) => gcd_no a b q r w' h1 h2 hv)
  have HQ := Lib.hid (fun q r w' (h1 : RLm w' w'.heap.size a q) (h2 : RLm w' w'.heap.size b r) => rgcd_no a b q r w' h1 h2 hv)
  clear hv
  have HS := Lib.hid (fun q r w' (h1 : RLm w' w'.heap.size ([]) q) (h2 : RLm w' w'.heap.size ([]) r) => by
    have := same_any ([]) ([]) q r w' h1 h2
    rw [decide_eq_true rfl] at this
    exact this)
  have HFew : Hid (∀ W kb kc kt bs rs, Fm w W (⟨kb, kt, [.slice qa.a a.length qa.c, .slice qb.a b.length qb.c]⟩ :: bs) rs → Calls Tryd.prog 20 #[.int .i64 8, .slice (some ⟨kb, 0, none⟩) 2 kc] W fun e w' => e = .returned (.bool true) ∧ Below W.heap.size W w') := Lib.hid fun W kb kc kt bs rs S => by
    have := few_fm (c := kc) 8 [(a, qa), (b, qb)] S (by simp)
    rw [hF] at this
    exact this
  obtain ⟨qaa, qac⟩ := qa
  obtain ⟨qba, qbc⟩ := qb
  dsimp only at S HFew
  replace S := Lib.hid (S.out.box 26 [.slice qaa a.length qac])
  replace S := Lib.hid (S.out.box' 26 [.slice qba b.length qbc] (K := w.heap.size + 1) (by simp))
  clear ha hb ht
  go_enter Tryd.func6, Tryd.ntmps6
  go_wp2_with fail
  refine (HAw.out _ S.out.bel).mono ?_
  rintro e w1 ⟨rfl, hb⟩
  replace S := Lib.hid (S.out.call hb)
  clear hb
  obtain ⟨⟨z1, f1, y1, -⟩, ⟨z0, f0, y0, -⟩, -⟩ := S.out.facts
  replace S := Lib.hid (S.out.box 26 [.slice qaa a.length qac, .slice qba b.length qbc])
  go_wp2_with fail
  refine (HFew.out _ _ _ _ _ _ S.out).mono ?_
  rintro e w2 ⟨rfl, hb⟩
  replace S := Lib.hid (S.out.call hb)
  clear hb z0 f0 y0 z1 f1 y1
  obtain ⟨⟨z2, f2, y2, y2b, -⟩, ⟨z1, f1, y1, -⟩, ⟨z0, f0, y0, -⟩, -⟩ := S.out.facts
  replace S := Lib.hid (S.out.drop _ _ (List.sublist_cons_self _ _) (List.Sublist.refl _))
  go_wp2_with fail
  refine (HP.out _ _ _ S.out.r0 S.out.r1).mono ?_
  rintro e w3 ⟨_, rfl, q1, rfl, hr, hf, hb⟩
  replace S := Lib.hid (natRes S.out hr hf hb)
  clear hr hf hb z0 f0 y0 z1 f1 y1 z2 f2 y2
  obtain ⟨⟨z1, f1, y1, -⟩, ⟨z0, f0, y0, -⟩, -⟩ := S.out.facts
  replace S := Lib.hid (S.out.box 26 [.slice q1.a 0 q1.c])
  go_wp2_with fail
  refine (HQ.out _ _ _ S.out.r1 S.out.r2).mono ?_
  rintro e w4 ⟨_, rfl, q2, rfl, hr, hf, hb⟩
  replace S := Lib.hid (natRes S.out hr hf hb)
  clear hr hf hb z0 f0 y0 z1 f1 y1
  obtain ⟨⟨z2, f2, y2, -⟩, ⟨z1, f1, y1, -⟩, ⟨z0, f0, y0, -⟩, -⟩ := S.out.facts
  replace S := Lib.hid (S.out.box 26 [.slice q2.a 0 q2.c])
  go_wp2_with fail
  refine (HS.out _ _ _ S.out.r1 S.out.r0).mono ?_
  rintro e w5 ⟨rfl, hb⟩
  replace S := Lib.hid (S.out.call hb)
  clear hb z0 f0 y0 z1 f1 y1 z2 f2 y2
  obtain ⟨⟨z3, f3, y3, -⟩, ⟨z2, f2, y2, -⟩, ⟨z1, f1, y1, -⟩, ⟨z0, f0, y0, -⟩, -⟩ := S.out.facts
  go_wp2_with fail
  refine (HS.out _ _ _ S.out.r1 S.out.r0).mono ?_
  rintro e w6 ⟨rfl, hb⟩
  replace S := Lib.hid (S.out.call hb)
  clear hb z0 f0 y0 z1 f1 y1 z2 f2 y2 z3 f3 y3
  obtain ⟨⟨z3, f3, y3, -⟩, ⟨z2, f2, y2, -⟩, ⟨z1, f1, y1, -⟩, ⟨z0, f0, y0, -⟩, -⟩ := S.out.facts
  go_wp2
  go_ret
  exact ⟨rfl, S.out.bel⟩
set_option maxHeartbeats 2000000 in
set_option maxRecDepth 100000 in
theorem law_gcd_zero (w : World) (a : List Int) (qa : LmP) (ha : RLm w w.heap.size a qa) (la : Lim a) (b : List Int) (qb : LmP) (hb : RLm w w.heap.size b qb) (lb : Lim b) (ht : Tab w) (hF : ([(a, qa), (b, qb)] : List LQ).all (fun x => decide ((x.1.length : Int) ≤ 8)) = true) (hv : (vN a && vN b) = true) (hG : Nat.gcd (vl a) (vl b) = 0) :
    Calls Tryd.prog 6 #[natV a qa, natV b qb] w fun e w' => e = .returned (.bool true) ∧ Below w.heap.size w w' := by
  have ht' := Lib.hid (fun w' (hb : Below w.heap.size w w') => ht.to hb)
  have HAw := Lib.hid (fun w' (h : Below w.heap.size w w') => awake_any w' (ht'.out _ h))
  have S := Lib.hid (natArg (natArg (Fm.init w) hb) ha)
  have hvv := (Bool.and_eq_true _ _).mp hv
  have HP := Lib.hid (fun q0 q1 w' (h0 : RLm w' w'.heap.size (a) q0) (h1 : RLm w' w'.heap.size (b) q1) => by
    have := gcd_ok (a) (b) q0 q1 w' h0 h1 (la) (lb) (hv)
    rw [hG, lim_zero] at this
    exact this)
  have HQ := Lib.hid (fun q0 q1 w' (h0 : RLm w' w'.heap.size (a) q0) (h1 : RLm w' w'.heap.size (b) q1) => by
    have := rgcd_ok (a) (b) q0 q1 w' h0 h1 (la) (lb) (hvv.1) (hvv.2)
    rw [hG, lim_zero] at this
    exact this)
  clear hv hvv hG
  have HS := Lib.hid (fun q r w' (h1 : RLm w' w'.heap.size ([]) q) (h2 : RLm w' w'.heap.size ([]) r) => by
    have := same_any ([]) ([]) q r w' h1 h2
    rw [decide_eq_true rfl] at this
    exact this)
  have HFew : Hid (∀ W kb kc kt bs rs, Fm w W (⟨kb, kt, [.slice qa.a a.length qa.c, .slice qb.a b.length qb.c]⟩ :: bs) rs → Calls Tryd.prog 20 #[.int .i64 8, .slice (some ⟨kb, 0, none⟩) 2 kc] W fun e w' => e = .returned (.bool true) ∧ Below W.heap.size W w') := Lib.hid fun W kb kc kt bs rs S => by
    have := few_fm (c := kc) 8 [(a, qa), (b, qb)] S (by simp)
    rw [hF] at this
    exact this
  obtain ⟨qaa, qac⟩ := qa
  obtain ⟨qba, qbc⟩ := qb
  dsimp only at S HFew
  replace S := Lib.hid (S.out.box 26 [.slice qaa a.length qac])
  replace S := Lib.hid (S.out.box' 26 [.slice qba b.length qbc] (K := w.heap.size + 1) (by simp))
  clear ha hb ht
  go_enter Tryd.func6, Tryd.ntmps6
  go_wp2_with fail
  refine (HAw.out _ S.out.bel).mono ?_
  rintro e w1 ⟨rfl, hb⟩
  replace S := Lib.hid (S.out.call hb)
  clear hb
  obtain ⟨⟨z1, f1, y1, -⟩, ⟨z0, f0, y0, -⟩, -⟩ := S.out.facts
  replace S := Lib.hid (S.out.box 26 [.slice qaa a.length qac, .slice qba b.length qbc])
  go_wp2_with fail
  refine (HFew.out _ _ _ _ _ _ S.out).mono ?_
  rintro e w2 ⟨rfl, hb⟩
  replace S := Lib.hid (S.out.call hb)
  clear hb z0 f0 y0 z1 f1 y1
  obtain ⟨⟨z2, f2, y2, y2b, -⟩, ⟨z1, f1, y1, -⟩, ⟨z0, f0, y0, -⟩, -⟩ := S.out.facts
  replace S := Lib.hid (S.out.drop _ _ (List.sublist_cons_self _ _) (List.Sublist.refl _))
  go_wp2_with fail
  refine (HP.out _ _ _ S.out.r0 S.out.r1).mono ?_
  rintro e w3 ⟨_, rfl, q1, rfl, hr, hf, hb⟩
  replace S := Lib.hid (natRes S.out hr hf hb)
  clear hr hf hb z0 f0 y0 z1 f1 y1 z2 f2 y2
  obtain ⟨⟨z1, f1, y1, -⟩, ⟨z0, f0, y0, -⟩, -⟩ := S.out.facts
  replace S := Lib.hid (S.out.box 26 [.slice q1.a 0 q1.c])
  go_wp2_with fail
  refine (HQ.out _ _ _ S.out.r1 S.out.r2).mono ?_
  rintro e w4 ⟨_, rfl, q2, rfl, hr, hf, hb⟩
  replace S := Lib.hid (natRes S.out hr hf hb)
  clear hr hf hb z0 f0 y0 z1 f1 y1
  obtain ⟨⟨z2, f2, y2, -⟩, ⟨z1, f1, y1, -⟩, ⟨z0, f0, y0, -⟩, -⟩ := S.out.facts
  replace S := Lib.hid (S.out.box 26 [.slice q2.a 0 q2.c])
  go_wp2_with fail
  refine (HS.out _ _ _ S.out.r1 S.out.r0).mono ?_
  rintro e w5 ⟨rfl, hb⟩
  replace S := Lib.hid (S.out.call hb)
  clear hb z0 f0 y0 z1 f1 y1 z2 f2 y2
  obtain ⟨⟨z3, f3, y3, -⟩, ⟨z2, f2, y2, -⟩, ⟨z1, f1, y1, -⟩, ⟨z0, f0, y0, -⟩, -⟩ := S.out.facts
  go_wp2_with fail
  refine (HS.out _ _ _ S.out.r1 S.out.r0).mono ?_
  rintro e w6 ⟨rfl, hb⟩
  replace S := Lib.hid (S.out.call hb)
  clear hb z0 f0 y0 z1 f1 y1 z2 f2 y2 z3 f3 y3
  obtain ⟨⟨z3, f3, y3, -⟩, ⟨z2, f2, y2, -⟩, ⟨z1, f1, y1, -⟩, ⟨z0, f0, y0, -⟩, -⟩ := S.out.facts
  go_wp2
  go_ret
  exact ⟨rfl, S.out.bel⟩
set_option maxHeartbeats 2000000 in
set_option maxRecDepth 100000 in
theorem law_gcd_ok (w : World) (a : List Int) (qa : LmP) (ha : RLm w w.heap.size a qa) (la : Lim a) (b : List Int) (qb : LmP) (hb : RLm w w.heap.size b qb) (lb : Lim b) (ht : Tab w) (hF : ([(a, qa), (b, qb)] : List LQ).all (fun x => decide ((x.1.length : Int) ≤ 8)) = true) (hv : (vN a && vN b) = true) (hG : 0 < Nat.gcd (vl a) (vl b)) :
    Calls Tryd.prog 6 #[natV a qa, natV b qb] w fun e w' => e = .returned (.bool true) ∧ Below w.heap.size w w' := by
  have ht' := Lib.hid (fun w' (hb : Below w.heap.size w w') => ht.to hb)
  have HAw := Lib.hid (fun w' (h : Below w.heap.size w w') => awake_any w' (ht'.out _ h))
  have S := Lib.hid (natArg (natArg (Fm.init w) hb) ha)
  have hvv := (Bool.and_eq_true _ _).mp hv
  have hg128 : (lim (Nat.gcd (vl a) (vl b))).length ≤ 128 := by
    by_cases c : 0 < vl a
    · exact len_le (Nat.gcd_le_left _ c) (vN_len la hvv.1)
    · have e : vl a = 0 := by omega
      rw [e, Nat.gcd_zero_left]
      exact vN_len lb hvv.2
  have hvG := vN_lim hg128
  have hGn : (lim (Nat.gcd (vl a) (vl b))).length ≠ 0 := fun e => by have := lim_len_zero.1 e; omega
  have HP := Lib.hid (fun q0 q1 w' (h0 : RLm w' w'.heap.size (a) q0) (h1 : RLm w' w'.heap.size (b) q1) => by
    have := gcd_ok (a) (b) q0 q1 w' h0 h1 (la) (lb) (hv)
    exact this)
  have HQ := Lib.hid (fun q0 q1 w' (h0 : RLm w' w'.heap.size (a) q0) (h1 : RLm w' w'.heap.size (b) q1) => by
    have := rgcd_ok (a) (b) q0 q1 w' h0 h1 (la) (lb) (hvv.1) (hvv.2)
    exact this)
  have HDa := Lib.hid (fun q0 q1 w' (h0 : RLm w' w'.heap.size (a) q0) (h1 : RLm w' w'.heap.size (lim (Nat.gcd (vl a) (vl b))) q1) => by
    have := div_ok (a) (lim (Nat.gcd (vl a) (vl b))) q0 q1 w' h0 h1 (la) (lim_lim _) (by rw [hvv.1, hvG]; rfl) (by rw [vl_lim]; exact hG)
    rw [vl_lim, Nat.mod_eq_zero_of_dvd (Nat.gcd_dvd_left _ _), lim_zero] at this
    exact this)
  have HDb := Lib.hid (fun q0 q1 w' (h0 : RLm w' w'.heap.size (b) q0) (h1 : RLm w' w'.heap.size (lim (Nat.gcd (vl a) (vl b))) q1) => by
    have := div_ok (b) (lim (Nat.gcd (vl a) (vl b))) q0 q1 w' h0 h1 (lb) (lim_lim _) (by rw [hvv.2, hvG]; rfl) (by rw [vl_lim]; exact hG)
    rw [vl_lim, Nat.mod_eq_zero_of_dvd (Nat.gcd_dvd_right _ _), lim_zero] at this
    exact this)
  obtain ⟨V, hV⟩ : ∃ V, lim (Nat.gcd (vl a) (vl b)) = V := ⟨_, rfl⟩
  obtain ⟨Qa, hQa⟩ : ∃ V, lim (vl a / Nat.gcd (vl a) (vl b)) = V := ⟨_, rfl⟩
  obtain ⟨Qb, hQb⟩ : ∃ V, lim (vl b / Nat.gcd (vl a) (vl b)) = V := ⟨_, rfl⟩
  rw [hV] at HP HQ HDa HDb hGn
  rw [hQa] at HDa
  rw [hQb] at HDb
  have d0 : ((V.length : Int) == 0) = false := beq_eq_false_iff_ne.2 (by omega)
  clear hV hQa hQb hv hvv hG hg128 hvG hGn
  have HS := Lib.hid (fun q r w' (h1 : RLm w' w'.heap.size (V) q) (h2 : RLm w' w'.heap.size (V) r) => by
    have := same_any (V) (V) q r w' h1 h2
    rw [decide_eq_true rfl] at this
    exact this)
  have HFew : Hid (∀ W kb kc kt bs rs, Fm w W (⟨kb, kt, [.slice qa.a a.length qa.c, .slice qb.a b.length qb.c]⟩ :: bs) rs → Calls Tryd.prog 20 #[.int .i64 8, .slice (some ⟨kb, 0, none⟩) 2 kc] W fun e w' => e = .returned (.bool true) ∧ Below W.heap.size W w') := Lib.hid fun W kb kc kt bs rs S => by
    have := few_fm (c := kc) 8 [(a, qa), (b, qb)] S (by simp)
    rw [hF] at this
    exact this
  obtain ⟨qaa, qac⟩ := qa
  obtain ⟨qba, qbc⟩ := qb
  dsimp only at S HFew
  replace S := Lib.hid (S.out.box 26 [.slice qaa a.length qac])
  replace S := Lib.hid (S.out.box' 26 [.slice qba b.length qbc] (K := w.heap.size + 1) (by simp))
  clear ha hb ht
  go_enter Tryd.func6, Tryd.ntmps6
  go_wp2_with fail
  refine (HAw.out _ S.out.bel).mono ?_
  rintro e w1 ⟨rfl, hb⟩
  replace S := Lib.hid (S.out.call hb)
  clear hb
  obtain ⟨⟨z1, f1, y1, -⟩, ⟨z0, f0, y0, -⟩, -⟩ := S.out.facts
  replace S := Lib.hid (S.out.box 26 [.slice qaa a.length qac, .slice qba b.length qbc])
  go_wp2_with fail
  refine (HFew.out _ _ _ _ _ _ S.out).mono ?_
  rintro e w2 ⟨rfl, hb⟩
  replace S := Lib.hid (S.out.call hb)
  clear hb z0 f0 y0 z1 f1 y1
  obtain ⟨⟨z2, f2, y2, y2b, -⟩, ⟨z1, f1, y1, -⟩, ⟨z0, f0, y0, -⟩, -⟩ := S.out.facts
  replace S := Lib.hid (S.out.drop _ _ (List.sublist_cons_self _ _) (List.Sublist.refl _))
  go_wp2_with fail
  refine (HP.out _ _ _ S.out.r0 S.out.r1).mono ?_
  rintro e w3 ⟨_, rfl, q1, rfl, hr, hf, hb⟩
  replace S := Lib.hid (natRes S.out hr hf hb)
  clear hr hf hb z0 f0 y0 z1 f1 y1 z2 f2 y2
  obtain ⟨⟨z1, f1, y1, -⟩, ⟨z0, f0, y0, -⟩, -⟩ := S.out.facts
  replace S := Lib.hid (S.out.box 26 [.slice q1.a (V).length q1.c])
  go_wp2_with fail
  refine (HQ.out _ _ _ S.out.r1 S.out.r2).mono ?_
  rintro e w4 ⟨_, rfl, q2, rfl, hr, hf, hb⟩
  replace S := Lib.hid (natRes S.out hr hf hb)
  clear hr hf hb z0 f0 y0 z1 f1 y1
  obtain ⟨⟨z2, f2, y2, -⟩, ⟨z1, f1, y1, -⟩, ⟨z0, f0, y0, -⟩, -⟩ := S.out.facts
  replace S := Lib.hid (S.out.box 26 [.slice q2.a (V).length q2.c])
  go_wp2_with fail
  refine (HS.out _ _ _ S.out.r1 S.out.r0).mono ?_
  rintro e w5 ⟨rfl, hb⟩
  replace S := Lib.hid (S.out.call hb)
  clear hb z0 f0 y0 z1 f1 y1 z2 f2 y2
  obtain ⟨⟨z3, f3, y3, -⟩, ⟨z2, f2, y2, -⟩, ⟨z1, f1, y1, -⟩, ⟨z0, f0, y0, -⟩, -⟩ := S.out.facts
  go_wp2_with fail
  refine (HDa.out _ _ _ S.out.r2 S.out.r1).mono ?_
  rintro e w6 ⟨_, rfl, q3, q4, rfl, hr, hr2, hf, hf2, hb⟩
  replace S := Lib.hid (natRes2 S.out hr hr2 hf hf2 hb)
  clear hr hr2 hf hf2 hb z0 f0 y0 z1 f1 y1 z2 f2 y2 z3 f3 y3
  obtain ⟨⟨z3, f3, y3, -⟩, ⟨z2, f2, y2, -⟩, ⟨z1, f1, y1, -⟩, ⟨z0, f0, y0, -⟩, -⟩ := S.out.facts
  replace S := Lib.hid (S.out.box 26 [.slice q3.a (Qa).length q3.c])
  replace S := Lib.hid (S.out.box' 26 [.slice q4.a 0 q4.c] (K := w6.heap.size + 1) (by simp))
  go_wp2_with fail
  refine (HDb.out _ _ _ S.out.r5 S.out.r3).mono ?_
  rintro e w7 ⟨_, rfl, q5, q6, rfl, hr, hr2, hf, hf2, hb⟩
  replace S := Lib.hid (natRes2 S.out hr hr2 hf hf2 hb)
  clear hr hr2 hf hf2 hb z0 f0 y0 z1 f1 y1 z2 f2 y2 z3 f3 y3
  obtain ⟨⟨z5, f5, y5, -⟩, ⟨z4, f4, y4, -⟩, ⟨z3, f3, y3, -⟩, ⟨z2, f2, y2, -⟩, ⟨z1, f1, y1, -⟩, ⟨z0, f0, y0, -⟩, -⟩ := S.out.facts
  replace S := Lib.hid (S.out.box 26 [.slice q5.a (Qb).length q5.c])
  replace S := Lib.hid (S.out.box' 26 [.slice q6.a 0 q6.c] (K := w7.heap.size + 1) (by simp))
  go_wp2
  go_ret
  exact ⟨rfl, S.out.bel⟩
set_option maxHeartbeats 2000000 in
set_option maxRecDepth 100000 in
theorem law_gcd (w : World) (a : List Int) (qa : LmP) (ha : RLm w w.heap.size a qa) (la : Lim a) (b : List Int) (qb : LmP) (hb : RLm w w.heap.size b qb) (lb : Lim b) (ht : Tab w) :
    Calls Tryd.prog 6 #[natV a qa, natV b qb] w fun e w' => e = .returned (.bool true) ∧ Below w.heap.size w w' := by
  cases hF : ([(a, qa), (b, qb)] : List LQ).all (fun x => decide ((x.1.length : Int) ≤ 8)) with
  | false => exact law_gcd_few w a qa ha la b qb hb lb ht hF
  | true =>
    cases hv : (vN a && vN b) with
    | false => exact law_gcd_no w a qa ha la b qb hb lb ht hF hv
    | true =>
      rcases Nat.eq_zero_or_pos (Nat.gcd (vl a) (vl b)) with hG | hG
      · exact law_gcd_zero w a qa ha la b qb hb lb ht hF hv hG
      · exact law_gcd_ok w a qa ha la b qb hb lb ht hF hv hG
end Go.Proofs.YtmkkjghmgbkdgaaDoor
