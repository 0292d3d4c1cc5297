/-
  CONTRACTS of sheaveref46.bound, Errors, Has.
  Conditions: the arguments are as they come in.
-/
import Derived.Test.YtpoddmkimhkmoaaGreatPgA
import Derived.Test.YtpoddmkimhkmoaaGreatPwW
import Derived.Test.YtpoddmkimhkmoaaGreatPwQ
import Derived.Test.YtpoddmkimhkmoaaGreatPwLp
namespace Go.Proofs.YtpoddmkimhkmoaaGreat
open Go.RowKit Go.Sv Go.Pw
set_option maxHeartbeats 8000000 in
set_option maxRecDepth 100000 in
theorem bound_any (w : World) (n d : List Int) (q r : LmP) (h1 : RLm w w.heap.size n q) (h2 : RLm w w.heap.size d r) (l1 : Lim n) (l2 : Lim d) :
    Calls Tryz.prog 34 #[ratV n q d r] w (fun f w' => f = .returned (.bool (decide (rcV n d (lim 1) (lim 1) ≤ 0 ∧ d.length = 1))) ∧ Below w.heap.size w w') := by
  have S := Lib.hid (natArg (natArg (Fm.init w) h2) h1)
  have HO := Lib.hid (fun w' => one_any w')
  have HM := Lib.hid (fun q r q' r' w' h1 h2 h3 h4 => ratMost_any w' n d (lim 1) (lim 1) q r q' r' h1 h2 h3 h4 l1 l2 (lim_lim _) (lim_lim _))
  have hle : d.length ≤ 9223372036854775807 := by have h1 := h2.cap; have h3 := h2.cmx; unfold maxLen at h3; omega
  obtain ⟨V, hV⟩ : ∃ V, rcV n d (lim 1) (lim 1) = V := ⟨_, rfl⟩
  obtain ⟨Ov, hO⟩ : ∃ v, lim 1 = v := ⟨_, rfl⟩
  rw [hV] at HM
  rw [hV]
  rw [hO] at HO HM
  clear hV hO h1 h2 l1 l2
  obtain ⟨qa, qc⟩ := q
  obtain ⟨ra, rc⟩ := r
  replace S := Lib.hid (S.out.box 26 [.slice qa n.length qc, .slice ra d.length rc])
  by_cases c1 : V ≤ 0
  · rw [decide_eq_true c1] at HM
    obtain ⟨b, hb0⟩ : ∃ b, decide ((d.length : Int) = 1) = b := ⟨_, rfl⟩
    have hR : decide (V ≤ 0 ∧ d.length = 1) = b := by rw [← hb0]; exact decide_eq_decide.2 ⟨fun h => by omega, fun h => ⟨c1, by omega⟩⟩
    rw [hR]
    have hb1 : ((d.length : Int) == 1) = b := by rw [← hb0]; rfl
    clear c1 hR
    go_enter Tryz.func34, Tryz.ntmps34
    go_wp2_with fail
    replace S := Lib.hid S.out.drew
    obtain ⟨⟨z0, f0, y0, y0a, -⟩, -⟩ := S.out.facts
    go_region_held3 (fun w' => w'.cell? ⟨w.heap.size, 0, none⟩ = some (.slice qa n.length qc) ∧ w'.cell? ⟨w.heap.size, 1, none⟩ = some (.slice ra d.length rc)) (first | with_reducible assumption | go_keep)
      (first
        | ((with_reducible refine (HO.out _).mono ?_); rintro e wx ⟨_, rfl, qx, qy, rfl, hr, hr2, hf, hf2, hb⟩; replace S := Lib.hid (natRes2 S.out hr hr2 hf hf2 hb); clear hr hr2 hf hf2 hb z0 f0 y0 y0a; obtain ⟨⟨z0, f0, y0, y0a, -⟩, -⟩ := S.out.facts)
        | ((with_reducible refine (HM.out ⟨qa, qc⟩ ⟨ra, rc⟩ _ _ _ (natOld S.out (by simp)) (natOld S.out (by simp)) (natOld S.out (by simp)) (natOld S.out (by simp))).mono ?_); rintro e wx ⟨rfl, hb⟩; replace S := Lib.hid (S.out.call hb); clear hb z0 f0 y0 y0a; obtain ⟨⟨z0, f0, y0, y0a, -⟩, -⟩ := S.out.facts))
    all_goals
      go_wp2
      go_ret
      exact ⟨rfl, S.out.bel⟩
  · rw [decide_eq_false c1] at HM
    rw [decide_eq_false (fun h => c1 h.1 : ¬ (V ≤ 0 ∧ d.length = 1))]
    clear c1
    go_enter Tryz.func34, Tryz.ntmps34
    go_wp2_with fail
    replace S := Lib.hid S.out.drew
    obtain ⟨⟨z0, f0, y0, y0a, -⟩, -⟩ := S.out.facts
    first
      | (go_region_law (first
          | (go_simp; go_at_call 56; refine (HO.out _).mono ?_; rintro e wx ⟨_, rfl, qx, qy, rfl, hr, hr2, hf, hf2, hb⟩; replace S := Lib.hid (natRes2 S.out hr hr2 hf hf2 hb); clear hr hr2 hf hf2 hb z0 f0 y0 y0a; obtain ⟨⟨z0, f0, y0, y0a, -⟩, -⟩ := S.out.facts)
          | (go_simp; go_at_call 35; refine (HM.out ⟨qa, qc⟩ ⟨ra, rc⟩ _ _ _ (natOld S.out (by simp)) (natOld S.out (by simp)) (natOld S.out (by simp)) (natOld S.out (by simp))).mono ?_; rintro e wx ⟨rfl, hb⟩; replace S := Lib.hid (S.out.call hb); clear hb z0 f0 y0 y0a; obtain ⟨⟨z0, f0, y0, y0a, -⟩, -⟩ := S.out.facts)))
      | fail
    all_goals
      go_wp2
      go_ret
      exact ⟨rfl, S.out.bel⟩
set_option maxHeartbeats 8000000 in
set_option maxRecDepth 100000 in
theorem rerrs_any (n0 m0 n1 m1 n2 m2 n3 m3 : List Int) (q0 r0 q1 r1 q2 r2 q3 r3 : LmP) (w : World) (g0 : RLm w w.heap.size n0 q0) (h0 : RLm w w.heap.size m0 r0) (l0 : Lim n0) (k0 : Lim m0) (g1 : RLm w w.heap.size n1 q1) (h1 : RLm w w.heap.size m1 r1) (l1 : Lim n1) (k1 : Lim m1) (g2 : RLm w w.heap.size n2 q2) (h2 : RLm w w.heap.size m2 r2) (l2 : Lim n2) (k2 : Lim m2) (g3 : RLm w w.heap.size n3 q3) (h3 : RLm w w.heap.size m3 r3) (l3 : Lim n3) (k3 : Lim m3) :
    Calls Tryz.prog 12 #[ratV n0 q0 m0 r0, ratV n1 q1 m1 r1, ratV n2 q2 m2 r2, ratV n3 q3 m3 r3] w (fun e w' => e = .returned (.int .i64 (pairE n0 m0 n1 m1 n2 m2 n3 m3)) ∧ Below w.heap.size w w') := by
  have S := Lib.hid (natArg (natArg (natArg (natArg (natArg (natArg (natArg (natArg (Fm.init w) h3) g3) h2) g2) h1) g1) h0) g0)
  have HV0 := Lib.hid (fun q r w' x y => rvalidR_any w' n0 q x l0 m0 r y k0)
  have HV1 := Lib.hid (fun q r w' x y => rvalidR_any w' n1 q x l1 m1 r y k1)
  have HV2 := Lib.hid (fun q r w' x y => rvalidR_any w' n2 q x l2 m2 r y k2)
  have HV3 := Lib.hid (fun q r w' x y => rvalidR_any w' n3 q x l3 m3 r y k3)
  have HP0 := Lib.hid (fun q r w' x y => prob_any w' n0 m0 q r x y l0 k0)
  have HP1 := Lib.hid (fun q r w' x y => prob_any w' n1 m1 q r x y l1 k1)
  have HP2 := Lib.hid (fun q r w' x y => bound_any w' n2 m2 q r x y l2 k2)
  have HP3 := Lib.hid (fun q r w' x y => bound_any w' n3 m3 q r x y l3 k3)
  have HM := Lib.hid (fun q r q' r' w' x y z u => ratMost_any w' n1 m1 n0 m0 q r q' r' x y z u l1 k1 l0 k0)
  obtain ⟨c0, hc0⟩ : ∃ b, decide (rcV n0 m0 (lim 1) (lim 1) ≤ 0 ∧ cmpL m0 (lim 1000) ≤ 0) = b := ⟨_, rfl⟩
  rw [hc0] at HP0
  obtain ⟨c1, hc1⟩ : ∃ b, decide (rcV n1 m1 (lim 1) (lim 1) ≤ 0 ∧ cmpL m1 (lim 1000) ≤ 0) = b := ⟨_, rfl⟩
  rw [hc1] at HP1
  obtain ⟨c2, hc2⟩ : ∃ b, decide (rcV n2 m2 (lim 1) (lim 1) ≤ 0 ∧ m2.length = 1) = b := ⟨_, rfl⟩
  rw [hc2] at HP2
  obtain ⟨c3, hc3⟩ : ∃ b, decide (rcV n3 m3 (lim 1) (lim 1) ≤ 0 ∧ m3.length = 1) = b := ⟨_, rfl⟩
  rw [hc3] at HP3
  have e1 : ¬ (vR n0 m0 = true ∧ vR n1 m1 = true ∧ vR n2 m2 = true ∧ vR n3 m3 = true) → pairE n0 m0 n1 m1 n2 m2 n3 m3 = 1 := fun c => pairE_1 c
  have e7 : (vR n0 m0 = true ∧ vR n1 m1 = true ∧ vR n2 m2 = true ∧ vR n3 m3 = true) → ¬ (c0 = true ∧ c1 = true ∧ c2 = true ∧ c3 = true) → pairE n0 m0 n1 m1 n2 m2 n3 m3 = 7 := fun v c => pairE_7 v.1 v.2.1 v.2.2.1 v.2.2.2 (fun ⟨a0, a1, a2, a3⟩ => c ⟨hc0.symm.trans (decide_eq_true ((pr_is l0 k0 v.1).2 a0)), hc1.symm.trans (decide_eq_true ((pr_is l1 k1 v.2.1).2 a1)), hc2.symm.trans (decide_eq_true ((bd_is l2 k2 v.2.2.1).2 a2)), hc3.symm.trans (decide_eq_true ((bd_is l3 k3 v.2.2.2).2 a3))⟩)
  have e9 : (vR n0 m0 = true ∧ vR n1 m1 = true ∧ vR n2 m2 = true ∧ vR n3 m3 = true) → (c0 = true ∧ c1 = true ∧ c2 = true ∧ c3 = true) → pairE n0 m0 n1 m1 n2 m2 n3 m3 = if rcV n1 m1 n0 m0 ≤ 0 then 1 else 0 := fun v c => pairE_ref l0 k0 l1 k1 v.1 v.2.1 v.2.2.1 v.2.2.2 ((pr_is l0 k0 v.1).1 (of_decide_eq_true (hc0.trans c.1))) ((pr_is l1 k1 v.2.1).1 (of_decide_eq_true (hc1.trans c.2.1))) ((bd_is l2 k2 v.2.2.1).1 (of_decide_eq_true (hc2.trans c.2.2.1))) ((bd_is l3 k3 v.2.2.2).1 (of_decide_eq_true (hc3.trans c.2.2.2)))
  generalize pairE n0 m0 n1 m1 n2 m2 n3 m3 = E at *
  clear hc0 hc1 hc2 hc3
  obtain ⟨b0, hb0⟩ : ∃ b, vR n0 m0 = b := ⟨_, rfl⟩
  obtain ⟨b1, hb1⟩ : ∃ b, vR n1 m1 = b := ⟨_, rfl⟩
  obtain ⟨b2, hb2⟩ : ∃ b, vR n2 m2 = b := ⟨_, rfl⟩
  obtain ⟨b3, hb3⟩ : ∃ b, vR n3 m3 = b := ⟨_, rfl⟩
  rw [hb0, hb1, hb2, hb3] at e1 e7 e9
  rw [hb0] at HV0
  rw [hb1] at HV1
  rw [hb2] at HV2
  rw [hb3] at HV3
  clear hb0 hb1 hb2 hb3 g0 h0 g1 h1 g2 h2 g3 h3
  obtain ⟨cm, hcm⟩ : ∃ b, decide (rcV n1 m1 n0 m0 ≤ 0) = b := ⟨_, rfl⟩
  rw [hcm] at HM
  have e10 : (b0 = true ∧ b1 = true ∧ b2 = true ∧ b3 = true) → (c0 = true ∧ c1 = true ∧ c2 = true ∧ c3 = true) → E = if cm = true then 1 else 0 := fun v c => by
    rw [e9 v c, ← hcm]
    by_cases h : rcV n1 m1 n0 m0 ≤ 0
    · rw [if_pos h, decide_eq_true h, if_pos rfl]
    · rw [if_neg h, decide_eq_false h, if_neg (by decide)]
  clear e9 hcm
  replace S := Lib.hid (S.out.box 26 [.slice q0.a n0.length q0.c, .slice r0.a m0.length r0.c])
  obtain ⟨⟨z0, f0, y0, y0a, -⟩, -⟩ := S.out.facts
  clear z0 f0 y0 y0a
  replace S := Lib.hid (S.out.box' 26 [.slice q1.a n1.length q1.c, .slice r1.a m1.length r1.c] (K := w.heap.size + 1) (by simp))
  obtain ⟨⟨z1, f1, y1, y1a, -⟩, ⟨z0, f0, y0, y0a, -⟩, -⟩ := S.out.facts
  clear z1 f1 y1 y1a z0 f0 y0 y0a
  replace S := Lib.hid (S.out.box' 26 [.slice q2.a n2.length q2.c, .slice r2.a m2.length r2.c] (K := w.heap.size + 1 + 1) (by simp))
  obtain ⟨⟨z2, f2, y2, y2a, -⟩, ⟨z1, f1, y1, y1a, -⟩, ⟨z0, f0, y0, y0a, -⟩, -⟩ := S.out.facts
  clear z2 f2 y2 y2a z1 f1 y1 y1a z0 f0 y0 y0a
  replace S := Lib.hid (S.out.box' 26 [.slice q3.a n3.length q3.c, .slice r3.a m3.length r3.c] (K := w.heap.size + 1 + 1 + 1) (by simp))
  obtain ⟨⟨z3, f3, y3, y3a, -⟩, ⟨z2, f2, y2, y2a, -⟩, ⟨z1, f1, y1, y1a, -⟩, ⟨z0, f0, y0, y0a, -⟩, -⟩ := S.out.facts
  clear z3 f3 y3 y3a z2 f2 y2 y2a z1 f1 y1 y1a z0 f0 y0 y0a
  cases b0 with
  | false =>
    have e := e1 (by simp)
    subst e
    clear e1 e7 e10 HM HV1 HV2 HV3 HP0 HP1 HP2 HP3
    obtain ⟨⟨z3, f3, y3, y3a, -⟩, ⟨z2, f2, y2, y2a, -⟩, ⟨z1, f1, y1, y1a, -⟩, ⟨z0, f0, y0, y0a, -⟩, -⟩ := S.out.facts
    go_enter Tryz.func12, Tryz.ntmps12
    go_wp2_with fail
    refine (HV0.out q0 r0 _ (natOld S.out (by simp)) (natOld S.out (by simp))).mono ?_
    rintro e w1 ⟨rfl, hb⟩
    replace S := Lib.hid (S.out.call hb)
    clear hb
    clear z3 f3 y3 y3a z2 f2 y2 y2a z1 f1 y1 y1a z0 f0 y0 y0a
    obtain ⟨⟨z3, f3, y3, y3a, -⟩, ⟨z2, f2, y2, y2a, -⟩, ⟨z1, f1, y1, y1a, -⟩, ⟨z0, f0, y0, y0a, -⟩, -⟩ := S.out.facts
    go_wp2
    go_ret
    exact ⟨rfl, S.out.bel⟩
  | true =>
    cases b1 with
    | false =>
      have e := e1 (by simp)
      subst e
      clear e1 e7 e10 HM HV2 HV3 HP0 HP1 HP2 HP3
      obtain ⟨⟨z3, f3, y3, y3a, -⟩, ⟨z2, f2, y2, y2a, -⟩, ⟨z1, f1, y1, y1a, -⟩, ⟨z0, f0, y0, y0a, -⟩, -⟩ := S.out.facts
      go_enter Tryz.func12, Tryz.ntmps12
      go_wp2_with fail
      refine (HV0.out q0 r0 _ (natOld S.out (by simp)) (natOld S.out (by simp))).mono ?_
      rintro e w1 ⟨rfl, hb⟩
      replace S := Lib.hid (S.out.call hb)
      clear hb
      clear z3 f3 y3 y3a z2 f2 y2 y2a z1 f1 y1 y1a z0 f0 y0 y0a
      obtain ⟨⟨z3, f3, y3, y3a, -⟩, ⟨z2, f2, y2, y2a, -⟩, ⟨z1, f1, y1, y1a, -⟩, ⟨z0, f0, y0, y0a, -⟩, -⟩ := S.out.facts
      go_wp2_with fail
      refine (HV1.out q1 r1 _ (natOld S.out (by simp)) (natOld S.out (by simp))).mono ?_
      rintro e w2 ⟨rfl, hb⟩
      replace S := Lib.hid (S.out.call hb)
      clear hb
      clear z3 f3 y3 y3a z2 f2 y2 y2a z1 f1 y1 y1a z0 f0 y0 y0a
      obtain ⟨⟨z3, f3, y3, y3a, -⟩, ⟨z2, f2, y2, y2a, -⟩, ⟨z1, f1, y1, y1a, -⟩, ⟨z0, f0, y0, y0a, -⟩, -⟩ := S.out.facts
      go_wp2
      go_ret
      exact ⟨rfl, S.out.bel⟩
    | true =>
      cases b2 with
      | false =>
        have e := e1 (by simp)
        subst e
        clear e1 e7 e10 HM HV3 HP0 HP1 HP2 HP3
        obtain ⟨⟨z3, f3, y3, y3a, -⟩, ⟨z2, f2, y2, y2a, -⟩, ⟨z1, f1, y1, y1a, -⟩, ⟨z0, f0, y0, y0a, -⟩, -⟩ := S.out.facts
        go_enter Tryz.func12, Tryz.ntmps12
        go_wp2_with fail
        refine (HV0.out q0 r0 _ (natOld S.out (by simp)) (natOld S.out (by simp))).mono ?_
        rintro e w1 ⟨rfl, hb⟩
        replace S := Lib.hid (S.out.call hb)
        clear hb
        clear z3 f3 y3 y3a z2 f2 y2 y2a z1 f1 y1 y1a z0 f0 y0 y0a
        obtain ⟨⟨z3, f3, y3, y3a, -⟩, ⟨z2, f2, y2, y2a, -⟩, ⟨z1, f1, y1, y1a, -⟩, ⟨z0, f0, y0, y0a, -⟩, -⟩ := S.out.facts
        go_wp2_with fail
        refine (HV1.out q1 r1 _ (natOld S.out (by simp)) (natOld S.out (by simp))).mono ?_
        rintro e w2 ⟨rfl, hb⟩
        replace S := Lib.hid (S.out.call hb)
        clear hb
        clear z3 f3 y3 y3a z2 f2 y2 y2a z1 f1 y1 y1a z0 f0 y0 y0a
        obtain ⟨⟨z3, f3, y3, y3a, -⟩, ⟨z2, f2, y2, y2a, -⟩, ⟨z1, f1, y1, y1a, -⟩, ⟨z0, f0, y0, y0a, -⟩, -⟩ := S.out.facts
        go_wp2_with fail
        refine (HV2.out q2 r2 _ (natOld S.out (by simp)) (natOld S.out (by simp))).mono ?_
        rintro e w3 ⟨rfl, hb⟩
        replace S := Lib.hid (S.out.call hb)
        clear hb
        clear z3 f3 y3 y3a z2 f2 y2 y2a z1 f1 y1 y1a z0 f0 y0 y0a
        obtain ⟨⟨z3, f3, y3, y3a, -⟩, ⟨z2, f2, y2, y2a, -⟩, ⟨z1, f1, y1, y1a, -⟩, ⟨z0, f0, y0, y0a, -⟩, -⟩ := S.out.facts
        go_wp2
        go_ret
        exact ⟨rfl, S.out.bel⟩
      | true =>
        cases b3 with
        | false =>
          have e := e1 (by simp)
          subst e
          clear e1 e7 e10 HM HP0 HP1 HP2 HP3
          obtain ⟨⟨z3, f3, y3, y3a, -⟩, ⟨z2, f2, y2, y2a, -⟩, ⟨z1, f1, y1, y1a, -⟩, ⟨z0, f0, y0, y0a, -⟩, -⟩ := S.out.facts
          go_enter Tryz.func12, Tryz.ntmps12
          go_wp2_with fail
          refine (HV0.out q0 r0 _ (natOld S.out (by simp)) (natOld S.out (by simp))).mono ?_
          rintro e w1 ⟨rfl, hb⟩
          replace S := Lib.hid (S.out.call hb)
          clear hb
          clear z3 f3 y3 y3a z2 f2 y2 y2a z1 f1 y1 y1a z0 f0 y0 y0a
          obtain ⟨⟨z3, f3, y3, y3a, -⟩, ⟨z2, f2, y2, y2a, -⟩, ⟨z1, f1, y1, y1a, -⟩, ⟨z0, f0, y0, y0a, -⟩, -⟩ := S.out.facts
          go_wp2_with fail
          refine (HV1.out q1 r1 _ (natOld S.out (by simp)) (natOld S.out (by simp))).mono ?_
          rintro e w2 ⟨rfl, hb⟩
          replace S := Lib.hid (S.out.call hb)
          clear hb
          clear z3 f3 y3 y3a z2 f2 y2 y2a z1 f1 y1 y1a z0 f0 y0 y0a
          obtain ⟨⟨z3, f3, y3, y3a, -⟩, ⟨z2, f2, y2, y2a, -⟩, ⟨z1, f1, y1, y1a, -⟩, ⟨z0, f0, y0, y0a, -⟩, -⟩ := S.out.facts
          go_wp2_with fail
          refine (HV2.out q2 r2 _ (natOld S.out (by simp)) (natOld S.out (by simp))).mono ?_
          rintro e w3 ⟨rfl, hb⟩
          replace S := Lib.hid (S.out.call hb)
          clear hb
          clear z3 f3 y3 y3a z2 f2 y2 y2a z1 f1 y1 y1a z0 f0 y0 y0a
          obtain ⟨⟨z3, f3, y3, y3a, -⟩, ⟨z2, f2, y2, y2a, -⟩, ⟨z1, f1, y1, y1a, -⟩, ⟨z0, f0, y0, y0a, -⟩, -⟩ := S.out.facts
          go_wp2_with fail
          refine (HV3.out q3 r3 _ (natOld S.out (by simp)) (natOld S.out (by simp))).mono ?_
          rintro e w4 ⟨rfl, hb⟩
          replace S := Lib.hid (S.out.call hb)
          clear hb
          clear z3 f3 y3 y3a z2 f2 y2 y2a z1 f1 y1 y1a z0 f0 y0 y0a
          obtain ⟨⟨z3, f3, y3, y3a, -⟩, ⟨z2, f2, y2, y2a, -⟩, ⟨z1, f1, y1, y1a, -⟩, ⟨z0, f0, y0, y0a, -⟩, -⟩ := S.out.facts
          go_wp2
          go_ret
          exact ⟨rfl, S.out.bel⟩
        | true =>
          cases c0 with
          | false =>
            have e := e7 (by simp) (by simp)
            subst e
            clear e1 e7 e10 HM HP1 HP2 HP3
            obtain ⟨⟨z3, f3, y3, y3a, -⟩, ⟨z2, f2, y2, y2a, -⟩, ⟨z1, f1, y1, y1a, -⟩, ⟨z0, f0, y0, y0a, -⟩, -⟩ := S.out.facts
            go_enter Tryz.func12, Tryz.ntmps12
            go_wp2_with fail
            refine (HV0.out q0 r0 _ (natOld S.out (by simp)) (natOld S.out (by simp))).mono ?_
            rintro e w1 ⟨rfl, hb⟩
            replace S := Lib.hid (S.out.call hb)
            clear hb
            clear z3 f3 y3 y3a z2 f2 y2 y2a z1 f1 y1 y1a z0 f0 y0 y0a
            obtain ⟨⟨z3, f3, y3, y3a, -⟩, ⟨z2, f2, y2, y2a, -⟩, ⟨z1, f1, y1, y1a, -⟩, ⟨z0, f0, y0, y0a, -⟩, -⟩ := S.out.facts
            go_wp2_with fail
            refine (HV1.out q1 r1 _ (natOld S.out (by simp)) (natOld S.out (by simp))).mono ?_
            rintro e w2 ⟨rfl, hb⟩
            replace S := Lib.hid (S.out.call hb)
            clear hb
            clear z3 f3 y3 y3a z2 f2 y2 y2a z1 f1 y1 y1a z0 f0 y0 y0a
            obtain ⟨⟨z3, f3, y3, y3a, -⟩, ⟨z2, f2, y2, y2a, -⟩, ⟨z1, f1, y1, y1a, -⟩, ⟨z0, f0, y0, y0a, -⟩, -⟩ := S.out.facts
            go_wp2_with fail
            refine (HV2.out q2 r2 _ (natOld S.out (by simp)) (natOld S.out (by simp))).mono ?_
            rintro e w3 ⟨rfl, hb⟩
            replace S := Lib.hid (S.out.call hb)
            clear hb
            clear z3 f3 y3 y3a z2 f2 y2 y2a z1 f1 y1 y1a z0 f0 y0 y0a
            obtain ⟨⟨z3, f3, y3, y3a, -⟩, ⟨z2, f2, y2, y2a, -⟩, ⟨z1, f1, y1, y1a, -⟩, ⟨z0, f0, y0, y0a, -⟩, -⟩ := S.out.facts
            go_wp2_with fail
            refine (HV3.out q3 r3 _ (natOld S.out (by simp)) (natOld S.out (by simp))).mono ?_
            rintro e w4 ⟨rfl, hb⟩
            replace S := Lib.hid (S.out.call hb)
            clear hb
            clear z3 f3 y3 y3a z2 f2 y2 y2a z1 f1 y1 y1a z0 f0 y0 y0a
            obtain ⟨⟨z3, f3, y3, y3a, -⟩, ⟨z2, f2, y2, y2a, -⟩, ⟨z1, f1, y1, y1a, -⟩, ⟨z0, f0, y0, y0a, -⟩, -⟩ := S.out.facts
            go_wp2_with fail
            refine (HP0.out q0 r0 _ (natOld S.out (by simp)) (natOld S.out (by simp))).mono ?_
            rintro e w5 ⟨rfl, hb⟩
            replace S := Lib.hid (S.out.call hb)
            clear hb
            clear z3 f3 y3 y3a z2 f2 y2 y2a z1 f1 y1 y1a z0 f0 y0 y0a
            obtain ⟨⟨z3, f3, y3, y3a, -⟩, ⟨z2, f2, y2, y2a, -⟩, ⟨z1, f1, y1, y1a, -⟩, ⟨z0, f0, y0, y0a, -⟩, -⟩ := S.out.facts
            go_wp2
            go_ret
            exact ⟨rfl, S.out.bel⟩
          | true =>
            cases c1 with
            | false =>
              have e := e7 (by simp) (by simp)
              subst e
              clear e1 e7 e10 HM HP2 HP3
              obtain ⟨⟨z3, f3, y3, y3a, -⟩, ⟨z2, f2, y2, y2a, -⟩, ⟨z1, f1, y1, y1a, -⟩, ⟨z0, f0, y0, y0a, -⟩, -⟩ := S.out.facts
              go_enter Tryz.func12, Tryz.ntmps12
              go_wp2_with fail
              refine (HV0.out q0 r0 _ (natOld S.out (by simp)) (natOld S.out (by simp))).mono ?_
              rintro e w1 ⟨rfl, hb⟩
              replace S := Lib.hid (S.out.call hb)
              clear hb
              clear z3 f3 y3 y3a z2 f2 y2 y2a z1 f1 y1 y1a z0 f0 y0 y0a
              obtain ⟨⟨z3, f3, y3, y3a, -⟩, ⟨z2, f2, y2, y2a, -⟩, ⟨z1, f1, y1, y1a, -⟩, ⟨z0, f0, y0, y0a, -⟩, -⟩ := S.out.facts
              go_wp2_with fail
              refine (HV1.out q1 r1 _ (natOld S.out (by simp)) (natOld S.out (by simp))).mono ?_
              rintro e w2 ⟨rfl, hb⟩
              replace S := Lib.hid (S.out.call hb)
              clear hb
              clear z3 f3 y3 y3a z2 f2 y2 y2a z1 f1 y1 y1a z0 f0 y0 y0a
              obtain ⟨⟨z3, f3, y3, y3a, -⟩, ⟨z2, f2, y2, y2a, -⟩, ⟨z1, f1, y1, y1a, -⟩, ⟨z0, f0, y0, y0a, -⟩, -⟩ := S.out.facts
              go_wp2_with fail
              refine (HV2.out q2 r2 _ (natOld S.out (by simp)) (natOld S.out (by simp))).mono ?_
              rintro e w3 ⟨rfl, hb⟩
              replace S := Lib.hid (S.out.call hb)
              clear hb
              clear z3 f3 y3 y3a z2 f2 y2 y2a z1 f1 y1 y1a z0 f0 y0 y0a
              obtain ⟨⟨z3, f3, y3, y3a, -⟩, ⟨z2, f2, y2, y2a, -⟩, ⟨z1, f1, y1, y1a, -⟩, ⟨z0, f0, y0, y0a, -⟩, -⟩ := S.out.facts
              go_wp2_with fail
              refine (HV3.out q3 r3 _ (natOld S.out (by simp)) (natOld S.out (by simp))).mono ?_
              rintro e w4 ⟨rfl, hb⟩
              replace S := Lib.hid (S.out.call hb)
              clear hb
              clear z3 f3 y3 y3a z2 f2 y2 y2a z1 f1 y1 y1a z0 f0 y0 y0a
              obtain ⟨⟨z3, f3, y3, y3a, -⟩, ⟨z2, f2, y2, y2a, -⟩, ⟨z1, f1, y1, y1a, -⟩, ⟨z0, f0, y0, y0a, -⟩, -⟩ := S.out.facts
              go_wp2_with fail
              refine (HP0.out q0 r0 _ (natOld S.out (by simp)) (natOld S.out (by simp))).mono ?_
              rintro e w5 ⟨rfl, hb⟩
              replace S := Lib.hid (S.out.call hb)
              clear hb
              clear z3 f3 y3 y3a z2 f2 y2 y2a z1 f1 y1 y1a z0 f0 y0 y0a
              obtain ⟨⟨z3, f3, y3, y3a, -⟩, ⟨z2, f2, y2, y2a, -⟩, ⟨z1, f1, y1, y1a, -⟩, ⟨z0, f0, y0, y0a, -⟩, -⟩ := S.out.facts
              go_wp2_with fail
              refine (HP1.out q1 r1 _ (natOld S.out (by simp)) (natOld S.out (by simp))).mono ?_
              rintro e w6 ⟨rfl, hb⟩
              replace S := Lib.hid (S.out.call hb)
              clear hb
              clear z3 f3 y3 y3a z2 f2 y2 y2a z1 f1 y1 y1a z0 f0 y0 y0a
              obtain ⟨⟨z3, f3, y3, y3a, -⟩, ⟨z2, f2, y2, y2a, -⟩, ⟨z1, f1, y1, y1a, -⟩, ⟨z0, f0, y0, y0a, -⟩, -⟩ := S.out.facts
              go_wp2
              go_ret
              exact ⟨rfl, S.out.bel⟩
            | true =>
              cases c2 with
              | false =>
                have e := e7 (by simp) (by simp)
                subst e
                clear e1 e7 e10 HM HP3
                obtain ⟨⟨z3, f3, y3, y3a, -⟩, ⟨z2, f2, y2, y2a, -⟩, ⟨z1, f1, y1, y1a, -⟩, ⟨z0, f0, y0, y0a, -⟩, -⟩ := S.out.facts
                go_enter Tryz.func12, Tryz.ntmps12
                go_wp2_with fail
                refine (HV0.out q0 r0 _ (natOld S.out (by simp)) (natOld S.out (by simp))).mono ?_
                rintro e w1 ⟨rfl, hb⟩
                replace S := Lib.hid (S.out.call hb)
                clear hb
                clear z3 f3 y3 y3a z2 f2 y2 y2a z1 f1 y1 y1a z0 f0 y0 y0a
                obtain ⟨⟨z3, f3, y3, y3a, -⟩, ⟨z2, f2, y2, y2a, -⟩, ⟨z1, f1, y1, y1a, -⟩, ⟨z0, f0, y0, y0a, -⟩, -⟩ := S.out.facts
                go_wp2_with fail
                refine (HV1.out q1 r1 _ (natOld S.out (by simp)) (natOld S.out (by simp))).mono ?_
                rintro e w2 ⟨rfl, hb⟩
                replace S := Lib.hid (S.out.call hb)
                clear hb
                clear z3 f3 y3 y3a z2 f2 y2 y2a z1 f1 y1 y1a z0 f0 y0 y0a
                obtain ⟨⟨z3, f3, y3, y3a, -⟩, ⟨z2, f2, y2, y2a, -⟩, ⟨z1, f1, y1, y1a, -⟩, ⟨z0, f0, y0, y0a, -⟩, -⟩ := S.out.facts
                go_wp2_with fail
                refine (HV2.out q2 r2 _ (natOld S.out (by simp)) (natOld S.out (by simp))).mono ?_
                rintro e w3 ⟨rfl, hb⟩
                replace S := Lib.hid (S.out.call hb)
                clear hb
                clear z3 f3 y3 y3a z2 f2 y2 y2a z1 f1 y1 y1a z0 f0 y0 y0a
                obtain ⟨⟨z3, f3, y3, y3a, -⟩, ⟨z2, f2, y2, y2a, -⟩, ⟨z1, f1, y1, y1a, -⟩, ⟨z0, f0, y0, y0a, -⟩, -⟩ := S.out.facts
                go_wp2_with fail
                refine (HV3.out q3 r3 _ (natOld S.out (by simp)) (natOld S.out (by simp))).mono ?_
                rintro e w4 ⟨rfl, hb⟩
                replace S := Lib.hid (S.out.call hb)
                clear hb
                clear z3 f3 y3 y3a z2 f2 y2 y2a z1 f1 y1 y1a z0 f0 y0 y0a
                obtain ⟨⟨z3, f3, y3, y3a, -⟩, ⟨z2, f2, y2, y2a, -⟩, ⟨z1, f1, y1, y1a, -⟩, ⟨z0, f0, y0, y0a, -⟩, -⟩ := S.out.facts
                go_wp2_with fail
                refine (HP0.out q0 r0 _ (natOld S.out (by simp)) (natOld S.out (by simp))).mono ?_
                rintro e w5 ⟨rfl, hb⟩
                replace S := Lib.hid (S.out.call hb)
                clear hb
                clear z3 f3 y3 y3a z2 f2 y2 y2a z1 f1 y1 y1a z0 f0 y0 y0a
                obtain ⟨⟨z3, f3, y3, y3a, -⟩, ⟨z2, f2, y2, y2a, -⟩, ⟨z1, f1, y1, y1a, -⟩, ⟨z0, f0, y0, y0a, -⟩, -⟩ := S.out.facts
                go_wp2_with fail
                refine (HP1.out q1 r1 _ (natOld S.out (by simp)) (natOld S.out (by simp))).mono ?_
                rintro e w6 ⟨rfl, hb⟩
                replace S := Lib.hid (S.out.call hb)
                clear hb
                clear z3 f3 y3 y3a z2 f2 y2 y2a z1 f1 y1 y1a z0 f0 y0 y0a
                obtain ⟨⟨z3, f3, y3, y3a, -⟩, ⟨z2, f2, y2, y2a, -⟩, ⟨z1, f1, y1, y1a, -⟩, ⟨z0, f0, y0, y0a, -⟩, -⟩ := S.out.facts
                go_wp2_with fail
                refine (HP2.out q2 r2 _ (natOld S.out (by simp)) (natOld S.out (by simp))).mono ?_
                rintro e w7 ⟨rfl, hb⟩
                replace S := Lib.hid (S.out.call hb)
                clear hb
                clear z3 f3 y3 y3a z2 f2 y2 y2a z1 f1 y1 y1a z0 f0 y0 y0a
                obtain ⟨⟨z3, f3, y3, y3a, -⟩, ⟨z2, f2, y2, y2a, -⟩, ⟨z1, f1, y1, y1a, -⟩, ⟨z0, f0, y0, y0a, -⟩, -⟩ := S.out.facts
                go_wp2
                go_ret
                exact ⟨rfl, S.out.bel⟩
              | true =>
                cases c3 with
                | false =>
                  have e := e7 (by simp) (by simp)
                  subst e
                  clear e1 e7 e10 HM
                  obtain ⟨⟨z3, f3, y3, y3a, -⟩, ⟨z2, f2, y2, y2a, -⟩, ⟨z1, f1, y1, y1a, -⟩, ⟨z0, f0, y0, y0a, -⟩, -⟩ := S.out.facts
                  go_enter Tryz.func12, Tryz.ntmps12
                  go_wp2_with fail
                  refine (HV0.out q0 r0 _ (natOld S.out (by simp)) (natOld S.out (by simp))).mono ?_
                  rintro e w1 ⟨rfl, hb⟩
                  replace S := Lib.hid (S.out.call hb)
                  clear hb
                  clear z3 f3 y3 y3a z2 f2 y2 y2a z1 f1 y1 y1a z0 f0 y0 y0a
                  obtain ⟨⟨z3, f3, y3, y3a, -⟩, ⟨z2, f2, y2, y2a, -⟩, ⟨z1, f1, y1, y1a, -⟩, ⟨z0, f0, y0, y0a, -⟩, -⟩ := S.out.facts
                  go_wp2_with fail
                  refine (HV1.out q1 r1 _ (natOld S.out (by simp)) (natOld S.out (by simp))).mono ?_
                  rintro e w2 ⟨rfl, hb⟩
                  replace S := Lib.hid (S.out.call hb)
                  clear hb
                  clear z3 f3 y3 y3a z2 f2 y2 y2a z1 f1 y1 y1a z0 f0 y0 y0a
                  obtain ⟨⟨z3, f3, y3, y3a, -⟩, ⟨z2, f2, y2, y2a, -⟩, ⟨z1, f1, y1, y1a, -⟩, ⟨z0, f0, y0, y0a, -⟩, -⟩ := S.out.facts
                  go_wp2_with fail
                  refine (HV2.out q2 r2 _ (natOld S.out (by simp)) (natOld S.out (by simp))).mono ?_
                  rintro e w3 ⟨rfl, hb⟩
                  replace S := Lib.hid (S.out.call hb)
                  clear hb
                  clear z3 f3 y3 y3a z2 f2 y2 y2a z1 f1 y1 y1a z0 f0 y0 y0a
                  obtain ⟨⟨z3, f3, y3, y3a, -⟩, ⟨z2, f2, y2, y2a, -⟩, ⟨z1, f1, y1, y1a, -⟩, ⟨z0, f0, y0, y0a, -⟩, -⟩ := S.out.facts
                  go_wp2_with fail
                  refine (HV3.out q3 r3 _ (natOld S.out (by simp)) (natOld S.out (by simp))).mono ?_
                  rintro e w4 ⟨rfl, hb⟩
                  replace S := Lib.hid (S.out.call hb)
                  clear hb
                  clear z3 f3 y3 y3a z2 f2 y2 y2a z1 f1 y1 y1a z0 f0 y0 y0a
                  obtain ⟨⟨z3, f3, y3, y3a, -⟩, ⟨z2, f2, y2, y2a, -⟩, ⟨z1, f1, y1, y1a, -⟩, ⟨z0, f0, y0, y0a, -⟩, -⟩ := S.out.facts
                  go_wp2_with fail
                  refine (HP0.out q0 r0 _ (natOld S.out (by simp)) (natOld S.out (by simp))).mono ?_
                  rintro e w5 ⟨rfl, hb⟩
                  replace S := Lib.hid (S.out.call hb)
                  clear hb
                  clear z3 f3 y3 y3a z2 f2 y2 y2a z1 f1 y1 y1a z0 f0 y0 y0a
                  obtain ⟨⟨z3, f3, y3, y3a, -⟩, ⟨z2, f2, y2, y2a, -⟩, ⟨z1, f1, y1, y1a, -⟩, ⟨z0, f0, y0, y0a, -⟩, -⟩ := S.out.facts
                  go_wp2_with fail
                  refine (HP1.out q1 r1 _ (natOld S.out (by simp)) (natOld S.out (by simp))).mono ?_
                  rintro e w6 ⟨rfl, hb⟩
                  replace S := Lib.hid (S.out.call hb)
                  clear hb
                  clear z3 f3 y3 y3a z2 f2 y2 y2a z1 f1 y1 y1a z0 f0 y0 y0a
                  obtain ⟨⟨z3, f3, y3, y3a, -⟩, ⟨z2, f2, y2, y2a, -⟩, ⟨z1, f1, y1, y1a, -⟩, ⟨z0, f0, y0, y0a, -⟩, -⟩ := S.out.facts
                  go_wp2_with fail
                  refine (HP2.out q2 r2 _ (natOld S.out (by simp)) (natOld S.out (by simp))).mono ?_
                  rintro e w7 ⟨rfl, hb⟩
                  replace S := Lib.hid (S.out.call hb)
                  clear hb
                  clear z3 f3 y3 y3a z2 f2 y2 y2a z1 f1 y1 y1a z0 f0 y0 y0a
                  obtain ⟨⟨z3, f3, y3, y3a, -⟩, ⟨z2, f2, y2, y2a, -⟩, ⟨z1, f1, y1, y1a, -⟩, ⟨z0, f0, y0, y0a, -⟩, -⟩ := S.out.facts
                  go_wp2_with fail
                  refine (HP3.out q3 r3 _ (natOld S.out (by simp)) (natOld S.out (by simp))).mono ?_
                  rintro e w8 ⟨rfl, hb⟩
                  replace S := Lib.hid (S.out.call hb)
                  clear hb
                  clear z3 f3 y3 y3a z2 f2 y2 y2a z1 f1 y1 y1a z0 f0 y0 y0a
                  obtain ⟨⟨z3, f3, y3, y3a, -⟩, ⟨z2, f2, y2, y2a, -⟩, ⟨z1, f1, y1, y1a, -⟩, ⟨z0, f0, y0, y0a, -⟩, -⟩ := S.out.facts
                  go_wp2
                  go_ret
                  exact ⟨rfl, S.out.bel⟩
                | true =>
                  have e := e10 (by simp) (by simp)
                  clear e1 e7 e10
                  cases cm with
                  | true =>
                    rw [if_pos rfl] at e
                    subst e
                    obtain ⟨⟨z3, f3, y3, y3a, -⟩, ⟨z2, f2, y2, y2a, -⟩, ⟨z1, f1, y1, y1a, -⟩, ⟨z0, f0, y0, y0a, -⟩, -⟩ := S.out.facts
                    go_enter Tryz.func12, Tryz.ntmps12
                    go_wp2_with fail
                    refine (HV0.out q0 r0 _ (natOld S.out (by simp)) (natOld S.out (by simp))).mono ?_
                    rintro e w1 ⟨rfl, hb⟩
                    replace S := Lib.hid (S.out.call hb)
                    clear hb
                    clear z3 f3 y3 y3a z2 f2 y2 y2a z1 f1 y1 y1a z0 f0 y0 y0a
                    obtain ⟨⟨z3, f3, y3, y3a, -⟩, ⟨z2, f2, y2, y2a, -⟩, ⟨z1, f1, y1, y1a, -⟩, ⟨z0, f0, y0, y0a, -⟩, -⟩ := S.out.facts
                    go_wp2_with fail
                    refine (HV1.out q1 r1 _ (natOld S.out (by simp)) (natOld S.out (by simp))).mono ?_
                    rintro e w2 ⟨rfl, hb⟩
                    replace S := Lib.hid (S.out.call hb)
                    clear hb
                    clear z3 f3 y3 y3a z2 f2 y2 y2a z1 f1 y1 y1a z0 f0 y0 y0a
                    obtain ⟨⟨z3, f3, y3, y3a, -⟩, ⟨z2, f2, y2, y2a, -⟩, ⟨z1, f1, y1, y1a, -⟩, ⟨z0, f0, y0, y0a, -⟩, -⟩ := S.out.facts
                    go_wp2_with fail
                    refine (HV2.out q2 r2 _ (natOld S.out (by simp)) (natOld S.out (by simp))).mono ?_
                    rintro e w3 ⟨rfl, hb⟩
                    replace S := Lib.hid (S.out.call hb)
                    clear hb
                    clear z3 f3 y3 y3a z2 f2 y2 y2a z1 f1 y1 y1a z0 f0 y0 y0a
                    obtain ⟨⟨z3, f3, y3, y3a, -⟩, ⟨z2, f2, y2, y2a, -⟩, ⟨z1, f1, y1, y1a, -⟩, ⟨z0, f0, y0, y0a, -⟩, -⟩ := S.out.facts
                    go_wp2_with fail
                    refine (HV3.out q3 r3 _ (natOld S.out (by simp)) (natOld S.out (by simp))).mono ?_
                    rintro e w4 ⟨rfl, hb⟩
                    replace S := Lib.hid (S.out.call hb)
                    clear hb
                    clear z3 f3 y3 y3a z2 f2 y2 y2a z1 f1 y1 y1a z0 f0 y0 y0a
                    obtain ⟨⟨z3, f3, y3, y3a, -⟩, ⟨z2, f2, y2, y2a, -⟩, ⟨z1, f1, y1, y1a, -⟩, ⟨z0, f0, y0, y0a, -⟩, -⟩ := S.out.facts
                    go_wp2_with fail
                    refine (HP0.out q0 r0 _ (natOld S.out (by simp)) (natOld S.out (by simp))).mono ?_
                    rintro e w5 ⟨rfl, hb⟩
                    replace S := Lib.hid (S.out.call hb)
                    clear hb
                    clear z3 f3 y3 y3a z2 f2 y2 y2a z1 f1 y1 y1a z0 f0 y0 y0a
                    obtain ⟨⟨z3, f3, y3, y3a, -⟩, ⟨z2, f2, y2, y2a, -⟩, ⟨z1, f1, y1, y1a, -⟩, ⟨z0, f0, y0, y0a, -⟩, -⟩ := S.out.facts
                    go_wp2_with fail
                    refine (HP1.out q1 r1 _ (natOld S.out (by simp)) (natOld S.out (by simp))).mono ?_
                    rintro e w6 ⟨rfl, hb⟩
                    replace S := Lib.hid (S.out.call hb)
                    clear hb
                    clear z3 f3 y3 y3a z2 f2 y2 y2a z1 f1 y1 y1a z0 f0 y0 y0a
                    obtain ⟨⟨z3, f3, y3, y3a, -⟩, ⟨z2, f2, y2, y2a, -⟩, ⟨z1, f1, y1, y1a, -⟩, ⟨z0, f0, y0, y0a, -⟩, -⟩ := S.out.facts
                    go_wp2_with fail
                    refine (HP2.out q2 r2 _ (natOld S.out (by simp)) (natOld S.out (by simp))).mono ?_
                    rintro e w7 ⟨rfl, hb⟩
                    replace S := Lib.hid (S.out.call hb)
                    clear hb
                    clear z3 f3 y3 y3a z2 f2 y2 y2a z1 f1 y1 y1a z0 f0 y0 y0a
                    obtain ⟨⟨z3, f3, y3, y3a, -⟩, ⟨z2, f2, y2, y2a, -⟩, ⟨z1, f1, y1, y1a, -⟩, ⟨z0, f0, y0, y0a, -⟩, -⟩ := S.out.facts
                    go_wp2_with fail
                    refine (HP3.out q3 r3 _ (natOld S.out (by simp)) (natOld S.out (by simp))).mono ?_
                    rintro e w8 ⟨rfl, hb⟩
                    replace S := Lib.hid (S.out.call hb)
                    clear hb
                    clear z3 f3 y3 y3a z2 f2 y2 y2a z1 f1 y1 y1a z0 f0 y0 y0a
                    obtain ⟨⟨z3, f3, y3, y3a, -⟩, ⟨z2, f2, y2, y2a, -⟩, ⟨z1, f1, y1, y1a, -⟩, ⟨z0, f0, y0, y0a, -⟩, -⟩ := S.out.facts
                    go_wp2_with fail
                    refine (HM.out q1 r1 q0 r0 _ (natOld S.out (by simp)) (natOld S.out (by simp)) (natOld S.out (by simp)) (natOld S.out (by simp))).mono ?_
                    rintro e w9 ⟨rfl, hb⟩
                    replace S := Lib.hid (S.out.call hb)
                    clear hb
                    clear z3 f3 y3 y3a z2 f2 y2 y2a z1 f1 y1 y1a z0 f0 y0 y0a
                    obtain ⟨⟨z3, f3, y3, y3a, -⟩, ⟨z2, f2, y2, y2a, -⟩, ⟨z1, f1, y1, y1a, -⟩, ⟨z0, f0, y0, y0a, -⟩, -⟩ := S.out.facts
                    go_wp2
                    go_ret
                    exact ⟨rfl, S.out.bel⟩
                  | false =>
                    rw [if_neg (by decide)] at e
                    subst e
                    obtain ⟨⟨z3, f3, y3, y3a, -⟩, ⟨z2, f2, y2, y2a, -⟩, ⟨z1, f1, y1, y1a, -⟩, ⟨z0, f0, y0, y0a, -⟩, -⟩ := S.out.facts
                    go_enter Tryz.func12, Tryz.ntmps12
                    go_wp2_with fail
                    refine (HV0.out q0 r0 _ (natOld S.out (by simp)) (natOld S.out (by simp))).mono ?_
                    rintro e w1 ⟨rfl, hb⟩
                    replace S := Lib.hid (S.out.call hb)
                    clear hb
                    clear z3 f3 y3 y3a z2 f2 y2 y2a z1 f1 y1 y1a z0 f0 y0 y0a
                    obtain ⟨⟨z3, f3, y3, y3a, -⟩, ⟨z2, f2, y2, y2a, -⟩, ⟨z1, f1, y1, y1a, -⟩, ⟨z0, f0, y0, y0a, -⟩, -⟩ := S.out.facts
                    go_wp2_with fail
                    refine (HV1.out q1 r1 _ (natOld S.out (by simp)) (natOld S.out (by simp))).mono ?_
                    rintro e w2 ⟨rfl, hb⟩
                    replace S := Lib.hid (S.out.call hb)
                    clear hb
                    clear z3 f3 y3 y3a z2 f2 y2 y2a z1 f1 y1 y1a z0 f0 y0 y0a
                    obtain ⟨⟨z3, f3, y3, y3a, -⟩, ⟨z2, f2, y2, y2a, -⟩, ⟨z1, f1, y1, y1a, -⟩, ⟨z0, f0, y0, y0a, -⟩, -⟩ := S.out.facts
                    go_wp2_with fail
                    refine (HV2.out q2 r2 _ (natOld S.out (by simp)) (natOld S.out (by simp))).mono ?_
                    rintro e w3 ⟨rfl, hb⟩
                    replace S := Lib.hid (S.out.call hb)
                    clear hb
                    clear z3 f3 y3 y3a z2 f2 y2 y2a z1 f1 y1 y1a z0 f0 y0 y0a
                    obtain ⟨⟨z3, f3, y3, y3a, -⟩, ⟨z2, f2, y2, y2a, -⟩, ⟨z1, f1, y1, y1a, -⟩, ⟨z0, f0, y0, y0a, -⟩, -⟩ := S.out.facts
                    go_wp2_with fail
                    refine (HV3.out q3 r3 _ (natOld S.out (by simp)) (natOld S.out (by simp))).mono ?_
                    rintro e w4 ⟨rfl, hb⟩
                    replace S := Lib.hid (S.out.call hb)
                    clear hb
                    clear z3 f3 y3 y3a z2 f2 y2 y2a z1 f1 y1 y1a z0 f0 y0 y0a
                    obtain ⟨⟨z3, f3, y3, y3a, -⟩, ⟨z2, f2, y2, y2a, -⟩, ⟨z1, f1, y1, y1a, -⟩, ⟨z0, f0, y0, y0a, -⟩, -⟩ := S.out.facts
                    go_wp2_with fail
                    refine (HP0.out q0 r0 _ (natOld S.out (by simp)) (natOld S.out (by simp))).mono ?_
                    rintro e w5 ⟨rfl, hb⟩
                    replace S := Lib.hid (S.out.call hb)
                    clear hb
                    clear z3 f3 y3 y3a z2 f2 y2 y2a z1 f1 y1 y1a z0 f0 y0 y0a
                    obtain ⟨⟨z3, f3, y3, y3a, -⟩, ⟨z2, f2, y2, y2a, -⟩, ⟨z1, f1, y1, y1a, -⟩, ⟨z0, f0, y0, y0a, -⟩, -⟩ := S.out.facts
                    go_wp2_with fail
                    refine (HP1.out q1 r1 _ (natOld S.out (by simp)) (natOld S.out (by simp))).mono ?_
                    rintro e w6 ⟨rfl, hb⟩
                    replace S := Lib.hid (S.out.call hb)
                    clear hb
                    clear z3 f3 y3 y3a z2 f2 y2 y2a z1 f1 y1 y1a z0 f0 y0 y0a
                    obtain ⟨⟨z3, f3, y3, y3a, -⟩, ⟨z2, f2, y2, y2a, -⟩, ⟨z1, f1, y1, y1a, -⟩, ⟨z0, f0, y0, y0a, -⟩, -⟩ := S.out.facts
                    go_wp2_with fail
                    refine (HP2.out q2 r2 _ (natOld S.out (by simp)) (natOld S.out (by simp))).mono ?_
                    rintro e w7 ⟨rfl, hb⟩
                    replace S := Lib.hid (S.out.call hb)
                    clear hb
                    clear z3 f3 y3 y3a z2 f2 y2 y2a z1 f1 y1 y1a z0 f0 y0 y0a
                    obtain ⟨⟨z3, f3, y3, y3a, -⟩, ⟨z2, f2, y2, y2a, -⟩, ⟨z1, f1, y1, y1a, -⟩, ⟨z0, f0, y0, y0a, -⟩, -⟩ := S.out.facts
                    go_wp2_with fail
                    refine (HP3.out q3 r3 _ (natOld S.out (by simp)) (natOld S.out (by simp))).mono ?_
                    rintro e w8 ⟨rfl, hb⟩
                    replace S := Lib.hid (S.out.call hb)
                    clear hb
                    clear z3 f3 y3 y3a z2 f2 y2 y2a z1 f1 y1 y1a z0 f0 y0 y0a
                    obtain ⟨⟨z3, f3, y3, y3a, -⟩, ⟨z2, f2, y2, y2a, -⟩, ⟨z1, f1, y1, y1a, -⟩, ⟨z0, f0, y0, y0a, -⟩, -⟩ := S.out.facts
                    go_wp2_with fail
                    refine (HM.out q1 r1 q0 r0 _ (natOld S.out (by simp)) (natOld S.out (by simp)) (natOld S.out (by simp)) (natOld S.out (by simp))).mono ?_
                    rintro e w9 ⟨rfl, hb⟩
                    replace S := Lib.hid (S.out.call hb)
                    clear hb
                    clear z3 f3 y3 y3a z2 f2 y2 y2a z1 f1 y1 y1a z0 f0 y0 y0a
                    obtain ⟨⟨z3, f3, y3, y3a, -⟩, ⟨z2, f2, y2, y2a, -⟩, ⟨z1, f1, y1, y1a, -⟩, ⟨z0, f0, y0, y0a, -⟩, -⟩ := S.out.facts
                    go_wp2
                    go_ret
                    exact ⟨rfl, S.out.bel⟩
/-- comparing a sum with a bound -/
theorem most_is {S K n d : Nat} (hK : 0 < K) (hS : S ≤ K) (hb : BdB n d) (h8 : K ≤ 1000 ^ 8) : decide (rcV (rdN S K) (rdD S K) (lim n) (lim d) ≤ 0) = decide (S * d ≤ n * K) := by
  have hd := hb.d2
  have hn := hb.le
  have e := rd_self hb.d1 hb.g
  have sb : ∀ x, x ≤ 1000 ^ 8 * 4294967296 → sm x := fun x hx => sm_of (Nat.lt_of_le_of_lt hx (by decide +kernel))
  have b3 : 1000 ^ 8 ≤ 1000 ^ 8 * 4294967296 := by decide +kernel
  have b4 : 4294967296 ≤ 1000 ^ 8 * 4294967296 := by decide +kernel
  have m1 : S * d ≤ 1000 ^ 8 * 4294967296 := Nat.mul_le_mul (by omega) (by omega)
  have m2 : n * K ≤ 1000 ^ 8 * 4294967296 := by rw [Nat.mul_comm]; exact Nat.mul_le_mul h8 (by omega)
  have c := (fr_cmp (n := S) (d := K) (m := n) (e := d) hK hb.d1 (sb _ (by omega)) (sb _ (by omega)) (sb _ (by omega)) (sb _ (by omega)) (sb _ m1) (sb _ m2)).2
  rw [e.1, e.2] at c
  rw [c]
  exact decide_eq_decide.2 (cmp_le _ _)
set_option maxHeartbeats 8000000 in
set_option maxRecDepth 100000 in
theorem has_any (t : Tst) (q : TstP) (a0 d0 a1 d1 an ad bn bd : Nat) (q0 r0 q1 r1 q2 r2 q3 r3 : LmP) (w : World) (h : RTst w w.heap.size t q) (hbd : TBd t) (hv : validE t = 0) (h8 : t.acc.length ≤ 8) (g0 : RLm w w.heap.size (lim a0) q0) (h0 : RLm w w.heap.size (lim d0) r0) (g1 : RLm w w.heap.size (lim a1) q1) (h1 : RLm w w.heap.size (lim d1) r1) (g2 : RLm w w.heap.size (lim an) q2) (h2 : RLm w w.heap.size (lim ad) r2) (g3 : RLm w w.heap.size (lim bn) q3) (h3 : RLm w w.heap.size (lim bd) r3) (p0 : PrB a0 d0) (p1 : PrB a1 d1) (b0 : BdB an ad) (b1 : BdB bn bd) :
    Calls Tryz.prog 13 #[tstV t q, ratV (lim a0) q0 (lim d0) r0, ratV (lim a1) q1 (lim d1) r1, ratV (lim an) q2 (lim ad) r2, ratV (lim bn) q3 (lim bd) r3] w (fun e w' => e = .returned (.bool (okC t a0 d0 a1 d1 an ad bn bd)) ∧ Below w.heap.size w w') := by
  have S := Lib.hid ((natArg (natArg (natArg (natArg (natArg (natArg (natArg (natArg (Fm.init w) h3) g3) h2) g2) h1) g1) h0) g0).arg (tstRd2 t q) h (fun g hg => tst_blk h hg))
  have HF := Lib.hid (fun q qn qd w' h' h1 h2 => rfail_any t q a0 d0 qn qd w' h' hbd hv p0 h1 h2 h8)
  have HP := Lib.hid (fun q qn qd w' h' h1 h2 => rpass_any t q a1 d1 qn qd w' h' hbd hv p1 h1 h2 h8)
  have hv0 : okC t a0 d0 a1 d1 an ad bn bd = (decide (allS (VT t) a0 (d0 - a0) t.acc.length kF * ad ≤ an * d0 ^ t.acc.length) && decide (allS (VT t) a1 (d1 - a1) t.acc.length kP * bd ≤ bn * d1 ^ t.acc.length)) := rfl
  have m0 := most_is (pw8 p0 h8).1 (sumS_le (t := t) p0 (k := kF) (.inl rfl)) b0 (pw8 p0 h8).2
  have m1 := most_is (pw8 p1 h8).1 (sumS_le (t := t) p1 (k := kP) (.inr rfl)) b1 (pw8 p1 h8).2
  rw [← m0, ← m1] at hv0
  generalize okC t a0 d0 a1 d1 an ad bn bd = ok at *
  have lF : Lim (rdN (allS (VT t) a0 (d0 - a0) t.acc.length kF) (d0 ^ t.acc.length)) ∧ Lim (rdD (allS (VT t) a0 (d0 - a0) t.acc.length kF) (d0 ^ t.acc.length)) := by
    obtain ⟨p, q, e1, e2, -⟩ := rd_val (N := allS (VT t) a0 (d0 - a0) t.acc.length kF) (D := d0 ^ t.acc.length) (pw8 p0 h8).1
    rw [e1, e2]
    exact ⟨lim_lim _, lim_lim _⟩
  have lP : Lim (rdN (allS (VT t) a1 (d1 - a1) t.acc.length kP) (d1 ^ t.acc.length)) ∧ Lim (rdD (allS (VT t) a1 (d1 - a1) t.acc.length kP) (d1 ^ t.acc.length)) := by
    obtain ⟨p, q, e1, e2, -⟩ := rd_val (N := allS (VT t) a1 (d1 - a1) t.acc.length kP) (D := d1 ^ t.acc.length) (pw8 p1 h8).1
    rw [e1, e2]
    exact ⟨lim_lim _, lim_lim _⟩
  obtain ⟨FN, hFN⟩ : ∃ v, rdN (allS (VT t) a0 (d0 - a0) t.acc.length kF) (d0 ^ t.acc.length) = v := ⟨_, rfl⟩
  obtain ⟨FD, hFD⟩ : ∃ v, rdD (allS (VT t) a0 (d0 - a0) t.acc.length kF) (d0 ^ t.acc.length) = v := ⟨_, rfl⟩
  obtain ⟨PN, hPN⟩ : ∃ v, rdN (allS (VT t) a1 (d1 - a1) t.acc.length kP) (d1 ^ t.acc.length) = v := ⟨_, rfl⟩
  obtain ⟨PD, hPD⟩ : ∃ v, rdD (allS (VT t) a1 (d1 - a1) t.acc.length kP) (d1 ^ t.acc.length) = v := ⟨_, rfl⟩
  rw [hFN, hFD] at HF hv0 lF
  rw [hPN, hPD] at HP hv0 lP
  clear hFN hFD hPN hPD m0 m1
  obtain ⟨N0, hN0⟩ : ∃ v, lim a0 = v := ⟨_, rfl⟩
  obtain ⟨D0, hD0⟩ : ∃ v, lim d0 = v := ⟨_, rfl⟩
  obtain ⟨N1, hN1⟩ : ∃ v, lim a1 = v := ⟨_, rfl⟩
  obtain ⟨D1, hD1⟩ : ∃ v, lim d1 = v := ⟨_, rfl⟩
  obtain ⟨N2, hN2⟩ : ∃ v, lim an = v := ⟨_, rfl⟩
  obtain ⟨D2, hD2⟩ : ∃ v, lim ad = v := ⟨_, rfl⟩
  obtain ⟨N3, hN3⟩ : ∃ v, lim bn = v := ⟨_, rfl⟩
  obtain ⟨D3, hD3⟩ : ∃ v, lim bd = v := ⟨_, rfl⟩
  have lA : Lim N2 ∧ Lim D2 := by rw [← hN2, ← hD2]; exact ⟨lim_lim _, lim_lim _⟩
  have lB : Lim N3 ∧ Lim D3 := by rw [← hN3, ← hD3]; exact ⟨lim_lim _, lim_lim _⟩
  rw [hN0, hD0, hN1, hD1, hN2, hD2, hN3, hD3] at S
  rw [hN0, hD0] at HF
  rw [hN1, hD1] at HP
  rw [hN2, hD2, hN3, hD3] at hv0
  rw [hN0, hD0, hN1, hD1, hN2, hD2, hN3, hD3]
  clear hN0 hD0 hN1 hD1 hN2 hD2 hN3 hD3
  have M0 := Lib.hid (fun q r q' r' w' x y z u => ratMost_any w' FN FD N2 D2 q r q' r' x y z u lF.1 lF.2 lA.1 lA.2)
  have M1 := Lib.hid (fun q r q' r' w' x y z u => ratMost_any w' PN PD N3 D3 q r q' r' x y z u lP.1 lP.2 lB.1 lB.2)
  obtain ⟨v0, e0⟩ : ∃ v, decide (rcV FN FD N2 D2 ≤ 0) = v := ⟨_, rfl⟩
  obtain ⟨v1, e1⟩ : ∃ v, decide (rcV PN PD N3 D3 ≤ 0) = v := ⟨_, rfl⟩
  rw [e0, e1] at hv0
  rw [e0] at M0
  rw [e1] at M1
  rw [hv0]
  clear e0 e1 hv0 lF lP lA lB g0 h0 g1 h1 g2 h2 g3 h3 hv hbd h h8 p0 p1 b0 b1
  replace S := Lib.hid (S.out.box 32 [.slice q.a0 t.acc.length q.c0, .slice q.a1 t.rej.length q.c1])
  obtain ⟨⟨z0, f0, y0, y0a, -⟩, -⟩ := S.out.facts
  clear z0 f0 y0 y0a
  replace S := Lib.hid (S.out.box' 26 [.slice q0.a N0.length q0.c, .slice r0.a D0.length r0.c] (K := w.heap.size + 1) (by simp))
  obtain ⟨⟨z1, f1, y1, y1a, -⟩, ⟨z0, f0, y0, y0a, -⟩, -⟩ := S.out.facts
  clear z1 f1 y1 y1a z0 f0 y0 y0a
  replace S := Lib.hid (S.out.box' 26 [.slice q1.a N1.length q1.c, .slice r1.a D1.length r1.c] (K := w.heap.size + 1 + 1) (by simp))
  obtain ⟨⟨z2, f2, y2, y2a, -⟩, ⟨z1, f1, y1, y1a, -⟩, ⟨z0, f0, y0, y0a, -⟩, -⟩ := S.out.facts
  clear z2 f2 y2 y2a z1 f1 y1 y1a z0 f0 y0 y0a
  replace S := Lib.hid (S.out.box' 26 [.slice q2.a N2.length q2.c, .slice r2.a D2.length r2.c] (K := w.heap.size + 1 + 1 + 1) (by simp))
  obtain ⟨⟨z3, f3, y3, y3a, -⟩, ⟨z2, f2, y2, y2a, -⟩, ⟨z1, f1, y1, y1a, -⟩, ⟨z0, f0, y0, y0a, -⟩, -⟩ := S.out.facts
  clear z3 f3 y3 y3a z2 f2 y2 y2a z1 f1 y1 y1a z0 f0 y0 y0a
  replace S := Lib.hid (S.out.box' 26 [.slice q3.a N3.length q3.c, .slice r3.a D3.length r3.c] (K := w.heap.size + 1 + 1 + 1 + 1) (by simp))
  obtain ⟨⟨z4, f4, y4, y4a, -⟩, ⟨z3, f3, y3, y3a, -⟩, ⟨z2, f2, y2, y2a, -⟩, ⟨z1, f1, y1, y1a, -⟩, ⟨z0, f0, y0, y0a, -⟩, -⟩ := S.out.facts
  clear z4 f4 y4 y4a z3 f3 y3 y3a z2 f2 y2 y2a z1 f1 y1 y1a z0 f0 y0 y0a
  cases v0 with
  | true =>
    obtain ⟨⟨z4, f4, y4, y4a, -⟩, ⟨z3, f3, y3, y3a, -⟩, ⟨z2, f2, y2, y2a, -⟩, ⟨z1, f1, y1, y1a, -⟩, ⟨z0, f0, y0, y0a, -⟩, -⟩ := S.out.facts
    go_enter Tryz.func13, Tryz.ntmps13
    go_wp2_with fail
    replace S := Lib.hid S.out.drew
    clear z4 f4 y4 y4a z3 f3 y3 y3a z2 f2 y2 y2a z1 f1 y1 y1a z0 f0 y0 y0a
    obtain ⟨⟨z4, f4, y4, y4a, -⟩, ⟨z3, f3, y3, y3a, -⟩, ⟨z2, f2, y2, y2a, -⟩, ⟨z1, f1, y1, y1a, -⟩, ⟨z0, f0, y0, y0a, -⟩, -⟩ := S.out.facts
    go_region_held3 (fun w' => w'.cell? ⟨w.heap.size, 0, none⟩ = some (.slice q.a0 t.acc.length q.c0) ∧ w'.cell? ⟨w.heap.size, 1, none⟩ = some (.slice q.a1 t.rej.length q.c1) ∧ w'.cell? ⟨w.heap.size + 1, 0, none⟩ = some (.slice q0.a N0.length q0.c) ∧ w'.cell? ⟨w.heap.size + 1, 1, none⟩ = some (.slice r0.a D0.length r0.c) ∧ w'.cell? ⟨w.heap.size + 1 + 1, 0, none⟩ = some (.slice q1.a N1.length q1.c) ∧ w'.cell? ⟨w.heap.size + 1 + 1, 1, none⟩ = some (.slice r1.a D1.length r1.c) ∧ w'.cell? ⟨w.heap.size + 1 + 1 + 1, 0, none⟩ = some (.slice q2.a N2.length q2.c) ∧ w'.cell? ⟨w.heap.size + 1 + 1 + 1, 1, none⟩ = some (.slice r2.a D2.length r2.c) ∧ w'.cell? ⟨w.heap.size + 1 + 1 + 1 + 1, 0, none⟩ = some (.slice q3.a N3.length q3.c) ∧ w'.cell? ⟨w.heap.size + 1 + 1 + 1 + 1, 1, none⟩ = some (.slice r3.a D3.length r3.c)) (first | with_reducible assumption | go_keep)
      (first
        | ((with_reducible refine (HF.out q q0 r0 _ (tstOld S.out (by simp)) (natOld S.out (by simp)) (natOld S.out (by simp))).mono ?_); rintro e wx ⟨_, rfl, qx, rx, rfl, hr, hr2, hf, hf2, hb⟩; replace S := Lib.hid (natRes2 S.out hr hr2 hf hf2 hb); clear hr hr2 hf hf2 hb; clear z4 f4 y4 y4a z3 f3 y3 y3a z2 f2 y2 y2a z1 f1 y1 y1a z0 f0 y0 y0a; obtain ⟨⟨z4, f4, y4, y4a, -⟩, ⟨z3, f3, y3, y3a, -⟩, ⟨z2, f2, y2, y2a, -⟩, ⟨z1, f1, y1, y1a, -⟩, ⟨z0, f0, y0, y0a, -⟩, -⟩ := S.out.facts)
        | ((with_reducible refine (M0.out qx rx q2 r2 _ (natOld S.out (by simp)) (natOld S.out (by simp)) (natOld S.out (by simp)) (natOld S.out (by simp))).mono ?_); rintro e wx ⟨rfl, hb⟩; replace S := Lib.hid (S.out.call hb); clear hb; clear z4 f4 y4 y4a z3 f3 y3 y3a z2 f2 y2 y2a z1 f1 y1 y1a z0 f0 y0 y0a; obtain ⟨⟨z4, f4, y4, y4a, -⟩, ⟨z3, f3, y3, y3a, -⟩, ⟨z2, f2, y2, y2a, -⟩, ⟨z1, f1, y1, y1a, -⟩, ⟨z0, f0, y0, y0a, -⟩, -⟩ := S.out.facts)
        | ((with_reducible refine (HP.out q q1 r1 _ (tstOld S.out (by simp)) (natOld S.out (by simp)) (natOld S.out (by simp))).mono ?_); rintro e wx ⟨_, rfl, qy, ry, rfl, hr, hr2, hf, hf2, hb⟩; replace S := Lib.hid (natRes2 S.out hr hr2 hf hf2 hb); clear hr hr2 hf hf2 hb; clear z4 f4 y4 y4a z3 f3 y3 y3a z2 f2 y2 y2a z1 f1 y1 y1a z0 f0 y0 y0a; obtain ⟨⟨z4, f4, y4, y4a, -⟩, ⟨z3, f3, y3, y3a, -⟩, ⟨z2, f2, y2, y2a, -⟩, ⟨z1, f1, y1, y1a, -⟩, ⟨z0, f0, y0, y0a, -⟩, -⟩ := S.out.facts)
        | ((with_reducible refine (M1.out qy ry q3 r3 _ (natOld S.out (by simp)) (natOld S.out (by simp)) (natOld S.out (by simp)) (natOld S.out (by simp))).mono ?_); rintro e wx ⟨rfl, hb⟩; replace S := Lib.hid (S.out.call hb); clear hb; clear z4 f4 y4 y4a z3 f3 y3 y3a z2 f2 y2 y2a z1 f1 y1 y1a z0 f0 y0 y0a; obtain ⟨⟨z4, f4, y4, y4a, -⟩, ⟨z3, f3, y3, y3a, -⟩, ⟨z2, f2, y2, y2a, -⟩, ⟨z1, f1, y1, y1a, -⟩, ⟨z0, f0, y0, y0a, -⟩, -⟩ := S.out.facts))
    all_goals
      go_wp2
      go_ret
      exact ⟨rfl, S.out.bel⟩
  | false =>
    obtain ⟨⟨z4, f4, y4, y4a, -⟩, ⟨z3, f3, y3, y3a, -⟩, ⟨z2, f2, y2, y2a, -⟩, ⟨z1, f1, y1, y1a, -⟩, ⟨z0, f0, y0, y0a, -⟩, -⟩ := S.out.facts
    go_enter Tryz.func13, Tryz.ntmps13
    go_wp2_with fail
    replace S := Lib.hid S.out.drew
    clear z4 f4 y4 y4a z3 f3 y3 y3a z2 f2 y2 y2a z1 f1 y1 y1a z0 f0 y0 y0a
    obtain ⟨⟨z4, f4, y4, y4a, -⟩, ⟨z3, f3, y3, y3a, -⟩, ⟨z2, f2, y2, y2a, -⟩, ⟨z1, f1, y1, y1a, -⟩, ⟨z0, f0, y0, y0a, -⟩, -⟩ := S.out.facts
    first
      | (go_region_law (first
          | (go_simp; go_at_call 36; refine (HF.out q q0 r0 _ (tstOld S.out (by simp)) (natOld S.out (by simp)) (natOld S.out (by simp))).mono ?_; rintro e wx ⟨_, rfl, qx, rx, rfl, hr, hr2, hf, hf2, hb⟩; replace S := Lib.hid (natRes2 S.out hr hr2 hf hf2 hb); clear hr hr2 hf hf2 hb; clear z4 f4 y4 y4a z3 f3 y3 y3a z2 f2 y2 y2a z1 f1 y1 y1a z0 f0 y0 y0a; obtain ⟨⟨z4, f4, y4, y4a, -⟩, ⟨z3, f3, y3, y3a, -⟩, ⟨z2, f2, y2, y2a, -⟩, ⟨z1, f1, y1, y1a, -⟩, ⟨z0, f0, y0, y0a, -⟩, -⟩ := S.out.facts)
          | (go_simp; go_at_call 35; refine (M0.out qx rx q2 r2 _ (natOld S.out (by simp)) (natOld S.out (by simp)) (natOld S.out (by simp)) (natOld S.out (by simp))).mono ?_; rintro e wx ⟨rfl, hb⟩; replace S := Lib.hid (S.out.call hb); clear hb; clear z4 f4 y4 y4a z3 f3 y3 y3a z2 f2 y2 y2a z1 f1 y1 y1a z0 f0 y0 y0a; obtain ⟨⟨z4, f4, y4, y4a, -⟩, ⟨z3, f3, y3, y3a, -⟩, ⟨z2, f2, y2, y2a, -⟩, ⟨z1, f1, y1, y1a, -⟩, ⟨z0, f0, y0, y0a, -⟩, -⟩ := S.out.facts)))
      | fail
    all_goals
      go_wp2
      go_ret
      exact ⟨rfl, S.out.bel⟩
end Go.Proofs.YtpoddmkimhkmoaaGreat
