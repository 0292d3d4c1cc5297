/-
  LAW PowerDesign.
  Conditions: the arguments are as they come in.
-/
import Derived.Test.YtpoddmkimhkmoaaGreatPgD
namespace Go.Proofs.YtpoddmkimhkmoaaGreat
open Go.RowKit Go.Sv Go.Pw
set_option maxHeartbeats 8000000 in
set_option maxRecDepth 100000 in
/-- both answer the same test with the same error, and Check accepts it where there is no error -/
theorem law_design_by (T : Tst) (E : Int) (hbd : TBd T) (n0 m0 n1 m1 n2 m2 n3 m3 : List Int) (q0 r0 q1 r1 q2 r2 q3 r3 : LmP) (mo : Int) (w : World) (g0 : RLm w w.heap.size n0 q0) (h0 : RLm w w.heap.size m0 r0) (g1 : RLm w w.heap.size n1 q1) (h1 : RLm w w.heap.size m1 r1) (g2 : RLm w w.heap.size n2 q2) (h2 : RLm w w.heap.size m2 r2) (g3 : RLm w w.heap.size n3 q3) (h3 : RLm w w.heap.size m3 r3) (hc : ¬ (6 < mo ∧ mo ≤ 40))
    (HD : (∀ w', RLm w' w'.heap.size n0 q0 → RLm w' w'.heap.size m0 r0 → RLm w' w'.heap.size n1 q1 → RLm w' w'.heap.size m1 r1 → RLm w' w'.heap.size n2 q2 → RLm w' w'.heap.size m2 r2 → RLm w' w'.heap.size n3 q3 → RLm w' w'.heap.size m3 r3 → Calls Tryz.prog 7 #[ratV n0 q0 m0 r0, ratV n1 q1 m1 r1, ratV n2 q2 m2 r2, ratV n3 q3 m3 r3, .int .i64 mo] w' (Ret (TRes w' T E))))
    (HR : (∀ w', RLm w' w'.heap.size n0 q0 → RLm w' w'.heap.size m0 r0 → RLm w' w'.heap.size n1 q1 → RLm w' w'.heap.size m1 r1 → RLm w' w'.heap.size n2 q2 → RLm w' w'.heap.size m2 r2 → RLm w' w'.heap.size n3 q3 → RLm w' w'.heap.size m3 r3 → Calls Tryz.prog 8 #[ratV n0 q0 m0 r0, ratV n1 q1 m1 r1, ratV n2 q2 m2 r2, ratV n3 q3 m3 r3, .int .i64 mo] w' (Ret (TRes w' T E))))
    (HC : E = 0 → (∀ q w', RTst w' w'.heap.size T q → RLm w' w'.heap.size n0 q0 → RLm w' w'.heap.size m0 r0 → RLm w' w'.heap.size n1 q1 → RLm w' w'.heap.size m1 r1 → RLm w' w'.heap.size n2 q2 → RLm w' w'.heap.size m2 r2 → RLm w' w'.heap.size n3 q3 → RLm w' w'.heap.size m3 r3 → Calls Tryz.prog 10 #[tstV T q, ratV n0 q0 m0 r0, ratV n1 q1 m1 r1, ratV n2 q2 m2 r2, ratV n3 q3 m3 r3] w' (fun e w2 => e = .returned (.tuple #[.bool true, .int .i64 0]) ∧ Below w'.heap.size w' w2))) :
    Calls Tryz.prog 3 #[.agg #[.slice q0.a n0.length q0.c, .slice r0.a m0.length r0.c, .slice q1.a n1.length q1.c, .slice r1.a m1.length r1.c, .slice q2.a n2.length q2.c, .slice r2.a m2.length r2.c, .slice q3.a n3.length q3.c, .slice r3.a m3.length r3.c], .int .i64 mo] w (fun e w' => e = .returned (.bool true) ∧ Below w.heap.size w w') := by
  have u0 : n0.length ≤ 9223372036854775807 := by have a := g0.cap; have b := g0.cmx; unfold maxLen at b; omega
  have u1 : n1.length ≤ 9223372036854775807 := by have a := g1.cap; have b := g1.cmx; unfold maxLen at b; omega
  have u2 : n2.length ≤ 9223372036854775807 := by have a := g2.cap; have b := g2.cmx; unfold maxLen at b; omega
  have u3 : n3.length ≤ 9223372036854775807 := by have a := g3.cap; have b := g3.cmx; unfold maxLen at b; omega
  have v0 : m0.length ≤ 9223372036854775807 := by have a := h0.cap; have b := h0.cmx; unfold maxLen at b; omega
  have v1 : m1.length ≤ 9223372036854775807 := by have a := h1.cap; have b := h1.cmx; unfold maxLen at b; omega
  have v2 : m2.length ≤ 9223372036854775807 := by have a := h2.cap; have b := h2.cmx; unfold maxLen at b; omega
  have v3 : m3.length ≤ 9223372036854775807 := by have a := h3.cap; have b := h3.cmx; unfold maxLen at b; omega
  have S := Lib.hid (natArg (natArg (natArg (natArg (natArg (natArg (natArg (natArg (Fm.init w) h3) g3) h2) g2) h1) g1) h0) g0)
  have HA := Lib.hid (fun w' => awake_any w')
  have HG := Lib.hid (fun w' => gfew_any n0 m0 n1 m1 n2 m2 n3 m3 q0 r0 q1 r1 q2 r2 q3 r3 w' u0 v0 u1 v1 u2 v2 u3 v3)
  have HS := Lib.hid (fun q r w' h1 h2 => by
    have := hsame_any T T q r w' h1 h2 hbd hbd
    rw [decide_eq_true rfl] at this
    exact this)
  replace HD := Lib.hid HD
  replace HR := Lib.hid HR
  obtain ⟨fw, hfw⟩ : ∃ b, (decide (n0.length ≤ 2 ∧ m0.length ≤ 2) && decide (n1.length ≤ 2 ∧ m1.length ≤ 2) && decide (n2.length ≤ 2 ∧ m2.length ≤ 2) && decide (n3.length ≤ 2 ∧ m3.length ≤ 2)) = b := ⟨_, rfl⟩
  rw [hfw] at HG
  clear hfw hbd g0 h0 g1 h1 g2 h2 g3 h3 u0 v0 u1 v1 u2 v2 u3 v3
  obtain ⟨c6, hc6⟩ : ∃ b, decide (6 < mo) = b := ⟨_, rfl⟩
  obtain ⟨c40, hc40⟩ : ∃ b, decide (mo ≤ 40) = b := ⟨_, rfl⟩
  have hcc : (c6 && c40) = false := by
    rw [← hc6, ← hc40, Bool.and_eq_false_iff]
    rcases Classical.not_and_iff_not_or_not.1 hc with c | c
    · exact .inl (decide_eq_false c)
    · exact .inr (decide_eq_false c)
  clear hc
  replace S := Lib.hid (S.out.box 28 [.slice q0.a n0.length q0.c, .slice r0.a m0.length r0.c, .slice q1.a n1.length q1.c, .slice r1.a m1.length r1.c, .slice q2.a n2.length q2.c, .slice r2.a m2.length r2.c, .slice q3.a n3.length q3.c, .slice r3.a m3.length r3.c])
  obtain ⟨⟨z0, f0, y0, y0a, y0b, y0c, y0d, y0e, y0f, y0g, -⟩, -⟩ := S.out.facts
  clear z0 f0 y0 y0a y0b y0c y0d y0e y0f y0g
  cases fw with
  | false =>
    clear HD HR HC HS hcc
    obtain ⟨⟨z0, f0, y0, y0a, y0b, y0c, y0d, y0e, y0f, y0g, -⟩, -⟩ := S.out.facts
    go_enter Tryz.func3, Tryz.ntmps3
    go_wp2_with fail
    refine (HA.out _).mono ?_
    rintro e w1 ⟨rfl, hb⟩
    replace S := Lib.hid (S.out.call hb)
    clear hb
    clear z0 f0 y0 y0a y0b y0c y0d y0e y0f y0g
    obtain ⟨⟨z0, f0, y0, y0a, y0b, y0c, y0d, y0e, y0f, y0g, -⟩, -⟩ := S.out.facts
    go_wp2_with fail
    refine (HG.out _).mono ?_
    rintro e w2 ⟨rfl, hb⟩
    replace S := Lib.hid (S.out.call hb)
    clear hb
    clear z0 f0 y0 y0a y0b y0c y0d y0e y0f y0g
    obtain ⟨⟨z0, f0, y0, y0a, y0b, y0c, y0d, y0e, y0f, y0g, -⟩, -⟩ := S.out.facts
    go_wp2_with fail
    refine (HA.out _).mono ?_
    rintro e w3 ⟨rfl, hb⟩
    replace S := Lib.hid (S.out.call hb)
    clear hb
    clear z0 f0 y0 y0a y0b y0c y0d y0e y0f y0g
    obtain ⟨⟨z0, f0, y0, y0a, y0b, y0c, y0d, y0e, y0f, y0g, -⟩, -⟩ := S.out.facts
    go_wp2
    go_ret
    exact ⟨rfl, S.out.bel⟩
  | true =>
    cases c6 with
    | false =>
      clear hcc hc40
      by_cases e0 : E = 0
      · obtain rfl := e0
        replace HC := Lib.hid (HC rfl)
        obtain ⟨⟨z0, f0, y0, y0a, y0b, y0c, y0d, y0e, y0f, y0g, -⟩, -⟩ := S.out.facts
        go_enter Tryz.func3, Tryz.ntmps3
        go_wp2_with fail
        refine (HA.out _).mono ?_
        rintro e w1 ⟨rfl, hb⟩
        replace S := Lib.hid (S.out.call hb)
        clear hb
        clear z0 f0 y0 y0a y0b y0c y0d y0e y0f y0g
        obtain ⟨⟨z0, f0, y0, y0a, y0b, y0c, y0d, y0e, y0f, y0g, -⟩, -⟩ := S.out.facts
        go_wp2_with fail
        refine (HG.out _).mono ?_
        rintro e w2 ⟨rfl, hb⟩
        replace S := Lib.hid (S.out.call hb)
        clear hb
        clear z0 f0 y0 y0a y0b y0c y0d y0e y0f y0g
        obtain ⟨⟨z0, f0, y0, y0a, y0b, y0c, y0d, y0e, y0f, y0g, -⟩, -⟩ := S.out.facts
        go_wp2_with fail
        refine (HD.out _ (natOld S.out (by simp)) (natOld S.out (by simp)) (natOld S.out (by simp)) (natOld S.out (by simp)) (natOld S.out (by simp)) (natOld S.out (by simp)) (natOld S.out (by simp)) (natOld S.out (by simp))).mono ?_
        rintro e w3 ⟨_, rfl, q3, rfl, hr, hb⟩
        replace S := Lib.hid (fm_tst S.out hb hr (by simp [NoInt]))
        clear hr hb
        clear z0 f0 y0 y0a y0b y0c y0d y0e y0f y0g
        obtain ⟨⟨z0, f0, y0, y0a, y0b, y0c, y0d, y0e, y0f, y0g, -⟩, -⟩ := S.out.facts
        clear z0 f0 y0 y0a y0b y0c y0d y0e y0f y0g
        replace S := Lib.hid (S.out.box 32 [.slice q3.a0 T.acc.length q3.c0, .slice q3.a1 T.rej.length q3.c1])
        obtain ⟨⟨z1, f1, y1, y1a, -⟩, ⟨z0, f0, y0, y0a, y0b, y0c, y0d, y0e, y0f, y0g, -⟩, -⟩ := S.out.facts
        go_wp2_with fail
        refine (HR.out _ (natOld S.out (by simp)) (natOld S.out (by simp)) (natOld S.out (by simp)) (natOld S.out (by simp)) (natOld S.out (by simp)) (natOld S.out (by simp)) (natOld S.out (by simp)) (natOld S.out (by simp))).mono ?_
        rintro e w4 ⟨_, rfl, q4, rfl, hr, hb⟩
        replace S := Lib.hid (fm_tst S.out hb hr (by simp [NoInt]))
        clear hr hb
        clear z1 f1 y1 y1a z0 f0 y0 y0a y0b y0c y0d y0e y0f y0g
        obtain ⟨⟨z1, f1, y1, y1a, -⟩, ⟨z0, f0, y0, y0a, y0b, y0c, y0d, y0e, y0f, y0g, -⟩, -⟩ := S.out.facts
        clear z1 f1 y1 y1a z0 f0 y0 y0a y0b y0c y0d y0e y0f y0g
        replace S := Lib.hid (S.out.box 32 [.slice q4.a0 T.acc.length q4.c0, .slice q4.a1 T.rej.length q4.c1])
        obtain ⟨⟨z2, f2, y2, y2a, -⟩, ⟨z1, f1, y1, y1a, -⟩, ⟨z0, f0, y0, y0a, y0b, y0c, y0d, y0e, y0f, y0g, -⟩, -⟩ := S.out.facts
        go_wp2_with fail
        refine (HS.out q3 q4 _ (tstOld S.out (by simp)) (tstOld S.out (by simp))).mono ?_
        rintro e w5 ⟨rfl, hb⟩
        replace S := Lib.hid (S.out.call hb)
        clear hb
        clear z2 f2 y2 y2a z1 f1 y1 y1a z0 f0 y0 y0a y0b y0c y0d y0e y0f y0g
        obtain ⟨⟨z2, f2, y2, y2a, -⟩, ⟨z1, f1, y1, y1a, -⟩, ⟨z0, f0, y0, y0a, y0b, y0c, y0d, y0e, y0f, y0g, -⟩, -⟩ := S.out.facts
        go_wp2_with fail
        refine (HC.out q3 _ (tstOld S.out (by simp)) (natOld S.out (by simp)) (natOld S.out (by simp)) (natOld S.out (by simp)) (natOld S.out (by simp)) (natOld S.out (by simp)) (natOld S.out (by simp)) (natOld S.out (by simp)) (natOld S.out (by simp))).mono ?_
        rintro e w6 ⟨rfl, hb⟩
        replace S := Lib.hid (S.out.call hb)
        clear hb
        clear z2 f2 y2 y2a z1 f1 y1 y1a z0 f0 y0 y0a y0b y0c y0d y0e y0f y0g
        obtain ⟨⟨z2, f2, y2, y2a, -⟩, ⟨z1, f1, y1, y1a, -⟩, ⟨z0, f0, y0, y0a, y0b, y0c, y0d, y0e, y0f, y0g, -⟩, -⟩ := S.out.facts
        go_wp2
        go_ret
        exact ⟨rfl, S.out.bel⟩
      · have x1 : (E == 0) = false := by rw [beq_eq_false_iff_ne]; exact e0
        have x2 : (E != 0) = true := by rw [bne_iff_ne]; exact e0
        clear e0 HC
        obtain ⟨⟨z0, f0, y0, y0a, y0b, y0c, y0d, y0e, y0f, y0g, -⟩, -⟩ := S.out.facts
        go_enter Tryz.func3, Tryz.ntmps3
        go_wp2_with fail
        refine (HA.out _).mono ?_
        rintro e w1 ⟨rfl, hb⟩
        replace S := Lib.hid (S.out.call hb)
        clear hb
        clear z0 f0 y0 y0a y0b y0c y0d y0e y0f y0g
        obtain ⟨⟨z0, f0, y0, y0a, y0b, y0c, y0d, y0e, y0f, y0g, -⟩, -⟩ := S.out.facts
        go_wp2_with fail
        refine (HG.out _).mono ?_
        rintro e w2 ⟨rfl, hb⟩
        replace S := Lib.hid (S.out.call hb)
        clear hb
        clear z0 f0 y0 y0a y0b y0c y0d y0e y0f y0g
        obtain ⟨⟨z0, f0, y0, y0a, y0b, y0c, y0d, y0e, y0f, y0g, -⟩, -⟩ := S.out.facts
        go_wp2_with fail
        refine (HD.out _ (natOld S.out (by simp)) (natOld S.out (by simp)) (natOld S.out (by simp)) (natOld S.out (by simp)) (natOld S.out (by simp)) (natOld S.out (by simp)) (natOld S.out (by simp)) (natOld S.out (by simp))).mono ?_
        rintro e w3 ⟨_, rfl, q3, rfl, hr, hb⟩
        replace S := Lib.hid (fm_tst S.out hb hr (by simp [NoInt]))
        clear hr hb
        clear z0 f0 y0 y0a y0b y0c y0d y0e y0f y0g
        obtain ⟨⟨z0, f0, y0, y0a, y0b, y0c, y0d, y0e, y0f, y0g, -⟩, -⟩ := S.out.facts
        clear z0 f0 y0 y0a y0b y0c y0d y0e y0f y0g
        replace S := Lib.hid (S.out.box 32 [.slice q3.a0 T.acc.length q3.c0, .slice q3.a1 T.rej.length q3.c1])
        obtain ⟨⟨z1, f1, y1, y1a, -⟩, ⟨z0, f0, y0, y0a, y0b, y0c, y0d, y0e, y0f, y0g, -⟩, -⟩ := S.out.facts
        go_wp2_with fail
        refine (HR.out _ (natOld S.out (by simp)) (natOld S.out (by simp)) (natOld S.out (by simp)) (natOld S.out (by simp)) (natOld S.out (by simp)) (natOld S.out (by simp)) (natOld S.out (by simp)) (natOld S.out (by simp))).mono ?_
        rintro e w4 ⟨_, rfl, q4, rfl, hr, hb⟩
        replace S := Lib.hid (fm_tst S.out hb hr (by simp [NoInt]))
        clear hr hb
        clear z1 f1 y1 y1a z0 f0 y0 y0a y0b y0c y0d y0e y0f y0g
        obtain ⟨⟨z1, f1, y1, y1a, -⟩, ⟨z0, f0, y0, y0a, y0b, y0c, y0d, y0e, y0f, y0g, -⟩, -⟩ := S.out.facts
        clear z1 f1 y1 y1a z0 f0 y0 y0a y0b y0c y0d y0e y0f y0g
        replace S := Lib.hid (S.out.box 32 [.slice q4.a0 T.acc.length q4.c0, .slice q4.a1 T.rej.length q4.c1])
        obtain ⟨⟨z2, f2, y2, y2a, -⟩, ⟨z1, f1, y1, y1a, -⟩, ⟨z0, f0, y0, y0a, y0b, y0c, y0d, y0e, y0f, y0g, -⟩, -⟩ := S.out.facts
        go_wp2_with fail
        refine (HS.out q3 q4 _ (tstOld S.out (by simp)) (tstOld S.out (by simp))).mono ?_
        rintro e w5 ⟨rfl, hb⟩
        replace S := Lib.hid (S.out.call hb)
        clear hb
        clear z2 f2 y2 y2a z1 f1 y1 y1a z0 f0 y0 y0a y0b y0c y0d y0e y0f y0g
        obtain ⟨⟨z2, f2, y2, y2a, -⟩, ⟨z1, f1, y1, y1a, -⟩, ⟨z0, f0, y0, y0a, y0b, y0c, y0d, y0e, y0f, y0g, -⟩, -⟩ := S.out.facts
        go_wp2_with fail
        refine (HS.out q3 q4 _ (tstOld S.out (by simp)) (tstOld S.out (by simp))).mono ?_
        rintro e w6 ⟨rfl, hb⟩
        replace S := Lib.hid (S.out.call hb)
        clear hb
        clear z2 f2 y2 y2a z1 f1 y1 y1a z0 f0 y0 y0a y0b y0c y0d y0e y0f y0g
        obtain ⟨⟨z2, f2, y2, y2a, -⟩, ⟨z1, f1, y1, y1a, -⟩, ⟨z0, f0, y0, y0a, y0b, y0c, y0d, y0e, y0f, y0g, -⟩, -⟩ := S.out.facts
        go_wp2
        go_ret
        exact ⟨rfl, S.out.bel⟩
    | true =>
      cases c40 with
      | true => cases hcc
      | false =>
        clear hcc
        by_cases e0 : E = 0
        · obtain rfl := e0
          replace HC := Lib.hid (HC rfl)
          obtain ⟨⟨z0, f0, y0, y0a, y0b, y0c, y0d, y0e, y0f, y0g, -⟩, -⟩ := S.out.facts
          go_enter Tryz.func3, Tryz.ntmps3
          go_wp2_with fail
          refine (HA.out _).mono ?_
          rintro e w1 ⟨rfl, hb⟩
          replace S := Lib.hid (S.out.call hb)
          clear hb
          clear z0 f0 y0 y0a y0b y0c y0d y0e y0f y0g
          obtain ⟨⟨z0, f0, y0, y0a, y0b, y0c, y0d, y0e, y0f, y0g, -⟩, -⟩ := S.out.facts
          go_wp2_with fail
          refine (HG.out _).mono ?_
          rintro e w2 ⟨rfl, hb⟩
          replace S := Lib.hid (S.out.call hb)
          clear hb
          clear z0 f0 y0 y0a y0b y0c y0d y0e y0f y0g
          obtain ⟨⟨z0, f0, y0, y0a, y0b, y0c, y0d, y0e, y0f, y0g, -⟩, -⟩ := S.out.facts
          go_wp2_with fail
          refine (HD.out _ (natOld S.out (by simp)) (natOld S.out (by simp)) (natOld S.out (by simp)) (natOld S.out (by simp)) (natOld S.out (by simp)) (natOld S.out (by simp)) (natOld S.out (by simp)) (natOld S.out (by simp))).mono ?_
          rintro e w3 ⟨_, rfl, q3, rfl, hr, hb⟩
          replace S := Lib.hid (fm_tst S.out hb hr (by simp [NoInt]))
          clear hr hb
          clear z0 f0 y0 y0a y0b y0c y0d y0e y0f y0g
          obtain ⟨⟨z0, f0, y0, y0a, y0b, y0c, y0d, y0e, y0f, y0g, -⟩, -⟩ := S.out.facts
          clear z0 f0 y0 y0a y0b y0c y0d y0e y0f y0g
          replace S := Lib.hid (S.out.box 32 [.slice q3.a0 T.acc.length q3.c0, .slice q3.a1 T.rej.length q3.c1])
          obtain ⟨⟨z1, f1, y1, y1a, -⟩, ⟨z0, f0, y0, y0a, y0b, y0c, y0d, y0e, y0f, y0g, -⟩, -⟩ := S.out.facts
          go_wp2_with fail
          refine (HR.out _ (natOld S.out (by simp)) (natOld S.out (by simp)) (natOld S.out (by simp)) (natOld S.out (by simp)) (natOld S.out (by simp)) (natOld S.out (by simp)) (natOld S.out (by simp)) (natOld S.out (by simp))).mono ?_
          rintro e w4 ⟨_, rfl, q4, rfl, hr, hb⟩
          replace S := Lib.hid (fm_tst S.out hb hr (by simp [NoInt]))
          clear hr hb
          clear z1 f1 y1 y1a z0 f0 y0 y0a y0b y0c y0d y0e y0f y0g
          obtain ⟨⟨z1, f1, y1, y1a, -⟩, ⟨z0, f0, y0, y0a, y0b, y0c, y0d, y0e, y0f, y0g, -⟩, -⟩ := S.out.facts
          clear z1 f1 y1 y1a z0 f0 y0 y0a y0b y0c y0d y0e y0f y0g
          replace S := Lib.hid (S.out.box 32 [.slice q4.a0 T.acc.length q4.c0, .slice q4.a1 T.rej.length q4.c1])
          obtain ⟨⟨z2, f2, y2, y2a, -⟩, ⟨z1, f1, y1, y1a, -⟩, ⟨z0, f0, y0, y0a, y0b, y0c, y0d, y0e, y0f, y0g, -⟩, -⟩ := S.out.facts
          go_wp2_with fail
          refine (HS.out q3 q4 _ (tstOld S.out (by simp)) (tstOld S.out (by simp))).mono ?_
          rintro e w5 ⟨rfl, hb⟩
          replace S := Lib.hid (S.out.call hb)
          clear hb
          clear z2 f2 y2 y2a z1 f1 y1 y1a z0 f0 y0 y0a y0b y0c y0d y0e y0f y0g
          obtain ⟨⟨z2, f2, y2, y2a, -⟩, ⟨z1, f1, y1, y1a, -⟩, ⟨z0, f0, y0, y0a, y0b, y0c, y0d, y0e, y0f, y0g, -⟩, -⟩ := S.out.facts
          go_wp2_with fail
          refine (HC.out q3 _ (tstOld S.out (by simp)) (natOld S.out (by simp)) (natOld S.out (by simp)) (natOld S.out (by simp)) (natOld S.out (by simp)) (natOld S.out (by simp)) (natOld S.out (by simp)) (natOld S.out (by simp)) (natOld S.out (by simp))).mono ?_
          rintro e w6 ⟨rfl, hb⟩
          replace S := Lib.hid (S.out.call hb)
          clear hb
          clear z2 f2 y2 y2a z1 f1 y1 y1a z0 f0 y0 y0a y0b y0c y0d y0e y0f y0g
          obtain ⟨⟨z2, f2, y2, y2a, -⟩, ⟨z1, f1, y1, y1a, -⟩, ⟨z0, f0, y0, y0a, y0b, y0c, y0d, y0e, y0f, y0g, -⟩, -⟩ := S.out.facts
          go_wp2
          go_ret
          exact ⟨rfl, S.out.bel⟩
        · have x1 : (E == 0) = false := by rw [beq_eq_false_iff_ne]; exact e0
          have x2 : (E != 0) = true := by rw [bne_iff_ne]; exact e0
          clear e0 HC
          obtain ⟨⟨z0, f0, y0, y0a, y0b, y0c, y0d, y0e, y0f, y0g, -⟩, -⟩ := S.out.facts
          go_enter Tryz.func3, Tryz.ntmps3
          go_wp2_with fail
          refine (HA.out _).mono ?_
          rintro e w1 ⟨rfl, hb⟩
          replace S := Lib.hid (S.out.call hb)
          clear hb
          clear z0 f0 y0 y0a y0b y0c y0d y0e y0f y0g
          obtain ⟨⟨z0, f0, y0, y0a, y0b, y0c, y0d, y0e, y0f, y0g, -⟩, -⟩ := S.out.facts
          go_wp2_with fail
          refine (HG.out _).mono ?_
          rintro e w2 ⟨rfl, hb⟩
          replace S := Lib.hid (S.out.call hb)
          clear hb
          clear z0 f0 y0 y0a y0b y0c y0d y0e y0f y0g
          obtain ⟨⟨z0, f0, y0, y0a, y0b, y0c, y0d, y0e, y0f, y0g, -⟩, -⟩ := S.out.facts
          go_wp2_with fail
          refine (HD.out _ (natOld S.out (by simp)) (natOld S.out (by simp)) (natOld S.out (by simp)) (natOld S.out (by simp)) (natOld S.out (by simp)) (natOld S.out (by simp)) (natOld S.out (by simp)) (natOld S.out (by simp))).mono ?_
          rintro e w3 ⟨_, rfl, q3, rfl, hr, hb⟩
          replace S := Lib.hid (fm_tst S.out hb hr (by simp [NoInt]))
          clear hr hb
          clear z0 f0 y0 y0a y0b y0c y0d y0e y0f y0g
          obtain ⟨⟨z0, f0, y0, y0a, y0b, y0c, y0d, y0e, y0f, y0g, -⟩, -⟩ := S.out.facts
          clear z0 f0 y0 y0a y0b y0c y0d y0e y0f y0g
          replace S := Lib.hid (S.out.box 32 [.slice q3.a0 T.acc.length q3.c0, .slice q3.a1 T.rej.length q3.c1])
          obtain ⟨⟨z1, f1, y1, y1a, -⟩, ⟨z0, f0, y0, y0a, y0b, y0c, y0d, y0e, y0f, y0g, -⟩, -⟩ := S.out.facts
          go_wp2_with fail
          refine (HR.out _ (natOld S.out (by simp)) (natOld S.out (by simp)) (natOld S.out (by simp)) (natOld S.out (by simp)) (natOld S.out (by simp)) (natOld S.out (by simp)) (natOld S.out (by simp)) (natOld S.out (by simp))).mono ?_
          rintro e w4 ⟨_, rfl, q4, rfl, hr, hb⟩
          replace S := Lib.hid (fm_tst S.out hb hr (by simp [NoInt]))
          clear hr hb
          clear z1 f1 y1 y1a z0 f0 y0 y0a y0b y0c y0d y0e y0f y0g
          obtain ⟨⟨z1, f1, y1, y1a, -⟩, ⟨z0, f0, y0, y0a, y0b, y0c, y0d, y0e, y0f, y0g, -⟩, -⟩ := S.out.facts
          clear z1 f1 y1 y1a z0 f0 y0 y0a y0b y0c y0d y0e y0f y0g
          replace S := Lib.hid (S.out.box 32 [.slice q4.a0 T.acc.length q4.c0, .slice q4.a1 T.rej.length q4.c1])
          obtain ⟨⟨z2, f2, y2, y2a, -⟩, ⟨z1, f1, y1, y1a, -⟩, ⟨z0, f0, y0, y0a, y0b, y0c, y0d, y0e, y0f, y0g, -⟩, -⟩ := S.out.facts
          go_wp2_with fail
          refine (HS.out q3 q4 _ (tstOld S.out (by simp)) (tstOld S.out (by simp))).mono ?_
          rintro e w5 ⟨rfl, hb⟩
          replace S := Lib.hid (S.out.call hb)
          clear hb
          clear z2 f2 y2 y2a z1 f1 y1 y1a z0 f0 y0 y0a y0b y0c y0d y0e y0f y0g
          obtain ⟨⟨z2, f2, y2, y2a, -⟩, ⟨z1, f1, y1, y1a, -⟩, ⟨z0, f0, y0, y0a, y0b, y0c, y0d, y0e, y0f, y0g, -⟩, -⟩ := S.out.facts
          go_wp2_with fail
          refine (HS.out q3 q4 _ (tstOld S.out (by simp)) (tstOld S.out (by simp))).mono ?_
          rintro e w6 ⟨rfl, hb⟩
          replace S := Lib.hid (S.out.call hb)
          clear hb
          clear z2 f2 y2 y2a z1 f1 y1 y1a z0 f0 y0 y0a y0b y0c y0d y0e y0f y0g
          obtain ⟨⟨z2, f2, y2, y2a, -⟩, ⟨z1, f1, y1, y1a, -⟩, ⟨z0, f0, y0, y0a, y0b, y0c, y0d, y0e, y0f, y0g, -⟩, -⟩ := S.out.facts
          go_wp2
          go_ret
          exact ⟨rfl, S.out.bel⟩
set_option maxHeartbeats 8000000 in
set_option maxRecDepth 100000 in
theorem law_design_mid (n0 m0 n1 m1 n2 m2 n3 m3 : List Int) (q0 r0 q1 r1 q2 r2 q3 r3 : LmP) (mo : Int) (w : World) (g0 : RLm w w.heap.size n0 q0) (h0 : RLm w w.heap.size m0 r0) (g1 : RLm w w.heap.size n1 q1) (h1 : RLm w w.heap.size m1 r1) (g2 : RLm w w.heap.size n2 q2) (h2 : RLm w w.heap.size m2 r2) (g3 : RLm w w.heap.size n3 q3) (h3 : RLm w w.heap.size m3 r3) (hc : 6 < mo ∧ mo ≤ 40) :
    Calls Tryz.prog 3 #[.agg #[.slice q0.a n0.length q0.c, .slice r0.a m0.length r0.c, .slice q1.a n1.length q1.c, .slice r1.a m1.length r1.c, .slice q2.a n2.length q2.c, .slice r2.a m2.length r2.c, .slice q3.a n3.length q3.c, .slice r3.a m3.length r3.c], .int .i64 mo] w (fun e w' => e = .returned (.bool true) ∧ Below w.heap.size w w') := by
  have u0 : n0.length ≤ 9223372036854775807 := by have a := g0.cap; have b := g0.cmx; unfold maxLen at b; omega
  have u1 : n1.length ≤ 9223372036854775807 := by have a := g1.cap; have b := g1.cmx; unfold maxLen at b; omega
  have u2 : n2.length ≤ 9223372036854775807 := by have a := g2.cap; have b := g2.cmx; unfold maxLen at b; omega
  have u3 : n3.length ≤ 9223372036854775807 := by have a := g3.cap; have b := g3.cmx; unfold maxLen at b; omega
  have v0 : m0.length ≤ 9223372036854775807 := by have a := h0.cap; have b := h0.cmx; unfold maxLen at b; omega
  have v1 : m1.length ≤ 9223372036854775807 := by have a := h1.cap; have b := h1.cmx; unfold maxLen at b; omega
  have v2 : m2.length ≤ 9223372036854775807 := by have a := h2.cap; have b := h2.cmx; unfold maxLen at b; omega
  have v3 : m3.length ≤ 9223372036854775807 := by have a := h3.cap; have b := h3.cmx; unfold maxLen at b; omega
  have S := Lib.hid (natArg (natArg (natArg (natArg (natArg (natArg (natArg (natArg (Fm.init w) h3) g3) h2) g2) h1) g1) h0) g0)
  have HA := Lib.hid (fun w' => awake_any w')
  have HG := Lib.hid (fun w' => gfew_any n0 m0 n1 m1 n2 m2 n3 m3 q0 r0 q1 r1 q2 r2 q3 r3 w' u0 v0 u1 v1 u2 v2 u3 v3)
  obtain ⟨fw, hfw⟩ : ∃ b, (decide (n0.length ≤ 2 ∧ m0.length ≤ 2) && decide (n1.length ≤ 2 ∧ m1.length ≤ 2) && decide (n2.length ≤ 2 ∧ m2.length ≤ 2) && decide (n3.length ≤ 2 ∧ m3.length ≤ 2)) = b := ⟨_, rfl⟩
  rw [hfw] at HG
  clear hfw g0 h0 g1 h1 g2 h2 g3 h3 u0 v0 u1 v1 u2 v2 u3 v3
  have c6 : decide (6 < mo) = true := decide_eq_true hc.1
  have c40 : decide (mo ≤ 40) = true := decide_eq_true hc.2
  clear hc
  replace S := Lib.hid (S.out.box 28 [.slice q0.a n0.length q0.c, .slice r0.a m0.length r0.c, .slice q1.a n1.length q1.c, .slice r1.a m1.length r1.c, .slice q2.a n2.length q2.c, .slice r2.a m2.length r2.c, .slice q3.a n3.length q3.c, .slice r3.a m3.length r3.c])
  obtain ⟨⟨z0, f0, y0, y0a, y0b, y0c, y0d, y0e, y0f, y0g, -⟩, -⟩ := S.out.facts
  clear z0 f0 y0 y0a y0b y0c y0d y0e y0f y0g
  cases fw
  · obtain ⟨⟨z0, f0, y0, y0a, y0b, y0c, y0d, y0e, y0f, y0g, -⟩, -⟩ := S.out.facts
    go_enter Tryz.func3, Tryz.ntmps3
    go_wp2_with fail
    refine (HA.out _).mono ?_
    rintro e w1 ⟨rfl, hb⟩
    replace S := Lib.hid (S.out.call hb)
    clear hb
    clear z0 f0 y0 y0a y0b y0c y0d y0e y0f y0g
    obtain ⟨⟨z0, f0, y0, y0a, y0b, y0c, y0d, y0e, y0f, y0g, -⟩, -⟩ := S.out.facts
    go_wp2_with fail
    refine (HG.out _).mono ?_
    rintro e w2 ⟨rfl, hb⟩
    replace S := Lib.hid (S.out.call hb)
    clear hb
    clear z0 f0 y0 y0a y0b y0c y0d y0e y0f y0g
    obtain ⟨⟨z0, f0, y0, y0a, y0b, y0c, y0d, y0e, y0f, y0g, -⟩, -⟩ := S.out.facts
    go_wp2_with fail
    refine (HA.out _).mono ?_
    rintro e w3 ⟨rfl, hb⟩
    replace S := Lib.hid (S.out.call hb)
    clear hb
    clear z0 f0 y0 y0a y0b y0c y0d y0e y0f y0g
    obtain ⟨⟨z0, f0, y0, y0a, y0b, y0c, y0d, y0e, y0f, y0g, -⟩, -⟩ := S.out.facts
    go_wp2
    go_ret
    exact ⟨rfl, S.out.bel⟩
  · obtain ⟨⟨z0, f0, y0, y0a, y0b, y0c, y0d, y0e, y0f, y0g, -⟩, -⟩ := S.out.facts
    go_enter Tryz.func3, Tryz.ntmps3
    go_wp2_with fail
    refine (HA.out _).mono ?_
    rintro e w1 ⟨rfl, hb⟩
    replace S := Lib.hid (S.out.call hb)
    clear hb
    clear z0 f0 y0 y0a y0b y0c y0d y0e y0f y0g
    obtain ⟨⟨z0, f0, y0, y0a, y0b, y0c, y0d, y0e, y0f, y0g, -⟩, -⟩ := S.out.facts
    go_wp2_with fail
    refine (HG.out _).mono ?_
    rintro e w2 ⟨rfl, hb⟩
    replace S := Lib.hid (S.out.call hb)
    clear hb
    clear z0 f0 y0 y0a y0b y0c y0d y0e y0f y0g
    obtain ⟨⟨z0, f0, y0, y0a, y0b, y0c, y0d, y0e, y0f, y0g, -⟩, -⟩ := S.out.facts
    go_wp2_with fail
    refine (HA.out _).mono ?_
    rintro e w3 ⟨rfl, hb⟩
    replace S := Lib.hid (S.out.call hb)
    clear hb
    clear z0 f0 y0 y0a y0b y0c y0d y0e y0f y0g
    obtain ⟨⟨z0, f0, y0, y0a, y0b, y0c, y0d, y0e, y0f, y0g, -⟩, -⟩ := S.out.facts
    go_wp2
    go_ret
    exact ⟨rfl, S.out.bel⟩
theorem law_design (n0 m0 n1 m1 n2 m2 n3 m3 : List Int) (q0 r0 q1 r1 q2 r2 q3 r3 : LmP) (mo : Int) (w : World) (g0 : RLm w w.heap.size n0 q0) (h0 : RLm w w.heap.size m0 r0) (l0 : Lim n0) (k0 : Lim m0) (g1 : RLm w w.heap.size n1 q1) (h1 : RLm w w.heap.size m1 r1) (l1 : Lim n1) (k1 : Lim m1) (g2 : RLm w w.heap.size n2 q2) (h2 : RLm w w.heap.size m2 r2) (l2 : Lim n2) (k2 : Lim m2) (g3 : RLm w w.heap.size n3 q3) (h3 : RLm w w.heap.size m3 r3) (l3 : Lim n3) (k3 : Lim m3) :
    Calls Tryz.prog 3 #[.agg #[.slice q0.a n0.length q0.c, .slice r0.a m0.length r0.c, .slice q1.a n1.length q1.c, .slice r1.a m1.length r1.c, .slice q2.a n2.length q2.c, .slice r2.a m2.length r2.c, .slice q3.a n3.length q3.c, .slice r3.a m3.length r3.c], .int .i64 mo] w (fun e w' => e = .returned (.bool true) ∧ Below w.heap.size w w') := by
  have t0 : TBd tst0 := ⟨by decide, by decide⟩
  by_cases hc : 6 < mo ∧ mo ≤ 40
  · exact law_design_mid n0 m0 n1 m1 n2 m2 n3 m3 q0 r0 q1 r1 q2 r2 q3 r3 mo w g0 h0 g1 h1 g2 h2 g3 h3 hc
  · by_cases hp : pairE n0 m0 n1 m1 n2 m2 n3 m3 = 0
    · by_cases hm : mo < 1 ∨ 40 < mo
      · exact law_design_by tst0 7 t0 n0 m0 n1 m1 n2 m2 n3 m3 q0 r0 q1 r1 q2 r2 q3 r3 mo w g0 h0 g1 h1 g2 h2 g3 h3 hc (fun w' x0 y0 x1 y1 x2 y2 x3 y3 => design_err n0 m0 n1 m1 n2 m2 n3 m3 q0 r0 q1 r1 q2 r2 q3 r3 mo w' x0 y0 l0 k0 x1 y1 l1 k1 x2 y2 l2 k2 x3 y3 l3 k3 7 (.inr ⟨hp, hm, rfl⟩)) (fun w' x0 y0 x1 y1 x2 y2 x3 y3 => rdesign_err n0 m0 n1 m1 n2 m2 n3 m3 q0 r0 q1 r1 q2 r2 q3 r3 mo w' x0 y0 l0 k0 x1 y1 l1 k1 x2 y2 l2 k2 x3 y3 l3 k3 7 (.inr ⟨hp, hm, rfl⟩)) (fun e => by cases e)
      · obtain ⟨k, rfl⟩ : ∃ k : Nat, mo = (k : Int) := ⟨mo.toNat, by omega⟩
        have j1 : 1 ≤ k := by omega
        have k6 : k ≤ 6 := by omega
        obtain ⟨a0, d0, a1, d1, an, ad, bn, bd, rfl, rfl, rfl, rfl, rfl, rfl, rfl, rfl, p0, p1, b0, b1, -⟩ := pair_inv l0 k0 l1 k1 l2 k2 l3 k3 hp
        have D1 := fun w' (x0 : RLm w' w'.heap.size (lim a0) q0) (y0 : RLm w' w'.heap.size (lim d0) r0) (x1 : RLm w' w'.heap.size (lim a1) q1) (y1 : RLm w' w'.heap.size (lim d1) r1) (x2 : RLm w' w'.heap.size (lim an) q2) (y2 : RLm w' w'.heap.size (lim ad) r2) (x3 : RLm w' w'.heap.size (lim bn) q3) (y3 : RLm w' w'.heap.size (lim bd) r3) => design_any a0 d0 a1 d1 an ad bn bd k q0 r0 q1 r1 q2 r2 q3 r3 w' x0 y0 x1 y1 x2 y2 x3 y3 hp p0.le p0.d2 p1.le p1.d2 b0.le b0.d2 b1.le b1.d2 j1 (by omega)
        have D2 := fun w' (x0 : RLm w' w'.heap.size (lim a0) q0) (y0 : RLm w' w'.heap.size (lim d0) r0) (x1 : RLm w' w'.heap.size (lim a1) q1) (y1 : RLm w' w'.heap.size (lim d1) r1) (x2 : RLm w' w'.heap.size (lim an) q2) (y2 : RLm w' w'.heap.size (lim ad) r2) (x3 : RLm w' w'.heap.size (lim bn) q3) (y3 : RLm w' w'.heap.size (lim bd) r3) => rdesign_any a0 d0 a1 d1 an ad bn bd q0 r0 q1 r1 q2 r2 q3 r3 k w' x0 y0 x1 y1 x2 y2 x3 y3 hp p0 p1 b0 b1 j1 (by omega)
        by_cases hf : ∃ n c, 1 ≤ n ∧ n ≤ k ∧ c ≤ n + 1 ∧ okD a0 d0 a1 d1 an ad bn bd n c = true ∧ NoD (okD a0 d0 a1 d1 an ad bn bd) n c
        · obtain ⟨n, c, f1, f2, f3, f4, f5⟩ := hf
          have hl := fixT_len (n := n) ((c : Int) - 1) f1
          have hb : TBd (fixT n ((c : Int) - 1)) := ⟨by rw [hl.1]; omega, by rw [hl.2]; omega⟩
          have ho : okC (fixT n ((c : Int) - 1)) a0 d0 a1 d1 an ad bn bd = true := by
            rw [okC_fix f1 (by omega) (by omega) p0.le, show ((c : Int) - 1 + 1).toNat = c by omega]
            exact f4
          exact law_design_by (fixT n ((c : Int) - 1)) 0 hb (lim a0) (lim d0) (lim a1) (lim d1) (lim an) (lim ad) (lim bn) (lim bd) q0 r0 q1 r1 q2 r2 q3 r3 k w g0 h0 g1 h1 g2 h2 g3 h3 hc (fun w' x0 y0 x1 y1 x2 y2 x3 y3 => (D1 w' x0 y0 x1 y1 x2 y2 x3 y3).mono fun e w2 ⟨v, e1, r⟩ => ⟨v, e1, des_found r f1 f2 f3 f4 f5⟩) (fun w' x0 y0 x1 y1 x2 y2 x3 y3 => (D2 w' x0 y0 x1 y1 x2 y2 x3 y3).mono fun e w2 ⟨v, e1, r⟩ => ⟨v, e1, des_found r f1 f2 f3 f4 f5⟩) (fun _ q w' h' x0 y0 x1 y1 x2 y2 x3 y3 => by
            have := check2_any (fixT n ((c : Int) - 1)) q a0 d0 a1 d1 an ad bn bd q0 r0 q1 r1 q2 r2 q3 r3 w' h' hb (vld_validE (fixT_vld f1 (by omega) (by omega) (by omega))) x0 y0 x1 y1 x2 y2 x3 y3 hp p0 p1 b0 b1
            rw [ho] at this
            exact this)
        · exact law_design_by tst0 4 t0 (lim a0) (lim d0) (lim a1) (lim d1) (lim an) (lim ad) (lim bn) (lim bd) q0 r0 q1 r1 q2 r2 q3 r3 k w g0 h0 g1 h1 g2 h2 g3 h3 hc (fun w' x0 y0 x1 y1 x2 y2 x3 y3 => (D1 w' x0 y0 x1 y1 x2 y2 x3 y3).mono fun e w2 ⟨v, e1, r⟩ => ⟨v, e1, des_none r hf⟩) (fun w' x0 y0 x1 y1 x2 y2 x3 y3 => (D2 w' x0 y0 x1 y1 x2 y2 x3 y3).mono fun e w2 ⟨v, e1, r⟩ => ⟨v, e1, des_none r hf⟩) (fun e => by cases e)
    · exact law_design_by tst0 (pairE n0 m0 n1 m1 n2 m2 n3 m3) t0 n0 m0 n1 m1 n2 m2 n3 m3 q0 r0 q1 r1 q2 r2 q3 r3 mo w g0 h0 g1 h1 g2 h2 g3 h3 hc (fun w' x0 y0 x1 y1 x2 y2 x3 y3 => design_err n0 m0 n1 m1 n2 m2 n3 m3 q0 r0 q1 r1 q2 r2 q3 r3 mo w' x0 y0 l0 k0 x1 y1 l1 k1 x2 y2 l2 k2 x3 y3 l3 k3 _ (.inl ⟨rfl, hp⟩)) (fun w' x0 y0 x1 y1 x2 y2 x3 y3 => rdesign_err n0 m0 n1 m1 n2 m2 n3 m3 q0 r0 q1 r1 q2 r2 q3 r3 mo w' x0 y0 l0 k0 x1 y1 l1 k1 x2 y2 l2 k2 x3 y3 l3 k3 _ (.inl ⟨rfl, hp⟩)) (fun e => absurd e hp)
end Go.Proofs.YtpoddmkimhkmoaaGreat
