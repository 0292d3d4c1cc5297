/-
  LAW PowerCheck.
  Conditions: the arguments are as they come in.
-/
import Derived.Test.YtpoddmkimhkmoaaGreatPgD
namespace Go.Proofs.YtpoddmkimhkmoaaGreat
open Go.RowKit Go.Sv Go.Pw
set_option maxHeartbeats 8000000 in
set_option maxRecDepth 100000 in
theorem law_check_ok (t : Tst) (q : TstP) (a0 d0 a1 d1 an ad bn bd : Nat) (q0 r0 q1 r1 q2 r2 q3 r3 : LmP) (w : World) (h : RTst w w.heap.size t q) (hbd : TBd t) (hv : validE t = 0) (h8 : t.acc.length ≤ 8) (g0 : RLm w w.heap.size (lim a0) q0) (h0 : RLm w w.heap.size (lim d0) r0) (g1 : RLm w w.heap.size (lim a1) q1) (h1 : RLm w w.heap.size (lim d1) r1) (g2 : RLm w w.heap.size (lim an) q2) (h2 : RLm w w.heap.size (lim ad) r2) (g3 : RLm w w.heap.size (lim bn) q3) (h3 : RLm w w.heap.size (lim bd) r3)
    (he : pairE (lim a0) (lim d0) (lim a1) (lim d1) (lim an) (lim ad) (lim bn) (lim bd) = 0) (p0 : PrB a0 d0) (p1 : PrB a1 d1) (b0 : BdB an ad) (b1 : BdB bn bd) :
    Calls Tryz.prog 4 #[tstV t q, .agg #[.slice q0.a (lim a0).length q0.c, .slice r0.a (lim d0).length r0.c, .slice q1.a (lim a1).length q1.c, .slice r1.a (lim d1).length r1.c, .slice q2.a (lim an).length q2.c, .slice r2.a (lim ad).length r2.c, .slice q3.a (lim bn).length q3.c, .slice r3.a (lim bd).length r3.c]] w (fun e w' => e = .returned (.bool true) ∧ Below w.heap.size w w') := by
  have S := Lib.hid ((natArg (natArg (natArg (natArg (natArg (natArg (natArg (natArg (Fm.init w) h3) g3) h2) g2) h1) g1) h0) g0).arg (tstRd2 t q) h (fun g hg => tst_blk h hg))
  have u0 : (lim a0).length ≤ 9223372036854775807 := by have a := g0.cap; have b := g0.cmx; unfold maxLen at b; omega
  have v0 : (lim d0).length ≤ 9223372036854775807 := by have a := h0.cap; have b := h0.cmx; unfold maxLen at b; omega
  have u1 : (lim a1).length ≤ 9223372036854775807 := by have a := g1.cap; have b := g1.cmx; unfold maxLen at b; omega
  have v1 : (lim d1).length ≤ 9223372036854775807 := by have a := h1.cap; have b := h1.cmx; unfold maxLen at b; omega
  have u2 : (lim an).length ≤ 9223372036854775807 := by have a := g2.cap; have b := g2.cmx; unfold maxLen at b; omega
  have v2 : (lim ad).length ≤ 9223372036854775807 := by have a := h2.cap; have b := h2.cmx; unfold maxLen at b; omega
  have u3 : (lim bn).length ≤ 9223372036854775807 := by have a := g3.cap; have b := g3.cmx; unfold maxLen at b; omega
  have v3 : (lim bd).length ≤ 9223372036854775807 := by have a := h3.cap; have b := h3.cmx; unfold maxLen at b; omega
  have HA := Lib.hid (fun w' => awake_any w')
  have HV := Lib.hid (fun q w' h' => by
    have := hrvalid_any t q w' h' hbd
    rw [hv] at this
    exact this)
  have HG := Lib.hid (fun w' => gfew_any (lim a0) (lim d0) (lim a1) (lim d1) (lim an) (lim ad) (lim bn) (lim bd) q0 r0 q1 r1 q2 r2 q3 r3 w' u0 v0 u1 v1 u2 v2 u3 v3)
  have HE := Lib.hid (fun q0 r0 q1 r1 q2 r2 q3 r3 w' a b c d e f g h => by
    have := rerrs_any (lim a0) (lim d0) (lim a1) (lim d1) (lim an) (lim ad) (lim bn) (lim bd) q0 r0 q1 r1 q2 r2 q3 r3 w' a b (lim_lim _) (lim_lim _) c d (lim_lim _) (lim_lim _) e f (lim_lim _) (lim_lim _) g h (lim_lim _) (lim_lim _)
    rw [he] at this
    exact this)
  have HC := Lib.hid (fun q w' h' x0 y0 x1 y1 x2 y2 x3 y3 => check2_any t q a0 d0 a1 d1 an ad bn bd q0 r0 q1 r1 q2 r2 q3 r3 w' h' hbd hv x0 y0 x1 y1 x2 y2 x3 y3 he p0 p1 b0 b1)
  have HH := Lib.hid (fun q w' h' x0 y0 x1 y1 x2 y2 x3 y3 => has_any t q a0 d0 a1 d1 an ad bn bd q0 r0 q1 r1 q2 r2 q3 r3 w' h' hbd hv h8 x0 y0 x1 y1 x2 y2 x3 y3 p0 p1 b0 b1)
  generalize okC t a0 d0 a1 d1 an ad bn bd = v at *
  have dl : decide (8 < t.acc.length) = false := decide_eq_false (by omega)
  have dm : decide ((8 : Int) < (t.acc.length : Int)) = false := decide_eq_false (by omega)
  clear g0 h0 g1 h1 g2 h2 g3 h3 he hbd hv h h8 p0 p1 b0 b1 u0 v0 u1 v1 u2 v2 u3 v3
  obtain ⟨N0, hN0⟩ : ∃ v, lim a0 = v := ⟨_, rfl⟩
  obtain ⟨D0, hD0⟩ : ∃ v, lim d0 = v := ⟨_, rfl⟩
  obtain ⟨N1, hN1⟩ : ∃ v, lim a1 = v := ⟨_, rfl⟩
  obtain ⟨D1, hD1⟩ : ∃ v, lim d1 = v := ⟨_, rfl⟩
  obtain ⟨N2, hN2⟩ : ∃ v, lim an = v := ⟨_, rfl⟩
  obtain ⟨D2, hD2⟩ : ∃ v, lim ad = v := ⟨_, rfl⟩
  obtain ⟨N3, hN3⟩ : ∃ v, lim bn = v := ⟨_, rfl⟩
  obtain ⟨D3, hD3⟩ : ∃ v, lim bd = v := ⟨_, rfl⟩
  rw [hN0, hD0, hN1, hD1, hN2, hD2, hN3, hD3] at S HG HE HC HH
  rw [hN0, hD0, hN1, hD1, hN2, hD2, hN3, hD3]
  clear hN0 hD0 hN1 hD1 hN2 hD2 hN3 hD3
  obtain ⟨fw, hfw⟩ : ∃ b, (decide (N0.length ≤ 2 ∧ D0.length ≤ 2) && decide (N1.length ≤ 2 ∧ D1.length ≤ 2) && decide (N2.length ≤ 2 ∧ D2.length ≤ 2) && decide (N3.length ≤ 2 ∧ D3.length ≤ 2)) = b := ⟨_, rfl⟩
  rw [hfw] at HG
  clear hfw
  replace S := Lib.hid (S.out.box 32 [.slice q.a0 t.acc.length q.c0, .slice q.a1 t.rej.length q.c1])
  obtain ⟨⟨z0, f0, y0, y0a, -⟩, -⟩ := S.out.facts
  clear z0 f0 y0 y0a
  replace S := Lib.hid (S.out.box' 28 [.slice q0.a N0.length q0.c, .slice r0.a D0.length r0.c, .slice q1.a N1.length q1.c, .slice r1.a D1.length r1.c, .slice q2.a N2.length q2.c, .slice r2.a D2.length r2.c, .slice q3.a N3.length q3.c, .slice r3.a D3.length r3.c] (K := w.heap.size + 1) (by simp))
  obtain ⟨⟨z1, f1, y1, y1a, y1b, y1c, y1d, y1e, y1f, y1g, -⟩, ⟨z0, f0, y0, y0a, -⟩, -⟩ := S.out.facts
  clear z1 f1 y1 y1a y1b y1c y1d y1e y1f y1g z0 f0 y0 y0a
  cases fw with
  | false =>
    obtain ⟨⟨z1, f1, y1, y1a, y1b, y1c, y1d, y1e, y1f, y1g, -⟩, ⟨z0, f0, y0, y0a, -⟩, -⟩ := S.out.facts
    go_enter Tryz.func4, Tryz.ntmps4
    go_wp2_with fail
    refine (HV.out q _ (tstOld S.out (by simp))).mono ?_
    rintro e w1 ⟨rfl, hb⟩
    replace S := Lib.hid (S.out.call hb)
    clear hb
    clear z1 f1 y1 y1a y1b y1c y1d y1e y1f y1g z0 f0 y0 y0a
    obtain ⟨⟨z1, f1, y1, y1a, y1b, y1c, y1d, y1e, y1f, y1g, -⟩, ⟨z0, f0, y0, y0a, -⟩, -⟩ := S.out.facts
    go_wp2_with fail
    refine (HA.out _).mono ?_
    rintro e w2 ⟨rfl, hb⟩
    replace S := Lib.hid (S.out.call hb)
    clear hb
    clear z1 f1 y1 y1a y1b y1c y1d y1e y1f y1g z0 f0 y0 y0a
    obtain ⟨⟨z1, f1, y1, y1a, y1b, y1c, y1d, y1e, y1f, y1g, -⟩, ⟨z0, f0, y0, y0a, -⟩, -⟩ := S.out.facts
    go_wp2_with fail
    refine (HG.out _).mono ?_
    rintro e w3 ⟨rfl, hb⟩
    replace S := Lib.hid (S.out.call hb)
    clear hb
    clear z1 f1 y1 y1a y1b y1c y1d y1e y1f y1g z0 f0 y0 y0a
    obtain ⟨⟨z1, f1, y1, y1a, y1b, y1c, y1d, y1e, y1f, y1g, -⟩, ⟨z0, f0, y0, y0a, -⟩, -⟩ := S.out.facts
    go_wp2_with fail
    refine (HA.out _).mono ?_
    rintro e w4 ⟨rfl, hb⟩
    replace S := Lib.hid (S.out.call hb)
    clear hb
    clear z1 f1 y1 y1a y1b y1c y1d y1e y1f y1g z0 f0 y0 y0a
    obtain ⟨⟨z1, f1, y1, y1a, y1b, y1c, y1d, y1e, y1f, y1g, -⟩, ⟨z0, f0, y0, y0a, -⟩, -⟩ := S.out.facts
    go_wp2
    go_ret
    exact ⟨rfl, S.out.bel⟩
  | true =>
    cases v
    · obtain ⟨⟨z1, f1, y1, y1a, y1b, y1c, y1d, y1e, y1f, y1g, -⟩, ⟨z0, f0, y0, y0a, -⟩, -⟩ := S.out.facts
      go_enter Tryz.func4, Tryz.ntmps4
      go_wp2_with fail
      refine (HV.out q _ (tstOld S.out (by simp))).mono ?_
      rintro e w1 ⟨rfl, hb⟩
      replace S := Lib.hid (S.out.call hb)
      clear hb
      clear z1 f1 y1 y1a y1b y1c y1d y1e y1f y1g z0 f0 y0 y0a
      obtain ⟨⟨z1, f1, y1, y1a, y1b, y1c, y1d, y1e, y1f, y1g, -⟩, ⟨z0, f0, y0, y0a, -⟩, -⟩ := S.out.facts
      go_wp2_with fail
      refine (HA.out _).mono ?_
      rintro e w2 ⟨rfl, hb⟩
      replace S := Lib.hid (S.out.call hb)
      clear hb
      clear z1 f1 y1 y1a y1b y1c y1d y1e y1f y1g z0 f0 y0 y0a
      obtain ⟨⟨z1, f1, y1, y1a, y1b, y1c, y1d, y1e, y1f, y1g, -⟩, ⟨z0, f0, y0, y0a, -⟩, -⟩ := S.out.facts
      go_wp2_with fail
      refine (HG.out _).mono ?_
      rintro e w3 ⟨rfl, hb⟩
      replace S := Lib.hid (S.out.call hb)
      clear hb
      clear z1 f1 y1 y1a y1b y1c y1d y1e y1f y1g z0 f0 y0 y0a
      obtain ⟨⟨z1, f1, y1, y1a, y1b, y1c, y1d, y1e, y1f, y1g, -⟩, ⟨z0, f0, y0, y0a, -⟩, -⟩ := S.out.facts
      go_wp2_with fail
      refine (HE.out q0 r0 q1 r1 q2 r2 q3 r3 _ (natOld S.out (by simp)) (natOld S.out (by simp)) (natOld S.out (by simp)) (natOld S.out (by simp)) (natOld S.out (by simp)) (natOld S.out (by simp)) (natOld S.out (by simp)) (natOld S.out (by simp))).mono ?_
      rintro e w4 ⟨rfl, hb⟩
      replace S := Lib.hid (S.out.call hb)
      clear hb
      clear z1 f1 y1 y1a y1b y1c y1d y1e y1f y1g z0 f0 y0 y0a
      obtain ⟨⟨z1, f1, y1, y1a, y1b, y1c, y1d, y1e, y1f, y1g, -⟩, ⟨z0, f0, y0, y0a, -⟩, -⟩ := S.out.facts
      go_wp2_with fail
      refine (HC.out q _ (tstOld S.out (by simp)) (natOld S.out (by simp)) (natOld S.out (by simp)) (natOld S.out (by simp)) (natOld S.out (by simp)) (natOld S.out (by simp)) (natOld S.out (by simp)) (natOld S.out (by simp)) (natOld S.out (by simp))).mono ?_
      rintro e w5 ⟨rfl, hb⟩
      replace S := Lib.hid (S.out.call hb)
      clear hb
      clear z1 f1 y1 y1a y1b y1c y1d y1e y1f y1g z0 f0 y0 y0a
      obtain ⟨⟨z1, f1, y1, y1a, y1b, y1c, y1d, y1e, y1f, y1g, -⟩, ⟨z0, f0, y0, y0a, -⟩, -⟩ := S.out.facts
      go_wp2_with fail
      refine (HH.out q _ (tstOld S.out (by simp)) (natOld S.out (by simp)) (natOld S.out (by simp)) (natOld S.out (by simp)) (natOld S.out (by simp)) (natOld S.out (by simp)) (natOld S.out (by simp)) (natOld S.out (by simp)) (natOld S.out (by simp))).mono ?_
      rintro e w6 ⟨rfl, hb⟩
      replace S := Lib.hid (S.out.call hb)
      clear hb
      clear z1 f1 y1 y1a y1b y1c y1d y1e y1f y1g z0 f0 y0 y0a
      obtain ⟨⟨z1, f1, y1, y1a, y1b, y1c, y1d, y1e, y1f, y1g, -⟩, ⟨z0, f0, y0, y0a, -⟩, -⟩ := S.out.facts
      go_wp2
      go_ret
      exact ⟨rfl, S.out.bel⟩
    · obtain ⟨⟨z1, f1, y1, y1a, y1b, y1c, y1d, y1e, y1f, y1g, -⟩, ⟨z0, f0, y0, y0a, -⟩, -⟩ := S.out.facts
      go_enter Tryz.func4, Tryz.ntmps4
      go_wp2_with fail
      refine (HV.out q _ (tstOld S.out (by simp))).mono ?_
      rintro e w1 ⟨rfl, hb⟩
      replace S := Lib.hid (S.out.call hb)
      clear hb
      clear z1 f1 y1 y1a y1b y1c y1d y1e y1f y1g z0 f0 y0 y0a
      obtain ⟨⟨z1, f1, y1, y1a, y1b, y1c, y1d, y1e, y1f, y1g, -⟩, ⟨z0, f0, y0, y0a, -⟩, -⟩ := S.out.facts
      go_wp2_with fail
      refine (HA.out _).mono ?_
      rintro e w2 ⟨rfl, hb⟩
      replace S := Lib.hid (S.out.call hb)
      clear hb
      clear z1 f1 y1 y1a y1b y1c y1d y1e y1f y1g z0 f0 y0 y0a
      obtain ⟨⟨z1, f1, y1, y1a, y1b, y1c, y1d, y1e, y1f, y1g, -⟩, ⟨z0, f0, y0, y0a, -⟩, -⟩ := S.out.facts
      go_wp2_with fail
      refine (HG.out _).mono ?_
      rintro e w3 ⟨rfl, hb⟩
      replace S := Lib.hid (S.out.call hb)
      clear hb
      clear z1 f1 y1 y1a y1b y1c y1d y1e y1f y1g z0 f0 y0 y0a
      obtain ⟨⟨z1, f1, y1, y1a, y1b, y1c, y1d, y1e, y1f, y1g, -⟩, ⟨z0, f0, y0, y0a, -⟩, -⟩ := S.out.facts
      go_wp2_with fail
      refine (HE.out q0 r0 q1 r1 q2 r2 q3 r3 _ (natOld S.out (by simp)) (natOld S.out (by simp)) (natOld S.out (by simp)) (natOld S.out (by simp)) (natOld S.out (by simp)) (natOld S.out (by simp)) (natOld S.out (by simp)) (natOld S.out (by simp))).mono ?_
      rintro e w4 ⟨rfl, hb⟩
      replace S := Lib.hid (S.out.call hb)
      clear hb
      clear z1 f1 y1 y1a y1b y1c y1d y1e y1f y1g z0 f0 y0 y0a
      obtain ⟨⟨z1, f1, y1, y1a, y1b, y1c, y1d, y1e, y1f, y1g, -⟩, ⟨z0, f0, y0, y0a, -⟩, -⟩ := S.out.facts
      go_wp2_with fail
      refine (HC.out q _ (tstOld S.out (by simp)) (natOld S.out (by simp)) (natOld S.out (by simp)) (natOld S.out (by simp)) (natOld S.out (by simp)) (natOld S.out (by simp)) (natOld S.out (by simp)) (natOld S.out (by simp)) (natOld S.out (by simp))).mono ?_
      rintro e w5 ⟨rfl, hb⟩
      replace S := Lib.hid (S.out.call hb)
      clear hb
      clear z1 f1 y1 y1a y1b y1c y1d y1e y1f y1g z0 f0 y0 y0a
      obtain ⟨⟨z1, f1, y1, y1a, y1b, y1c, y1d, y1e, y1f, y1g, -⟩, ⟨z0, f0, y0, y0a, -⟩, -⟩ := S.out.facts
      go_wp2_with fail
      refine (HH.out q _ (tstOld S.out (by simp)) (natOld S.out (by simp)) (natOld S.out (by simp)) (natOld S.out (by simp)) (natOld S.out (by simp)) (natOld S.out (by simp)) (natOld S.out (by simp)) (natOld S.out (by simp)) (natOld S.out (by simp))).mono ?_
      rintro e w6 ⟨rfl, hb⟩
      replace S := Lib.hid (S.out.call hb)
      clear hb
      clear z1 f1 y1 y1a y1b y1c y1d y1e y1f y1g z0 f0 y0 y0a
      obtain ⟨⟨z1, f1, y1, y1a, y1b, y1c, y1d, y1e, y1f, y1g, -⟩, ⟨z0, f0, y0, y0a, -⟩, -⟩ := S.out.facts
      go_wp2
      go_ret
      exact ⟨rfl, S.out.bel⟩
set_option maxHeartbeats 8000000 in
set_option maxRecDepth 100000 in
theorem law_check (t : Tst) (q : TstP) (n0 m0 n1 m1 n2 m2 n3 m3 : List Int) (q0 r0 q1 r1 q2 r2 q3 r3 : LmP) (w : World) (h : RTst w w.heap.size t q) (hbd : TBd t) (g0 : RLm w w.heap.size n0 q0) (h0 : RLm w w.heap.size m0 r0) (l0 : Lim n0) (k0 : Lim m0) (g1 : RLm w w.heap.size n1 q1) (h1 : RLm w w.heap.size m1 r1) (l1 : Lim n1) (k1 : Lim m1) (g2 : RLm w w.heap.size n2 q2) (h2 : RLm w w.heap.size m2 r2) (l2 : Lim n2) (k2 : Lim m2) (g3 : RLm w w.heap.size n3 q3) (h3 : RLm w w.heap.size m3 r3) (l3 : Lim n3) (k3 : Lim m3) :
    Calls Tryz.prog 4 #[tstV t q, .agg #[.slice q0.a n0.length q0.c, .slice r0.a m0.length r0.c, .slice q1.a n1.length q1.c, .slice r1.a m1.length r1.c, .slice q2.a n2.length q2.c, .slice r2.a m2.length r2.c, .slice q3.a n3.length q3.c, .slice r3.a m3.length r3.c]] w (fun e w' => e = .returned (.bool true) ∧ Below w.heap.size w w') := by
  by_cases hx : validE t = 0 ∧ t.acc.length ≤ 8 ∧ pairE n0 m0 n1 m1 n2 m2 n3 m3 = 0
  case pos =>
    obtain ⟨a0, d0, a1, d1, an, ad, bn, bd, rfl, rfl, rfl, rfl, rfl, rfl, rfl, rfl, p0, p1, b0, b1, -⟩ := pair_inv l0 k0 l1 k1 l2 k2 l3 k3 hx.2.2
    exact law_check_ok t q a0 d0 a1 d1 an ad bn bd q0 r0 q1 r1 q2 r2 q3 r3 w h hbd hx.1 hx.2.1 g0 h0 g1 h1 g2 h2 g3 h3 hx.2.2 p0 p1 b0 b1
  have u0 : n0.length ≤ 9223372036854775807 := by have a := g0.cap; have b := g0.cmx; unfold maxLen at b; omega
  have u1 : n1.length ≤ 9223372036854775807 := by have a := g1.cap; have b := g1.cmx; unfold maxLen at b; omega
  have u2 : n2.length ≤ 9223372036854775807 := by have a := g2.cap; have b := g2.cmx; unfold maxLen at b; omega
  have u3 : n3.length ≤ 9223372036854775807 := by have a := g3.cap; have b := g3.cmx; unfold maxLen at b; omega
  have v0 : m0.length ≤ 9223372036854775807 := by have a := h0.cap; have b := h0.cmx; unfold maxLen at b; omega
  have v1 : m1.length ≤ 9223372036854775807 := by have a := h1.cap; have b := h1.cmx; unfold maxLen at b; omega
  have v2 : m2.length ≤ 9223372036854775807 := by have a := h2.cap; have b := h2.cmx; unfold maxLen at b; omega
  have v3 : m3.length ≤ 9223372036854775807 := by have a := h3.cap; have b := h3.cmx; unfold maxLen at b; omega
  have S := Lib.hid ((natArg (natArg (natArg (natArg (natArg (natArg (natArg (natArg (Fm.init w) h3) g3) h2) g2) h1) g1) h0) g0).arg (tstRd2 t q) h (fun g hg => tst_blk h hg))
  have HA := Lib.hid (fun w' => awake_any w')
  have HV := Lib.hid (fun q w' h' => hrvalid_any t q w' h' hbd)
  have HG := Lib.hid (fun w' => gfew_any n0 m0 n1 m1 n2 m2 n3 m3 q0 r0 q1 r1 q2 r2 q3 r3 w' u0 v0 u1 v1 u2 v2 u3 v3)
  have HE := Lib.hid (fun q0 r0 q1 r1 q2 r2 q3 r3 w' a b c d e f g h => rerrs_any n0 m0 n1 m1 n2 m2 n3 m3 q0 r0 q1 r1 q2 r2 q3 r3 w' a b l0 k0 c d l1 k1 e f l2 k2 g h l3 k3)
  have HC := Lib.hid (fun q w' h' x0 y0 x1 y1 x2 y2 x3 y3 E hE hne => check2_err t q n0 m0 n1 m1 n2 m2 n3 m3 q0 r0 q1 r1 q2 r2 q3 r3 w' h' hbd x0 y0 l0 k0 x1 y1 l1 k1 x2 y2 l2 k2 x3 y3 l3 k3 E hE hne)
  obtain ⟨fw, hfw⟩ : ∃ b, (decide (n0.length ≤ 2 ∧ m0.length ≤ 2) && decide (n1.length ≤ 2 ∧ m1.length ≤ 2) && decide (n2.length ≤ 2 ∧ m2.length ≤ 2) && decide (n3.length ≤ 2 ∧ m3.length ≤ 2)) = b := ⟨_, rfl⟩
  rw [hfw] at HG
  clear hfw h hbd g0 h0 g1 h1 g2 h2 g3 h3 l0 l1 l2 l3 k0 k1 k2 k3 u0 v0 u1 v1 u2 v2 u3 v3
  generalize validE t = E at *
  generalize pairE n0 m0 n1 m1 n2 m2 n3 m3 = P at *
  replace S := Lib.hid (S.out.box 32 [.slice q.a0 t.acc.length q.c0, .slice q.a1 t.rej.length q.c1])
  obtain ⟨⟨z0, f0, y0, y0a, -⟩, -⟩ := S.out.facts
  clear z0 f0 y0 y0a
  replace S := Lib.hid (S.out.box' 28 [.slice q0.a n0.length q0.c, .slice r0.a m0.length r0.c, .slice q1.a n1.length q1.c, .slice r1.a m1.length r1.c, .slice q2.a n2.length q2.c, .slice r2.a m2.length r2.c, .slice q3.a n3.length q3.c, .slice r3.a m3.length r3.c] (K := w.heap.size + 1) (by simp))
  obtain ⟨⟨z1, f1, y1, y1a, y1b, y1c, y1d, y1e, y1f, y1g, -⟩, ⟨z0, f0, y0, y0a, -⟩, -⟩ := S.out.facts
  clear z1 f1 y1 y1a y1b y1c y1d y1e y1f y1g z0 f0 y0 y0a
  cases fw with
  | false =>
    clear hx HE HC
    obtain ⟨⟨z1, f1, y1, y1a, y1b, y1c, y1d, y1e, y1f, y1g, -⟩, ⟨z0, f0, y0, y0a, -⟩, -⟩ := S.out.facts
    go_enter Tryz.func4, Tryz.ntmps4
    go_wp2_with fail
    refine (HV.out q _ (tstOld S.out (by simp))).mono ?_
    rintro e w1 ⟨rfl, hb⟩
    replace S := Lib.hid (S.out.call hb)
    clear hb
    clear z1 f1 y1 y1a y1b y1c y1d y1e y1f y1g z0 f0 y0 y0a
    obtain ⟨⟨z1, f1, y1, y1a, y1b, y1c, y1d, y1e, y1f, y1g, -⟩, ⟨z0, f0, y0, y0a, -⟩, -⟩ := S.out.facts
    go_wp2_with fail
    refine (HA.out _).mono ?_
    rintro e w2 ⟨rfl, hb⟩
    replace S := Lib.hid (S.out.call hb)
    clear hb
    clear z1 f1 y1 y1a y1b y1c y1d y1e y1f y1g z0 f0 y0 y0a
    obtain ⟨⟨z1, f1, y1, y1a, y1b, y1c, y1d, y1e, y1f, y1g, -⟩, ⟨z0, f0, y0, y0a, -⟩, -⟩ := S.out.facts
    go_wp2_with fail
    refine (HG.out _).mono ?_
    rintro e w3 ⟨rfl, hb⟩
    replace S := Lib.hid (S.out.call hb)
    clear hb
    clear z1 f1 y1 y1a y1b y1c y1d y1e y1f y1g z0 f0 y0 y0a
    obtain ⟨⟨z1, f1, y1, y1a, y1b, y1c, y1d, y1e, y1f, y1g, -⟩, ⟨z0, f0, y0, y0a, -⟩, -⟩ := S.out.facts
    go_wp2_with fail
    refine (HA.out _).mono ?_
    rintro e w4 ⟨rfl, hb⟩
    replace S := Lib.hid (S.out.call hb)
    clear hb
    clear z1 f1 y1 y1a y1b y1c y1d y1e y1f y1g z0 f0 y0 y0a
    obtain ⟨⟨z1, f1, y1, y1a, y1b, y1c, y1d, y1e, y1f, y1g, -⟩, ⟨z0, f0, y0, y0a, -⟩, -⟩ := S.out.facts
    go_wp2
    go_ret
    exact ⟨rfl, S.out.bel⟩
  | true =>
    by_cases e0 : E = 0
    · obtain rfl := e0
      by_cases h8 : 8 < t.acc.length
      · have dl : decide (8 < t.acc.length) = true := decide_eq_true h8
        have dm : decide ((8 : Int) < (t.acc.length : Int)) = true := decide_eq_true (by omega)
        clear hx HE HC h8
        obtain ⟨⟨z1, f1, y1, y1a, y1b, y1c, y1d, y1e, y1f, y1g, -⟩, ⟨z0, f0, y0, y0a, -⟩, -⟩ := S.out.facts
        go_enter Tryz.func4, Tryz.ntmps4
        go_wp2_with fail
        refine (HV.out q _ (tstOld S.out (by simp))).mono ?_
        rintro e w1 ⟨rfl, hb⟩
        replace S := Lib.hid (S.out.call hb)
        clear hb
        clear z1 f1 y1 y1a y1b y1c y1d y1e y1f y1g z0 f0 y0 y0a
        obtain ⟨⟨z1, f1, y1, y1a, y1b, y1c, y1d, y1e, y1f, y1g, -⟩, ⟨z0, f0, y0, y0a, -⟩, -⟩ := S.out.facts
        go_wp2_with fail
        refine (HA.out _).mono ?_
        rintro e w2 ⟨rfl, hb⟩
        replace S := Lib.hid (S.out.call hb)
        clear hb
        clear z1 f1 y1 y1a y1b y1c y1d y1e y1f y1g z0 f0 y0 y0a
        obtain ⟨⟨z1, f1, y1, y1a, y1b, y1c, y1d, y1e, y1f, y1g, -⟩, ⟨z0, f0, y0, y0a, -⟩, -⟩ := S.out.facts
        go_wp2_with fail
        refine (HG.out _).mono ?_
        rintro e w3 ⟨rfl, hb⟩
        replace S := Lib.hid (S.out.call hb)
        clear hb
        clear z1 f1 y1 y1a y1b y1c y1d y1e y1f y1g z0 f0 y0 y0a
        obtain ⟨⟨z1, f1, y1, y1a, y1b, y1c, y1d, y1e, y1f, y1g, -⟩, ⟨z0, f0, y0, y0a, -⟩, -⟩ := S.out.facts
        go_wp2_with fail
        refine (HA.out _).mono ?_
        rintro e w4 ⟨rfl, hb⟩
        replace S := Lib.hid (S.out.call hb)
        clear hb
        clear z1 f1 y1 y1a y1b y1c y1d y1e y1f y1g z0 f0 y0 y0a
        obtain ⟨⟨z1, f1, y1, y1a, y1b, y1c, y1d, y1e, y1f, y1g, -⟩, ⟨z0, f0, y0, y0a, -⟩, -⟩ := S.out.facts
        go_wp2
        go_ret
        exact ⟨rfl, S.out.bel⟩
      · have dl : decide (8 < t.acc.length) = false := decide_eq_false h8
        have dm : decide ((8 : Int) < (t.acc.length : Int)) = false := decide_eq_false (by omega)
        have p0 : P ≠ 0 := fun c => hx ⟨rfl, by omega, c⟩
        have x1 : (P == 0) = false := by rw [beq_eq_false_iff_ne]; exact p0
        have x2 : (P != 0) = true := by rw [bne_iff_ne]; exact p0
        have HC2 := Lib.hid (fun q w' h' x0 y0 x1 y1 x2 y2 x3 y3 => HC.out q w' h' x0 y0 x1 y1 x2 y2 x3 y3 P (by simp) p0)
        clear hx h8 p0 HC
        obtain ⟨⟨z1, f1, y1, y1a, y1b, y1c, y1d, y1e, y1f, y1g, -⟩, ⟨z0, f0, y0, y0a, -⟩, -⟩ := S.out.facts
        go_enter Tryz.func4, Tryz.ntmps4
        go_wp2_with fail
        refine (HV.out q _ (tstOld S.out (by simp))).mono ?_
        rintro e w1 ⟨rfl, hb⟩
        replace S := Lib.hid (S.out.call hb)
        clear hb
        clear z1 f1 y1 y1a y1b y1c y1d y1e y1f y1g z0 f0 y0 y0a
        obtain ⟨⟨z1, f1, y1, y1a, y1b, y1c, y1d, y1e, y1f, y1g, -⟩, ⟨z0, f0, y0, y0a, -⟩, -⟩ := S.out.facts
        go_wp2_with fail
        refine (HA.out _).mono ?_
        rintro e w2 ⟨rfl, hb⟩
        replace S := Lib.hid (S.out.call hb)
        clear hb
        clear z1 f1 y1 y1a y1b y1c y1d y1e y1f y1g z0 f0 y0 y0a
        obtain ⟨⟨z1, f1, y1, y1a, y1b, y1c, y1d, y1e, y1f, y1g, -⟩, ⟨z0, f0, y0, y0a, -⟩, -⟩ := S.out.facts
        go_wp2_with fail
        refine (HG.out _).mono ?_
        rintro e w3 ⟨rfl, hb⟩
        replace S := Lib.hid (S.out.call hb)
        clear hb
        clear z1 f1 y1 y1a y1b y1c y1d y1e y1f y1g z0 f0 y0 y0a
        obtain ⟨⟨z1, f1, y1, y1a, y1b, y1c, y1d, y1e, y1f, y1g, -⟩, ⟨z0, f0, y0, y0a, -⟩, -⟩ := S.out.facts
        go_wp2_with fail
        refine (HE.out q0 r0 q1 r1 q2 r2 q3 r3 _ (natOld S.out (by simp)) (natOld S.out (by simp)) (natOld S.out (by simp)) (natOld S.out (by simp)) (natOld S.out (by simp)) (natOld S.out (by simp)) (natOld S.out (by simp)) (natOld S.out (by simp))).mono ?_
        rintro e w4 ⟨rfl, hb⟩
        replace S := Lib.hid (S.out.call hb)
        clear hb
        clear z1 f1 y1 y1a y1b y1c y1d y1e y1f y1g z0 f0 y0 y0a
        obtain ⟨⟨z1, f1, y1, y1a, y1b, y1c, y1d, y1e, y1f, y1g, -⟩, ⟨z0, f0, y0, y0a, -⟩, -⟩ := S.out.facts
        go_wp2_with fail
        refine (HC2.out q _ (tstOld S.out (by simp)) (natOld S.out (by simp)) (natOld S.out (by simp)) (natOld S.out (by simp)) (natOld S.out (by simp)) (natOld S.out (by simp)) (natOld S.out (by simp)) (natOld S.out (by simp)) (natOld S.out (by simp))).mono ?_
        rintro e w5 ⟨rfl, hb⟩
        replace S := Lib.hid (S.out.call hb)
        clear hb
        clear z1 f1 y1 y1a y1b y1c y1d y1e y1f y1g z0 f0 y0 y0a
        obtain ⟨⟨z1, f1, y1, y1a, y1b, y1c, y1d, y1e, y1f, y1g, -⟩, ⟨z0, f0, y0, y0a, -⟩, -⟩ := S.out.facts
        go_wp2
        go_ret
        exact ⟨rfl, S.out.bel⟩
    · have x1 : (E == 0) = false := by rw [beq_eq_false_iff_ne]; exact e0
      have x2 : (E != 0) = true := by rw [bne_iff_ne]; exact e0
      have HC2 := Lib.hid (fun q w' h' x0 y0 x1 y1 x2 y2 x3 y3 => HC.out q w' h' x0 y0 x1 y1 x2 y2 x3 y3 E (by rw [if_neg e0]) e0)
      clear hx e0 HC HE
      obtain ⟨⟨z1, f1, y1, y1a, y1b, y1c, y1d, y1e, y1f, y1g, -⟩, ⟨z0, f0, y0, y0a, -⟩, -⟩ := S.out.facts
      go_enter Tryz.func4, Tryz.ntmps4
      go_wp2_with fail
      refine (HV.out q _ (tstOld S.out (by simp))).mono ?_
      rintro e w1 ⟨rfl, hb⟩
      replace S := Lib.hid (S.out.call hb)
      clear hb
      clear z1 f1 y1 y1a y1b y1c y1d y1e y1f y1g z0 f0 y0 y0a
      obtain ⟨⟨z1, f1, y1, y1a, y1b, y1c, y1d, y1e, y1f, y1g, -⟩, ⟨z0, f0, y0, y0a, -⟩, -⟩ := S.out.facts
      go_wp2_with fail
      refine (HA.out _).mono ?_
      rintro e w2 ⟨rfl, hb⟩
      replace S := Lib.hid (S.out.call hb)
      clear hb
      clear z1 f1 y1 y1a y1b y1c y1d y1e y1f y1g z0 f0 y0 y0a
      obtain ⟨⟨z1, f1, y1, y1a, y1b, y1c, y1d, y1e, y1f, y1g, -⟩, ⟨z0, f0, y0, y0a, -⟩, -⟩ := S.out.facts
      go_wp2_with fail
      refine (HG.out _).mono ?_
      rintro e w3 ⟨rfl, hb⟩
      replace S := Lib.hid (S.out.call hb)
      clear hb
      clear z1 f1 y1 y1a y1b y1c y1d y1e y1f y1g z0 f0 y0 y0a
      obtain ⟨⟨z1, f1, y1, y1a, y1b, y1c, y1d, y1e, y1f, y1g, -⟩, ⟨z0, f0, y0, y0a, -⟩, -⟩ := S.out.facts
      go_wp2_with fail
      refine (HC2.out q _ (tstOld S.out (by simp)) (natOld S.out (by simp)) (natOld S.out (by simp)) (natOld S.out (by simp)) (natOld S.out (by simp)) (natOld S.out (by simp)) (natOld S.out (by simp)) (natOld S.out (by simp)) (natOld S.out (by simp))).mono ?_
      rintro e w4 ⟨rfl, hb⟩
      replace S := Lib.hid (S.out.call hb)
      clear hb
      clear z1 f1 y1 y1a y1b y1c y1d y1e y1f y1g z0 f0 y0 y0a
      obtain ⟨⟨z1, f1, y1, y1a, y1b, y1c, y1d, y1e, y1f, y1g, -⟩, ⟨z0, f0, y0, y0a, -⟩, -⟩ := S.out.facts
      go_wp2
      go_ret
      exact ⟨rfl, S.out.bel⟩
end Go.Proofs.YtpoddmkimhkmoaaGreat
