/-
  CONTRACTS of power.Check; of power.Design with an error.
  Conditions: the arguments are as they come in.
-/
import Derived.Test.YtpoddmkimhkmoaaGreatPwX
import Derived.Test.YtpoddmkimhkmoaaGreatPb5
import Derived.Test.YtpoddmkimhkmoaaGreatPb4
namespace Go.Proofs.YtpoddmkimhkmoaaGreat
open Go.RowKit Go.Sv Go.Pw
/-- a test's two errors are at most those that are asked for -/
def okC (t : Tst) (a0 d0 a1 d1 an ad bn bd : Nat) : Bool := decide (allS (VT t) a0 (d0 - a0) t.acc.length kF * ad ≤ an * d0 ^ t.acc.length) && decide (allS (VT t) a1 (d1 - a1) t.acc.length kP * bd ≤ bn * d1 ^ t.acc.length)
theorem kFP_le (k : Int → Nat → Nat) (hk : k = kF ∨ k = kP) (v : Int) (n : Nat) : k v n ≤ 1 := by
  rcases hk with rfl | rfl
  · unfold kF; split <;> omega
  · unfold kP; split <;> omega
theorem sumS_le {t : Tst} {a d : Nat} (hp : PrB a d) {k : Int → Nat → Nat} (hk : k = kF ∨ k = kP) : allS (VT t) a (d - a) t.acc.length k ≤ d ^ t.acc.length := by
  have e := allS_le (V := VT t) (a := a) (b := d - a) (N := t.acc.length) (k := k) (B := 1) (fun v n _ => kFP_le k hk v n)
  rw [Nat.one_mul, show a + (d - a) = d by have := hp.le; omega] at e
  exact e
set_option maxHeartbeats 8000000 in
set_option maxRecDepth 100000 in
theorem check2_any (t : Tst) (q : TstP) (a0 d0 a1 d1 an ad bn bd : Nat) (q0 r0 q1 r1 q2 r2 q3 r3 : LmP) (w : World) (h : RTst w w.heap.size t q) (hbd : TBd t) (hv : validE t = 0) (g0 : RLm w w.heap.size (lim a0) q0) (h0 : RLm w w.heap.size (lim d0) r0) (g1 : RLm w w.heap.size (lim a1) q1) (h1 : RLm w w.heap.size (lim d1) r1) (g2 : RLm w w.heap.size (lim an) q2) (h2 : RLm w w.heap.size (lim ad) r2) (g3 : RLm w w.heap.size (lim bn) q3) (h3 : RLm w w.heap.size (lim bd) r3)
    (he : pairE (lim a0) (lim d0) (lim a1) (lim d1) (lim an) (lim ad) (lim bn) (lim bd) = 0) (p0 : PrB a0 d0) (p1 : PrB a1 d1) (b0 : BdB an ad) (b1 : BdB bn bd) :
    Calls Tryz.prog 10 #[tstV t q, ratV (lim a0) q0 (lim d0) r0, ratV (lim a1) q1 (lim d1) r1, ratV (lim an) q2 (lim ad) r2, ratV (lim bn) q3 (lim bd) r3] w (fun e w' => e = .returned (.tuple #[.bool (okC t a0 d0 a1 d1 an ad bn bd), .int .i64 0]) ∧ Below w.heap.size w w') := by
  have S := Lib.hid ((natArg (natArg (natArg (natArg (natArg (natArg (natArg (natArg (Fm.init w) h3) g3) h2) g2) h1) g1) h0) g0).arg (tstRd2 t q) h (fun g hg => tst_blk h hg))
  have n1 := (validE_vld hv).n1
  have HV := Lib.hid (fun q w' h' => by
    have := hvalid_any t q w' h' hbd
    rw [hv] at this
    exact this)
  have HPr := Lib.hid (fun q0 r0 q1 r1 q2 r2 q3 r3 w' a b c d e f g h => by
    have := pair_any (lim a0) (lim d0) (lim a1) (lim d1) (lim an) (lim ad) (lim bn) (lim bd) q0 r0 q1 r1 q2 r2 q3 r3 w' a b c d e f g h (lim_lim _) (lim_lim _) (lim_lim _) (lim_lim _) (lim_lim _) (lim_lim _) (lim_lim _) (lim_lim _)
    rw [he] at this
    exact this)
  have HS0 := Lib.hid (fun q qn qd w' h' h1 h2 => sums_any t q a0 d0 qn qd w' h' hbd hv h1 h2 p0.le p0.d1 p0.d2)
  have HS1 := Lib.hid (fun q qn qd w' h' h1 h2 => sums_any t q a1 d1 qn qd w' h' hbd hv h1 h2 p1.le p1.d1 p1.d2)
  have hv0 : okC t a0 d0 a1 d1 an ad bn bd = (decide (allS (VT t) a0 (d0 - a0) t.acc.length kF * ad ≤ an * d0 ^ t.acc.length) && decide (allS (VT t) a1 (d1 - a1) t.acc.length kP * bd ≤ bn * d1 ^ t.acc.length)) := rfl
  have l0 := sumS_le (t := t) p0 (k := kF) (.inl rfl)
  have l1 := sumS_le (t := t) p1 (k := kP) (.inr rfl)
  have x0 : d0 ^ t.acc.length ≤ 1000 ^ 64 := big_pow p0.d2 n1
  have x1 : d1 ^ t.acc.length ≤ 1000 ^ 64 := big_pow p1.d2 n1
  have k0 := b0.d2
  have k1 := b1.d2
  have m0 := b0.le
  have m1 := b1.le
  have sb : ∀ y k K, y ≤ K → K ≤ 1000 ^ 64 → k < 4294967296 → sm (y * k) := fun y k K hy hK hk => sm_b (by
    rw [Nat.mul_comm]
    exact Nat.mul_le_mul (by omega) (Nat.le_trans hy hK))
  have sc : ∀ y, y ≤ 1000 ^ 64 → sm y := fun y hy => sm_b (Nat.le_trans hy (Nat.le_mul_of_pos_left _ (by decide)))
  generalize okC t a0 d0 a1 d1 an ad bn bd = ok at *
  generalize allS (VT t) a0 (d0 - a0) t.acc.length kF = F0 at *
  generalize allS (VT t) a1 (d1 - a1) t.acc.length kP = P1 at *
  generalize allS (VT t) a0 (d0 - a0) t.acc.length kP = F0b at *
  generalize allS (VT t) a1 (d1 - a1) t.acc.length kF = P1b at *
  generalize allS (VT t) a0 (d0 - a0) t.acc.length kE = F0c at *
  generalize allS (VT t) a1 (d1 - a1) t.acc.length kE = P1c at *
  generalize d0 ^ t.acc.length = K0 at *
  generalize d1 ^ t.acc.length = K1 at *
  have M0 := Lib.hid (fun qx qy qn qd w' h1 h2 h3 h4 => atMost_any F0 K0 an ad qx qy qn qd w' h1 h2 h3 h4 (sc _ (by omega)) (sc _ x0) (sm_s (by omega)) (sm_s (by omega)) (sb _ _ _ l0 x0 k0) (by rw [Nat.mul_comm]; exact sb _ _ _ (Nat.le_refl _) x0 (by omega)))
  have M1 := Lib.hid (fun qx qy qn qd w' h1 h2 h3 h4 => atMost_any P1 K1 bn bd qx qy qn qd w' h1 h2 h3 h4 (sc _ (by omega)) (sc _ x1) (sm_s (by omega)) (sm_s (by omega)) (sb _ _ _ l1 x1 k1) (by rw [Nat.mul_comm]; exact sb _ _ _ (Nat.le_refl _) x1 (by omega)))
  obtain ⟨v0, e0⟩ : ∃ v, decide (F0 * ad ≤ an * K0) = v := ⟨_, rfl⟩
  obtain ⟨v1, e1⟩ : ∃ v, decide (P1 * bd ≤ bn * K1) = v := ⟨_, rfl⟩
  rw [e0, e1] at hv0
  rw [e0] at M0
  rw [e1] at M1
  rw [hv0]
  clear g0 h0 g1 h1 g2 h2 g3 h3 he hv n1 hbd h l0 l1 x0 x1 k0 k1 m0 m1 sb sc e0 e1 hv0 p0 p1 b0 b1
  obtain ⟨N0, hN0⟩ : ∃ v, lim a0 = v := ⟨_, rfl⟩
  obtain ⟨D0, hD0⟩ : ∃ v, lim d0 = v := ⟨_, rfl⟩
  obtain ⟨N1, hN1⟩ : ∃ v, lim a1 = v := ⟨_, rfl⟩
  obtain ⟨D1, hD1⟩ : ∃ v, lim d1 = v := ⟨_, rfl⟩
  obtain ⟨N2, hN2⟩ : ∃ v, lim an = v := ⟨_, rfl⟩
  obtain ⟨D2, hD2⟩ : ∃ v, lim ad = v := ⟨_, rfl⟩
  obtain ⟨N3, hN3⟩ : ∃ v, lim bn = v := ⟨_, rfl⟩
  obtain ⟨D3, hD3⟩ : ∃ v, lim bd = v := ⟨_, rfl⟩
  rw [hN0, hD0, hN1, hD1, hN2, hD2, hN3, hD3] at S HPr
  rw [hN0, hD0] at HS0
  rw [hN1, hD1] at HS1
  rw [hN2, hD2] at M0
  rw [hN3, hD3] at M1
  rw [hN0, hD0, hN1, hD1, hN2, hD2, hN3, hD3]
  clear hN0 hD0 hN1 hD1 hN2 hD2 hN3 hD3
  replace S := Lib.hid (S.out.box 32 [.slice q.a0 t.acc.length q.c0, .slice q.a1 t.rej.length q.c1])
  obtain ⟨⟨z0, f0, y0, y0a, -⟩, -⟩ := S.out.facts
  clear z0 f0 y0 y0a
  replace S := Lib.hid (S.out.box' 26 [.slice q0.a N0.length q0.c, .slice r0.a D0.length r0.c] (K := w.heap.size + 1) (by simp))
  obtain ⟨⟨z1, f1, y1, y1a, -⟩, ⟨z0, f0, y0, y0a, -⟩, -⟩ := S.out.facts
  clear z1 f1 y1 y1a z0 f0 y0 y0a
  replace S := Lib.hid (S.out.box' 26 [.slice q1.a N1.length q1.c, .slice r1.a D1.length r1.c] (K := w.heap.size + 1 + 1) (by simp))
  obtain ⟨⟨z2, f2, y2, y2a, -⟩, ⟨z1, f1, y1, y1a, -⟩, ⟨z0, f0, y0, y0a, -⟩, -⟩ := S.out.facts
  clear z2 f2 y2 y2a z1 f1 y1 y1a z0 f0 y0 y0a
  replace S := Lib.hid (S.out.box' 26 [.slice q2.a N2.length q2.c, .slice r2.a D2.length r2.c] (K := w.heap.size + 1 + 1 + 1) (by simp))
  obtain ⟨⟨z3, f3, y3, y3a, -⟩, ⟨z2, f2, y2, y2a, -⟩, ⟨z1, f1, y1, y1a, -⟩, ⟨z0, f0, y0, y0a, -⟩, -⟩ := S.out.facts
  clear z3 f3 y3 y3a z2 f2 y2 y2a z1 f1 y1 y1a z0 f0 y0 y0a
  replace S := Lib.hid (S.out.box' 26 [.slice q3.a N3.length q3.c, .slice r3.a D3.length r3.c] (K := w.heap.size + 1 + 1 + 1 + 1) (by simp))
  obtain ⟨⟨z4, f4, y4, y4a, -⟩, ⟨z3, f3, y3, y3a, -⟩, ⟨z2, f2, y2, y2a, -⟩, ⟨z1, f1, y1, y1a, -⟩, ⟨z0, f0, y0, y0a, -⟩, -⟩ := S.out.facts
  clear z4 f4 y4 y4a z3 f3 y3 y3a z2 f2 y2 y2a z1 f1 y1 y1a z0 f0 y0 y0a
  cases v0 with
  | false =>
    obtain ⟨⟨z4, f4, y4, y4a, -⟩, ⟨z3, f3, y3, y3a, -⟩, ⟨z2, f2, y2, y2a, -⟩, ⟨z1, f1, y1, y1a, -⟩, ⟨z0, f0, y0, y0a, -⟩, -⟩ := S.out.facts
    go_enter Tryz.func10, Tryz.ntmps10
    go_wp2_with fail
    refine (HV.out q _ (tstOld S.out (by simp))).mono ?_
    rintro e w1 ⟨rfl, hb⟩
    replace S := Lib.hid (S.out.call hb)
    clear hb
    clear z4 f4 y4 y4a z3 f3 y3 y3a z2 f2 y2 y2a z1 f1 y1 y1a z0 f0 y0 y0a
    obtain ⟨⟨z4, f4, y4, y4a, -⟩, ⟨z3, f3, y3, y3a, -⟩, ⟨z2, f2, y2, y2a, -⟩, ⟨z1, f1, y1, y1a, -⟩, ⟨z0, f0, y0, y0a, -⟩, -⟩ := S.out.facts
    go_wp2_with fail
    refine (HPr.out q0 r0 q1 r1 q2 r2 q3 r3 _ (natOld S.out (by simp)) (natOld S.out (by simp)) (natOld S.out (by simp)) (natOld S.out (by simp)) (natOld S.out (by simp)) (natOld S.out (by simp)) (natOld S.out (by simp)) (natOld S.out (by simp))).mono ?_
    rintro e w2 ⟨rfl, hb⟩
    replace S := Lib.hid (S.out.call hb)
    clear hb
    clear z4 f4 y4 y4a z3 f3 y3 y3a z2 f2 y2 y2a z1 f1 y1 y1a z0 f0 y0 y0a
    obtain ⟨⟨z4, f4, y4, y4a, -⟩, ⟨z3, f3, y3, y3a, -⟩, ⟨z2, f2, y2, y2a, -⟩, ⟨z1, f1, y1, y1a, -⟩, ⟨z0, f0, y0, y0a, -⟩, -⟩ := S.out.facts
    go_wp2_with fail
    refine (HS0.out q q0 r0 _ (tstOld S.out (by simp)) (natOld S.out (by simp)) (natOld S.out (by simp))).mono ?_
    rintro e w3 ⟨_, rfl, hS⟩
    obtain ⟨u3a, u3b, u3c, u3d, rfl, hr1, hr2, hr3, hr4, hb⟩ := hS.un
    replace S := Lib.hid (natOf S.out hr1 hb (by simp))
    replace S := Lib.hid (natOf S.out hr2 (Below.refl _ _) (by simp))
    replace S := Lib.hid (natOf S.out hr3 (Below.refl _ _) (by simp))
    replace S := Lib.hid (natOf S.out hr4 (Below.refl _ _) (by simp))
    clear hS hr1 hr2 hr3 hr4 hb
    clear z4 f4 y4 y4a z3 f3 y3 y3a z2 f2 y2 y2a z1 f1 y1 y1a z0 f0 y0 y0a
    replace S := Lib.hid (S.out.box' 24 [.slice u3a.a (lim F0).length u3a.c] (K := w3.heap.size) (by simp))
    obtain ⟨⟨z5, f5, y5, -⟩, ⟨z4, f4, y4, y4a, -⟩, ⟨z3, f3, y3, y3a, -⟩, ⟨z2, f2, y2, y2a, -⟩, ⟨z1, f1, y1, y1a, -⟩, ⟨z0, f0, y0, y0a, -⟩, -⟩ := S.out.facts
    clear z5 f5 y5 z4 f4 y4 y4a z3 f3 y3 y3a z2 f2 y2 y2a z1 f1 y1 y1a z0 f0 y0 y0a
    replace S := Lib.hid (S.out.box' 24 [.slice u3b.a (lim F0b).length u3b.c] (K := w3.heap.size + 1) (by simp))
    obtain ⟨⟨z6, f6, y6, -⟩, ⟨z5, f5, y5, -⟩, ⟨z4, f4, y4, y4a, -⟩, ⟨z3, f3, y3, y3a, -⟩, ⟨z2, f2, y2, y2a, -⟩, ⟨z1, f1, y1, y1a, -⟩, ⟨z0, f0, y0, y0a, -⟩, -⟩ := S.out.facts
    clear z6 f6 y6 z5 f5 y5 z4 f4 y4 y4a z3 f3 y3 y3a z2 f2 y2 y2a z1 f1 y1 y1a z0 f0 y0 y0a
    replace S := Lib.hid (S.out.box' 24 [.slice u3c.a (lim F0c).length u3c.c] (K := w3.heap.size + 1 + 1) (by simp))
    obtain ⟨⟨z7, f7, y7, -⟩, ⟨z6, f6, y6, -⟩, ⟨z5, f5, y5, -⟩, ⟨z4, f4, y4, y4a, -⟩, ⟨z3, f3, y3, y3a, -⟩, ⟨z2, f2, y2, y2a, -⟩, ⟨z1, f1, y1, y1a, -⟩, ⟨z0, f0, y0, y0a, -⟩, -⟩ := S.out.facts
    clear z7 f7 y7 z6 f6 y6 z5 f5 y5 z4 f4 y4 y4a z3 f3 y3 y3a z2 f2 y2 y2a z1 f1 y1 y1a z0 f0 y0 y0a
    replace S := Lib.hid (S.out.box' 24 [.slice u3d.a (lim K0).length u3d.c] (K := w3.heap.size + 1 + 1 + 1) (by simp))
    obtain ⟨⟨z8, f8, y8, -⟩, ⟨z7, f7, y7, -⟩, ⟨z6, f6, y6, -⟩, ⟨z5, f5, y5, -⟩, ⟨z4, f4, y4, y4a, -⟩, ⟨z3, f3, y3, y3a, -⟩, ⟨z2, f2, y2, y2a, -⟩, ⟨z1, f1, y1, y1a, -⟩, ⟨z0, f0, y0, y0a, -⟩, -⟩ := S.out.facts
    go_wp2_with fail
    refine (HS1.out q q1 r1 _ (tstOld S.out (by simp)) (natOld S.out (by simp)) (natOld S.out (by simp))).mono ?_
    rintro e w4 ⟨_, rfl, hS⟩
    obtain ⟨u4a, u4b, u4c, u4d, rfl, hr1, hr2, hr3, hr4, hb⟩ := hS.un
    replace S := Lib.hid (natOf S.out hr1 hb (by simp))
    replace S := Lib.hid (natOf S.out hr2 (Below.refl _ _) (by simp))
    replace S := Lib.hid (natOf S.out hr3 (Below.refl _ _) (by simp))
    replace S := Lib.hid (natOf S.out hr4 (Below.refl _ _) (by simp))
    clear hS hr1 hr2 hr3 hr4 hb
    clear z8 f8 y8 z7 f7 y7 z6 f6 y6 z5 f5 y5 z4 f4 y4 y4a z3 f3 y3 y3a z2 f2 y2 y2a z1 f1 y1 y1a z0 f0 y0 y0a
    replace S := Lib.hid (S.out.box' 24 [.slice u4a.a (lim P1b).length u4a.c] (K := w4.heap.size) (by simp))
    obtain ⟨⟨z9, f9, y9, -⟩, ⟨z8, f8, y8, -⟩, ⟨z7, f7, y7, -⟩, ⟨z6, f6, y6, -⟩, ⟨z5, f5, y5, -⟩, ⟨z4, f4, y4, y4a, -⟩, ⟨z3, f3, y3, y3a, -⟩, ⟨z2, f2, y2, y2a, -⟩, ⟨z1, f1, y1, y1a, -⟩, ⟨z0, f0, y0, y0a, -⟩, -⟩ := S.out.facts
    clear z9 f9 y9 z8 f8 y8 z7 f7 y7 z6 f6 y6 z5 f5 y5 z4 f4 y4 y4a z3 f3 y3 y3a z2 f2 y2 y2a z1 f1 y1 y1a z0 f0 y0 y0a
    replace S := Lib.hid (S.out.box' 24 [.slice u4b.a (lim P1).length u4b.c] (K := w4.heap.size + 1) (by simp))
    obtain ⟨⟨z10, f10, y10, -⟩, ⟨z9, f9, y9, -⟩, ⟨z8, f8, y8, -⟩, ⟨z7, f7, y7, -⟩, ⟨z6, f6, y6, -⟩, ⟨z5, f5, y5, -⟩, ⟨z4, f4, y4, y4a, -⟩, ⟨z3, f3, y3, y3a, -⟩, ⟨z2, f2, y2, y2a, -⟩, ⟨z1, f1, y1, y1a, -⟩, ⟨z0, f0, y0, y0a, -⟩, -⟩ := S.out.facts
    clear z10 f10 y10 z9 f9 y9 z8 f8 y8 z7 f7 y7 z6 f6 y6 z5 f5 y5 z4 f4 y4 y4a z3 f3 y3 y3a z2 f2 y2 y2a z1 f1 y1 y1a z0 f0 y0 y0a
    replace S := Lib.hid (S.out.box' 24 [.slice u4c.a (lim P1c).length u4c.c] (K := w4.heap.size + 1 + 1) (by simp))
    obtain ⟨⟨z11, f11, y11, -⟩, ⟨z10, f10, y10, -⟩, ⟨z9, f9, y9, -⟩, ⟨z8, f8, y8, -⟩, ⟨z7, f7, y7, -⟩, ⟨z6, f6, y6, -⟩, ⟨z5, f5, y5, -⟩, ⟨z4, f4, y4, y4a, -⟩, ⟨z3, f3, y3, y3a, -⟩, ⟨z2, f2, y2, y2a, -⟩, ⟨z1, f1, y1, y1a, -⟩, ⟨z0, f0, y0, y0a, -⟩, -⟩ := S.out.facts
    clear z11 f11 y11 z10 f10 y10 z9 f9 y9 z8 f8 y8 z7 f7 y7 z6 f6 y6 z5 f5 y5 z4 f4 y4 y4a z3 f3 y3 y3a z2 f2 y2 y2a z1 f1 y1 y1a z0 f0 y0 y0a
    replace S := Lib.hid (S.out.box' 24 [.slice u4d.a (lim K1).length u4d.c] (K := w4.heap.size + 1 + 1 + 1) (by simp))
    obtain ⟨⟨z12, f12, y12, -⟩, ⟨z11, f11, y11, -⟩, ⟨z10, f10, y10, -⟩, ⟨z9, f9, y9, -⟩, ⟨z8, f8, y8, -⟩, ⟨z7, f7, y7, -⟩, ⟨z6, f6, y6, -⟩, ⟨z5, f5, y5, -⟩, ⟨z4, f4, y4, y4a, -⟩, ⟨z3, f3, y3, y3a, -⟩, ⟨z2, f2, y2, y2a, -⟩, ⟨z1, f1, y1, y1a, -⟩, ⟨z0, f0, y0, y0a, -⟩, -⟩ := S.out.facts
    go_wp2_with fail
    refine (M0.out u3a u3d q2 r2 _ (natOld S.out (by simp)) (natOld S.out (by simp)) (natOld S.out (by simp)) (natOld S.out (by simp))).mono ?_
    rintro e w5 ⟨rfl, hb⟩
    replace S := Lib.hid (S.out.call hb)
    clear hb
    clear z12 f12 y12 z11 f11 y11 z10 f10 y10 z9 f9 y9 z8 f8 y8 z7 f7 y7 z6 f6 y6 z5 f5 y5 z4 f4 y4 y4a z3 f3 y3 y3a z2 f2 y2 y2a z1 f1 y1 y1a z0 f0 y0 y0a
    obtain ⟨⟨z12, f12, y12, -⟩, ⟨z11, f11, y11, -⟩, ⟨z10, f10, y10, -⟩, ⟨z9, f9, y9, -⟩, ⟨z8, f8, y8, -⟩, ⟨z7, f7, y7, -⟩, ⟨z6, f6, y6, -⟩, ⟨z5, f5, y5, -⟩, ⟨z4, f4, y4, y4a, -⟩, ⟨z3, f3, y3, y3a, -⟩, ⟨z2, f2, y2, y2a, -⟩, ⟨z1, f1, y1, y1a, -⟩, ⟨z0, f0, y0, y0a, -⟩, -⟩ := S.out.facts
    go_wp2
    go_ret2
    exact ⟨rfl, S.out.bel⟩
  | true =>
    obtain ⟨⟨z4, f4, y4, y4a, -⟩, ⟨z3, f3, y3, y3a, -⟩, ⟨z2, f2, y2, y2a, -⟩, ⟨z1, f1, y1, y1a, -⟩, ⟨z0, f0, y0, y0a, -⟩, -⟩ := S.out.facts
    go_enter Tryz.func10, Tryz.ntmps10
    go_wp2_with fail
    refine (HV.out q _ (tstOld S.out (by simp))).mono ?_
    rintro e w1 ⟨rfl, hb⟩
    replace S := Lib.hid (S.out.call hb)
    clear hb
    clear z4 f4 y4 y4a z3 f3 y3 y3a z2 f2 y2 y2a z1 f1 y1 y1a z0 f0 y0 y0a
    obtain ⟨⟨z4, f4, y4, y4a, -⟩, ⟨z3, f3, y3, y3a, -⟩, ⟨z2, f2, y2, y2a, -⟩, ⟨z1, f1, y1, y1a, -⟩, ⟨z0, f0, y0, y0a, -⟩, -⟩ := S.out.facts
    go_wp2_with fail
    refine (HPr.out q0 r0 q1 r1 q2 r2 q3 r3 _ (natOld S.out (by simp)) (natOld S.out (by simp)) (natOld S.out (by simp)) (natOld S.out (by simp)) (natOld S.out (by simp)) (natOld S.out (by simp)) (natOld S.out (by simp)) (natOld S.out (by simp))).mono ?_
    rintro e w2 ⟨rfl, hb⟩
    replace S := Lib.hid (S.out.call hb)
    clear hb
    clear z4 f4 y4 y4a z3 f3 y3 y3a z2 f2 y2 y2a z1 f1 y1 y1a z0 f0 y0 y0a
    obtain ⟨⟨z4, f4, y4, y4a, -⟩, ⟨z3, f3, y3, y3a, -⟩, ⟨z2, f2, y2, y2a, -⟩, ⟨z1, f1, y1, y1a, -⟩, ⟨z0, f0, y0, y0a, -⟩, -⟩ := S.out.facts
    go_wp2_with fail
    refine (HS0.out q q0 r0 _ (tstOld S.out (by simp)) (natOld S.out (by simp)) (natOld S.out (by simp))).mono ?_
    rintro e w3 ⟨_, rfl, hS⟩
    obtain ⟨u3a, u3b, u3c, u3d, rfl, hr1, hr2, hr3, hr4, hb⟩ := hS.un
    replace S := Lib.hid (natOf S.out hr1 hb (by simp))
    replace S := Lib.hid (natOf S.out hr2 (Below.refl _ _) (by simp))
    replace S := Lib.hid (natOf S.out hr3 (Below.refl _ _) (by simp))
    replace S := Lib.hid (natOf S.out hr4 (Below.refl _ _) (by simp))
    clear hS hr1 hr2 hr3 hr4 hb
    clear z4 f4 y4 y4a z3 f3 y3 y3a z2 f2 y2 y2a z1 f1 y1 y1a z0 f0 y0 y0a
    replace S := Lib.hid (S.out.box' 24 [.slice u3a.a (lim F0).length u3a.c] (K := w3.heap.size) (by simp))
    obtain ⟨⟨z5, f5, y5, -⟩, ⟨z4, f4, y4, y4a, -⟩, ⟨z3, f3, y3, y3a, -⟩, ⟨z2, f2, y2, y2a, -⟩, ⟨z1, f1, y1, y1a, -⟩, ⟨z0, f0, y0, y0a, -⟩, -⟩ := S.out.facts
    clear z5 f5 y5 z4 f4 y4 y4a z3 f3 y3 y3a z2 f2 y2 y2a z1 f1 y1 y1a z0 f0 y0 y0a
    replace S := Lib.hid (S.out.box' 24 [.slice u3b.a (lim F0b).length u3b.c] (K := w3.heap.size + 1) (by simp))
    obtain ⟨⟨z6, f6, y6, -⟩, ⟨z5, f5, y5, -⟩, ⟨z4, f4, y4, y4a, -⟩, ⟨z3, f3, y3, y3a, -⟩, ⟨z2, f2, y2, y2a, -⟩, ⟨z1, f1, y1, y1a, -⟩, ⟨z0, f0, y0, y0a, -⟩, -⟩ := S.out.facts
    clear z6 f6 y6 z5 f5 y5 z4 f4 y4 y4a z3 f3 y3 y3a z2 f2 y2 y2a z1 f1 y1 y1a z0 f0 y0 y0a
    replace S := Lib.hid (S.out.box' 24 [.slice u3c.a (lim F0c).length u3c.c] (K := w3.heap.size + 1 + 1) (by simp))
    obtain ⟨⟨z7, f7, y7, -⟩, ⟨z6, f6, y6, -⟩, ⟨z5, f5, y5, -⟩, ⟨z4, f4, y4, y4a, -⟩, ⟨z3, f3, y3, y3a, -⟩, ⟨z2, f2, y2, y2a, -⟩, ⟨z1, f1, y1, y1a, -⟩, ⟨z0, f0, y0, y0a, -⟩, -⟩ := S.out.facts
    clear z7 f7 y7 z6 f6 y6 z5 f5 y5 z4 f4 y4 y4a z3 f3 y3 y3a z2 f2 y2 y2a z1 f1 y1 y1a z0 f0 y0 y0a
    replace S := Lib.hid (S.out.box' 24 [.slice u3d.a (lim K0).length u3d.c] (K := w3.heap.size + 1 + 1 + 1) (by simp))
    obtain ⟨⟨z8, f8, y8, -⟩, ⟨z7, f7, y7, -⟩, ⟨z6, f6, y6, -⟩, ⟨z5, f5, y5, -⟩, ⟨z4, f4, y4, y4a, -⟩, ⟨z3, f3, y3, y3a, -⟩, ⟨z2, f2, y2, y2a, -⟩, ⟨z1, f1, y1, y1a, -⟩, ⟨z0, f0, y0, y0a, -⟩, -⟩ := S.out.facts
    go_wp2_with fail
    refine (HS1.out q q1 r1 _ (tstOld S.out (by simp)) (natOld S.out (by simp)) (natOld S.out (by simp))).mono ?_
    rintro e w4 ⟨_, rfl, hS⟩
    obtain ⟨u4a, u4b, u4c, u4d, rfl, hr1, hr2, hr3, hr4, hb⟩ := hS.un
    replace S := Lib.hid (natOf S.out hr1 hb (by simp))
    replace S := Lib.hid (natOf S.out hr2 (Below.refl _ _) (by simp))
    replace S := Lib.hid (natOf S.out hr3 (Below.refl _ _) (by simp))
    replace S := Lib.hid (natOf S.out hr4 (Below.refl _ _) (by simp))
    clear hS hr1 hr2 hr3 hr4 hb
    clear z8 f8 y8 z7 f7 y7 z6 f6 y6 z5 f5 y5 z4 f4 y4 y4a z3 f3 y3 y3a z2 f2 y2 y2a z1 f1 y1 y1a z0 f0 y0 y0a
    replace S := Lib.hid (S.out.box' 24 [.slice u4a.a (lim P1b).length u4a.c] (K := w4.heap.size) (by simp))
    obtain ⟨⟨z9, f9, y9, -⟩, ⟨z8, f8, y8, -⟩, ⟨z7, f7, y7, -⟩, ⟨z6, f6, y6, -⟩, ⟨z5, f5, y5, -⟩, ⟨z4, f4, y4, y4a, -⟩, ⟨z3, f3, y3, y3a, -⟩, ⟨z2, f2, y2, y2a, -⟩, ⟨z1, f1, y1, y1a, -⟩, ⟨z0, f0, y0, y0a, -⟩, -⟩ := S.out.facts
    clear z9 f9 y9 z8 f8 y8 z7 f7 y7 z6 f6 y6 z5 f5 y5 z4 f4 y4 y4a z3 f3 y3 y3a z2 f2 y2 y2a z1 f1 y1 y1a z0 f0 y0 y0a
    replace S := Lib.hid (S.out.box' 24 [.slice u4b.a (lim P1).length u4b.c] (K := w4.heap.size + 1) (by simp))
    obtain ⟨⟨z10, f10, y10, -⟩, ⟨z9, f9, y9, -⟩, ⟨z8, f8, y8, -⟩, ⟨z7, f7, y7, -⟩, ⟨z6, f6, y6, -⟩, ⟨z5, f5, y5, -⟩, ⟨z4, f4, y4, y4a, -⟩, ⟨z3, f3, y3, y3a, -⟩, ⟨z2, f2, y2, y2a, -⟩, ⟨z1, f1, y1, y1a, -⟩, ⟨z0, f0, y0, y0a, -⟩, -⟩ := S.out.facts
    clear z10 f10 y10 z9 f9 y9 z8 f8 y8 z7 f7 y7 z6 f6 y6 z5 f5 y5 z4 f4 y4 y4a z3 f3 y3 y3a z2 f2 y2 y2a z1 f1 y1 y1a z0 f0 y0 y0a
    replace S := Lib.hid (S.out.box' 24 [.slice u4c.a (lim P1c).length u4c.c] (K := w4.heap.size + 1 + 1) (by simp))
    obtain ⟨⟨z11, f11, y11, -⟩, ⟨z10, f10, y10, -⟩, ⟨z9, f9, y9, -⟩, ⟨z8, f8, y8, -⟩, ⟨z7, f7, y7, -⟩, ⟨z6, f6, y6, -⟩, ⟨z5, f5, y5, -⟩, ⟨z4, f4, y4, y4a, -⟩, ⟨z3, f3, y3, y3a, -⟩, ⟨z2, f2, y2, y2a, -⟩, ⟨z1, f1, y1, y1a, -⟩, ⟨z0, f0, y0, y0a, -⟩, -⟩ := S.out.facts
    clear z11 f11 y11 z10 f10 y10 z9 f9 y9 z8 f8 y8 z7 f7 y7 z6 f6 y6 z5 f5 y5 z4 f4 y4 y4a z3 f3 y3 y3a z2 f2 y2 y2a z1 f1 y1 y1a z0 f0 y0 y0a
    replace S := Lib.hid (S.out.box' 24 [.slice u4d.a (lim K1).length u4d.c] (K := w4.heap.size + 1 + 1 + 1) (by simp))
    obtain ⟨⟨z12, f12, y12, -⟩, ⟨z11, f11, y11, -⟩, ⟨z10, f10, y10, -⟩, ⟨z9, f9, y9, -⟩, ⟨z8, f8, y8, -⟩, ⟨z7, f7, y7, -⟩, ⟨z6, f6, y6, -⟩, ⟨z5, f5, y5, -⟩, ⟨z4, f4, y4, y4a, -⟩, ⟨z3, f3, y3, y3a, -⟩, ⟨z2, f2, y2, y2a, -⟩, ⟨z1, f1, y1, y1a, -⟩, ⟨z0, f0, y0, y0a, -⟩, -⟩ := S.out.facts
    go_wp2_with fail
    refine (M0.out u3a u3d q2 r2 _ (natOld S.out (by simp)) (natOld S.out (by simp)) (natOld S.out (by simp)) (natOld S.out (by simp))).mono ?_
    rintro e w5 ⟨rfl, hb⟩
    replace S := Lib.hid (S.out.call hb)
    clear hb
    clear z12 f12 y12 z11 f11 y11 z10 f10 y10 z9 f9 y9 z8 f8 y8 z7 f7 y7 z6 f6 y6 z5 f5 y5 z4 f4 y4 y4a z3 f3 y3 y3a z2 f2 y2 y2a z1 f1 y1 y1a z0 f0 y0 y0a
    obtain ⟨⟨z12, f12, y12, -⟩, ⟨z11, f11, y11, -⟩, ⟨z10, f10, y10, -⟩, ⟨z9, f9, y9, -⟩, ⟨z8, f8, y8, -⟩, ⟨z7, f7, y7, -⟩, ⟨z6, f6, y6, -⟩, ⟨z5, f5, y5, -⟩, ⟨z4, f4, y4, y4a, -⟩, ⟨z3, f3, y3, y3a, -⟩, ⟨z2, f2, y2, y2a, -⟩, ⟨z1, f1, y1, y1a, -⟩, ⟨z0, f0, y0, y0a, -⟩, -⟩ := S.out.facts
    go_wp2_with fail
    refine (M1.out u4b u4d q3 r3 _ (natOld S.out (by simp)) (natOld S.out (by simp)) (natOld S.out (by simp)) (natOld S.out (by simp))).mono ?_
    rintro e w6 ⟨rfl, hb⟩
    replace S := Lib.hid (S.out.call hb)
    clear hb
    clear z12 f12 y12 z11 f11 y11 z10 f10 y10 z9 f9 y9 z8 f8 y8 z7 f7 y7 z6 f6 y6 z5 f5 y5 z4 f4 y4 y4a z3 f3 y3 y3a z2 f2 y2 y2a z1 f1 y1 y1a z0 f0 y0 y0a
    obtain ⟨⟨z12, f12, y12, -⟩, ⟨z11, f11, y11, -⟩, ⟨z10, f10, y10, -⟩, ⟨z9, f9, y9, -⟩, ⟨z8, f8, y8, -⟩, ⟨z7, f7, y7, -⟩, ⟨z6, f6, y6, -⟩, ⟨z5, f5, y5, -⟩, ⟨z4, f4, y4, y4a, -⟩, ⟨z3, f3, y3, y3a, -⟩, ⟨z2, f2, y2, y2a, -⟩, ⟨z1, f1, y1, y1a, -⟩, ⟨z0, f0, y0, y0a, -⟩, -⟩ := S.out.facts
    go_wp2
    go_ret2
    exact ⟨rfl, S.out.bel⟩
set_option maxHeartbeats 8000000 in
set_option maxRecDepth 100000 in
theorem check2_err (t : Tst) (q : TstP) (n0 m0 n1 m1 n2 m2 n3 m3 : List Int) (q0 r0 q1 r1 q2 r2 q3 r3 : LmP) (w : World) (h : RTst w w.heap.size t q) (hbd : TBd t) (g0 : RLm w w.heap.size n0 q0) (h0 : RLm w w.heap.size m0 r0) (l0 : Lim n0) (k0 : Lim m0) (g1 : RLm w w.heap.size n1 q1) (h1 : RLm w w.heap.size m1 r1) (l1 : Lim n1) (k1 : Lim m1) (g2 : RLm w w.heap.size n2 q2) (h2 : RLm w w.heap.size m2 r2) (l2 : Lim n2) (k2 : Lim m2) (g3 : RLm w w.heap.size n3 q3) (h3 : RLm w w.heap.size m3 r3) (l3 : Lim n3) (k3 : Lim m3) (E : Int) (hE : E = if validE t = 0 then pairE n0 m0 n1 m1 n2 m2 n3 m3 else validE t) (hne : E ≠ 0) :
    Calls Tryz.prog 10 #[tstV t q, ratV n0 q0 m0 r0, ratV n1 q1 m1 r1, ratV n2 q2 m2 r2, ratV n3 q3 m3 r3] w (fun e w' => e = .returned (.tuple #[.bool false, .int .i64 E]) ∧ Below w.heap.size w w') := by
  have S := Lib.hid ((natArg (natArg (natArg (natArg (natArg (natArg (natArg (natArg (Fm.init w) h3) g3) h2) g2) h1) g1) h0) g0).arg (tstRd2 t q) h (fun g hg => tst_blk h hg))
  have HV := Lib.hid (fun q w' h' => hvalid_any t q w' h' hbd)
  have HPr := Lib.hid (fun q0 r0 q1 r1 q2 r2 q3 r3 w' a b c d e f g h => pair_any n0 m0 n1 m1 n2 m2 n3 m3 q0 r0 q1 r1 q2 r2 q3 r3 w' a b c d e f g h l0 k0 l1 k1 l2 k2 l3 k3)
  obtain ⟨V, hV⟩ : ∃ V, validE t = V := ⟨_, rfl⟩
  obtain ⟨P, hP⟩ : ∃ P, pairE n0 m0 n1 m1 n2 m2 n3 m3 = P := ⟨_, rfl⟩
  rw [hV] at HV hE
  rw [hP] at HPr hE
  clear hV hP g0 h0 g1 h1 g2 h2 g3 h3 l0 l1 l2 l3 k0 k1 k2 k3 hbd h
  have x1 : (E != 0) = true := by rw [bne_iff_ne]; exact hne
  replace S := Lib.hid (S.out.box 32 [.slice q.a0 t.acc.length q.c0, .slice q.a1 t.rej.length q.c1])
  obtain ⟨⟨z0, f0, y0, y0a, -⟩, -⟩ := S.out.facts
  clear z0 f0 y0 y0a
  replace S := Lib.hid (S.out.box' 26 [.slice q0.a n0.length q0.c, .slice r0.a m0.length r0.c] (K := w.heap.size + 1) (by simp))
  obtain ⟨⟨z1, f1, y1, y1a, -⟩, ⟨z0, f0, y0, y0a, -⟩, -⟩ := S.out.facts
  clear z1 f1 y1 y1a z0 f0 y0 y0a
  replace S := Lib.hid (S.out.box' 26 [.slice q1.a n1.length q1.c, .slice r1.a m1.length r1.c] (K := w.heap.size + 1 + 1) (by simp))
  obtain ⟨⟨z2, f2, y2, y2a, -⟩, ⟨z1, f1, y1, y1a, -⟩, ⟨z0, f0, y0, y0a, -⟩, -⟩ := S.out.facts
  clear z2 f2 y2 y2a z1 f1 y1 y1a z0 f0 y0 y0a
  replace S := Lib.hid (S.out.box' 26 [.slice q2.a n2.length q2.c, .slice r2.a m2.length r2.c] (K := w.heap.size + 1 + 1 + 1) (by simp))
  obtain ⟨⟨z3, f3, y3, y3a, -⟩, ⟨z2, f2, y2, y2a, -⟩, ⟨z1, f1, y1, y1a, -⟩, ⟨z0, f0, y0, y0a, -⟩, -⟩ := S.out.facts
  clear z3 f3 y3 y3a z2 f2 y2 y2a z1 f1 y1 y1a z0 f0 y0 y0a
  replace S := Lib.hid (S.out.box' 26 [.slice q3.a n3.length q3.c, .slice r3.a m3.length r3.c] (K := w.heap.size + 1 + 1 + 1 + 1) (by simp))
  obtain ⟨⟨z4, f4, y4, y4a, -⟩, ⟨z3, f3, y3, y3a, -⟩, ⟨z2, f2, y2, y2a, -⟩, ⟨z1, f1, y1, y1a, -⟩, ⟨z0, f0, y0, y0a, -⟩, -⟩ := S.out.facts
  clear z4 f4 y4 y4a z3 f3 y3 y3a z2 f2 y2 y2a z1 f1 y1 y1a z0 f0 y0 y0a
  by_cases v0 : V = 0
  · obtain rfl := v0
    rw [if_pos rfl] at hE
    obtain rfl := hE
    clear hne
    obtain ⟨⟨z4, f4, y4, y4a, -⟩, ⟨z3, f3, y3, y3a, -⟩, ⟨z2, f2, y2, y2a, -⟩, ⟨z1, f1, y1, y1a, -⟩, ⟨z0, f0, y0, y0a, -⟩, -⟩ := S.out.facts
    go_enter Tryz.func10, Tryz.ntmps10
    go_wp2_with fail
    refine (HV.out q _ (tstOld S.out (by simp))).mono ?_
    rintro e w1 ⟨rfl, hb⟩
    replace S := Lib.hid (S.out.call hb)
    clear hb
    clear z4 f4 y4 y4a z3 f3 y3 y3a z2 f2 y2 y2a z1 f1 y1 y1a z0 f0 y0 y0a
    obtain ⟨⟨z4, f4, y4, y4a, -⟩, ⟨z3, f3, y3, y3a, -⟩, ⟨z2, f2, y2, y2a, -⟩, ⟨z1, f1, y1, y1a, -⟩, ⟨z0, f0, y0, y0a, -⟩, -⟩ := S.out.facts
    go_wp2_with fail
    refine (HPr.out q0 r0 q1 r1 q2 r2 q3 r3 _ (natOld S.out (by simp)) (natOld S.out (by simp)) (natOld S.out (by simp)) (natOld S.out (by simp)) (natOld S.out (by simp)) (natOld S.out (by simp)) (natOld S.out (by simp)) (natOld S.out (by simp))).mono ?_
    rintro e w2 ⟨rfl, hb⟩
    replace S := Lib.hid (S.out.call hb)
    clear hb
    clear z4 f4 y4 y4a z3 f3 y3 y3a z2 f2 y2 y2a z1 f1 y1 y1a z0 f0 y0 y0a
    obtain ⟨⟨z4, f4, y4, y4a, -⟩, ⟨z3, f3, y3, y3a, -⟩, ⟨z2, f2, y2, y2a, -⟩, ⟨z1, f1, y1, y1a, -⟩, ⟨z0, f0, y0, y0a, -⟩, -⟩ := S.out.facts
    go_wp2
    go_ret2
    exact ⟨rfl, S.out.bel⟩
  · rw [if_neg v0] at hE
    obtain rfl := hE
    clear hne v0 HPr
    obtain ⟨⟨z4, f4, y4, y4a, -⟩, ⟨z3, f3, y3, y3a, -⟩, ⟨z2, f2, y2, y2a, -⟩, ⟨z1, f1, y1, y1a, -⟩, ⟨z0, f0, y0, y0a, -⟩, -⟩ := S.out.facts
    go_enter Tryz.func10, Tryz.ntmps10
    go_wp2_with fail
    refine (HV.out q _ (tstOld S.out (by simp))).mono ?_
    rintro e w1 ⟨rfl, hb⟩
    replace S := Lib.hid (S.out.call hb)
    clear hb
    clear z4 f4 y4 y4a z3 f3 y3 y3a z2 f2 y2 y2a z1 f1 y1 y1a z0 f0 y0 y0a
    obtain ⟨⟨z4, f4, y4, y4a, -⟩, ⟨z3, f3, y3, y3a, -⟩, ⟨z2, f2, y2, y2a, -⟩, ⟨z1, f1, y1, y1a, -⟩, ⟨z0, f0, y0, y0a, -⟩, -⟩ := S.out.facts
    go_wp2
    go_ret2
    exact ⟨rfl, S.out.bel⟩
set_option maxHeartbeats 8000000 in
set_option maxRecDepth 100000 in
theorem design_err (n0 m0 n1 m1 n2 m2 n3 m3 : List Int) (q0 r0 q1 r1 q2 r2 q3 r3 : LmP) (mo : Int) (w : World) (g0 : RLm w w.heap.size n0 q0) (h0 : RLm w w.heap.size m0 r0) (l0 : Lim n0) (k0 : Lim m0) (g1 : RLm w w.heap.size n1 q1) (h1 : RLm w w.heap.size m1 r1) (l1 : Lim n1) (k1 : Lim m1) (g2 : RLm w w.heap.size n2 q2) (h2 : RLm w w.heap.size m2 r2) (l2 : Lim n2) (k2 : Lim m2) (g3 : RLm w w.heap.size n3 q3) (h3 : RLm w w.heap.size m3 r3) (l3 : Lim n3) (k3 : Lim m3) (E : Int) (hE : (pairE n0 m0 n1 m1 n2 m2 n3 m3 = E ∧ E ≠ 0) ∨ (pairE n0 m0 n1 m1 n2 m2 n3 m3 = 0 ∧ (mo < 1 ∨ 40 < mo) ∧ E = 7)) :
    Calls Tryz.prog 7 #[ratV n0 q0 m0 r0, ratV n1 q1 m1 r1, ratV n2 q2 m2 r2, ratV n3 q3 m3 r3, .int .i64 mo] w (Ret (TRes w tst0 E)) := by
  have S := Lib.hid (natArg (natArg (natArg (natArg (natArg (natArg (natArg (natArg (Fm.init w) h3) g3) h2) g2) h1) g1) h0) g0)
  have HPr := Lib.hid (fun q0 r0 q1 r1 q2 r2 q3 r3 w' a b c d e f g h => pair_any n0 m0 n1 m1 n2 m2 n3 m3 q0 r0 q1 r1 q2 r2 q3 r3 w' a b c d e f g h l0 k0 l1 k1 l2 k2 l3 k3)
  obtain ⟨P, hP⟩ : ∃ P, pairE n0 m0 n1 m1 n2 m2 n3 m3 = P := ⟨_, rfl⟩
  rw [hP] at HPr hE
  clear hP g0 h0 g1 h1 g2 h2 g3 h3 l0 l1 l2 l3 k0 k1 k2 k3
  replace S := Lib.hid (S.out.box 26 [.slice q0.a n0.length q0.c, .slice r0.a m0.length r0.c])
  obtain ⟨⟨z0, f0, y0, y0a, -⟩, -⟩ := S.out.facts
  clear z0 f0 y0 y0a
  replace S := Lib.hid (S.out.box' 26 [.slice q1.a n1.length q1.c, .slice r1.a m1.length r1.c] (K := w.heap.size + 1) (by simp))
  obtain ⟨⟨z1, f1, y1, y1a, -⟩, ⟨z0, f0, y0, y0a, -⟩, -⟩ := S.out.facts
  clear z1 f1 y1 y1a z0 f0 y0 y0a
  replace S := Lib.hid (S.out.box' 26 [.slice q2.a n2.length q2.c, .slice r2.a m2.length r2.c] (K := w.heap.size + 1 + 1) (by simp))
  obtain ⟨⟨z2, f2, y2, y2a, -⟩, ⟨z1, f1, y1, y1a, -⟩, ⟨z0, f0, y0, y0a, -⟩, -⟩ := S.out.facts
  clear z2 f2 y2 y2a z1 f1 y1 y1a z0 f0 y0 y0a
  replace S := Lib.hid (S.out.box' 26 [.slice q3.a n3.length q3.c, .slice r3.a m3.length r3.c] (K := w.heap.size + 1 + 1 + 1) (by simp))
  obtain ⟨⟨z3, f3, y3, y3a, -⟩, ⟨z2, f2, y2, y2a, -⟩, ⟨z1, f1, y1, y1a, -⟩, ⟨z0, f0, y0, y0a, -⟩, -⟩ := S.out.facts
  clear z3 f3 y3 y3a z2 f2 y2 y2a z1 f1 y1 y1a z0 f0 y0 y0a
  replace S := Lib.hid (S.out.box' 32 [.slice none 0 0, .slice none 0 0] (K := w.heap.size + 1 + 1 + 1 + 1) (by simp))
  obtain ⟨⟨z4, f4, y4, y4a, -⟩, ⟨z3, f3, y3, y3a, -⟩, ⟨z2, f2, y2, y2a, -⟩, ⟨z1, f1, y1, y1a, -⟩, ⟨z0, f0, y0, y0a, -⟩, -⟩ := S.out.facts
  clear z4 f4 y4 y4a z3 f3 y3 y3a z2 f2 y2 y2a z1 f1 y1 y1a z0 f0 y0 y0a
  rcases hE with ⟨rfl, hne⟩ | ⟨rfl, hmo, rfl⟩
  · have x1 : (P != 0) = true := by rw [bne_iff_ne]; exact hne
    clear hne
    obtain ⟨⟨z4, f4, y4, y4a, -⟩, ⟨z3, f3, y3, y3a, -⟩, ⟨z2, f2, y2, y2a, -⟩, ⟨z1, f1, y1, y1a, -⟩, ⟨z0, f0, y0, y0a, -⟩, -⟩ := S.out.facts
    go_enter Tryz.func7, Tryz.ntmps7
    go_wp2_with fail
    refine (HPr.out q0 r0 q1 r1 q2 r2 q3 r3 _ (natOld S.out (by simp)) (natOld S.out (by simp)) (natOld S.out (by simp)) (natOld S.out (by simp)) (natOld S.out (by simp)) (natOld S.out (by simp)) (natOld S.out (by simp)) (natOld S.out (by simp))).mono ?_
    rintro e w1 ⟨rfl, hb⟩
    replace S := Lib.hid (S.out.call hb)
    clear hb
    clear z4 f4 y4 y4a z3 f3 y3 y3a z2 f2 y2 y2a z1 f1 y1 y1a z0 f0 y0 y0a
    obtain ⟨⟨z4, f4, y4, y4a, -⟩, ⟨z3, f3, y3, y3a, -⟩, ⟨z2, f2, y2, y2a, -⟩, ⟨z1, f1, y1, y1a, -⟩, ⟨z0, f0, y0, y0a, -⟩, -⟩ := S.out.facts
    replace S := Lib.hid ((S.out.set 0 rfl 0 (.slice none 0 0)).set 0 rfl 1 (.slice none 0 0))
    go_wp2
    refine bodyPost_ret (v := .tuple #[.agg #[.slice none 0 0, .slice none 0 0], .int .i64 P]) (by simp [results, Tryz.results7, go_sem, y4, y4a]) rfl ?_
    exact Ret.mk (TRes.none_ S.out.bel)
  · by_cases c1 : mo < 1
    · have d1 : decide (mo < 1) = true := decide_eq_true c1
      clear hmo c1
      obtain ⟨⟨z4, f4, y4, y4a, -⟩, ⟨z3, f3, y3, y3a, -⟩, ⟨z2, f2, y2, y2a, -⟩, ⟨z1, f1, y1, y1a, -⟩, ⟨z0, f0, y0, y0a, -⟩, -⟩ := S.out.facts
      go_enter Tryz.func7, Tryz.ntmps7
      go_wp2_with fail
      refine (HPr.out q0 r0 q1 r1 q2 r2 q3 r3 _ (natOld S.out (by simp)) (natOld S.out (by simp)) (natOld S.out (by simp)) (natOld S.out (by simp)) (natOld S.out (by simp)) (natOld S.out (by simp)) (natOld S.out (by simp)) (natOld S.out (by simp))).mono ?_
      rintro e w1 ⟨rfl, hb⟩
      replace S := Lib.hid (S.out.call hb)
      clear hb
      clear z4 f4 y4 y4a z3 f3 y3 y3a z2 f2 y2 y2a z1 f1 y1 y1a z0 f0 y0 y0a
      obtain ⟨⟨z4, f4, y4, y4a, -⟩, ⟨z3, f3, y3, y3a, -⟩, ⟨z2, f2, y2, y2a, -⟩, ⟨z1, f1, y1, y1a, -⟩, ⟨z0, f0, y0, y0a, -⟩, -⟩ := S.out.facts
      replace S := Lib.hid ((S.out.set 0 rfl 0 (.slice none 0 0)).set 0 rfl 1 (.slice none 0 0))
      go_wp2
      refine bodyPost_ret (v := .tuple #[.agg #[.slice none 0 0, .slice none 0 0], .int .i64 7]) (by simp [results, Tryz.results7, go_sem, y4, y4a]) rfl ?_
      exact Ret.mk (TRes.none_ S.out.bel)
    · have d1 : decide (mo < 1) = false := decide_eq_false c1
      have d2 : decide (40 < mo) = true := decide_eq_true (hmo.resolve_left c1)
      clear hmo c1
      obtain ⟨⟨z4, f4, y4, y4a, -⟩, ⟨z3, f3, y3, y3a, -⟩, ⟨z2, f2, y2, y2a, -⟩, ⟨z1, f1, y1, y1a, -⟩, ⟨z0, f0, y0, y0a, -⟩, -⟩ := S.out.facts
      go_enter Tryz.func7, Tryz.ntmps7
      go_wp2_with fail
      refine (HPr.out q0 r0 q1 r1 q2 r2 q3 r3 _ (natOld S.out (by simp)) (natOld S.out (by simp)) (natOld S.out (by simp)) (natOld S.out (by simp)) (natOld S.out (by simp)) (natOld S.out (by simp)) (natOld S.out (by simp)) (natOld S.out (by simp))).mono ?_
      rintro e w1 ⟨rfl, hb⟩
      replace S := Lib.hid (S.out.call hb)
      clear hb
      clear z4 f4 y4 y4a z3 f3 y3 y3a z2 f2 y2 y2a z1 f1 y1 y1a z0 f0 y0 y0a
      obtain ⟨⟨z4, f4, y4, y4a, -⟩, ⟨z3, f3, y3, y3a, -⟩, ⟨z2, f2, y2, y2a, -⟩, ⟨z1, f1, y1, y1a, -⟩, ⟨z0, f0, y0, y0a, -⟩, -⟩ := S.out.facts
      replace S := Lib.hid ((S.out.set 0 rfl 0 (.slice none 0 0)).set 0 rfl 1 (.slice none 0 0))
      go_wp2
      refine bodyPost_ret (v := .tuple #[.agg #[.slice none 0 0, .slice none 0 0], .int .i64 7]) (by simp [results, Tryz.results7, go_sem, y4, y4a]) rfl ?_
      exact Ret.mk (TRes.none_ S.out.bel)
end Go.Proofs.YtpoddmkimhkmoaaGreat
