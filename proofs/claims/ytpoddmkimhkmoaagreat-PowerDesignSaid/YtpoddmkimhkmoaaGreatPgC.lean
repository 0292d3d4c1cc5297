/-
  CONTRACT of sheaveref46.Design.
  Conditions: the arguments are as they come in.
-/
import Derived.Test.YtpoddmkimhkmoaaGreatPgB
import Derived.Test.YtpoddmkimhkmoaaGreatPwLp
namespace Go.Proofs.YtpoddmkimhkmoaaGreat
open Go.RowKit Go.Sv Go.Pw
/-- the reference's test of a fixed test is that of the first one -/
theorem okC_fix {n : Nat} {c : Int} {a0 d0 a1 d1 an ad bn bd : Nat} (h0 : 0 < n) (h2 : -1 ≤ c) (h3 : c ≤ n) (l0 : a0 ≤ d0) : okC (fixT n c) a0 d0 a1 d1 an ad bn bd = okD a0 d0 a1 d1 an ad bn bd n (c + 1).toNat := by
  unfold okC okD
  rw [(fixT_len c h0).1, (fix_sums h0 h2 h3 a0 (d0 - a0)).2, (fix_sums h0 h2 h3 a1 (d1 - a1)).1, show a0 + (d0 - a0) = d0 by omega]
set_option maxHeartbeats 8000000 in
set_option maxRecDepth 100000 in
theorem rdesign_any (a0 d0 a1 d1 an ad bn bd : Nat) (q0 r0 q1 r1 q2 r2 q3 r3 : LmP) (mo : Nat) (w : World) (g0 : RLm w w.heap.size (lim a0) q0) (h0 : RLm w w.heap.size (lim d0) r0) (g1 : RLm w w.heap.size (lim a1) q1) (h1 : RLm w w.heap.size (lim d1) r1) (g2 : RLm w w.heap.size (lim an) q2) (h2 : RLm w w.heap.size (lim ad) r2) (g3 : RLm w w.heap.size (lim bn) q3) (h3 : RLm w w.heap.size (lim bd) r3)
    (he : pairE (lim a0) (lim d0) (lim a1) (lim d1) (lim an) (lim ad) (lim bn) (lim bd) = 0) (p0 : PrB a0 d0) (p1 : PrB a1 d1) (b0 : BdB an ad) (b1 : BdB bn bd) (m1 : 1 ≤ mo) (m2 : mo ≤ 8) :
    Calls Tryz.prog 8 #[ratV (lim a0) q0 (lim d0) r0, ratV (lim a1) q1 (lim d1) r1, ratV (lim an) q2 (lim ad) r2, ratV (lim bn) q3 (lim bd) r3, .int .i64 (mo : Int)] w (Ret (DesR w (okD a0 d0 a1 d1 an ad bn bd) mo)) := by
  have S := Lib.hid (natArg (natArg (natArg (natArg (natArg (natArg (natArg (natArg (Fm.init w) h3) g3) h2) g2) h1) g1) h0) g0)
  have HE := Lib.hid (fun q0 r0 q1 r1 q2 r2 q3 r3 w' a b c d e f g h => by
    have := rerrs_any (lim a0) (lim d0) (lim a1) (lim d1) (lim an) (lim ad) (lim bn) (lim bd) q0 r0 q1 r1 q2 r2 q3 r3 w' a b (lim_lim _) (lim_lim _) c d (lim_lim _) (lim_lim _) e f (lim_lim _) (lim_lim _) g h (lim_lim _) (lim_lim _)
    rw [he] at this
    exact this)
  have HFx := Lib.hid (fun (n : Nat) (z : Int) w' (h0 : 0 < n) (h1 : n ≤ 64) (h2 : -1 ≤ z) (h3 : z ≤ n) => rfixed_ok n z w' h0 h1 h2 h3)
  have HH := Lib.hid (fun (n : Nat) (z : Int) q w' (h0 : 0 < n) (h1 : n ≤ 8) (h2 : -1 ≤ z) (h3 : z ≤ n) h' x0 y0 x1 y1 x2 y2 x3 y3 => by
    have := has_any (fixT n z) q a0 d0 a1 d1 an ad bn bd q0 r0 q1 r1 q2 r2 q3 r3 w' h' ⟨by rw [(fixT_len z h0).1]; omega, by rw [(fixT_len z h0).2]; omega⟩ (vld_validE (fixT_vld h0 (by omega) h2 h3)) (by rw [(fixT_len z h0).1]; omega) x0 y0 x1 y1 x2 y2 x3 y3 p0 p1 b0 b1
    rw [okC_fix h0 h2 h3 p0.le] at this
    exact this)
  clear g0 h0 g1 h1 g2 h2 g3 h3 he p0 p1 b0 b1
  generalize okD a0 d0 a1 d1 an ad bn bd = ok at *
  obtain ⟨N0, hN0⟩ : ∃ v, lim a0 = v := ⟨_, rfl⟩
  obtain ⟨D0, hD0⟩ : ∃ v, lim d0 = v := ⟨_, rfl⟩
  obtain ⟨N1, hN1⟩ : ∃ v, lim a1 = v := ⟨_, rfl⟩
  obtain ⟨D1, hD1⟩ : ∃ v, lim d1 = v := ⟨_, rfl⟩
  obtain ⟨N2, hN2⟩ : ∃ v, lim an = v := ⟨_, rfl⟩
  obtain ⟨D2, hD2⟩ : ∃ v, lim ad = v := ⟨_, rfl⟩
  obtain ⟨N3, hN3⟩ : ∃ v, lim bn = v := ⟨_, rfl⟩
  obtain ⟨D3, hD3⟩ : ∃ v, lim bd = v := ⟨_, rfl⟩
  rw [hN0, hD0, hN1, hD1, hN2, hD2, hN3, hD3] at S HE HH
  rw [hN0, hD0, hN1, hD1, hN2, hD2, hN3, hD3]
  clear hN0 hD0 hN1 hD1 hN2 hD2 hN3 hD3
  replace S := Lib.hid (S.out.box 26 [.slice q0.a N0.length q0.c, .slice r0.a D0.length r0.c])
  obtain ⟨⟨z0, f0, y0, y0a, -⟩, -⟩ := S.out.facts
  clear z0 f0 y0 y0a
  replace S := Lib.hid (S.out.box' 26 [.slice q1.a N1.length q1.c, .slice r1.a D1.length r1.c] (K := w.heap.size + 1) (by simp))
  obtain ⟨⟨z1, f1, y1, y1a, -⟩, ⟨z0, f0, y0, y0a, -⟩, -⟩ := S.out.facts
  clear z1 f1 y1 y1a z0 f0 y0 y0a
  replace S := Lib.hid (S.out.box' 26 [.slice q2.a N2.length q2.c, .slice r2.a D2.length r2.c] (K := w.heap.size + 1 + 1) (by simp))
  obtain ⟨⟨z2, f2, y2, y2a, -⟩, ⟨z1, f1, y1, y1a, -⟩, ⟨z0, f0, y0, y0a, -⟩, -⟩ := S.out.facts
  clear z2 f2 y2 y2a z1 f1 y1 y1a z0 f0 y0 y0a
  replace S := Lib.hid (S.out.box' 26 [.slice q3.a N3.length q3.c, .slice r3.a D3.length r3.c] (K := w.heap.size + 1 + 1 + 1) (by simp))
  obtain ⟨⟨z3, f3, y3, y3a, -⟩, ⟨z2, f2, y2, y2a, -⟩, ⟨z1, f1, y1, y1a, -⟩, ⟨z0, f0, y0, y0a, -⟩, -⟩ := S.out.facts
  clear z3 f3 y3 y3a z2 f2 y2 y2a z1 f1 y1 y1a z0 f0 y0 y0a
  replace S := Lib.hid (S.out.box' 32 [.slice none 0 0, .slice none 0 0] (K := w.heap.size + 1 + 1 + 1 + 1) (by simp))
  obtain ⟨⟨z4, f4, y4, y4a, -⟩, ⟨z3, f3, y3, y3a, -⟩, ⟨z2, f2, y2, y2a, -⟩, ⟨z1, f1, y1, y1a, -⟩, ⟨z0, f0, y0, y0a, -⟩, -⟩ := S.out.facts
  have e1 : decide ((mo : Int) < 1) = false := by rw [decide_eq_false_iff_not]; omega
  have e2 : decide (40 < mo) = false := by rw [decide_eq_false_iff_not]; omega
  go_enter Tryz.func8, Tryz.ntmps8
  go_wp2_with fail
  refine (HE.out q0 r0 q1 r1 q2 r2 q3 r3 _ (natOld S.out (by simp)) (natOld S.out (by simp)) (natOld S.out (by simp)) (natOld S.out (by simp)) (natOld S.out (by simp)) (natOld S.out (by simp)) (natOld S.out (by simp)) (natOld S.out (by simp))).mono ?_
  rintro e w1 ⟨rfl, hb⟩
  replace S := Lib.hid (S.out.call hb)
  clear hb HE
  clear z4 f4 y4 y4a z3 f3 y3 y3a z2 f2 y2 y2a z1 f1 y1 y1a z0 f0 y0 y0a
  obtain ⟨⟨z4, f4, y4, y4a, -⟩, ⟨z3, f3, y3, y3a, -⟩, ⟨z2, f2, y2, y2a, -⟩, ⟨z1, f1, y1, y1a, -⟩, ⟨z0, f0, y0, y0a, -⟩, -⟩ := S.out.facts
  go_wp2_with fail
  go_loopw [13] (fun i wr => ∃ (n : Nat), 1 ≤ n ∧ n ≤ mo + 1 ∧ i = .int .i64 (n : Int) ∧ Hid (Fm w wr [⟨w.heap.size + 1 + 1 + 1 + 1, 32, [.slice none 0 0, .slice none 0 0]⟩, ⟨w.heap.size + 1 + 1 + 1, 26, [.slice q3.a N3.length q3.c, .slice r3.a D3.length r3.c]⟩, ⟨w.heap.size + 1 + 1, 26, [.slice q2.a N2.length q2.c, .slice r2.a D2.length r2.c]⟩, ⟨w.heap.size + 1, 26, [.slice q1.a N1.length q1.c, .slice r1.a D1.length r1.c]⟩, ⟨w.heap.size, 26, [.slice q0.a N0.length q0.c, .slice r0.a D0.length r0.c]⟩] [rowRd N0 q0, rowRd D0 r0, rowRd N1 q1, rowRd D1 r1, rowRd N2 q2, rowRd D2 r2, rowRd N3 q3, rowRd D3 r3]) ∧ Hid (NoD ok n 0)) (fun i _ => mo + 1 - (intOf i).toNat)
  case atStart => exact ⟨1, Nat.le_refl _, by omega, rfl, S, Lib.hid (NoD.start _)⟩
  case round =>
    clear S z4 f4 y4 y4a z3 f3 y3 y3a z2 f2 y2 y2a z1 f1 y1 y1a z0 f0 y0 y0a
    rename World => wo
    obtain ⟨n, hn1, hn2, rfl, S, hnone⟩ := hrel
    obtain ⟨⟨z4, f4, y4, y4a, -⟩, ⟨z3, f3, y3, y3a, -⟩, ⟨z2, f2, y2, y2a, -⟩, ⟨z1, f1, y1, y1a, -⟩, ⟨z0, f0, y0, y0a, -⟩, -⟩ := S.out.facts
    by_cases hlt : n ≤ mo
    · have hd : decide ((n : Int) ≤ (mo : Int)) = true := decide_eq_true (by omega)
      go_wp2_with fail
      clear z4 f4 y4 y4a z3 f3 y3 y3a z2 f2 y2 y2a z1 f1 y1 y1a z0 f0 y0 y0a
      go_loopw [14] (fun c wr => ∃ (k : Nat) (z : Int), k ≤ n + 2 ∧ c = .int .i64 z ∧ Hid (z = (k : Int) - 1) ∧ Hid (Fm w wr [⟨w.heap.size + 1 + 1 + 1 + 1, 32, [.slice none 0 0, .slice none 0 0]⟩, ⟨w.heap.size + 1 + 1 + 1, 26, [.slice q3.a N3.length q3.c, .slice r3.a D3.length r3.c]⟩, ⟨w.heap.size + 1 + 1, 26, [.slice q2.a N2.length q2.c, .slice r2.a D2.length r2.c]⟩, ⟨w.heap.size + 1, 26, [.slice q1.a N1.length q1.c, .slice r1.a D1.length r1.c]⟩, ⟨w.heap.size, 26, [.slice q0.a N0.length q0.c, .slice r0.a D0.length r0.c]⟩] [rowRd N0 q0, rowRd D0 r0, rowRd N1 q1, rowRd D1 r1, rowRd N2 q2, rowRd D2 r2, rowRd N3 q3, rowRd D3 r3]) ∧ Hid (NoD ok n k)) (fun c _ => n + 2 - (intOf c + 1).toNat)
      case atStart => exact ⟨0, -1, Nat.zero_le _, rfl, Lib.hid rfl, S, hnone⟩
      case round =>
        clear S hnone
        obtain ⟨k, z, hk, rfl, hz, S, hnone⟩ := hrel
        by_cases hlk : k ≤ n + 1
        · have hd2 : decide (z ≤ (n : Int)) = true := decide_eq_true (by have := hz.out; omega)
          have rz2 : IntKind.i64.wrap (z + 1) = z + 1 := IntWalk.i64_in _ (by have := hz.out; omega)
          obtain ⟨⟨z4, f4, y4, y4a, -⟩, ⟨z3, f3, y3, y3a, -⟩, ⟨z2, f2, y2, y2a, -⟩, ⟨z1, f1, y1, y1a, -⟩, ⟨z0, f0, y0, y0a, -⟩, -⟩ := S.out.facts
          have HF := Lib.hid (fun w' => HFx.out n z w' (by omega) (by omega) (by have := hz.out; omega) (by have := hz.out; omega))
          have HK := Lib.hid (fun q w' h' x0 y0 x1 y1 x2 y2 x3 y3 => HH.out n z q w' (by omega) (by omega) (by have := hz.out; omega) (by have := hz.out; omega) h' x0 y0 x1 y1 x2 y2 x3 y3)
          rw [show (z + 1).toNat = k by have := hz.out; omega] at HK
          obtain ⟨v, hv⟩ : ∃ v, ok n k = v := ⟨_, rfl⟩
          rw [hv] at HK
          obtain ⟨TF, hTF⟩ : ∃ T, fixT n z = T := ⟨_, rfl⟩
          rw [hTF] at HF HK
          have hTF2 : Hid (fixT n ((k : Int) - 1) = TF) := Lib.hid (by rw [← hz.out]; exact hTF)
          clear hTF
          go_wp2_with fail
          refine (HF.out _).mono ?_
          rintro e w3 ⟨_, rfl, q9, rfl, hr, hb⟩
          replace S := Lib.hid (fm_tst S.out hb hr (by simp [NoInt]))
          clear hr hb HF z4 f4 y4 y4a z3 f3 y3 y3a z2 f2 y2 y2a z1 f1 y1 y1a z0 f0 y0 y0a
          replace S := Lib.hid (S.out.box 32 [.slice q9.a0 TF.acc.length q9.c0, .slice q9.a1 TF.rej.length q9.c1])
          obtain ⟨⟨z5, f5, y5, y5a, -⟩, ⟨z4, f4, y4, y4a, -⟩, ⟨z3, f3, y3, y3a, -⟩, ⟨z2, f2, y2, y2a, -⟩, ⟨z1, f1, y1, y1a, -⟩, ⟨z0, f0, y0, y0a, -⟩, -⟩ := S.out.facts
          go_wp2_with fail
          refine (HK.out q9 _ (tstOld S.out (by simp)) (natOld S.out (by simp)) (natOld S.out (by simp)) (natOld S.out (by simp)) (natOld S.out (by simp)) (natOld S.out (by simp)) (natOld S.out (by simp)) (natOld S.out (by simp)) (natOld S.out (by simp))).mono ?_
          rintro e w4 ⟨rfl, hb⟩
          replace S := Lib.hid (S.out.call hb)
          clear hb HK z5 f5 y5 y5a z4 f4 y4 y4a z3 f3 y3 y3a z2 f2 y2 y2a z1 f1 y1 y1a z0 f0 y0 y0a
          obtain ⟨⟨z5, f5, y5, y5a, -⟩, ⟨z4, f4, y4, y4a, -⟩, ⟨z3, f3, y3, y3a, -⟩, ⟨z2, f2, y2, y2a, -⟩, ⟨z1, f1, y1, y1a, -⟩, ⟨z0, f0, y0, y0a, -⟩, -⟩ := S.out.facts
          cases v with
          | false =>
            have hN := Lib.hid (hnone.out.next hv)
            have S2 : Hid (Fm w w4 [⟨w.heap.size + 1 + 1 + 1 + 1, 32, [.slice none 0 0, .slice none 0 0]⟩, ⟨w.heap.size + 1 + 1 + 1, 26, [.slice q3.a N3.length q3.c, .slice r3.a D3.length r3.c]⟩, ⟨w.heap.size + 1 + 1, 26, [.slice q2.a N2.length q2.c, .slice r2.a D2.length r2.c]⟩, ⟨w.heap.size + 1, 26, [.slice q1.a N1.length q1.c, .slice r1.a D1.length r1.c]⟩, ⟨w.heap.size, 26, [.slice q0.a N0.length q0.c, .slice r0.a D0.length r0.c]⟩] [rowRd N0 q0, rowRd D0 r0, rowRd N1 q1, rowRd D1 r1, rowRd N2 q2, rowRd D2 r2, rowRd N3 q3, rowRd D3 r3]) := Lib.hid (fm_sel S.out _ _ (.cons _ (List.Sublist.refl _)) (by simp))
            clear S hnone hv
            go_wp2
            go_roundw
            case rel => exact ⟨k + 1, z + 1, by omega, by go_num, Lib.hid (by have := hz.out; omega), S2, hN⟩
            case measure => simp [intOf]; have := hz.out; omega
          | true =>
            replace hv := Lib.hid hv
            replace S := Lib.hid (S.out.set 1 rfl 0 (.slice q9.a0 TF.acc.length q9.c0))
            replace S := Lib.hid (S.out.set 1 rfl 1 (.slice q9.a1 TF.rej.length q9.c1))
            go_wp2
            refine bodyPost_ret (v := .tuple #[tstV TF q9, .int .i64 0]) (by simp [results, Tryz.results8, go_sem, y4, y4a]) rfl ?_
            exact Ret.mk (.inl ⟨n, k, hn1, hlt, by omega, hv.out, hnone.out, q9, by rw [hTF2.out], by rw [hTF2.out]; exact (tstOld S.out (by simp)), S.out.bel⟩)
        · have hd2 : decide (z ≤ (n : Int)) = false := by rw [decide_eq_false_iff_not]; have := hz.out; omega
          obtain rfl : k = n + 2 := by omega
          clear hz hlk
          have hN := Lib.hid hnone.out.row
          have rz1 : IntKind.i64.wrap ((n : Int) + 1) = (n : Int) + 1 := IntWalk.i64_in _ (by omega)
          clear hnone
          go_wp2
          go_roundw
          case rel => exact ⟨n + 1, by omega, by omega, by go_num, S, hN⟩
          case measure => simp [intOf]; omega
    · have hd : decide ((n : Int) ≤ (mo : Int)) = false := by rw [decide_eq_false_iff_not]; omega
      obtain rfl : n = mo + 1 := by omega
      clear hlt
      replace S := Lib.hid ((S.out.set 0 rfl 0 (.slice none 0 0)).set 0 rfl 1 (.slice none 0 0))
      go_wp2
      refine bodyPost_ret (v := .tuple #[.agg #[.slice none 0 0, .slice none 0 0], .int .i64 4]) (by simp [results, Tryz.results8, go_sem, y4, y4a]) rfl ?_
      exact Ret.mk (.inr ⟨hnone.out, TRes.none_ S.out.bel⟩)
set_option maxHeartbeats 8000000 in
set_option maxRecDepth 100000 in
theorem rdesign_err (n0 m0 n1 m1 n2 m2 n3 m3 : List Int) (q0 r0 q1 r1 q2 r2 q3 r3 : LmP) (mo : Int) (w : World) (g0 : RLm w w.heap.size n0 q0) (h0 : RLm w w.heap.size m0 r0) (l0 : Lim n0) (k0 : Lim m0) (g1 : RLm w w.heap.size n1 q1) (h1 : RLm w w.heap.size m1 r1) (l1 : Lim n1) (k1 : Lim m1) (g2 : RLm w w.heap.size n2 q2) (h2 : RLm w w.heap.size m2 r2) (l2 : Lim n2) (k2 : Lim m2) (g3 : RLm w w.heap.size n3 q3) (h3 : RLm w w.heap.size m3 r3) (l3 : Lim n3) (k3 : Lim m3) (E : Int) (hE : (pairE n0 m0 n1 m1 n2 m2 n3 m3 = E ∧ E ≠ 0) ∨ (pairE n0 m0 n1 m1 n2 m2 n3 m3 = 0 ∧ (mo < 1 ∨ 40 < mo) ∧ E = 7)) :
    Calls Tryz.prog 8 #[ratV n0 q0 m0 r0, ratV n1 q1 m1 r1, ratV n2 q2 m2 r2, ratV n3 q3 m3 r3, .int .i64 mo] w (Ret (TRes w tst0 E)) := by
  have S := Lib.hid (natArg (natArg (natArg (natArg (natArg (natArg (natArg (natArg (Fm.init w) h3) g3) h2) g2) h1) g1) h0) g0)
  have HPr := Lib.hid (fun q0 r0 q1 r1 q2 r2 q3 r3 w' a b c d e f g h => rerrs_any n0 m0 n1 m1 n2 m2 n3 m3 q0 r0 q1 r1 q2 r2 q3 r3 w' a b l0 k0 c d l1 k1 e f l2 k2 g h l3 k3)
  obtain ⟨P, hP⟩ : ∃ P, pairE n0 m0 n1 m1 n2 m2 n3 m3 = P := ⟨_, rfl⟩
  rw [hP] at HPr hE
  clear hP g0 h0 g1 h1 g2 h2 g3 h3 l0 l1 l2 l3 k0 k1 k2 k3
  replace S := Lib.hid (S.out.box 26 [.slice q0.a n0.length q0.c, .slice r0.a m0.length r0.c])
  obtain ⟨⟨z0, f0, y0, y0a, -⟩, -⟩ := S.out.facts
  clear z0 f0 y0 y0a
  replace S := Lib.hid (S.out.box' 26 [.slice q1.a n1.length q1.c, .slice r1.a m1.length r1.c] (K := w.heap.size + 1) (by simp))
  obtain ⟨⟨z1, f1, y1, y1a, -⟩, ⟨z0, f0, y0, y0a, -⟩, -⟩ := S.out.facts
  clear z1 f1 y1 y1a z0 f0 y0 y0a
  replace S := Lib.hid (S.out.box' 26 [.slice q2.a n2.length q2.c, .slice r2.a m2.length r2.c] (K := w.heap.size + 1 + 1) (by simp))
  obtain ⟨⟨z2, f2, y2, y2a, -⟩, ⟨z1, f1, y1, y1a, -⟩, ⟨z0, f0, y0, y0a, -⟩, -⟩ := S.out.facts
  clear z2 f2 y2 y2a z1 f1 y1 y1a z0 f0 y0 y0a
  replace S := Lib.hid (S.out.box' 26 [.slice q3.a n3.length q3.c, .slice r3.a m3.length r3.c] (K := w.heap.size + 1 + 1 + 1) (by simp))
  obtain ⟨⟨z3, f3, y3, y3a, -⟩, ⟨z2, f2, y2, y2a, -⟩, ⟨z1, f1, y1, y1a, -⟩, ⟨z0, f0, y0, y0a, -⟩, -⟩ := S.out.facts
  clear z3 f3 y3 y3a z2 f2 y2 y2a z1 f1 y1 y1a z0 f0 y0 y0a
  replace S := Lib.hid (S.out.box' 32 [.slice none 0 0, .slice none 0 0] (K := w.heap.size + 1 + 1 + 1 + 1) (by simp))
  obtain ⟨⟨z4, f4, y4, y4a, -⟩, ⟨z3, f3, y3, y3a, -⟩, ⟨z2, f2, y2, y2a, -⟩, ⟨z1, f1, y1, y1a, -⟩, ⟨z0, f0, y0, y0a, -⟩, -⟩ := S.out.facts
  clear z4 f4 y4 y4a z3 f3 y3 y3a z2 f2 y2 y2a z1 f1 y1 y1a z0 f0 y0 y0a
  rcases hE with ⟨rfl, hne⟩ | ⟨rfl, hmo, rfl⟩
  · have x1 : (P != 0) = true := by rw [bne_iff_ne]; exact hne
    clear hne
    obtain ⟨⟨z4, f4, y4, y4a, -⟩, ⟨z3, f3, y3, y3a, -⟩, ⟨z2, f2, y2, y2a, -⟩, ⟨z1, f1, y1, y1a, -⟩, ⟨z0, f0, y0, y0a, -⟩, -⟩ := S.out.facts
    go_enter Tryz.func8, Tryz.ntmps8
    go_wp2_with fail
    refine (HPr.out q0 r0 q1 r1 q2 r2 q3 r3 _ (natOld S.out (by simp)) (natOld S.out (by simp)) (natOld S.out (by simp)) (natOld S.out (by simp)) (natOld S.out (by simp)) (natOld S.out (by simp)) (natOld S.out (by simp)) (natOld S.out (by simp))).mono ?_
    rintro e w1 ⟨rfl, hb⟩
    replace S := Lib.hid (S.out.call hb)
    clear hb
    clear z4 f4 y4 y4a z3 f3 y3 y3a z2 f2 y2 y2a z1 f1 y1 y1a z0 f0 y0 y0a
    obtain ⟨⟨z4, f4, y4, y4a, -⟩, ⟨z3, f3, y3, y3a, -⟩, ⟨z2, f2, y2, y2a, -⟩, ⟨z1, f1, y1, y1a, -⟩, ⟨z0, f0, y0, y0a, -⟩, -⟩ := S.out.facts
    replace S := Lib.hid ((S.out.set 0 rfl 0 (.slice none 0 0)).set 0 rfl 1 (.slice none 0 0))
    go_wp2
    refine bodyPost_ret (v := .tuple #[.agg #[.slice none 0 0, .slice none 0 0], .int .i64 P]) (by simp [results, Tryz.results8, go_sem, y4, y4a]) rfl ?_
    exact Ret.mk (TRes.none_ S.out.bel)
  · by_cases c1 : mo < 1
    · have d1 : decide (mo < 1) = true := decide_eq_true c1
      clear hmo c1
      obtain ⟨⟨z4, f4, y4, y4a, -⟩, ⟨z3, f3, y3, y3a, -⟩, ⟨z2, f2, y2, y2a, -⟩, ⟨z1, f1, y1, y1a, -⟩, ⟨z0, f0, y0, y0a, -⟩, -⟩ := S.out.facts
      go_enter Tryz.func8, Tryz.ntmps8
      go_wp2_with fail
      refine (HPr.out q0 r0 q1 r1 q2 r2 q3 r3 _ (natOld S.out (by simp)) (natOld S.out (by simp)) (natOld S.out (by simp)) (natOld S.out (by simp)) (natOld S.out (by simp)) (natOld S.out (by simp)) (natOld S.out (by simp)) (natOld S.out (by simp))).mono ?_
      rintro e w1 ⟨rfl, hb⟩
      replace S := Lib.hid (S.out.call hb)
      clear hb
      clear z4 f4 y4 y4a z3 f3 y3 y3a z2 f2 y2 y2a z1 f1 y1 y1a z0 f0 y0 y0a
      obtain ⟨⟨z4, f4, y4, y4a, -⟩, ⟨z3, f3, y3, y3a, -⟩, ⟨z2, f2, y2, y2a, -⟩, ⟨z1, f1, y1, y1a, -⟩, ⟨z0, f0, y0, y0a, -⟩, -⟩ := S.out.facts
      replace S := Lib.hid ((S.out.set 0 rfl 0 (.slice none 0 0)).set 0 rfl 1 (.slice none 0 0))
      go_wp2
      refine bodyPost_ret (v := .tuple #[.agg #[.slice none 0 0, .slice none 0 0], .int .i64 7]) (by simp [results, Tryz.results8, go_sem, y4, y4a]) rfl ?_
      exact Ret.mk (TRes.none_ S.out.bel)
    · have d1 : decide (mo < 1) = false := decide_eq_false c1
      have d2 : decide (40 < mo) = true := decide_eq_true (hmo.resolve_left c1)
      clear hmo c1
      obtain ⟨⟨z4, f4, y4, y4a, -⟩, ⟨z3, f3, y3, y3a, -⟩, ⟨z2, f2, y2, y2a, -⟩, ⟨z1, f1, y1, y1a, -⟩, ⟨z0, f0, y0, y0a, -⟩, -⟩ := S.out.facts
      go_enter Tryz.func8, Tryz.ntmps8
      go_wp2_with fail
      refine (HPr.out q0 r0 q1 r1 q2 r2 q3 r3 _ (natOld S.out (by simp)) (natOld S.out (by simp)) (natOld S.out (by simp)) (natOld S.out (by simp)) (natOld S.out (by simp)) (natOld S.out (by simp)) (natOld S.out (by simp)) (natOld S.out (by simp))).mono ?_
      rintro e w1 ⟨rfl, hb⟩
      replace S := Lib.hid (S.out.call hb)
      clear hb
      clear z4 f4 y4 y4a z3 f3 y3 y3a z2 f2 y2 y2a z1 f1 y1 y1a z0 f0 y0 y0a
      obtain ⟨⟨z4, f4, y4, y4a, -⟩, ⟨z3, f3, y3, y3a, -⟩, ⟨z2, f2, y2, y2a, -⟩, ⟨z1, f1, y1, y1a, -⟩, ⟨z0, f0, y0, y0a, -⟩, -⟩ := S.out.facts
      replace S := Lib.hid ((S.out.set 0 rfl 0 (.slice none 0 0)).set 0 rfl 1 (.slice none 0 0))
      go_wp2
      refine bodyPost_ret (v := .tuple #[.agg #[.slice none 0 0, .slice none 0 0], .int .i64 7]) (by simp [results, Tryz.results8, go_sem, y4, y4a]) rfl ?_
      exact Ret.mk (TRes.none_ S.out.bel)
end Go.Proofs.YtpoddmkimhkmoaaGreat
