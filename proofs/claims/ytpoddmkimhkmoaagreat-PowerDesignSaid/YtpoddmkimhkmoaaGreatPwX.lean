/-
  CONTRACT of power.Design.
  Conditions: those that each theorem names.
-/
import Derived.Test.YtpoddmkimhkmoaaGreatPb5
namespace Go.Proofs.YtpoddmkimhkmoaaGreat
open Go.RowKit Go.Sv Go.Pw
set_option maxHeartbeats 8000000 in
set_option maxRecDepth 100000 in
theorem design_any (a0 d0 a1 d1 an ad bn bd mo : Nat) (q0 r0 q1 r1 q2 r2 q3 r3 : LmP) (w : World) (g0 : RLm w w.heap.size (lim a0) q0) (h0 : RLm w w.heap.size (lim d0) r0) (g1 : RLm w w.heap.size (lim a1) q1) (h1 : RLm w w.heap.size (lim d1) r1) (g2 : RLm w w.heap.size (lim an) q2) (h2 : RLm w w.heap.size (lim ad) r2) (g3 : RLm w w.heap.size (lim bn) q3) (h3 : RLm w w.heap.size (lim bd) r3)
    (he : pairE (lim a0) (lim d0) (lim a1) (lim d1) (lim an) (lim ad) (lim bn) (lim bd) = 0) (le0 : a0 ≤ d0) (k0 : d0 ≤ 1000) (le1 : a1 ≤ d1) (k1 : d1 ≤ 1000) (kan : an ≤ ad) (kad : ad < 4294967296) (kbn : bn ≤ bd) (kbd : bd < 4294967296) (m1 : 1 ≤ mo) (m2 : mo ≤ 40) :
    Calls Tryz.prog 7 #[ratV (lim a0) q0 (lim d0) r0, ratV (lim a1) q1 (lim d1) r1, ratV (lim an) q2 (lim ad) r2, ratV (lim bn) q3 (lim bd) r3, .int .i64 (mo : Int)] w (Ret (DesR w (okD a0 d0 a1 d1 an ad bn bd) mo)) := by
  have S := Lib.hid (natArg (natArg (natArg (natArg (natArg (natArg (natArg (natArg (Fm.init w) h3) g3) h2) g2) h1) g1) h0) g0)
  have HPr := Lib.hid (fun q0 r0 q1 r1 q2 r2 q3 r3 w' a b c d e f g h => by
    have := pair_any (lim a0) (lim d0) (lim a1) (lim d1) (lim an) (lim ad) (lim bn) (lim bd) q0 r0 q1 r1 q2 r2 q3 r3 w' a b c d e f g h (lim_lim _) (lim_lim _) (lim_lim _) (lim_lim _) (lim_lim _) (lim_lim _) (lim_lim _) (lim_lim _)
    rw [he] at this
    exact this)
  have smD : Hid (∀ x n, x ≤ 1000 → n ≤ 40 → sm (x ^ n)) := Lib.hid fun x n hx hn => sm_b (Nat.le_trans (big_pow hx (by omega)) (Nat.le_mul_of_pos_left _ (by decide)))
  have smX : Hid (∀ x n y k, x ≤ 1000 → n ≤ 40 → y ≤ x ^ n → k < 4294967296 → sm (y * k)) := Lib.hid fun x n y k hx hn hy hk => sm_b (by
    rw [Nat.mul_comm]
    exact Nat.mul_le_mul (by omega) (Nat.le_trans hy (big_pow hx (by omega))))
  have low_le : Hid (∀ a d n c, a ≤ d → c ≤ n + 1 → low a (d - a) n c ≤ d ^ n) := Lib.hid fun a d n c hd hc => by
    have := low_mono (a := a) (b := d - a) (n := n) hc
    rw [low_all, show a + (d - a) = d by omega] at this
    exact this
  have HB0 := Lib.hid (fun (n : Nat) q r w' (hn : n ≤ 40) x y => binom_any n a0 d0 q r w' x y le0 k0 hn)
  have HB1 := Lib.hid (fun (n : Nat) q r w' (hn : n ≤ 40) x y => binom_any n a1 d1 q r w' x y le1 k1 hn)
  have HP := Lib.hid (fun (x n : Nat) q w' (h0 : sm x) (h1 : sm (x ^ n)) (h2 : RLm w' w'.heap.size (lim x) q) => ppow_lim x q w' n h0 h1 h2)
  have HS := Lib.hid (fun (x y : Nat) q r w' (h0 : sm x) (h1 : sm y) (h2 : y ≤ x) (h3 : RLm w' w'.heap.size (lim x) q) (h4 : RLm w' w'.heap.size (lim y) r) => psub_lim x y q r w' h0 h1 h2 h3 h4)
  have HA := Lib.hid (fun (x y : Nat) q r w' (h0 : sm x) (h1 : sm y) (h2 : sm (x + y)) (h3 : RLm w' w'.heap.size (lim x) q) (h4 : RLm w' w'.heap.size (lim y) r) => padd_lim x y q r w' h0 h1 h2 h3 h4)
  have HM := Lib.hid (fun (x y n d : Nat) qx qy qn qd w' hx hy hn hd sx sy sn sd s1 s2 => atMost_any x y n d qx qy qn qd w' hx hy hn hd sx sy sn sd s1 s2)
  clear g0 h0 g1 h1 g2 h2 g3 h3 he
  obtain ⟨N0, hN0⟩ : ∃ v, lim a0 = v := ⟨_, rfl⟩
  obtain ⟨D0, hD0⟩ : ∃ v, lim d0 = v := ⟨_, rfl⟩
  obtain ⟨N1, hN1⟩ : ∃ v, lim a1 = v := ⟨_, rfl⟩
  obtain ⟨D1, hD1⟩ : ∃ v, lim d1 = v := ⟨_, rfl⟩
  obtain ⟨N2, hN2⟩ : ∃ v, lim an = v := ⟨_, rfl⟩
  obtain ⟨D2, hD2⟩ : ∃ v, lim ad = v := ⟨_, rfl⟩
  obtain ⟨N3, hN3⟩ : ∃ v, lim bn = v := ⟨_, rfl⟩
  obtain ⟨D3, hD3⟩ : ∃ v, lim bd = v := ⟨_, rfl⟩
  rw [hN0, hD0, hN1, hD1, hN2, hD2, hN3, hD3] at S HPr
  rw [hN0, hD0] at HB0
  rw [hN1, hD1] at HB1
  rw [hN0, hD0, hN1, hD1, hN2, hD2, hN3, hD3]
  replace hN0 := Lib.hid hN0
  replace hD0 := Lib.hid hD0
  replace hN1 := Lib.hid hN1
  replace hD1 := Lib.hid hD1
  replace hN2 := Lib.hid hN2
  replace hD2 := Lib.hid hD2
  replace hN3 := Lib.hid hN3
  replace hD3 := Lib.hid hD3
  obtain ⟨na0, nc0⟩ := q0
  obtain ⟨da0, dc0⟩ := r0
  obtain ⟨na1, nc1⟩ := q1
  obtain ⟨da1, dc1⟩ := r1
  obtain ⟨na2, nc2⟩ := q2
  obtain ⟨da2, dc2⟩ := r2
  obtain ⟨na3, nc3⟩ := q3
  obtain ⟨da3, dc3⟩ := r3
  obtain ⟨ok, hok⟩ : ∃ ok, okD a0 d0 a1 d1 an ad bn bd = ok := ⟨_, rfl⟩
  rw [hok]
  replace hok := Lib.hid hok
  replace S := Lib.hid (S.out.box 26 [.slice na0 N0.length nc0, .slice da0 D0.length dc0])
  replace S := Lib.hid (S.out.box' 26 [.slice na1 N1.length nc1, .slice da1 D1.length dc1] (K := w.heap.size + 1) (by simp))
  replace S := Lib.hid (S.out.box' 26 [.slice na2 N2.length nc2, .slice da2 D2.length dc2] (K := w.heap.size + 1 + 1) (by simp))
  replace S := Lib.hid (S.out.box' 26 [.slice na3 N3.length nc3, .slice da3 D3.length dc3] (K := w.heap.size + 1 + 1 + 1) (by simp))
  replace S := Lib.hid (S.out.box' 32 [.slice none 0 0, .slice none 0 0] (K := w.heap.size + 1 + 1 + 1 + 1) (by simp))
  have e1 : decide ((mo : Int) < 1) = false := by rw [decide_eq_false_iff_not]; omega
  have e2 : decide (40 < mo) = false := by rw [decide_eq_false_iff_not]; omega
  go_enter Tryz.func7, Tryz.ntmps7
  go_wp2_with fail
  refine (HPr.out _ _ _ _ _ _ _ _ _ S.out.r0 S.out.r1 S.out.r2 S.out.r3 S.out.r4 S.out.r5 S.out.r6 S.out.r7).mono ?_
  rintro e w1 ⟨rfl, hb⟩
  replace S := Lib.hid (S.out.call hb)
  clear hb HPr
  obtain ⟨⟨z4, f4, y4, y4a, -⟩, ⟨z3, f3, y3, y3a, -⟩, ⟨z2, f2, y2, y2a, -⟩, ⟨z1, f1, y1, y1a, -⟩, ⟨z0, f0, y0, y0a, -⟩, -⟩ := S.out.facts
  go_wp2_with fail
  go_loopw [13] (fun i wr => ∃ (n : Nat), 1 ≤ n ∧ n ≤ mo + 1 ∧ i = .int .i64 (n : Int) ∧ Hid (Fm w wr [⟨w.heap.size + 1 + 1 + 1 + 1, 32, [.slice none 0 0, .slice none 0 0]⟩, ⟨w.heap.size + 1 + 1 + 1, 26, [.slice na3 N3.length nc3, .slice da3 D3.length dc3]⟩, ⟨w.heap.size + 1 + 1, 26, [.slice na2 N2.length nc2, .slice da2 D2.length dc2]⟩, ⟨w.heap.size + 1, 26, [.slice na1 N1.length nc1, .slice da1 D1.length dc1]⟩, ⟨w.heap.size, 26, [.slice na0 N0.length nc0, .slice da0 D0.length dc0]⟩] [rowRd N0 ⟨na0, nc0⟩, rowRd D0 ⟨da0, dc0⟩, rowRd N1 ⟨na1, nc1⟩, rowRd D1 ⟨da1, dc1⟩, rowRd N2 ⟨na2, nc2⟩, rowRd D2 ⟨da2, dc2⟩, rowRd N3 ⟨na3, nc3⟩, rowRd D3 ⟨da3, dc3⟩]) ∧ Hid (NoD ok n 0)) (fun i _ => mo + 1 - (intOf i).toNat)
  case atStart => exact ⟨1, Nat.le_refl _, by omega, rfl, S, Lib.hid (NoD.start _)⟩
  case round =>
    clear S z4 f4 y4 y4a z3 f3 y3 y3a z2 f2 y2 y2a z1 f1 y1 y1a z0 f0 y0 y0a
    rename World => wo
    obtain ⟨n, hn1, hn2, rfl, S, hnone⟩ := hrel
    obtain ⟨⟨z4, f4, y4, y4a, -⟩, ⟨z3, f3, y3, y3a, -⟩, ⟨z2, f2, y2, y2a, -⟩, ⟨z1, f1, y1, y1a, -⟩, ⟨z0, f0, y0, y0a, -⟩, -⟩ := S.out.facts
    by_cases hlt : n ≤ mo
    · have hd : decide ((n : Int) ≤ (mo : Int)) = true := decide_eq_true (by omega)
      have B0 := Lib.hid (fun q r w' x y => HB0.out n q r w' (by omega) x y)
      have B1 := Lib.hid (fun q r w' x y => HB1.out n q r w' (by omega) x y)
      obtain ⟨G0, hG0⟩ : ∃ G, (fun f => lim (gd a0 (d0 - a0) n f)) = G := ⟨_, rfl⟩
      obtain ⟨G1, hG1⟩ : ∃ G, (fun f => lim (gd a1 (d1 - a1) n f)) = G := ⟨_, rfl⟩
      rw [hG0] at B0
      rw [hG1] at B1
      replace hG0 := Lib.hid hG0
      replace hG1 := Lib.hid hG1
      go_upto_region 9 with fail
      go_cut [14, 15] (fun s14 s15 wx => ∃ (lo0 hi0 g0 o0 c0 lo1 hi1 g1 o1 c1 : Nat) (Q0 Q1 : Nat → LmP), s14 = .slice (some ⟨g0, o0, none⟩) (n + 1) c0 ∧ s15 = .slice (some ⟨g1, o1, none⟩) (n + 1) c1 ∧ Hid (Fm w wx [⟨w.heap.size + 1 + 1 + 1 + 1, 32, [.slice none 0 0, .slice none 0 0]⟩, ⟨w.heap.size + 1 + 1 + 1, 26, [.slice na3 N3.length nc3, .slice da3 D3.length dc3]⟩, ⟨w.heap.size + 1 + 1, 26, [.slice na2 N2.length nc2, .slice da2 D2.length dc2]⟩, ⟨w.heap.size + 1, 26, [.slice na1 N1.length nc1, .slice da1 D1.length dc1]⟩, ⟨w.heap.size, 26, [.slice na0 N0.length nc0, .slice da0 D0.length dc0]⟩] [nrowRd lo0 hi0 (some ⟨g0, o0, none⟩) (n + 1) G0 Q0, nrowRd lo1 hi1 (some ⟨g1, o1, none⟩) (n + 1) G1 Q1, rowRd N0 ⟨na0, nc0⟩, rowRd D0 ⟨da0, dc0⟩, rowRd N1 ⟨na1, nc1⟩, rowRd D1 ⟨da1, dc1⟩, rowRd N2 ⟨na2, nc2⟩, rowRd D2 ⟨da2, dc2⟩, rowRd N3 ⟨na3, nc3⟩, rowRd D3 ⟨da3, dc3⟩]))
      case first =>
        replace S := Lib.hid S.out.drew
        clear z4 f4 y4 y4a z3 f3 y3 y3a z2 f2 y2 y2a z1 f1 y1 y1a z0 f0 y0 y0a
        obtain ⟨⟨z4, f4, y4, y4a, -⟩, ⟨z3, f3, y3, y3a, -⟩, ⟨z2, f2, y2, y2a, -⟩, ⟨z1, f1, y1, y1a, -⟩, ⟨z0, f0, y0, y0a, -⟩, -⟩ := S.out.facts
        go_region_held3 (fun w' => w'.cell? ⟨w.heap.size, 0, none⟩ = some (.slice na0 N0.length nc0) ∧ w'.cell? ⟨w.heap.size, 1, none⟩ = some (.slice da0 D0.length dc0) ∧ w'.cell? ⟨w.heap.size + 1, 0, none⟩ = some (.slice na1 N1.length nc1) ∧ w'.cell? ⟨w.heap.size + 1, 1, none⟩ = some (.slice da1 D1.length dc1)) (go_keep)
          (first
            | ((with_reducible refine (B0.out ⟨na0, nc0⟩ ⟨da0, dc0⟩ _ (natOld S.out (by simp)) (natOld S.out (by simp))).mono ?_); rintro e wx ⟨_, rfl, Ax, cx, Qx, rfl, hr, hb⟩; obtain ⟨gx, ox, rfl, -, -, -⟩ := hr.arr (by omega); replace S := Lib.hid (S.out.res (nrowRd _ _ (some ⟨gx, ox, none⟩) (n + 1) G0 Qx) hb hr (fun g hg => hg)); clear hr hb z4 f4 y4 y4a z3 f3 y3 y3a z2 f2 y2 y2a z1 f1 y1 y1a z0 f0 y0 y0a; obtain ⟨⟨z4, f4, y4, y4a, -⟩, ⟨z3, f3, y3, y3a, -⟩, ⟨z2, f2, y2, y2a, -⟩, ⟨z1, f1, y1, y1a, -⟩, ⟨z0, f0, y0, y0a, -⟩, -⟩ := S.out.facts)
            | ((with_reducible refine (B1.out ⟨na1, nc1⟩ ⟨da1, dc1⟩ _ (natOld S.out (by simp)) (natOld S.out (by simp))).mono ?_); rintro e wx ⟨_, rfl, Ax, cx, Qx, rfl, hr, hb⟩; obtain ⟨gx, ox, rfl, -, -, -⟩ := hr.arr (by omega); replace S := Lib.hid (S.out.res (nrowRd _ _ (some ⟨gx, ox, none⟩) (n + 1) G1 Qx) hb hr (fun g hg => hg)); clear hr hb z4 f4 y4 y4a z3 f3 y3 y3a z2 f2 y2 y2a z1 f1 y1 y1a z0 f0 y0 y0a; obtain ⟨⟨z4, f4, y4, y4a, -⟩, ⟨z3, f3, y3, y3a, -⟩, ⟨z2, f2, y2, y2a, -⟩, ⟨z1, f1, y1, y1a, -⟩, ⟨z0, f0, y0, y0a, -⟩, -⟩ := S.out.facts))
        all_goals (go_wp2_with fail; go_meet)
        all_goals first
          | exact ⟨_, _, _, _, _, _, _, _, _, _, _, _, rfl, rfl, Lib.hid S.out⟩
          | exact ⟨_, _, _, _, _, _, _, _, _, _, _, _, rfl, rfl, Lib.hid (fm_swap S.out)⟩
      case rest =>
        clear S z4 f4 y4 y4a z3 f3 y3 y3a z2 f2 y2 y2a z1 f1 y1 y1a z0 f0 y0 y0a B0 B1
        obtain ⟨lo0, hi0, g0, o0, c0, lo1, hi1, g1, o1, c1, Q0, Q1, rfl, rfl, S⟩ := hcut
        obtain ⟨⟨z4, f4, y4, y4a, -⟩, ⟨z3, f3, y3, y3a, -⟩, ⟨z2, f2, y2, y2a, -⟩, ⟨z1, f1, y1, y1a, -⟩, ⟨z0, f0, y0, y0a, -⟩, -⟩ := S.out.facts
        have P0 := Lib.hid (fun q w' h => HP.out d0 n q w' (sm_s (by omega)) (smD.out d0 n k0 (by omega)) h)
        have P1 := Lib.hid (fun q w' h => HP.out d1 n q w' (sm_s (by omega)) (smD.out d1 n k1 (by omega)) h)
        rw [hD0.out] at P0
        rw [hD1.out] at P1
        obtain ⟨X0, hX0⟩ : ∃ x, lim (d0 ^ n) = x := ⟨_, rfl⟩
        obtain ⟨X1, hX1⟩ : ∃ x, lim (d1 ^ n) = x := ⟨_, rfl⟩
        rw [hX0] at P0
        rw [hX1] at P1
        replace hX0 := Lib.hid hX0
        replace hX1 := Lib.hid hX1
        go_wp2_with fail
        refine wp_region_any (by kernel_rfl) ?_
        change wpAny _ _ _ _ _ #[false, false, false, false, false, false, false, false, false, false, false, false] _ (World.drew _)
        replace S := Lib.hid S.out.drew
        clear z4 f4 y4 y4a z3 f3 y3 y3a z2 f2 y2 y2a z1 f1 y1 y1a z0 f0 y0 y0a
        have hdis : Hid (([⟨w.heap.size + 1 + 1 + 1 + 1, 32, [.slice none 0 0, .slice none 0 0]⟩, ⟨w.heap.size + 1 + 1 + 1, 26, [.slice na3 N3.length nc3, .slice da3 D3.length dc3]⟩, ⟨w.heap.size + 1 + 1, 26, [.slice na2 N2.length nc2, .slice da2 D2.length dc2]⟩, ⟨w.heap.size + 1, 26, [.slice na1 N1.length nc1, .slice da1 D1.length dc1]⟩, ⟨w.heap.size, 26, [.slice na0 N0.length nc0, .slice da0 D0.length dc0]⟩] : List Bx).Pairwise (fun x y => x.b ≠ y.b)) := Lib.hid S.out.dis
        generalize hJ : ([⟨0, 48, false, valN (.pointer (some ⟨w.heap.size, 1, none⟩))⟩, ⟨1, 49, false, valN (.agg #[.slice da0 D0.length dc0])⟩, ⟨2, 50, false, valN (.int .i64 (n : Int))⟩, ⟨3, 51, false, numN X0⟩, ⟨4, 52, false, valN (.pointer (some ⟨w.heap.size + 1, 1, none⟩))⟩, ⟨5, 53, false, valN (.agg #[.slice da1 D1.length dc1])⟩, ⟨6, 54, false, valN (.int .i64 (n : Int))⟩, ⟨7, 55, false, numN X1⟩, ⟨8, 16, true, boxN 24 [.slice none 0 0]⟩, ⟨9, 17, true, boxN 24 [.slice none 0 0]⟩] : List Jb) = J
        have hI : J.map Jb.i = [0, 1, 2, 3, 4, 5, 6, 7, 8, 9] := by subst hJ; rfl
        have hD : J.map Jb.d = [48, 49, 50, 51, 52, 53, 54, 55, 16, 17] := by subst hJ; rfl
        refine regj_go (fun x => ∀ v ∈ x.cs, ∀ z, v ≠ .int .u32 z) (T := [10, 11]) [0, 1, 2, 3, 4, 5, 6, 7, 8, 9] [48, 49, 50, 51, 52, 53, 54, 55, 16, 17] hI hD 10 _ #[true, true, true, true, true, true, true, true, true, true, false, false] (by decide) (by decide) (by kernel_rfl) (by decide) (by decide) (by kernel_rfl) (by kernel_rfl) (by decide) (by decide) (by decide) (by decide) rfl (by decide) (by kernel_rfl) (by decide) (by decide) S.out (by simp) ?hmono ?hbx ?hstep ?hrest
        all_goals clear hI hD
        case hmono =>
          subst hJ
          intro j hj v bs bs' rs rs' hb hr hN
          simp only [List.mem_cons, List.not_mem_nil, or_false] at hj
          rcases hj with rfl | rfl | rfl | rfl | rfl | rfl | rfl | rfl | rfl | rfl
          · exact hN
          · exact hN
          · exact hN
          · obtain ⟨q, e, m1⟩ := hN; exact ⟨q, e, hr _ m1⟩
          · exact hN
          · exact hN
          · exact hN
          · obtain ⟨q, e, m1⟩ := hN; exact ⟨q, e, hr _ m1⟩
          · obtain ⟨g, e, m⟩ := hN; exact ⟨g, e, hb _ m⟩
          · obtain ⟨g, e, m⟩ := hN; exact ⟨g, e, hb _ m⟩
        case hbx =>
          subst hJ
          intro j hj hx v bs rs hN
          simp only [List.mem_cons, List.not_mem_nil, or_false] at hj
          rcases hj with rfl | rfl | rfl | rfl | rfl | rfl | rfl | rfl | rfl | rfl
          · cases hx
          · cases hx
          · cases hx
          · cases hx
          · cases hx
          · cases hx
          · cases hx
          · cases hx
          · obtain ⟨g, e, m⟩ := hN; exact ⟨_, m, e⟩
          · obtain ⟨g, e, m⟩ := hN; exact ⟨_, m, e⟩
        case hstep =>
          subst hJ
          intro j hj
          simp only [List.mem_cons, List.not_mem_nil, or_false] at hj
          rcases hj with rfl | rfl | rfl | rfl | rfl | rfl | rfl | rfl | rfl | rfl
          · refine ⟨_, rfl, rfl, fun a wq bs rs K hag hS hB hb0 hr0 hw hK => ?_⟩
            have e5 : a.tmps[5]?.getD undef = .pointer (some ⟨w.heap.size, 0, none⟩) := eval_raw ((hag.eval (by decide)).trans rfl)
            clear hag hw hb0 hr0
            replace hS := Lib.hid hS
            replace hB := Lib.hid hB
            replace hK := Lib.hid hK
            go_simp
            exact hK.out _ _ _ _ hS.out hB.out (fun _ h => h) (fun _ h => h) rfl (fun h => by cases h)
          · refine ⟨_, rfl, rfl, fun a wq bs rs K hag hS hB hb0 hr0 hw hK => ?_⟩
            have hwh := allB_at hS.bx ⟨w.heap.size, 26, [.slice na0 N0.length nc0, .slice da0 D0.length dc0]⟩ (hb0 _ (by simp))
            have yy1 : wq.cell? ⟨w.heap.size, 1, none⟩ = some (.slice da0 D0.length dc0) := hwh.cell 1
            have e48 := eval_raw (show a.eval (.tmp 48) = .pointer (some ⟨w.heap.size, 1, none⟩) from hw _ (List.Mem.head _) (by kernel_rfl))
            clear hwh
            clear hag hw hb0 hr0
            replace hS := Lib.hid hS
            replace hB := Lib.hid hB
            replace hK := Lib.hid hK
            go_simp
            exact hK.out _ _ _ _ hS.out hB.out (fun _ h => h) (fun _ h => h) rfl (fun h => by cases h)
          · refine ⟨_, rfl, rfl, fun a wq bs rs K hag hS hB hb0 hr0 hw hK => ?_⟩
            have e13 : a.tmps[13]?.getD undef = .int .i64 (n : Int) := eval_raw ((hag.eval (by decide)).trans rfl)
            clear hag hw hb0 hr0
            replace hS := Lib.hid hS
            replace hB := Lib.hid hB
            replace hK := Lib.hid hK
            go_simp
            exact hK.out _ _ _ _ hS.out hB.out (fun _ h => h) (fun _ h => h) rfl (fun h => by cases h)
          · refine ⟨_, rfl, rfl, fun a wq bs rs K hag hS hB hb0 hr0 hw hK => ?_⟩
            have e49 := eval_raw (show a.eval (.tmp 49) = .agg #[.slice da0 D0.length dc0] from hw _ (List.Mem.tail _ (List.Mem.head _)) (by kernel_rfl))
            have e50 := eval_raw (show a.eval (.tmp 50) = .int .i64 (n : Int) from hw _ (List.Mem.tail _ (List.Mem.tail _ (List.Mem.head _))) (by kernel_rfl))
            have rD := natOld hS (hr0 (rowRd D0 ⟨da0, dc0⟩) (by simp))
            clear hag hw hb0 hr0
            replace hS := Lib.hid hS
            replace hB := Lib.hid hB
            replace hK := Lib.hid hK
            go_simp
            go_at_call 24
            refine (P0.out ⟨da0, dc0⟩ _ rD).mono ?_
            rintro e w6 ⟨_, rfl, qx, rfl, hr, hb⟩
            exact hK.out _ _ _ _ (natOf hS.out hr hb hB.out) hB.out (fun _ h => h) (fun _ h => List.mem_cons_of_mem _ h) ⟨qx, rfl, List.mem_cons_self ..⟩ (fun h => by cases h)
          · refine ⟨_, rfl, rfl, fun a wq bs rs K hag hS hB hb0 hr0 hw hK => ?_⟩
            have e6 : a.tmps[6]?.getD undef = .pointer (some ⟨w.heap.size + 1, 0, none⟩) := eval_raw ((hag.eval (by decide)).trans rfl)
            clear hag hw hb0 hr0
            replace hS := Lib.hid hS
            replace hB := Lib.hid hB
            replace hK := Lib.hid hK
            go_simp
            exact hK.out _ _ _ _ hS.out hB.out (fun _ h => h) (fun _ h => h) rfl (fun h => by cases h)
          · refine ⟨_, rfl, rfl, fun a wq bs rs K hag hS hB hb0 hr0 hw hK => ?_⟩
            have hwh := allB_at hS.bx ⟨w.heap.size + 1, 26, [.slice na1 N1.length nc1, .slice da1 D1.length dc1]⟩ (hb0 _ (by simp))
            have yy1 : wq.cell? ⟨w.heap.size + 1, 1, none⟩ = some (.slice da1 D1.length dc1) := hwh.cell 1
            have e52 := eval_raw (show a.eval (.tmp 52) = .pointer (some ⟨w.heap.size + 1, 1, none⟩) from hw _ (List.Mem.tail _ (List.Mem.tail _ (List.Mem.tail _ (List.Mem.tail _ (List.Mem.head _))))) (by kernel_rfl))
            clear hwh
            clear hag hw hb0 hr0
            replace hS := Lib.hid hS
            replace hB := Lib.hid hB
            replace hK := Lib.hid hK
            go_simp
            exact hK.out _ _ _ _ hS.out hB.out (fun _ h => h) (fun _ h => h) rfl (fun h => by cases h)
          · refine ⟨_, rfl, rfl, fun a wq bs rs K hag hS hB hb0 hr0 hw hK => ?_⟩
            have e13 : a.tmps[13]?.getD undef = .int .i64 (n : Int) := eval_raw ((hag.eval (by decide)).trans rfl)
            clear hag hw hb0 hr0
            replace hS := Lib.hid hS
            replace hB := Lib.hid hB
            replace hK := Lib.hid hK
            go_simp
            exact hK.out _ _ _ _ hS.out hB.out (fun _ h => h) (fun _ h => h) rfl (fun h => by cases h)
          · refine ⟨_, rfl, rfl, fun a wq bs rs K hag hS hB hb0 hr0 hw hK => ?_⟩
            have e53 := eval_raw (show a.eval (.tmp 53) = .agg #[.slice da1 D1.length dc1] from hw _ (List.Mem.tail _ (List.Mem.tail _ (List.Mem.tail _ (List.Mem.tail _ (List.Mem.tail _ (List.Mem.head _)))))) (by kernel_rfl))
            have e54 := eval_raw (show a.eval (.tmp 54) = .int .i64 (n : Int) from hw _ (List.Mem.tail _ (List.Mem.tail _ (List.Mem.tail _ (List.Mem.tail _ (List.Mem.tail _ (List.Mem.tail _ (List.Mem.head _))))))) (by kernel_rfl))
            have rD := natOld hS (hr0 (rowRd D1 ⟨da1, dc1⟩) (by simp))
            clear hag hw hb0 hr0
            replace hS := Lib.hid hS
            replace hB := Lib.hid hB
            replace hK := Lib.hid hK
            go_simp
            go_at_call 24
            refine (P1.out ⟨da1, dc1⟩ _ rD).mono ?_
            rintro e w6 ⟨_, rfl, qx, rfl, hr, hb⟩
            exact hK.out _ _ _ _ (natOf hS.out hr hb hB.out) hB.out (fun _ h => h) (fun _ h => List.mem_cons_of_mem _ h) ⟨qx, rfl, List.mem_cons_self ..⟩ (fun h => by cases h)
          · refine ⟨_, rfl, rfl, fun a wq bs rs K hag hS hB hb0 hr0 hw hK => ?_⟩
            clear hag hw hb0 hr0
            replace hS := Lib.hid hS
            replace hB := Lib.hid hB
            replace hK := Lib.hid hK
            go_simp
            exact hK.out _ _ _ _ (hS.out.box 24 [.slice none 0 0]) (fun x h => by
              rcases List.mem_cons.1 h with rfl | h
              · intro v hv z; simp at hv; rw [hv]; simp
              · exact hB.out x h) (fun _ h => List.mem_cons_of_mem _ h) (fun _ h => h) ⟨_, rfl, List.mem_cons_self ..⟩ (fun _ => boxN.fresh hS.out)
          · refine ⟨_, rfl, rfl, fun a wq bs rs K hag hS hB hb0 hr0 hw hK => ?_⟩
            clear hag hw hb0 hr0
            replace hS := Lib.hid hS
            replace hB := Lib.hid hB
            replace hK := Lib.hid hK
            go_simp
            exact hK.out _ _ _ _ (hS.out.box 24 [.slice none 0 0]) (fun x h => by
              rcases List.mem_cons.1 h with rfl | h
              · intro v hv z; simp at hv; rw [hv]; simp
              · exact hB.out x h) (fun _ h => List.mem_cons_of_mem _ h) (fun _ h => h) ⟨_, rfl, List.mem_cons_self ..⟩ (fun _ => boxN.fresh hS.out)
        case hrest =>
          subst hJ
          intro f w2 bs rs S2 hb0 hr0 hN hne
          obtain ⟨q4, e51, m1⟩ := hN _ (List.Mem.tail _ (List.Mem.tail _ (List.Mem.tail _ (List.Mem.head _))))
          obtain ⟨q5, e55, m2⟩ := hN _ (List.Mem.tail _ (List.Mem.tail _ (List.Mem.tail _ (List.Mem.tail _ (List.Mem.tail _ (List.Mem.tail _ (List.Mem.tail _ (List.Mem.head _))))))))
          obtain ⟨h0, e16, b1⟩ := hN _ (List.Mem.tail _ (List.Mem.tail _ (List.Mem.tail _ (List.Mem.tail _ (List.Mem.tail _ (List.Mem.tail _ (List.Mem.tail _ (List.Mem.tail _ (List.Mem.head _)))))))))
          obtain ⟨h1, e17, b2⟩ := hN _ (List.Mem.tail _ (List.Mem.tail _ (List.Mem.tail _ (List.Mem.tail _ (List.Mem.tail _ (List.Mem.tail _ (List.Mem.tail _ (List.Mem.tail _ (List.Mem.tail _ (List.Mem.head _))))))))))
          replace e51 : f 51 = natV X0 q4 := e51
          replace e55 : f 55 = natV X1 q5 := e55
          replace e16 : f 16 = .pointer (some ⟨h0, 0, none⟩) := e16
          replace e17 : f 17 = .pointer (some ⟨h1, 0, none⟩) := e17
          have h01 : h0 ≠ h1 := fun e => hne _ (List.Mem.tail _ (List.Mem.tail _ (List.Mem.tail _ (List.Mem.tail _ (List.Mem.tail _ (List.Mem.tail _ (List.Mem.tail _ (List.Mem.tail _ (List.Mem.head _))))))))) _ (List.Mem.tail _ (List.Mem.tail _ (List.Mem.tail _ (List.Mem.tail _ (List.Mem.tail _ (List.Mem.tail _ (List.Mem.tail _ (List.Mem.tail _ (List.Mem.tail _ (List.Mem.head _)))))))))) rfl rfl (by decide) (show f 16 = f 17 by rw [e16, e17, e])
          have h10 := Ne.symm h01
          have hold0 : ∀ y ∈ ([⟨w.heap.size + 1 + 1 + 1 + 1, 32, [.slice none 0 0, .slice none 0 0]⟩, ⟨w.heap.size + 1 + 1 + 1, 26, [.slice na3 N3.length nc3, .slice da3 D3.length dc3]⟩, ⟨w.heap.size + 1 + 1, 26, [.slice na2 N2.length nc2, .slice da2 D2.length dc2]⟩, ⟨w.heap.size + 1, 26, [.slice na1 N1.length nc1, .slice da1 D1.length dc1]⟩, ⟨w.heap.size, 26, [.slice na0 N0.length nc0, .slice da0 D0.length dc0]⟩] : List Bx), h0 ≠ y.b := fun y hy => fm_bne S2 b1 (hb0 y hy) (by
            simp only [List.mem_cons, List.not_mem_nil, or_false] at hy
            rcases hy with rfl | rfl | rfl | rfl | rfl <;> (dsimp only; decide))
          have hold1 : ∀ y ∈ ([⟨w.heap.size + 1 + 1 + 1 + 1, 32, [.slice none 0 0, .slice none 0 0]⟩, ⟨w.heap.size + 1 + 1 + 1, 26, [.slice na3 N3.length nc3, .slice da3 D3.length dc3]⟩, ⟨w.heap.size + 1 + 1, 26, [.slice na2 N2.length nc2, .slice da2 D2.length dc2]⟩, ⟨w.heap.size + 1, 26, [.slice na1 N1.length nc1, .slice da1 D1.length dc1]⟩, ⟨w.heap.size, 26, [.slice na0 N0.length nc0, .slice da0 D0.length dc0]⟩] : List Bx), h1 ≠ y.b := fun y hy => fm_bne S2 b2 (hb0 y hy) (by
            simp only [List.mem_cons, List.not_mem_nil, or_false] at hy
            rcases hy with rfl | rfl | rfl | rfl | rfl <;> (dsimp only; decide))
          replace S := Lib.hid (S2.pick ([⟨h1, 24, [.slice none 0 0]⟩, ⟨h0, 24, [.slice none 0 0]⟩, ⟨w.heap.size + 1 + 1 + 1 + 1, 32, [.slice none 0 0, .slice none 0 0]⟩, ⟨w.heap.size + 1 + 1 + 1, 26, [.slice na3 N3.length nc3, .slice da3 D3.length dc3]⟩, ⟨w.heap.size + 1 + 1, 26, [.slice na2 N2.length nc2, .slice da2 D2.length dc2]⟩, ⟨w.heap.size + 1, 26, [.slice na1 N1.length nc1, .slice da1 D1.length dc1]⟩, ⟨w.heap.size, 26, [.slice na0 N0.length nc0, .slice da0 D0.length dc0]⟩]) [rowRd X1 q5, rowRd X0 q4, nrowRd lo0 hi0 (some ⟨g0, o0, none⟩) (n + 1) G0 Q0, nrowRd lo1 hi1 (some ⟨g1, o1, none⟩) (n + 1) G1 Q1, rowRd N0 ⟨na0, nc0⟩, rowRd D0 ⟨da0, dc0⟩, rowRd N1 ⟨na1, nc1⟩, rowRd D1 ⟨da1, dc1⟩, rowRd N2 ⟨na2, nc2⟩, rowRd D2 ⟨da2, dc2⟩, rowRd N3 ⟨na3, nc3⟩, rowRd D3 ⟨da3, dc3⟩]
            (fun x hx => by
              rcases List.mem_cons.1 hx with rfl | hx
              · exact b2
              · rcases List.mem_cons.1 hx with rfl | hx
                · exact b1
                · exact hb0 x hx)
            (fun x hx => by
              rcases List.mem_cons.1 hx with rfl | hx
              · exact m2
              · rcases List.mem_cons.1 hx with rfl | hx
                · exact m1
                · exact hr0 x hx)
            (List.pairwise_cons.2 ⟨fun y hy => by
              rcases List.mem_cons.1 hy with rfl | hy
              · exact h10
              · exact hold1 y hy, List.pairwise_cons.2 ⟨hold0, hdis.out⟩⟩))
          obtain ⟨X8, e8⟩ : ∃ x, f 48 = x := ⟨_, rfl⟩
          obtain ⟨X9, e9⟩ : ∃ x, f 49 = x := ⟨_, rfl⟩
          obtain ⟨Xa, ea⟩ : ∃ x, f 50 = x := ⟨_, rfl⟩
          obtain ⟨Xb, eb⟩ : ∃ x, f 52 = x := ⟨_, rfl⟩
          obtain ⟨Xc, ec⟩ : ∃ x, f 53 = x := ⟨_, rfl⟩
          obtain ⟨Xd, ed⟩ : ∃ x, f 54 = x := ⟨_, rfl⟩
          simp only [List.foldl_cons, List.foldl_nil, List.drop_succ_cons, List.drop_zero, e51, e55, e16, e17, e8, e9, ea, eb, ec, ed]
          clear hb0 hr0 hN hne e51 e55 e16 e17 e8 e9 ea eb ec ed m1 m2 b1 b2 S2 hold0 hold1 hdis P0 P1
          clear f bs rs
          obtain ⟨⟨z6, f6, y6, -⟩, ⟨z5, f5, y5, -⟩, ⟨z4, f4, y4, y4a, -⟩, ⟨z3, f3, y3, y3a, -⟩, ⟨z2, f2, y2, y2a, -⟩, ⟨z1, f1, y1, y1a, -⟩, ⟨z0, f0, y0, y0a, -⟩, -⟩ := S.out.facts
          replace S := Lib.hid (S.out.set 1 rfl 0 (.slice q4.a X0.length q4.c))
          replace S := Lib.hid (S.out.set 0 rfl 0 (.slice q5.a X1.length q5.c))
          obtain ⟨FL, hFL⟩ : ∃ F : Nat → List Int, (fun m => lim (d0 ^ n - low a0 (d0 - a0) n m)) = F := ⟨_, rfl⟩
          obtain ⟨PL, hPL⟩ : ∃ F : Nat → List Int, (fun m => lim (low a1 (d1 - a1) n m)) = F := ⟨_, rfl⟩
          have hF0 : Hid (X0 = FL (0 - 1)) := Lib.hid (by rw [← hFL, ← hX0.out]; rfl)
          have hP0 : Hid (([] : List Int) = PL (0 - 1)) := Lib.hid (by rw [← hPL]; exact lim_zero.symm)
          replace hFL := Lib.hid hFL
          replace hPL := Lib.hid hPL
          replace S := Lib.hid (S.out.box' 24 [.slice q4.a X0.length q4.c] (K := w2.heap.size) (by simp))
          replace S := Lib.hid (S.out.box' 24 [.slice none 0 0] (K := w2.heap.size + 1) (by simp))
          replace S := Lib.hid ((S.out.also (rowRd X0 q4) (natOld S.out (by simp)) (fun g hg => S.out.far (rowRd X0 q4) (by simp) g hg)).also (rowRd [] ⟨none, 0⟩) (RLm.none_ _ _) (fun g ⟨h, _⟩ => absurd h (by simp)))
          go_wp2_with fail
          clear z6 f6 y6 z5 f5 y5 z4 f4 y4 y4a z3 f3 y3 y3a z2 f2 y2 y2a z1 f1 y1 y1a z0 f0 y0 y0a
          have S0 : Hid (Fm w _ [⟨w2.heap.size + 1, 24, [.slice (⟨none, 0⟩ : LmP).a (PL (0 - 1)).length (⟨none, 0⟩ : LmP).c]⟩, ⟨w2.heap.size, 24, [.slice q4.a (FL (0 - 1)).length q4.c]⟩, ⟨h1, 24, [.slice q5.a X1.length q5.c]⟩, ⟨h0, 24, [.slice q4.a X0.length q4.c]⟩, ⟨w.heap.size + 1 + 1 + 1 + 1, 32, [.slice none 0 0, .slice none 0 0]⟩, ⟨w.heap.size + 1 + 1 + 1, 26, [.slice na3 N3.length nc3, .slice da3 D3.length dc3]⟩, ⟨w.heap.size + 1 + 1, 26, [.slice na2 N2.length nc2, .slice da2 D2.length dc2]⟩, ⟨w.heap.size + 1, 26, [.slice na1 N1.length nc1, .slice da1 D1.length dc1]⟩, ⟨w.heap.size, 26, [.slice na0 N0.length nc0, .slice da0 D0.length dc0]⟩] [rowRd (PL (0 - 1)) (⟨none, 0⟩ : LmP), rowRd (FL (0 - 1)) q4, rowRd X1 q5, rowRd X0 q4, nrowRd lo0 hi0 (some ⟨g0, o0, none⟩) (n + 1) G0 Q0, nrowRd lo1 hi1 (some ⟨g1, o1, none⟩) (n + 1) G1 Q1, rowRd N0 ⟨na0, nc0⟩, rowRd D0 ⟨da0, dc0⟩, rowRd N1 ⟨na1, nc1⟩, rowRd D1 ⟨da1, dc1⟩, rowRd N2 ⟨na2, nc2⟩, rowRd D2 ⟨da2, dc2⟩, rowRd N3 ⟨na3, nc3⟩, rowRd D3 ⟨da3, dc3⟩]) := Lib.hid (by
            have x := S.out
            rw [← hF0.out, ← hP0.out]
            exact x)
          clear S hF0 hP0
          go_loopw [20] (fun c wr => ∃ (k : Nat) (z : Int) (qF qP : LmP), k ≤ n + 2 ∧ c = .int .i64 z ∧ Hid (z = (k : Int) - 1) ∧ Hid (Fm w wr [⟨w2.heap.size + 1, 24, [.slice qP.a (PL (k - 1)).length qP.c]⟩, ⟨w2.heap.size, 24, [.slice qF.a (FL (k - 1)).length qF.c]⟩, ⟨h1, 24, [.slice q5.a X1.length q5.c]⟩, ⟨h0, 24, [.slice q4.a X0.length q4.c]⟩, ⟨w.heap.size + 1 + 1 + 1 + 1, 32, [.slice none 0 0, .slice none 0 0]⟩, ⟨w.heap.size + 1 + 1 + 1, 26, [.slice na3 N3.length nc3, .slice da3 D3.length dc3]⟩, ⟨w.heap.size + 1 + 1, 26, [.slice na2 N2.length nc2, .slice da2 D2.length dc2]⟩, ⟨w.heap.size + 1, 26, [.slice na1 N1.length nc1, .slice da1 D1.length dc1]⟩, ⟨w.heap.size, 26, [.slice na0 N0.length nc0, .slice da0 D0.length dc0]⟩] [rowRd (PL (k - 1)) qP, rowRd (FL (k - 1)) qF, rowRd X1 q5, rowRd X0 q4, nrowRd lo0 hi0 (some ⟨g0, o0, none⟩) (n + 1) G0 Q0, nrowRd lo1 hi1 (some ⟨g1, o1, none⟩) (n + 1) G1 Q1, rowRd N0 ⟨na0, nc0⟩, rowRd D0 ⟨da0, dc0⟩, rowRd N1 ⟨na1, nc1⟩, rowRd D1 ⟨da1, dc1⟩, rowRd N2 ⟨na2, nc2⟩, rowRd D2 ⟨da2, dc2⟩, rowRd N3 ⟨na3, nc3⟩, rowRd D3 ⟨da3, dc3⟩]) ∧ Hid (NoD ok n k)) (fun c _ => n + 2 - (intOf c + 1).toNat)
          case atStart => exact ⟨0, -1, q4, ⟨none, 0⟩, Nat.zero_le _, rfl, Lib.hid rfl, S0, hnone⟩
          case round =>
            clear S0 hnone
            obtain ⟨k, z, qF, qP, hk, rfl, hz, S, hnone⟩ := hrel
            by_cases hlk : k ≤ n + 1
            · have hd2 : decide (z ≤ (n : Int)) = true := decide_eq_true (by have := hz.out; omega)
              obtain ⟨⟨z8, f8, y8, -⟩, ⟨z7, f7, y7, -⟩, ⟨z6, f6, y6, -⟩, ⟨z5, f5, y5, -⟩, ⟨z4, f4, y4, y4a, -⟩, ⟨z3, f3, y3, y3a, -⟩, ⟨z2, f2, y2, y2a, -⟩, ⟨z1, f1, y1, y1a, -⟩, ⟨z0, f0, y0, y0a, -⟩, -⟩ := S.out.facts
              go_upto_if 64 with fail
              go_cut [20] (fun s20 wx => ∃ (qF' qP' : LmP), s20 = .int .i64 z ∧ Hid (Fm w wx [⟨w2.heap.size + 1, 24, [.slice qP'.a (PL k).length qP'.c]⟩, ⟨w2.heap.size, 24, [.slice qF'.a (FL k).length qF'.c]⟩, ⟨h1, 24, [.slice q5.a X1.length q5.c]⟩, ⟨h0, 24, [.slice q4.a X0.length q4.c]⟩, ⟨w.heap.size + 1 + 1 + 1 + 1, 32, [.slice none 0 0, .slice none 0 0]⟩, ⟨w.heap.size + 1 + 1 + 1, 26, [.slice na3 N3.length nc3, .slice da3 D3.length dc3]⟩, ⟨w.heap.size + 1 + 1, 26, [.slice na2 N2.length nc2, .slice da2 D2.length dc2]⟩, ⟨w.heap.size + 1, 26, [.slice na1 N1.length nc1, .slice da1 D1.length dc1]⟩, ⟨w.heap.size, 26, [.slice na0 N0.length nc0, .slice da0 D0.length dc0]⟩] [rowRd (PL k) qP', rowRd (FL k) qF', rowRd X1 q5, rowRd X0 q4, nrowRd lo0 hi0 (some ⟨g0, o0, none⟩) (n + 1) G0 Q0, nrowRd lo1 hi1 (some ⟨g1, o1, none⟩) (n + 1) G1 Q1, rowRd N0 ⟨na0, nc0⟩, rowRd D0 ⟨da0, dc0⟩, rowRd N1 ⟨na1, nc1⟩, rowRd D1 ⟨da1, dc1⟩, rowRd N2 ⟨na2, nc2⟩, rowRd D2 ⟨da2, dc2⟩, rowRd N3 ⟨na3, nc3⟩, rowRd D3 ⟨da3, dc3⟩]))
              case first =>
                rcases k with _ | m
                · have t1 : decide (0 ≤ z) = false := by rw [decide_eq_false_iff_not]; have := hz.out; omega
                  rw [t1]
                  clear t1
                  go_wp2_with fail
                  go_meet
                  exact ⟨qF, qP, rfl, S⟩
                · obtain rfl : z = (m : Int) := by have := hz.out; omega
                  have t1 : decide (0 ≤ (m : Int)) = true := decide_eq_true (by omega)
                  rw [t1]
                  clear t1
                  obtain ⟨-, -, ng0, rg0⟩ := row_at S.out (lo := lo0) (hi := hi0) (g := g0) (o := o0) (k := n + 1) (L := G0) (Q := Q0) (by simp) (show m < n + 1 by omega)
                  obtain ⟨-, -, ng1, rg1⟩ := row_at S.out (lo := lo1) (hi := hi1) (g := g1) (o := o1) (k := n + 1) (L := G1) (Q := Q1) (by simp) (show m < n + 1 by omega)
                  have u1 := ng0 _ (List.Mem.head _)
                  have u2 := ng0 _ (List.Mem.tail _ (List.Mem.head _))
                  have u3 := ng1 _ (List.Mem.head _)
                  have u4 := ng1 _ (List.Mem.tail _ (List.Mem.head _))
                  dsimp only at u1 u2 u3 u4
                  have x1 := Ne.symm u1
                  have x2 := Ne.symm u2
                  have x3 := Ne.symm u3
                  have x4 := Ne.symm u4
                  obtain ⟨pg0, hpg0⟩ : ∃ p, Q0 m = p := ⟨_, rfl⟩
                  obtain ⟨pg1, hpg1⟩ : ∃ p, Q1 m = p := ⟨_, rfl⟩
                  obtain ⟨V0, hV0⟩ : ∃ v, G0 m = v := ⟨_, rfl⟩
                  obtain ⟨V1, hV1⟩ : ∃ v, G1 m = v := ⟨_, rfl⟩
                  rw [hpg0, hV0] at rg0
                  rw [hpg1, hV1] at rg1
                  replace hpg0 := Lib.hid hpg0
                  replace hpg1 := Lib.hid hpg1
                  replace hV0 := Lib.hid hV0
                  replace hV1 := Lib.hid hV1
                  replace S := Lib.hid (natOf S.out rg0 (Below.refl _ _) (by simp))
                  replace S := Lib.hid (natOf S.out rg1 (Below.refl _ _) (by simp))
                  clear rg0 rg1 ng0 ng1
                  have lw0 := low_le.out a0 d0 n m le0 (by omega)
                  have lw0' := low_le.out a0 d0 n (m + 1) le0 (by omega)
                  have lw1' := low_le.out a1 d1 n (m + 1) le1 (by omega)
                  rw [low_succ] at lw0' lw1'
                  have sD0 := smD.out d0 n k0 (by omega)
                  have sD1 := smD.out d1 n k1 (by omega)
                  have SU := Lib.hid (fun q r w' h1 h2 => HS.out (d0 ^ n - low a0 (d0 - a0) n m) (gd a0 (d0 - a0) n m) q r w' (sm_mono (Nat.sub_le _ _) sD0) (sm_mono (by omega) sD0) (by omega) h1 h2)
                  have AD := Lib.hid (fun q r w' h1 h2 => HA.out (low a1 (d1 - a1) n m) (gd a1 (d1 - a1) n m) q r w' (sm_mono (by omega) sD1) (sm_mono (by omega) sD1) (sm_mono lw1' sD1) h1 h2)
                  rw [Nat.sub_sub, ← low_succ, show lim (gd a0 (d0 - a0) n m) = V0 from by rw [← hV0.out, ← hG0.out], show lim (d0 ^ n - low a0 (d0 - a0) n m) = FL m from by rw [← hFL.out], show lim (d0 ^ n - low a0 (d0 - a0) n (m + 1)) = FL (m + 1) from by rw [← hFL.out]] at SU
                  rw [← low_succ, show lim (gd a1 (d1 - a1) n m) = V1 from by rw [← hV1.out, ← hG1.out], show lim (low a1 (d1 - a1) n m) = PL m from by rw [← hPL.out], show lim (low a1 (d1 - a1) n (m + 1)) = PL (m + 1) from by rw [← hPL.out]] at AD
                  clear lw0 lw0' lw1' sD0 sD1
                  replace S : Hid (Fm w wr [⟨w2.heap.size + 1, 24, [.slice qP.a (PL m).length qP.c]⟩, ⟨w2.heap.size, 24, [.slice qF.a (FL m).length qF.c]⟩, ⟨h1, 24, [.slice q5.a X1.length q5.c]⟩, ⟨h0, 24, [.slice q4.a X0.length q4.c]⟩, ⟨w.heap.size + 1 + 1 + 1 + 1, 32, [.slice none 0 0, .slice none 0 0]⟩, ⟨w.heap.size + 1 + 1 + 1, 26, [.slice na3 N3.length nc3, .slice da3 D3.length dc3]⟩, ⟨w.heap.size + 1 + 1, 26, [.slice na2 N2.length nc2, .slice da2 D2.length dc2]⟩, ⟨w.heap.size + 1, 26, [.slice na1 N1.length nc1, .slice da1 D1.length dc1]⟩, ⟨w.heap.size, 26, [.slice na0 N0.length nc0, .slice da0 D0.length dc0]⟩] [rowRd V1 pg1, rowRd V0 pg0, rowRd (PL m) qP, rowRd (FL m) qF, rowRd X1 q5, rowRd X0 q4, nrowRd lo0 hi0 (some ⟨g0, o0, none⟩) (n + 1) G0 Q0, nrowRd lo1 hi1 (some ⟨g1, o1, none⟩) (n + 1) G1 Q1, rowRd N0 ⟨na0, nc0⟩, rowRd D0 ⟨da0, dc0⟩, rowRd N1 ⟨na1, nc1⟩, rowRd D1 ⟨da1, dc1⟩, rowRd N2 ⟨na2, nc2⟩, rowRd D2 ⟨da2, dc2⟩, rowRd N3 ⟨na3, nc3⟩, rowRd D3 ⟨da3, dc3⟩]) := S
                  obtain ⟨Fo, hFo⟩ : ∃ v, FL m = v := ⟨_, rfl⟩
                  obtain ⟨Po, hPo⟩ : ∃ v, PL m = v := ⟨_, rfl⟩
                  obtain ⟨Fn, hFn⟩ : ∃ v, FL (m + 1) = v := ⟨_, rfl⟩
                  obtain ⟨Pn, hPn⟩ : ∃ v, PL (m + 1) = v := ⟨_, rfl⟩
                  rw [hFo, hPo] at S
                  rw [hFo, hFn] at SU
                  rw [hPo, hPn] at AD
                  clear hFo hPo
                  replace hFn := Lib.hid hFn
                  replace hPn := Lib.hid hPn
                  go_wp2_with fail
                  replace S := Lib.hid S.out.drew
                  clear z8 f8 y8 z7 f7 y7 z6 f6 y6 z5 f5 y5 z4 f4 y4 y4a z3 f3 y3 y3a z2 f2 y2 y2a z1 f1 y1 y1a z0 f0 y0 y0a
                  obtain ⟨⟨z8, f8, y8, -⟩, ⟨z7, f7, y7, -⟩, ⟨z6, f6, y6, -⟩, ⟨z5, f5, y5, -⟩, ⟨z4, f4, y4, y4a, -⟩, ⟨z3, f3, y3, y3a, -⟩, ⟨z2, f2, y2, y2a, -⟩, ⟨z1, f1, y1, y1a, -⟩, ⟨z0, f0, y0, y0a, -⟩, -⟩ := S.out.facts
                  have ix0 : (0 : Int) ≤ (m : Int) := by omega
                  have ix1 : (m : Int) < (n : Int) + 1 := by omega
                  refine wp_region_any (by kernel_rfl) ?_
                  change wpAny _ _ _ _ _ #[false, false, false, false, false, false, false, false, false, false, false, false, false, false] _ (World.drew _)
                  have hdis : Hid (([⟨w2.heap.size + 1, 24, [.slice qP.a Po.length qP.c]⟩, ⟨w2.heap.size, 24, [.slice qF.a Fo.length qF.c]⟩, ⟨h1, 24, [.slice q5.a X1.length q5.c]⟩, ⟨h0, 24, [.slice q4.a X0.length q4.c]⟩, ⟨w.heap.size + 1 + 1 + 1 + 1, 32, [.slice none 0 0, .slice none 0 0]⟩, ⟨w.heap.size + 1 + 1 + 1, 26, [.slice na3 N3.length nc3, .slice da3 D3.length dc3]⟩, ⟨w.heap.size + 1 + 1, 26, [.slice na2 N2.length nc2, .slice da2 D2.length dc2]⟩, ⟨w.heap.size + 1, 26, [.slice na1 N1.length nc1, .slice da1 D1.length dc1]⟩, ⟨w.heap.size, 26, [.slice na0 N0.length nc0, .slice da0 D0.length dc0]⟩] : List Bx).Pairwise (fun x y => x.b ≠ y.b)) := Lib.hid S.out.dis
                  generalize hJ : ([⟨0, 65, false, valN (.agg #[.slice qF.a Fo.length qF.c])⟩, ⟨1, 66, false, valN (.slice (some ⟨g0, o0, none⟩) (n + 1) c0)⟩, ⟨2, 67, false, valN (.int .i64 (m : Int))⟩, ⟨3, 68, false, valN (.pointer (some ⟨g0, o0 + m, none⟩))⟩, ⟨4, 69, false, valN (.agg #[.slice pg0.a V0.length pg0.c])⟩, ⟨5, 70, false, numN Fn⟩, ⟨6, 71, false, valN (.agg #[.slice qP.a Po.length qP.c])⟩, ⟨7, 72, false, valN (.slice (some ⟨g1, o1, none⟩) (n + 1) c1)⟩, ⟨8, 73, false, valN (.int .i64 (m : Int))⟩, ⟨9, 74, false, valN (.pointer (some ⟨g1, o1 + m, none⟩))⟩, ⟨10, 75, false, valN (.agg #[.slice pg1.a V1.length pg1.c])⟩, ⟨11, 76, false, numN Pn⟩] : List Jb) = J
                  have hI : J.map Jb.i = [0, 1, 2, 3, 4, 5, 6, 7, 8, 9, 10, 11] := by subst hJ; rfl
                  have hD : J.map Jb.d = [65, 66, 67, 68, 69, 70, 71, 72, 73, 74, 75, 76] := by subst hJ; rfl
                  clear z8 f8 y8 z7 f7 y7 z6 f6 y6 z5 f5 y5 z4 f4 y4 y4a z3 f3 y3 y3a z2 f2 y2 y2a z1 f1 y1 y1a z0 f0 y0 y0a
                  refine regj_go (fun x => ∀ v ∈ x.cs, ∀ z, v ≠ .int .u32 z) (T := [12, 13]) [0, 1, 2, 3, 4, 5, 6, 7, 8, 9, 10, 11] [65, 66, 67, 68, 69, 70, 71, 72, 73, 74, 75, 76] hI hD 12 _ #[true, true, true, true, true, true, true, true, true, true, true, true, false, false] (by decide) (by decide) (by kernel_rfl) (by decide) (by decide) (by kernel_rfl) (by kernel_rfl) (by decide) (by decide) (by decide) (by decide) rfl (by decide) (by kernel_rfl) (by decide) (by decide) S.out (by simp) ?hmono ?hbx ?hstep ?hrest
                  all_goals clear hI hD
                  case hmono =>
                    subst hJ
                    intro j hj v bs bs' rs rs' hb hr hN
                    simp only [List.mem_cons, List.not_mem_nil, or_false] at hj
                    rcases hj with rfl | rfl | rfl | rfl | rfl | rfl | rfl | rfl | rfl | rfl | rfl | rfl
                    · exact hN
                    · exact hN
                    · exact hN
                    · exact hN
                    · exact hN
                    · obtain ⟨q, e, m1⟩ := hN; exact ⟨q, e, hr _ m1⟩
                    · exact hN
                    · exact hN
                    · exact hN
                    · exact hN
                    · exact hN
                    · obtain ⟨q, e, m1⟩ := hN; exact ⟨q, e, hr _ m1⟩
                  case hbx =>
                    subst hJ
                    intro j hj hx v bs rs hN
                    simp only [List.mem_cons, List.not_mem_nil, or_false] at hj
                    rcases hj with rfl | rfl | rfl | rfl | rfl | rfl | rfl | rfl | rfl | rfl | rfl | rfl
                    · cases hx
                    · cases hx
                    · cases hx
                    · cases hx
                    · cases hx
                    · cases hx
                    · cases hx
                    · cases hx
                    · cases hx
                    · cases hx
                    · cases hx
                    · cases hx
                  case hstep =>
                    subst hJ
                    intro j hj
                    simp only [List.mem_cons, List.not_mem_nil, or_false] at hj
                    rcases hj with rfl | rfl | rfl | rfl | rfl | rfl | rfl | rfl | rfl | rfl | rfl | rfl
                    · refine ⟨_, rfl, rfl, fun a wq bs rs K hag hS hB hb0 hr0 hw hK => ?_⟩
                      have e18 : a.tmps[18]?.getD undef = .pointer (some ⟨w2.heap.size, 0, none⟩) := eval_raw ((hag.eval (by decide)).trans rfl)
                      have hwh := allB_at hS.bx ⟨w2.heap.size, 24, [.slice qF.a Fo.length qF.c]⟩ (hb0 _ (by simp))
                      have yy1 : wq.cell? ⟨w2.heap.size, 0, none⟩ = some (.slice qF.a Fo.length qF.c) := hwh.cell 0
                      clear hwh
                      clear hag hw hb0 hr0
                      replace hS := Lib.hid hS
                      replace hB := Lib.hid hB
                      replace hK := Lib.hid hK
                      go_simp
                      exact hK.out _ _ _ _ hS.out hB.out (fun _ h => h) (fun _ h => h) rfl (fun h => by cases h)
                    · refine ⟨_, rfl, rfl, fun a wq bs rs K hag hS hB hb0 hr0 hw hK => ?_⟩
                      have e14 : a.tmps[14]?.getD undef = .slice (some ⟨g0, o0, none⟩) (n + 1) c0 := eval_raw ((hag.eval (by decide)).trans rfl)
                      clear hag hw hb0 hr0
                      replace hS := Lib.hid hS
                      replace hB := Lib.hid hB
                      replace hK := Lib.hid hK
                      go_simp
                      exact hK.out _ _ _ _ hS.out hB.out (fun _ h => h) (fun _ h => h) rfl (fun h => by cases h)
                    · refine ⟨_, rfl, rfl, fun a wq bs rs K hag hS hB hb0 hr0 hw hK => ?_⟩
                      have e20 : a.tmps[20]?.getD undef = .int .i64 (m : Int) := eval_raw ((hag.eval (by decide)).trans rfl)
                      clear hag hw hb0 hr0
                      replace hS := Lib.hid hS
                      replace hB := Lib.hid hB
                      replace hK := Lib.hid hK
                      go_simp
                      exact hK.out _ _ _ _ hS.out hB.out (fun _ h => h) (fun _ h => h) rfl (fun h => by cases h)
                    · refine ⟨_, rfl, rfl, fun a wq bs rs K hag hS hB hb0 hr0 hw hK => ?_⟩
                      have e66 := eval_raw (show a.eval (.tmp 66) = .slice (some ⟨g0, o0, none⟩) (n + 1) c0 from hw _ (List.Mem.tail _ (List.Mem.head _)) (by kernel_rfl))
                      have e67 := eval_raw (show a.eval (.tmp 67) = .int .i64 (m : Int) from hw _ (List.Mem.tail _ (List.Mem.tail _ (List.Mem.head _))) (by kernel_rfl))
                      clear hag hw hb0 hr0
                      replace hS := Lib.hid hS
                      replace hB := Lib.hid hB
                      replace hK := Lib.hid hK
                      go_simp
                      exact hK.out _ _ _ _ hS.out hB.out (fun _ h => h) (fun _ h => h) rfl (fun h => by cases h)
                    · refine ⟨_, rfl, rfl, fun a wq bs rs K hag hS hB hb0 hr0 hw hK => ?_⟩
                      have e68 := eval_raw (show a.eval (.tmp 68) = .pointer (some ⟨g0, o0 + m, none⟩) from hw _ (List.Mem.tail _ (List.Mem.tail _ (List.Mem.tail _ (List.Mem.head _)))) (by kernel_rfl))
                      obtain ⟨yg, -, -, -⟩ := row_at hS (lo := lo0) (hi := hi0) (g := g0) (o := o0) (k := n + 1) (L := G0) (Q := Q0) (hr0 _ (by simp)) (show m < n + 1 by omega)
                      rw [hpg0.out, hV0.out] at yg
                      clear hag hw hb0 hr0
                      replace hS := Lib.hid hS
                      replace hB := Lib.hid hB
                      replace hK := Lib.hid hK
                      go_simp
                      exact hK.out _ _ _ _ hS.out hB.out (fun _ h => h) (fun _ h => h) rfl (fun h => by cases h)
                    · refine ⟨_, rfl, rfl, fun a wq bs rs K hag hS hB hb0 hr0 hw hK => ?_⟩
                      have e65 := eval_raw (show a.eval (.tmp 65) = .agg #[.slice qF.a Fo.length qF.c] from hw _ (List.Mem.head _) (by kernel_rfl))
                      have e69 := eval_raw (show a.eval (.tmp 69) = .agg #[.slice pg0.a V0.length pg0.c] from hw _ (List.Mem.tail _ (List.Mem.tail _ (List.Mem.tail _ (List.Mem.tail _ (List.Mem.head _))))) (by kernel_rfl))
                      have rQ := natOld hS (hr0 (rowRd Fo qF) (by simp))
                      have rG := natOld hS (hr0 (rowRd V0 pg0) (by simp))
                      clear hag hw hb0 hr0
                      replace hS := Lib.hid hS
                      replace hB := Lib.hid hB
                      replace hK := Lib.hid hK
                      go_simp
                      go_at_call 25
                      refine (SU.out qF pg0 _ rQ rG).mono ?_
                      rintro e w6 ⟨_, rfl, qx, rfl, hr, hf, hb⟩
                      exact hK.out _ _ _ _ (natRes hS.out hr hf hb) hB.out (fun _ h => h) (fun _ h => List.mem_cons_of_mem _ h) ⟨qx, rfl, List.mem_cons_self ..⟩ (fun h => by cases h)
                    · refine ⟨_, rfl, rfl, fun a wq bs rs K hag hS hB hb0 hr0 hw hK => ?_⟩
                      have e19 : a.tmps[19]?.getD undef = .pointer (some ⟨w2.heap.size + 1, 0, none⟩) := eval_raw ((hag.eval (by decide)).trans rfl)
                      have hwh := allB_at hS.bx ⟨w2.heap.size + 1, 24, [.slice qP.a Po.length qP.c]⟩ (hb0 _ (by simp))
                      have yy1 : wq.cell? ⟨w2.heap.size + 1, 0, none⟩ = some (.slice qP.a Po.length qP.c) := hwh.cell 0
                      clear hwh
                      clear hag hw hb0 hr0
                      replace hS := Lib.hid hS
                      replace hB := Lib.hid hB
                      replace hK := Lib.hid hK
                      go_simp
                      exact hK.out _ _ _ _ hS.out hB.out (fun _ h => h) (fun _ h => h) rfl (fun h => by cases h)
                    · refine ⟨_, rfl, rfl, fun a wq bs rs K hag hS hB hb0 hr0 hw hK => ?_⟩
                      have e15 : a.tmps[15]?.getD undef = .slice (some ⟨g1, o1, none⟩) (n + 1) c1 := eval_raw ((hag.eval (by decide)).trans rfl)
                      clear hag hw hb0 hr0
                      replace hS := Lib.hid hS
                      replace hB := Lib.hid hB
                      replace hK := Lib.hid hK
                      go_simp
                      exact hK.out _ _ _ _ hS.out hB.out (fun _ h => h) (fun _ h => h) rfl (fun h => by cases h)
                    · refine ⟨_, rfl, rfl, fun a wq bs rs K hag hS hB hb0 hr0 hw hK => ?_⟩
                      have e20 : a.tmps[20]?.getD undef = .int .i64 (m : Int) := eval_raw ((hag.eval (by decide)).trans rfl)
                      clear hag hw hb0 hr0
                      replace hS := Lib.hid hS
                      replace hB := Lib.hid hB
                      replace hK := Lib.hid hK
                      go_simp
                      exact hK.out _ _ _ _ hS.out hB.out (fun _ h => h) (fun _ h => h) rfl (fun h => by cases h)
                    · refine ⟨_, rfl, rfl, fun a wq bs rs K hag hS hB hb0 hr0 hw hK => ?_⟩
                      have e72 := eval_raw (show a.eval (.tmp 72) = .slice (some ⟨g1, o1, none⟩) (n + 1) c1 from hw _ (List.Mem.tail _ (List.Mem.tail _ (List.Mem.tail _ (List.Mem.tail _ (List.Mem.tail _ (List.Mem.tail _ (List.Mem.tail _ (List.Mem.head _)))))))) (by kernel_rfl))
                      have e73 := eval_raw (show a.eval (.tmp 73) = .int .i64 (m : Int) from hw _ (List.Mem.tail _ (List.Mem.tail _ (List.Mem.tail _ (List.Mem.tail _ (List.Mem.tail _ (List.Mem.tail _ (List.Mem.tail _ (List.Mem.tail _ (List.Mem.head _))))))))) (by kernel_rfl))
                      clear hag hw hb0 hr0
                      replace hS := Lib.hid hS
                      replace hB := Lib.hid hB
                      replace hK := Lib.hid hK
                      go_simp
                      exact hK.out _ _ _ _ hS.out hB.out (fun _ h => h) (fun _ h => h) rfl (fun h => by cases h)
                    · refine ⟨_, rfl, rfl, fun a wq bs rs K hag hS hB hb0 hr0 hw hK => ?_⟩
                      have e74 := eval_raw (show a.eval (.tmp 74) = .pointer (some ⟨g1, o1 + m, none⟩) from hw _ (List.Mem.tail _ (List.Mem.tail _ (List.Mem.tail _ (List.Mem.tail _ (List.Mem.tail _ (List.Mem.tail _ (List.Mem.tail _ (List.Mem.tail _ (List.Mem.tail _ (List.Mem.head _)))))))))) (by kernel_rfl))
                      obtain ⟨yg, -, -, -⟩ := row_at hS (lo := lo1) (hi := hi1) (g := g1) (o := o1) (k := n + 1) (L := G1) (Q := Q1) (hr0 _ (by simp)) (show m < n + 1 by omega)
                      rw [hpg1.out, hV1.out] at yg
                      clear hag hw hb0 hr0
                      replace hS := Lib.hid hS
                      replace hB := Lib.hid hB
                      replace hK := Lib.hid hK
                      go_simp
                      exact hK.out _ _ _ _ hS.out hB.out (fun _ h => h) (fun _ h => h) rfl (fun h => by cases h)
                    · refine ⟨_, rfl, rfl, fun a wq bs rs K hag hS hB hb0 hr0 hw hK => ?_⟩
                      have e71 := eval_raw (show a.eval (.tmp 71) = .agg #[.slice qP.a Po.length qP.c] from hw _ (List.Mem.tail _ (List.Mem.tail _ (List.Mem.tail _ (List.Mem.tail _ (List.Mem.tail _ (List.Mem.tail _ (List.Mem.head _))))))) (by kernel_rfl))
                      have e75 := eval_raw (show a.eval (.tmp 75) = .agg #[.slice pg1.a V1.length pg1.c] from hw _ (List.Mem.tail _ (List.Mem.tail _ (List.Mem.tail _ (List.Mem.tail _ (List.Mem.tail _ (List.Mem.tail _ (List.Mem.tail _ (List.Mem.tail _ (List.Mem.tail _ (List.Mem.tail _ (List.Mem.head _))))))))))) (by kernel_rfl))
                      have rQ := natOld hS (hr0 (rowRd Po qP) (by simp))
                      have rG := natOld hS (hr0 (rowRd V1 pg1) (by simp))
                      clear hag hw hb0 hr0
                      replace hS := Lib.hid hS
                      replace hB := Lib.hid hB
                      replace hK := Lib.hid hK
                      go_simp
                      go_at_call 26
                      refine (AD.out qP pg1 _ rQ rG).mono ?_
                      rintro e w6 ⟨_, rfl, qx, rfl, hr, hf, hb⟩
                      exact hK.out _ _ _ _ (natRes hS.out hr hf hb) hB.out (fun _ h => h) (fun _ h => List.mem_cons_of_mem _ h) ⟨qx, rfl, List.mem_cons_self ..⟩ (fun h => by cases h)
                  case hrest =>
                    subst hJ
                    intro f w4 bs rs S2 hb0 hr0 hN hne
                    obtain ⟨qs, e70, m1⟩ := hN _ (List.Mem.tail _ (List.Mem.tail _ (List.Mem.tail _ (List.Mem.tail _ (List.Mem.tail _ (List.Mem.head _))))))
                    obtain ⟨qa, e76, m2⟩ := hN _ (List.Mem.tail _ (List.Mem.tail _ (List.Mem.tail _ (List.Mem.tail _ (List.Mem.tail _ (List.Mem.tail _ (List.Mem.tail _ (List.Mem.tail _ (List.Mem.tail _ (List.Mem.tail _ (List.Mem.tail _ (List.Mem.head _))))))))))))
                    replace e70 : f 70 = natV Fn qs := e70
                    replace e76 : f 76 = natV Pn qa := e76
                    replace S := Lib.hid (S2.pick ([⟨w2.heap.size + 1, 24, [.slice qP.a Po.length qP.c]⟩, ⟨w2.heap.size, 24, [.slice qF.a Fo.length qF.c]⟩, ⟨h1, 24, [.slice q5.a X1.length q5.c]⟩, ⟨h0, 24, [.slice q4.a X0.length q4.c]⟩, ⟨w.heap.size + 1 + 1 + 1 + 1, 32, [.slice none 0 0, .slice none 0 0]⟩, ⟨w.heap.size + 1 + 1 + 1, 26, [.slice na3 N3.length nc3, .slice da3 D3.length dc3]⟩, ⟨w.heap.size + 1 + 1, 26, [.slice na2 N2.length nc2, .slice da2 D2.length dc2]⟩, ⟨w.heap.size + 1, 26, [.slice na1 N1.length nc1, .slice da1 D1.length dc1]⟩, ⟨w.heap.size, 26, [.slice na0 N0.length nc0, .slice da0 D0.length dc0]⟩]) (rowRd Pn qa :: rowRd Fn qs :: [rowRd X1 q5, rowRd X0 q4, nrowRd lo0 hi0 (some ⟨g0, o0, none⟩) (n + 1) G0 Q0, nrowRd lo1 hi1 (some ⟨g1, o1, none⟩) (n + 1) G1 Q1, rowRd N0 ⟨na0, nc0⟩, rowRd D0 ⟨da0, dc0⟩, rowRd N1 ⟨na1, nc1⟩, rowRd D1 ⟨da1, dc1⟩, rowRd N2 ⟨na2, nc2⟩, rowRd D2 ⟨da2, dc2⟩, rowRd N3 ⟨na3, nc3⟩, rowRd D3 ⟨da3, dc3⟩]) hb0 (fun x hx => by
                      rcases List.mem_cons.1 hx with rfl | hx
                      · exact m2
                      · rcases List.mem_cons.1 hx with rfl | hx
                        · exact m1
                        · exact hr0 x (List.mem_cons_of_mem _ (List.mem_cons_of_mem _ (List.mem_cons_of_mem _ (List.mem_cons_of_mem _ hx))))) hdis.out)
                    obtain ⟨U65, u65⟩ : ∃ x, f 65 = x := ⟨_, rfl⟩
                    obtain ⟨U66, u66⟩ : ∃ x, f 66 = x := ⟨_, rfl⟩
                    obtain ⟨U67, u67⟩ : ∃ x, f 67 = x := ⟨_, rfl⟩
                    obtain ⟨U68, u68⟩ : ∃ x, f 68 = x := ⟨_, rfl⟩
                    obtain ⟨U69, u69⟩ : ∃ x, f 69 = x := ⟨_, rfl⟩
                    obtain ⟨U71, u71⟩ : ∃ x, f 71 = x := ⟨_, rfl⟩
                    obtain ⟨U72, u72⟩ : ∃ x, f 72 = x := ⟨_, rfl⟩
                    obtain ⟨U73, u73⟩ : ∃ x, f 73 = x := ⟨_, rfl⟩
                    obtain ⟨U74, u74⟩ : ∃ x, f 74 = x := ⟨_, rfl⟩
                    obtain ⟨U75, u75⟩ : ∃ x, f 75 = x := ⟨_, rfl⟩
                    simp only [List.foldl_cons, List.foldl_nil, List.drop_succ_cons, List.drop_zero, e70, e76, u65, u66, u67, u68, u69, u71, u72, u73, u74, u75]
                    clear hb0 hr0 hN hne e70 e76 m1 m2 S2 hdis u65 u66 u67 u68 u69 u71 u72 u73 u74 u75
                    clear f bs rs
                    obtain ⟨⟨z8, f8, y8, -⟩, ⟨z7, f7, y7, -⟩, ⟨z6, f6, y6, -⟩, ⟨z5, f5, y5, -⟩, ⟨z4, f4, y4, y4a, -⟩, ⟨z3, f3, y3, y3a, -⟩, ⟨z2, f2, y2, y2a, -⟩, ⟨z1, f1, y1, y1a, -⟩, ⟨z0, f0, y0, y0a, -⟩, -⟩ := S.out.facts
                    replace S := Lib.hid ((S.out.set 1 rfl 0 (.slice qs.a Fn.length qs.c)).set 0 rfl 0 (.slice qa.a Pn.length qa.c))
                    go_wp2_with fail
                    go_meet
                    exact ⟨qs, qa, rfl, by rw [hFn.out, hPn.out]; exact S⟩
              case rest =>
                clear S z8 f8 y8 z7 f7 y7 z6 f6 y6 z5 f5 y5 z4 f4 y4 y4a z3 f3 y3 y3a z2 f2 y2 y2a z1 f1 y1 y1a z0 f0 y0 y0a
                obtain ⟨qF', qP', rfl, S⟩ := hcut
                obtain ⟨Fo, hFo⟩ : ∃ v, FL k = v := ⟨_, rfl⟩
                obtain ⟨Po, hPo⟩ : ∃ v, PL k = v := ⟨_, rfl⟩
                rw [hFo, hPo] at S
                have hFo0 := hFo
                have hPo0 := hPo
                replace hFo := Lib.hid hFo
                replace hPo := Lib.hid hPo
                obtain ⟨v0, hv0⟩ : ∃ v, decide ((d0 ^ n - low a0 (d0 - a0) n k) * ad ≤ an * d0 ^ n) = v := ⟨_, rfl⟩
                obtain ⟨v1, hv1⟩ : ∃ v, decide (low a1 (d1 - a1) n k * bd ≤ bn * d1 ^ n) = v := ⟨_, rfl⟩
                have hokk : Hid (ok n k = (v0 && v1)) := Lib.hid (by rw [← hok.out, ← hv0, ← hv1]; rfl)
                have lw1 := low_le.out a1 d1 n k le1 hlk
                have sD0 := smD.out d0 n k0 (by omega)
                have sD1 := smD.out d1 n k1 (by omega)
                have sX0 := smX.out d0 n (d0 ^ n - low a0 (d0 - a0) n k) ad k0 (by omega) (Nat.sub_le _ _) kad
                have sX1 := smX.out d1 n (low a1 (d1 - a1) n k) bd k1 (by omega) lw1 kbd
                have sY0 := smX.out d0 n (d0 ^ n) an k0 (by omega) (Nat.le_refl _) (by omega)
                have sY1 := smX.out d1 n (d1 ^ n) bn k1 (by omega) (Nat.le_refl _) (by omega)
                rw [Nat.mul_comm] at sY0 sY1
                have M0 := Lib.hid (fun qx qy w' h1 h2 h3 h4 => HM.out (d0 ^ n - low a0 (d0 - a0) n k) (d0 ^ n) an ad qx qy ⟨na2, nc2⟩ ⟨da2, dc2⟩ w' h1 h2 h3 h4 (sm_mono (Nat.sub_le _ _) sD0) sD0 (sm_s (by omega)) (sm_s (by omega)) sX0 sY0)
                have M1 := Lib.hid (fun qx qy w' h1 h2 h3 h4 => HM.out (low a1 (d1 - a1) n k) (d1 ^ n) bn bd qx qy ⟨na3, nc3⟩ ⟨da3, dc3⟩ w' h1 h2 h3 h4 (sm_mono lw1 sD1) sD1 (sm_s (by omega)) (sm_s (by omega)) sX1 sY1)
                rw [hv0, show lim (d0 ^ n - low a0 (d0 - a0) n k) = Fo from by rw [← hFo0, ← hFL.out], hX0.out, hN2.out, hD2.out] at M0
                rw [hv1, show lim (low a1 (d1 - a1) n k) = Po from by rw [← hPo0, ← hPL.out], hX1.out, hN3.out, hD3.out] at M1
                clear hv0 hv1 hFo0 hPo0 lw1 sD0 sD1 sX0 sX1 sY0 sY1
                obtain ⟨⟨z8, f8, y8, -⟩, ⟨z7, f7, y7, -⟩, ⟨z6, f6, y6, -⟩, ⟨z5, f5, y5, -⟩, ⟨z4, f4, y4, y4a, -⟩, ⟨z3, f3, y3, y3a, -⟩, ⟨z2, f2, y2, y2a, -⟩, ⟨z1, f1, y1, y1a, -⟩, ⟨z0, f0, y0, y0a, -⟩, -⟩ := S.out.facts
                have r2 : IntKind.i64.wrap (z + 1) = z + 1 := IntWalk.i64_in _ (by have := hz.out; omega)
                rcases v0 with _ | _
                · have hN := Lib.hid (hnone.out.next (by rw [hokk.out]; rfl))
                  clear hnone hokk M1
                  go_wp2_with fail
                  refine (M0.out qF' q4 _ (natOld S.out (by simp)) (natOld S.out (by simp)) (natOld S.out (by simp)) (natOld S.out (by simp))).mono ?_
                  rintro e wy ⟨rfl, hb⟩
                  replace S := Lib.hid (S.out.call hb)
                  clear hb z8 f8 y8 z7 f7 y7 z6 f6 y6 z5 f5 y5 z4 f4 y4 y4a z3 f3 y3 y3a z2 f2 y2 y2a z1 f1 y1 y1a z0 f0 y0 y0a
                  obtain ⟨⟨z8, f8, y8, -⟩, ⟨z7, f7, y7, -⟩, ⟨z6, f6, y6, -⟩, ⟨z5, f5, y5, -⟩, ⟨z4, f4, y4, y4a, -⟩, ⟨z3, f3, y3, y3a, -⟩, ⟨z2, f2, y2, y2a, -⟩, ⟨z1, f1, y1, y1a, -⟩, ⟨z0, f0, y0, y0a, -⟩, -⟩ := S.out.facts
                  have S2 : Hid (Fm w wy [⟨w2.heap.size + 1, 24, [.slice qP'.a (PL k).length qP'.c]⟩, ⟨w2.heap.size, 24, [.slice qF'.a (FL k).length qF'.c]⟩, ⟨h1, 24, [.slice q5.a X1.length q5.c]⟩, ⟨h0, 24, [.slice q4.a X0.length q4.c]⟩, ⟨w.heap.size + 1 + 1 + 1 + 1, 32, [.slice none 0 0, .slice none 0 0]⟩, ⟨w.heap.size + 1 + 1 + 1, 26, [.slice na3 N3.length nc3, .slice da3 D3.length dc3]⟩, ⟨w.heap.size + 1 + 1, 26, [.slice na2 N2.length nc2, .slice da2 D2.length dc2]⟩, ⟨w.heap.size + 1, 26, [.slice na1 N1.length nc1, .slice da1 D1.length dc1]⟩, ⟨w.heap.size, 26, [.slice na0 N0.length nc0, .slice da0 D0.length dc0]⟩] [rowRd (PL k) qP', rowRd (FL k) qF', rowRd X1 q5, rowRd X0 q4, nrowRd lo0 hi0 (some ⟨g0, o0, none⟩) (n + 1) G0 Q0, nrowRd lo1 hi1 (some ⟨g1, o1, none⟩) (n + 1) G1 Q1, rowRd N0 ⟨na0, nc0⟩, rowRd D0 ⟨da0, dc0⟩, rowRd N1 ⟨na1, nc1⟩, rowRd D1 ⟨da1, dc1⟩, rowRd N2 ⟨na2, nc2⟩, rowRd D2 ⟨da2, dc2⟩, rowRd N3 ⟨na3, nc3⟩, rowRd D3 ⟨da3, dc3⟩]) := by
                    rw [hFo.out, hPo.out]
                    exact S
                  clear S
                  go_wp2
                  go_roundw
                  case rel => exact ⟨k + 1, z + 1, qF', qP', by omega, by go_num, Lib.hid (by have := hz.out; omega), S2, hN⟩
                  case measure => simp [intOf]; have := hz.out; omega
                · rcases v1 with _ | _
                  · have hN := Lib.hid (hnone.out.next (by rw [hokk.out]; rfl))
                    clear hnone hokk
                    go_wp2_with fail
                    refine (M0.out qF' q4 _ (natOld S.out (by simp)) (natOld S.out (by simp)) (natOld S.out (by simp)) (natOld S.out (by simp))).mono ?_
                    rintro e wy ⟨rfl, hb⟩
                    replace S := Lib.hid (S.out.call hb)
                    clear hb z8 f8 y8 z7 f7 y7 z6 f6 y6 z5 f5 y5 z4 f4 y4 y4a z3 f3 y3 y3a z2 f2 y2 y2a z1 f1 y1 y1a z0 f0 y0 y0a
                    obtain ⟨⟨z8, f8, y8, -⟩, ⟨z7, f7, y7, -⟩, ⟨z6, f6, y6, -⟩, ⟨z5, f5, y5, -⟩, ⟨z4, f4, y4, y4a, -⟩, ⟨z3, f3, y3, y3a, -⟩, ⟨z2, f2, y2, y2a, -⟩, ⟨z1, f1, y1, y1a, -⟩, ⟨z0, f0, y0, y0a, -⟩, -⟩ := S.out.facts
                    go_wp2_with fail
                    refine (M1.out qP' q5 _ (natOld S.out (by simp)) (natOld S.out (by simp)) (natOld S.out (by simp)) (natOld S.out (by simp))).mono ?_
                    rintro e wy ⟨rfl, hb⟩
                    replace S := Lib.hid (S.out.call hb)
                    clear hb z8 f8 y8 z7 f7 y7 z6 f6 y6 z5 f5 y5 z4 f4 y4 y4a z3 f3 y3 y3a z2 f2 y2 y2a z1 f1 y1 y1a z0 f0 y0 y0a
                    obtain ⟨⟨z8, f8, y8, -⟩, ⟨z7, f7, y7, -⟩, ⟨z6, f6, y6, -⟩, ⟨z5, f5, y5, -⟩, ⟨z4, f4, y4, y4a, -⟩, ⟨z3, f3, y3, y3a, -⟩, ⟨z2, f2, y2, y2a, -⟩, ⟨z1, f1, y1, y1a, -⟩, ⟨z0, f0, y0, y0a, -⟩, -⟩ := S.out.facts
                    have S2 : Hid (Fm w wy [⟨w2.heap.size + 1, 24, [.slice qP'.a (PL k).length qP'.c]⟩, ⟨w2.heap.size, 24, [.slice qF'.a (FL k).length qF'.c]⟩, ⟨h1, 24, [.slice q5.a X1.length q5.c]⟩, ⟨h0, 24, [.slice q4.a X0.length q4.c]⟩, ⟨w.heap.size + 1 + 1 + 1 + 1, 32, [.slice none 0 0, .slice none 0 0]⟩, ⟨w.heap.size + 1 + 1 + 1, 26, [.slice na3 N3.length nc3, .slice da3 D3.length dc3]⟩, ⟨w.heap.size + 1 + 1, 26, [.slice na2 N2.length nc2, .slice da2 D2.length dc2]⟩, ⟨w.heap.size + 1, 26, [.slice na1 N1.length nc1, .slice da1 D1.length dc1]⟩, ⟨w.heap.size, 26, [.slice na0 N0.length nc0, .slice da0 D0.length dc0]⟩] [rowRd (PL k) qP', rowRd (FL k) qF', rowRd X1 q5, rowRd X0 q4, nrowRd lo0 hi0 (some ⟨g0, o0, none⟩) (n + 1) G0 Q0, nrowRd lo1 hi1 (some ⟨g1, o1, none⟩) (n + 1) G1 Q1, rowRd N0 ⟨na0, nc0⟩, rowRd D0 ⟨da0, dc0⟩, rowRd N1 ⟨na1, nc1⟩, rowRd D1 ⟨da1, dc1⟩, rowRd N2 ⟨na2, nc2⟩, rowRd D2 ⟨da2, dc2⟩, rowRd N3 ⟨na3, nc3⟩, rowRd D3 ⟨da3, dc3⟩]) := by
                      rw [hFo.out, hPo.out]
                      exact S
                    clear S
                    go_wp2
                    go_roundw
                    case rel => exact ⟨k + 1, z + 1, qF', qP', by omega, by go_num, Lib.hid (by have := hz.out; omega), S2, hN⟩
                    case measure => simp [intOf]; have := hz.out; omega
                  · have hk1 : ok n k = true := by rw [hokk.out]; rfl
                    replace hk1 := Lib.hid hk1
                    clear hokk
                    go_wp2_with fail
                    refine (M0.out qF' q4 _ (natOld S.out (by simp)) (natOld S.out (by simp)) (natOld S.out (by simp)) (natOld S.out (by simp))).mono ?_
                    rintro e wy ⟨rfl, hb⟩
                    replace S := Lib.hid (S.out.call hb)
                    clear hb z8 f8 y8 z7 f7 y7 z6 f6 y6 z5 f5 y5 z4 f4 y4 y4a z3 f3 y3 y3a z2 f2 y2 y2a z1 f1 y1 y1a z0 f0 y0 y0a
                    obtain ⟨⟨z8, f8, y8, -⟩, ⟨z7, f7, y7, -⟩, ⟨z6, f6, y6, -⟩, ⟨z5, f5, y5, -⟩, ⟨z4, f4, y4, y4a, -⟩, ⟨z3, f3, y3, y3a, -⟩, ⟨z2, f2, y2, y2a, -⟩, ⟨z1, f1, y1, y1a, -⟩, ⟨z0, f0, y0, y0a, -⟩, -⟩ := S.out.facts
                    go_wp2_with fail
                    refine (M1.out qP' q5 _ (natOld S.out (by simp)) (natOld S.out (by simp)) (natOld S.out (by simp)) (natOld S.out (by simp))).mono ?_
                    rintro e wy ⟨rfl, hb⟩
                    replace S := Lib.hid (S.out.call hb)
                    clear hb z8 f8 y8 z7 f7 y7 z6 f6 y6 z5 f5 y5 z4 f4 y4 y4a z3 f3 y3 y3a z2 f2 y2 y2a z1 f1 y1 y1a z0 f0 y0 y0a
                    obtain ⟨⟨z8, f8, y8, -⟩, ⟨z7, f7, y7, -⟩, ⟨z6, f6, y6, -⟩, ⟨z5, f5, y5, -⟩, ⟨z4, f4, y4, y4a, -⟩, ⟨z3, f3, y3, y3a, -⟩, ⟨z2, f2, y2, y2a, -⟩, ⟨z1, f1, y1, y1a, -⟩, ⟨z0, f0, y0, y0a, -⟩, -⟩ := S.out.facts
                    go_wp2_with fail
                    have HFx := Lib.hid (fun w' => fixed_ok n z w' hn1 (by omega) (by have := hz.out; omega) (by have := hz.out; omega))
                    refine (HFx.out _).mono ?_
                    rintro e wy ⟨_, rfl, qt, rfl, hr, hb⟩
                    replace S := Lib.hid (S.out.call hb)
                    clear hb HFx z8 f8 y8 z7 f7 y7 z6 f6 y6 z5 f5 y5 z4 f4 y4 y4a z3 f3 y3 y3a z2 f2 y2 y2a z1 f1 y1 y1a z0 f0 y0 y0a
                    obtain ⟨⟨z8, f8, y8, -⟩, ⟨z7, f7, y7, -⟩, ⟨z6, f6, y6, -⟩, ⟨z5, f5, y5, -⟩, ⟨z4, f4, y4, y4a, -⟩, ⟨z3, f3, y3, y3a, -⟩, ⟨z2, f2, y2, y2a, -⟩, ⟨z1, f1, y1, y1a, -⟩, ⟨z0, f0, y0, y0a, -⟩, -⟩ := S.out.facts
                    have hr2 := fm_tst_set S.out (List.Mem.tail _ (List.Mem.tail _ (List.Mem.tail _ (List.Mem.tail _ (List.Mem.head _))))) (by simp) hr 0 (.slice qt.a0 (fixT n z).acc.length qt.c0)
                    replace S := Lib.hid (S.out.set 4 rfl 0 (.slice qt.a0 (fixT n z).acc.length qt.c0))
                    have hr3 := Lib.hid (fm_tst_set S.out (List.Mem.tail _ (List.Mem.tail _ (List.Mem.tail _ (List.Mem.tail _ (List.Mem.head _))))) (by simp) hr2 1 (.slice qt.a1 (fixT n z).rej.length qt.c1))
                    replace S := Lib.hid (S.out.set 4 rfl 1 (.slice qt.a1 (fixT n z).rej.length qt.c1))
                    clear hr hr2
                    obtain ⟨TF, hTF⟩ : ∃ T, fixT n z = T := ⟨_, rfl⟩
                    have hTF2 : Hid (fixT n ((k : Int) - 1) = TF) := Lib.hid (by rw [← hz.out]; exact hTF)
                    rw [hTF] at hr3 S
                    rw [hTF]
                    clear hTF
                    go_wp2
                    refine bodyPost_ret (v := .tuple #[tstV TF qt, .int .i64 0]) (by simp [results, Tryz.results7, go_sem, y4, y4a]) rfl ?_
                    exact Ret.mk (.inl ⟨n, k, hn1, hlt, by omega, hk1.out, hnone.out, qt, by rw [hTF2.out], by rw [hTF2.out]; exact hr3.out, S.out.bel⟩)
            · have hd2 : decide (z ≤ (n : Int)) = false := by rw [decide_eq_false_iff_not]; have := hz.out; omega
              obtain rfl : k = n + 2 := by omega
              clear hz hlk
              have hF : Hid (Fm w wr [⟨w.heap.size + 1 + 1 + 1 + 1, 32, [.slice none 0 0, .slice none 0 0]⟩, ⟨w.heap.size + 1 + 1 + 1, 26, [.slice na3 N3.length nc3, .slice da3 D3.length dc3]⟩, ⟨w.heap.size + 1 + 1, 26, [.slice na2 N2.length nc2, .slice da2 D2.length dc2]⟩, ⟨w.heap.size + 1, 26, [.slice na1 N1.length nc1, .slice da1 D1.length dc1]⟩, ⟨w.heap.size, 26, [.slice na0 N0.length nc0, .slice da0 D0.length dc0]⟩] [rowRd N0 ⟨na0, nc0⟩, rowRd D0 ⟨da0, dc0⟩, rowRd N1 ⟨na1, nc1⟩, rowRd D1 ⟨da1, dc1⟩, rowRd N2 ⟨na2, nc2⟩, rowRd D2 ⟨da2, dc2⟩, rowRd N3 ⟨na3, nc3⟩, rowRd D3 ⟨da3, dc3⟩]) := Lib.hid (fm_sel S.out _ _ (.cons _ (.cons _ (.cons _ (.cons _ (List.Sublist.refl _))))) (by simp))
              have hN := Lib.hid hnone.out.row
              have r1 : IntKind.i64.wrap ((n : Int) + 1) = (n : Int) + 1 := IntWalk.i64_in _ (by omega)
              clear S hnone
              go_wp2
              go_roundw
              case rel => exact ⟨n + 1, by omega, by omega, by go_num, hF, hN⟩
              case measure => simp [intOf]; omega
    · have hd : decide ((n : Int) ≤ (mo : Int)) = false := by rw [decide_eq_false_iff_not]; omega
      obtain rfl : n = mo + 1 := by omega
      clear hlt
      replace S := Lib.hid ((S.out.set 0 rfl 0 (.slice none 0 0)).set 0 rfl 1 (.slice none 0 0))
      go_wp2
      refine bodyPost_ret (v := .tuple #[.agg #[.slice none 0 0, .slice none 0 0], .int .i64 4]) (by simp [results, Tryz.results7, go_sem, y4, y4a]) rfl ?_
      exact Ret.mk (.inr ⟨hnone.out, TRes.none_ S.out.bel⟩)
end Go.Proofs.YtpoddmkimhkmoaaGreat
