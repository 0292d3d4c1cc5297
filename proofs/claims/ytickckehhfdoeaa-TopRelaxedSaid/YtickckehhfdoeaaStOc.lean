/-
  CONTRACT of sheaveref35.Of.
  Conditions: those that each theorem names.
-/
import Derived.Deep.RegionLaw
import Derived.Test.YtickckehhfdoeaaSb11
import Derived.Deep.DeepCutAuto
namespace Go.Proofs.Ytickckehhfdoeaa
open Go.RowKit Go.Sv
set_option maxHeartbeats 4000000 in
set_option maxRecDepth 100000 in
theorem of35_any (d : Dra) (q : ProbP) (w : World) (hd : RDra w w.heap.size d q) (hbd : DBd d) :
    Calls Try.prog 16 #[draV d q] w (Ret (DraR w d)) := by
  have S0 := ((Fm.init w).box 32 [.slice q.a0 d.vs.length q.c0, .slice q.a1 d.now.length q.c1, .slice q.a2 d.tgt.length q.c2, .slice q.a3 d.lk.length q.c3]).box' 39 [.slice none 0 0, .slice none 0 0, .slice none 0 0, .slice none 0 0] (K := w.heap.size + 1) (by simp)
  obtain ⟨W, hW, hWs, S⟩ : ∃ W, (w.alloc (.cells #[.slice q.a0 d.vs.length q.c0, .slice q.a1 d.now.length q.c1, .slice q.a2 d.tgt.length q.c2, .slice q.a3 d.lk.length q.c3] 32)).alloc (.cells #[.slice none 0 0, .slice none 0 0, .slice none 0 0, .slice none 0 0] 39) = W ∧ W.heap.size = w.heap.size + 1 + 1 ∧ Fm w W [⟨w.heap.size + 1, 39, [.slice none 0 0, .slice none 0 0, .slice none 0 0, .slice none 0 0]⟩, ⟨w.heap.size, 32, [.slice q.a0 d.vs.length q.c0, .slice q.a1 d.now.length q.c1, .slice q.a2 d.tgt.length q.c2, .slice q.a3 d.lk.length q.c3]⟩] [] := ⟨_, rfl, by simp, S0⟩
  have hdW := Lib.hid (hd.below S.bel)
  have hbb := Lib.hid hbd
  obtain ⟨qa0, qc0, qa1, qc1, qa2, qc2, qa3, qc3⟩ := q
  dsimp only at hW S ⊢
  obtain ⟨⟨r1, f1, r10, r11, r12, r13, -⟩, ⟨r2, f2, r20, r21, r22, r23, -⟩, -⟩ := S.facts
  have SW := Lib.hid S
  replace hWs := Lib.hid hWs
  clear S0 S hd hbd
  by_cases h3 : d.vs.length ≤ 3
  · by_cases h4 : d.lk.length ≤ 4
    · have j3 : ¬ (3 : Int) < (d.vs.length : Int) := by omega
      have j4 : ¬ (4 : Int) < (d.lk.length : Int) := by omega
      have M0 := Lib.hid (PB.new W (fun _ => ⟨none, 0, none, 0⟩))
      obtain ⟨W2, hW2, hb2⟩ : ∃ W2, W.alloc (.cells #[.slice none 0 0, .slice none 0 0, .slice none 0 0, .slice none 0 0] 39) = W2 ∧ Below W.heap.size W W2 := ⟨_, rfl, (Below.refl _ _).alloc (Nat.le_refl _) _⟩
      rw [hW2] at M0
      go_enter Try.func16, Try.ntmps16
      go_wp2
      clear hW2 hW j3 j4 r1 f1 r10 r11 r12 r13 r2 f2 r20 r21 r22 r23
      go_loopw [5] (fun s5 wr => ∃ (k : Nat) (y : ProbP), s5 = .int .i64 k ∧ k ≤ d.vs.length ∧ PB W W.heap.size (dP d k) y (fun _ => ⟨none, 0, none, 0⟩) wr) (fun s5 _ => d.vs.length - (intOf s5).toNat)
      case atStart => exact ⟨0, _, rfl, Nat.zero_le _, M0.out⟩
      case round =>
        obtain ⟨k, ⟨y0, z0, y1, z1, y2, z2, y3, z3⟩, rfl, hk, M⟩ := hrel
        have T := Lib.hid (SW.out.call M.bel)
        have hdr := (hdW.out.below (M.bel.mono (by have := hWs.out; omega)))
        obtain ⟨zM, fM, m0, m1, m2, m3⟩ := M.facts
        rw [dP_lv] at m0
        rw [dP_ln] at m1
        rw [dP_lt] at m2
        have O0 := M.o0
        rw [dP_lv] at O0
        dsimp only at O0 m0 m1 m2 m3
        replace O0 := Lib.hid O0
        have hsM : W.heap.size + 1 ≤ wr.heap.size := M.size
        obtain ⟨⟨r1, f1, r10, r11, r12, r13, -⟩, ⟨r2, f2, r20, r21, r22, r23, -⟩, -⟩ := T.out.facts
        by_cases hlt : k < d.vs.length
        · obtain ⟨bn, on, e0, hbn, hcn⟩ := hdr.r0 (by omega)
          dsimp only at e0
          subst e0
          have c := hcn k hlt
          unfold u8v at c
          have hv := hbb.out.v.1 k hlt
          obtain ⟨v, hvv⟩ : ∃ v, gi d.vs k = v := ⟨_, rfl⟩
          rw [hvv] at c hv
          have jk : (k : Int) < (d.vs.length : Int) := by omega
          obtain ⟨n, hn, n0, n1⟩ : ∃ n, 1 + v % 3 = n ∧ 1 ≤ n ∧ n ≤ 3 := ⟨_, rfl, by omega, by omega⟩
          have hM := Lib.hid M
          have hD := Lib.hid hdr
          clear M hcn hdr
          have hF : Hid (n = dW d k) := Lib.hid (by unfold dW; rw [hvv, ← hn])
          have hsz1 : W.heap.size + 1 ≤ wr.heap.size := hsM
          go_wp2_with (at_builtin; refine push_own elInt rfl _ _ rfl (W.heap.size + 1) _ k _ O0.out rfl [.int .i64 n] rfl rfl rfl (by omega) (by omega) hsz1 ?_)
          intro v' w5 hown5 hg5 hb5 hs5 hor5
          obtain ⟨A5, c5, rfl, M5⟩ := ((hM.out.to ((Below.refl _ _).alloc (Nat.le_refl _) (.cells [Value.int .i64 n].toArray 3))).push0 (x := n) (by rw [dP_lv]; exact hown5) (by rw [dP_lv]; exact hg5) (by rw [dP_lv]; simpa using hor5))
          dsimp only at M5
          have hwM := hM.out.pb.below hb5 (Nat.lt_succ_self _)
          have z5 := hwM.lt
          have f5 := fun o => hwM.frozen o
          have e0 : w5.cell? ⟨W.heap.size, 0, none⟩ = some (.slice y0 (dP d k).vs.length z0) := hwM.cell 0
          clear hwM hown5 hg5 hb5 hs5 hor5 zM fM m0 m1 m2 m3
          go_wp2_with fail
          generalize hWW6 : w5.setCell ⟨W.heap.size, 0, none⟩ (.slice A5 ((dP d k).vs.length + 1) c5) = W6 at M5 ⊢
          replace hWW6 := Lib.hid hWW6
          replace M5 := Lib.hid M5
          clear r1 f1 r10 r11 r12 r13 r2 f2 r20 r21 r22 r23
          have T1 := Lib.hid (SW.out.call M5.out.bel)
          obtain ⟨⟨r1, f1, r10, r11, r12, r13, -⟩, ⟨r2, f2, r20, r21, r22, r23, -⟩, -⟩ := T1.out.facts
          obtain ⟨zM, fM, m0, m1, m2, m3⟩ := M5.out.facts
          have R1 := Lib.hid (hdW.out.below (M5.out.bel.mono (by have := hWs.out; omega)))
          have hz1 : W.heap.size + 1 ≤ W6.heap.size := M5.out.size
          have hzw1 : w.heap.size + 2 ≤ W.heap.size := by have := hWs.out; omega
          have Md1 := Lib.hid (M5.out.to ((Drawn.refl W6).drew).below)
          have O1 := Md1.out.o1
          dsimp only at O1 m0 m1 m2 m3
          rw [dP_ln] at m1 O1
          replace O1 := Lib.hid O1
          have HC1 := Lib.hid (code5_any qa1 qc1 d.now k W6.drew w.heap.size (R1.out.below ((Drawn.refl W6).drew).below).r1 hbb.out.n.1 hbb.out.n.2 (by omega))
          obtain ⟨x1, hx1, hx1p⟩ : ∃ x, dcode d.now k = x ∧ 0 ≤ x := ⟨_, rfl, (dcode_bd hbb.out.n k).1⟩
          rw [hx1] at HC1
          replace hx1 := Lib.hid hx1
          have n1 : x1.tmod n = x1 % n := Int.tmod_eq_emod_of_nonneg hx1p
          obtain ⟨u1x, hu1⟩ : ∃ u, x1 % n = u := ⟨_, rfl⟩
          rw [hu1] at n1
          replace hu1 := Lib.hid hu1
          have nz : ¬ n = 0 := by omega
          have i11 : ¬ w.heap.size = W.heap.size := by omega
          have i12 : ¬ W.heap.size = w.heap.size := by omega
          go_wp2_with fail
          go_upto_region 9 with fail
          go_cut [51] (fun sx wx => ∃ (A : Option Addr) (c : Nat), sx = .slice A (k + 1) c ∧ PB W W.heap.size ⟨(dP d k).vs ++ [n], (dP d k).now ++ [u1x], (dP d k).tgt, (dP d k).tabs⟩ ⟨A5, c5, A, c, y2, z2, y3, z3⟩ (fun _ => ⟨none, 0, none, 0⟩) wx)
          case first =>
            go_region_law
              (first
                | (go_simp; go_at_call 35; refine HC1.out.mono ?_
                   rintro e w9 ⟨rfl, rfl⟩
                   have g1 := (((Drawn.refl W6).drew).cell ⟨w.heap.size, 1, none⟩).trans r21
                   have g2 := (((Drawn.refl W6).drew).cell ⟨W.heap.size, 1, none⟩).trans m1)
                | (refine step_own2 elInt (by rfl) _ _ (by rfl) (W.heap.size + 1) _ k _ (O1.out.alloc _) (by rfl) _ (by rfl) _ (World.cell?_alloc_new _ _ _ 0) (by rfl) (by omega) (by omega) (by simp; omega) ?_
                   intro v' w6 hown6 hg6 hor6
                   have hb6 := (((Below.refl (W.heap.size + 1) W6).drew).alloc hz1 _).trans (own_below (O1.out.alloc _) hg6 (by simp; omega))
                   have x1 := (hb6.cell (p := ⟨w.heap.size, 1, none⟩) (by show w.heap.size < _; omega)).trans r21
                   have hwM := M5.out.pb.below hb6 (Nat.lt_succ_self _)
                   have z6 := hwM.lt
                   have f6 := fun o => hwM.frozen o
                   have c6 : w6.cell? ⟨W.heap.size, 1, none⟩ = some (.slice y1 (dP d k).now.length z1) := hwM.cell 1
                   rw [dP_ln] at c6
                   obtain ⟨A1, q1, rfl, M6⟩ := ((Md1.out.to ((Below.refl _ _).alloc (Nat.le_refl _) _)).push1 (x := u1x) (by dsimp only; rw [dP_ln]; exact hown6) (by dsimp only; rw [dP_ln]; exact hg6) (by dsimp only; rw [dP_ln]; exact hor6))
                   dsimp only at M6
                   replace M6 := Lib.hid M6
                   clear hwM hown6 hg6 hor6))
            all_goals (go_wp2_with fail; go_meet)
            all_goals exact ⟨_, _, (by rw [dP_ln]), M6.out⟩
          obtain ⟨A1, q1, rfl, M7⟩ := hcut
          rename World => W7
          replace M7 := Lib.hid M7
          clear r1 f1 r10 r11 r12 r13 r2 f2 r20 r21 r22 r23
          have T2 := Lib.hid (SW.out.call M7.out.bel)
          obtain ⟨⟨r1, f1, r10, r11, r12, r13, -⟩, ⟨r2, f2, r20, r21, r22, r23, -⟩, -⟩ := T2.out.facts
          obtain ⟨zM, fM, m0, m1, m2, m3⟩ := M7.out.facts
          have R2 := Lib.hid (hdW.out.below (M7.out.bel.mono (by have := hWs.out; omega)))
          have hz2 : W.heap.size + 1 ≤ W7.heap.size := M7.out.size
          have hzw2 : w.heap.size + 2 ≤ W.heap.size := by have := hWs.out; omega
          have Md2 := Lib.hid (M7.out.to ((Drawn.refl W7).drew).below)
          have O2 := Md2.out.o2
          dsimp only at O2 m0 m1 m2 m3
          rw [dP_lt] at m2 O2
          replace O2 := Lib.hid O2
          have HC2 := Lib.hid (code5_any qa2 qc2 d.tgt k W7.drew w.heap.size (R2.out.below ((Drawn.refl W7).drew).below).r2 hbb.out.t.1 hbb.out.t.2 (by omega))
          obtain ⟨x2, hx2, hx2p⟩ : ∃ x, dcode d.tgt k = x ∧ 0 ≤ x := ⟨_, rfl, (dcode_bd hbb.out.t k).1⟩
          rw [hx2] at HC2
          replace hx2 := Lib.hid hx2
          have n2 : x2.tmod n = x2 % n := Int.tmod_eq_emod_of_nonneg hx2p
          obtain ⟨u2x, hu2⟩ : ∃ u, x2 % n = u := ⟨_, rfl⟩
          rw [hu2] at n2
          replace hu2 := Lib.hid hu2
          have nz : ¬ n = 0 := by omega
          have i21 : ¬ w.heap.size = W.heap.size := by omega
          have i22 : ¬ W.heap.size = w.heap.size := by omega
          go_wp2_with fail
          go_region_law
            (first
              | (go_simp; go_at_call 35; refine HC2.out.mono ?_
                 rintro e w9 ⟨rfl, rfl⟩
                 have g1 := (((Drawn.refl W7).drew).cell ⟨w.heap.size, 2, none⟩).trans r22
                 have g2 := (((Drawn.refl W7).drew).cell ⟨W.heap.size, 2, none⟩).trans m2)
              | (refine step_own2 elInt (by rfl) _ _ (by rfl) (W.heap.size + 1) _ k _ (O2.out.alloc _) (by rfl) _ (by rfl) _ (World.cell?_alloc_new _ _ _ 0) (by rfl) (by omega) (by omega) (by simp; omega) ?_
                 intro v' w6 hown6 hg6 hor6
                 have hb6 := (((Below.refl (W.heap.size + 1) W7).drew).alloc hz2 _).trans (own_below (O2.out.alloc _) hg6 (by simp; omega))
                 have x1 := (hb6.cell (p := ⟨w.heap.size, 2, none⟩) (by show w.heap.size < _; omega)).trans r22
                 have hwM := M7.out.pb.below hb6 (Nat.lt_succ_self _)
                 have z6 := hwM.lt
                 have f6 := fun o => hwM.frozen o
                 have c6 : w6.cell? ⟨W.heap.size, 2, none⟩ = some (.slice y2 (dP d k).tgt.length z2) := hwM.cell 2
                 rw [dP_lt] at c6
                 obtain ⟨A2, q2, rfl, M6⟩ := ((Md2.out.to ((Below.refl _ _).alloc (Nat.le_refl _) _)).push2 (x := u2x) (by dsimp only; rw [dP_lt]; exact hown6) (by dsimp only; rw [dP_lt]; exact hg6) (by dsimp only; rw [dP_lt]; exact hor6))
                 dsimp only at M6
                 replace M6 := Lib.hid M6
                 clear hwM hown6 hg6 hor6))
          all_goals
            have M9 := M6.out
            rw [hF.out, ← hu1.out, ← hu2.out, ← hx1.out, ← hx2.out, hF.out, dP_snoc] at M9
            replace M9 := Lib.hid M9
            clear zM fM m0 m1 m2 m3
            go_wp2
            go_roundw
            case rel => exact ⟨k + 1, _, by go_num, by omega, M9.out⟩
            case measure => simp [intOf]; omega
        · obtain rfl : k = d.vs.length := by omega
          have hMo := Lib.hid M
          rw [dP_all] at hMo
          clear hlt hdr O0 M zM fM m0 m1 m2 m3 r1 f1 r10 r11 r12 r13 r2 f2 r20 r21 r22 r23
          rename World => wo
          obtain ⟨⟨r1, f1, r10, r11, r12, r13, -⟩, ⟨r2, f2, r20, r21, r22, r23, -⟩, -⟩ := T.out.facts
          go_wp2
          clear r1 f1 r10 r11 r12 r13 r2 f2 r20 r21 r22 r23
          go_loopw [7] (fun s7 wr => ∃ (j : Nat) (y : ProbP) (F : Nat → TabP), s7 = .int .i64 j ∧ j ≤ d.lk.length ∧ (j = 0 ∨ d.vs.length ≠ 0) ∧ PB W W.heap.size (dQ d j) y F wr) (fun s7 _ => d.lk.length - (intOf s7).toNat)
          case atStart => exact ⟨0, _, _, rfl, Nat.zero_le _, Or.inl rfl, hMo.out⟩
          case round =>
            clear T hMo
            obtain ⟨j, ⟨y0, z0, y1, z1, y2, z2, y3, z3⟩, F, rfl, hj, hj0, M⟩ := hrel
            have T := Lib.hid (SW.out.call M.bel)
            have hdr := (hdW.out.below (M.bel.mono (by have := hWs.out; omega)))
            obtain ⟨zM, fM, m0, m1, m2, m3⟩ := M.facts
            rw [dQ_lv] at m0
            rw [dQ_lt] at m3
            dsimp only at m0 m1 m2 m3
            have hsM : W.heap.size + 1 ≤ wr.heap.size := M.size
            have hzw : w.heap.size + 2 ≤ W.heap.size := by have := hWs.out; omega
            obtain ⟨⟨r1, f1, r10, r11, r12, r13, -⟩, ⟨r2, f2, r20, r21, r22, r23, -⟩, -⟩ := T.out.facts
            by_cases hlt : j < d.lk.length
            · by_cases hv0 : 0 < d.vs.length
              · obtain ⟨bl, ol, e3, hbl, hcl⟩ := hdr.r3 (by omega)
                dsimp only at e3
                subst e3
                obtain ⟨c0, c1, c2, c3, c4, c5⟩ := lk_cells (hcl j hlt)
                obtain ⟨⟨k0, k1⟩, ⟨s0, s1⟩, ⟨d0, d1⟩, ⟨b0, b1⟩, ⟨o0, o1⟩⟩ := hbb.out.l j hlt
                obtain ⟨l, hl⟩ : ∃ l, lkAt d.lk j = l := ⟨_, rfl⟩
                rw [hl] at c0 c1 c2 c3 c4 c5 k0 k1 s0 s1 d0 d1 b0 b1 o0 o1
                obtain ⟨lk, ls, ld, la, lb, lo⟩ := l
                dsimp only at c0 c1 c2 c3 c4 c5 k0 k1 s0 s1 d0 d1 b0 b1 o0 o1
                have jk : (j : Int) < (d.lk.length : Int) := by omega
                have jv : (0 : Int) < (d.vs.length : Int) := by omega
                have hM := Lib.hid M
                have hD := Lib.hid hdr
                replace hl := Lib.hid hl
                obtain ⟨bv, ov, e0, hbv, hcv⟩ := hM.out.prob.r0 (by rw [dQ_lv]; exact hv0)
                dsimp only at e0
                subst e0
                clear M hcl hdr
                obtain ⟨K, hK, K0, K1⟩ : ∃ n, 1 + lk % 4 = n ∧ 1 ≤ n ∧ n ≤ 4 := ⟨_, rfl, by omega, by omega⟩
                obtain ⟨a, ha, a1⟩ : ∃ a : Nat, ls.tmod (d.vs.length : Int) = (a : Int) ∧ a < d.vs.length := tmod_nat s0 hv0
                obtain ⟨b, hb, b1'⟩ : ∃ a : Nat, ld.tmod (d.vs.length : Int) = (a : Int) ∧ a < d.vs.length := tmod_nat d0 hv0
                obtain ⟨W4, hW4, S4, hB4⟩ := fm_boxE (Fm.init wr) 91 [.int .u8 lk, .int .u8 ls, .int .u8 ld, .bool la, .int .u16 lb, .int .u16 lo]
                go_wp2_with fail
                clear hW4 zM fM m0 m1 m2 m3 r1 f1 r10 r11 r12 r13 r2 f2 r20 r21 r22 r23 c0 c1 c2 c3 c4 c5
                have M4 := Lib.hid (hM.out.to hB4)
                obtain ⟨zM, fM, m0, m1, m2, m3⟩ := M4.out.facts
                rw [dQ_lv] at m0
                rw [dQ_lt] at m3
                dsimp only at m0 m1 m2 m3
                obtain ⟨⟨l1, g1, l10, l11, l12, l13, l14, l15, -⟩, -⟩ := S4.facts
                have hS4 := Lib.hid S4
                have w41 : wr.heap.size < W4.heap.size := l1
                clear S4
                have nz : ¬ d.vs = [] := fun h => by rw [h] at hv0; exact absurd hv0 (by decide)
                have nz1 : ¬ (d.vs.length : Int) = 0 := by omega
                have n1 := World.new_ne W4.drew ⟨wr.heap.size, 0, none⟩ ((by simpa using l10 : W4.drew.cell? ⟨wr.heap.size, 0, none⟩ = some (.int .u8 lk)))
                have n2 := World.new_ne W4.drew ⟨W.heap.size, 0, none⟩ ((by simpa using m0 : W4.drew.cell? ⟨W.heap.size, 0, none⟩ = some (.slice (some ⟨bv, ov, none⟩) d.vs.length z0)))
                have hw1 : IntKind.i64.wrap ls = ls := by simp [IntKind.wrap, IntKind.bits, IntKind.signed]; omega
                have hw2 : IntKind.i64.wrap ld = ld := by simp [IntKind.wrap, IntKind.bits, IntKind.signed]; omega
                have hw3 : IntKind.i64.wrap (lk.tmod 4) = lk % 4 := by rw [Int.tmod_eq_emod_of_nonneg k0]; simp [IntKind.wrap, IntKind.bits, IntKind.signed]; omega
                have hw4 : IntKind.i64.wrap K = K := by simp [IntKind.wrap, IntKind.bits, IntKind.signed]; omega
                go_region_held3 (fun w' => w'.cell? ⟨wr.heap.size, 0, none⟩ = some (.int .u8 lk) ∧ w'.cell? ⟨wr.heap.size, 1, none⟩ = some (.int .u8 ls) ∧ w'.cell? ⟨wr.heap.size, 2, none⟩ = some (.int .u8 ld) ∧ w'.cell? ⟨W.heap.size, 0, none⟩ = some (.slice (some ⟨bv, ov, none⟩) d.vs.length z0)) (go_keep) (first | (fail))
                obtain ⟨W5, hW5, S5, hB5⟩ : ∃ W5, (W4.alloc (.cells #[.int .i64 K, .int .i64 (a : Int), .int .i64 (b : Int), .bool false, .slice none 0 0, .slice none 0 0] 47)).drew = W5 ∧ Fm wr W5 [⟨W4.heap.size, 47, [.int .i64 K, .int .i64 (a : Int), .int .i64 (b : Int), .bool false, .slice none 0 0, .slice none 0 0]⟩, ⟨wr.heap.size, 91, [.int .u8 lk, .int .u8 ls, .int .u8 ld, .bool la, .int .u16 lb, .int .u16 lo]⟩] [] ∧ Below wr.heap.size wr W5 := ⟨_, rfl, (hS4.out.box 47 _).drew, ((hS4.out.box 47 _).drew).bel⟩
                rw [hW5]
                replace hW5 := Lib.hid hW5
                clear l1 g1 l10 l11 l12 l13 l14 l15 zM fM m0 m1 m2 m3 n1 n2
                obtain ⟨⟨t1, h1, t10, t11, t12, t13, t14, t15, -⟩, ⟨l1, g1, l10, l11, l12, l13, l14, l15, -⟩, -⟩ := S5.facts
                have hS5 := Lib.hid S5
                clear S5
                have HS := Lib.hid (rstored_any ⟨K, a, b, false, [], []⟩ ⟨none, 0, none, 0⟩ W5)
                unfold tabV at HS
                dsimp only [List.length_nil] at HS
                obtain ⟨aw, haw⟩ : ∃ aw, (la && !stB K) = aw := ⟨_, rfl⟩
                replace haw := Lib.hid haw
                go_upto_region 16 with fail
                go_cut [108] (fun sx wx => sx = .bool aw ∧ Fm wr wx [⟨W4.heap.size, 47, [.int .i64 K, .int .i64 (a : Int), .int .i64 (b : Int), .bool aw, .slice none 0 0, .slice none 0 0]⟩, ⟨wr.heap.size, 91, [.int .u8 lk, .int .u8 ls, .int .u8 ld, .bool la, .int .u16 lb, .int .u16 lo]⟩] [])
                case first =>
                  cases la with
                  | true =>
                    go_wp2_with fail
                    with_reducible refine HS.out.mono ?_
                    rintro e w6 ⟨rfl, hb6⟩
                    have hs6 := Lib.hid (hS5.out.call hb6)
                    clear t1 h1 t10 t11 t12 t13 t14 t15 l1 g1 l10 l11 l12 l13 l14 l15
                    obtain ⟨⟨t1, h1, t10, t11, t12, t13, t14, t15, -⟩, -⟩ := hs6.out.facts
                    go_wp2_with fail
                    go_meet
                    exact ⟨by rw [← haw.out]; rfl, by rw [← haw.out]; exact hs6.out.set 0 rfl 3 _⟩
                  | false =>
                    go_wp2_with fail
                    go_meet
                    exact ⟨by rw [← haw.out]; rfl, by rw [← haw.out]; exact hS5.out.set 0 rfl 3 _⟩
                clear t1 h1 t10 t11 t12 t13 t14 t15 l1 g1 l10 l11 l12 l13 l14 l15 hw1 hw2 hw3 hw4
                obtain ⟨hsx, S6⟩ := hcut
                obtain ⟨nA, hnA, nA0, nA3⟩ : ∃ n : Nat, gi (dVs d) a = (n : Int) ∧ 1 ≤ n ∧ n ≤ 3 := ⟨(gi (dVs d) a).toNat, by have := dVs_bd (d := d) a1; omega, by have := dVs_bd (d := d) a1; omega, by have := dVs_bd (d := d) a1; omega⟩
                obtain ⟨nB, hnB, nB0, nB3⟩ : ∃ n : Nat, gi (dVs d) b = (n : Int) ∧ 1 ≤ n ∧ n ≤ 3 := ⟨(gi (dVs d) b).toNat, by have := dVs_bd (d := d) b1'; omega, by have := dVs_bd (d := d) b1'; omega, by have := dVs_bd (d := d) b1'; omega⟩
                have va := hcv a (by rw [dQ_lv]; exact a1)
                have vb := hcv b (by rw [dQ_lv]; exact b1')
                unfold iv at va vb
                rw [show gi (dQ d j).vs a = (nA : Int) from hnA] at va
                rw [show gi (dQ d j).vs b = (nB : Int) from hnB] at vb
                replace hsx := Lib.hid hsx
                replace hnA := Lib.hid hnA
                replace hnB := Lib.hid hnB
                replace hK := Lib.hid hK
                replace ha := Lib.hid ha
                replace hb := Lib.hid hb
                clear hcv
                obtain ⟨M1, hM1⟩ : ∃ m, bitsM nA nB lb false = m := ⟨_, rfl⟩
                have HB := Lib.hid (fun W => bits_any nA nB lb false W nA3 nB3 b0 b1)
                rw [hM1] at HB
                replace hM1 := Lib.hid hM1
                have M6 := Lib.hid (hM.out.to S6.bel)
                obtain ⟨zM, fM, m0, m1, m2, m3⟩ := M6.out.facts
                rw [dQ_lv] at m0
                rw [dQ_lt] at m3
                dsimp only at m0 m1 m2 m3
                have va6 := (S6.bel.cell (p := ⟨bv, ov + a, none⟩) hbv).trans va
                have vb6 := (S6.bel.cell (p := ⟨bv, ov + b, none⟩) hbv).trans vb
                obtain ⟨⟨t1, h1, t10, t11, t12, t13, t14, t15, -⟩, ⟨l1, g1, l10, l11, l12, l13, l14, l15, -⟩, -⟩ := S6.facts
                have hS6 := Lib.hid S6
                have ja : (a : Int) < (d.vs.length : Int) := by omega
                have jb : (b : Int) < (d.vs.length : Int) := by omega
                have hbv6 := Nat.lt_of_lt_of_le hbv hS6.out.bel.size
                have i1 : ¬ bv = W4.heap.size := by omega
                have i2 : ¬ W4.heap.size = bv := by omega
                have i3 : ¬ wr.heap.size = W4.heap.size := by omega
                have i4 : ¬ W4.heap.size = wr.heap.size := by omega
                have i5 : ¬ W.heap.size = W4.heap.size := by omega
                have i6 : ¬ W4.heap.size = W.heap.size := by omega
                replace va := Lib.hid va
                replace vb := Lib.hid vb
                clear S6
                rename World => W6
                go_wp2_with fail
                go_region_held3 (fun w' => w'.cell? ⟨W.heap.size, 0, none⟩ = some (.slice (some ⟨bv, ov, none⟩) d.vs.length z0) ∧ w'.cell? ⟨W4.heap.size, 1, none⟩ = some (.int .i64 (a : Int)) ∧ w'.cell? ⟨W4.heap.size, 2, none⟩ = some (.int .i64 (b : Int)) ∧ w'.cell? ⟨bv, ov + a, none⟩ = some (.int .i64 (nA : Int)) ∧ w'.cell? ⟨bv, ov + b, none⟩ = some (.int .i64 (nB : Int)) ∧ w'.cell? ⟨wr.heap.size, 4, none⟩ = some (.int .u16 lb)) (simp [*, World.cell?_setCell_far, cell_off])
                  (first
                    | ((with_reducible refine (HB.out W6.drew).mono ?_)
                       rintro e w9 ⟨_, rfl, hb9, A4, c4, rfl, hO9⟩
                       have hd9 := ((Drawn.refl W6).drew).below.trans hb9
                       have S9 := Lib.hid (hS6.out.call hd9)
                       have M9 := Lib.hid (M6.out.to hd9)
                       have va9 := (hd9.cell (p := ⟨bv, ov + a, none⟩) (by exact hbv6)).trans va6
                       have vb9 := (hd9.cell (p := ⟨bv, ov + b, none⟩) (by exact hbv6)).trans vb6
                       have hO := Lib.hid (hO9.base (B' := W4.heap.size + 1) (by show W4.heap.size < W6.heap.size; exact t1))
                       clear zM fM m0 m1 m2 m3 t1 h1 t10 t11 t12 t13 t14 t15 l1 g1 l10 l11 l12 l13 l14 l15 hb9 hO9
                       obtain ⟨zM, fM, m0, m1, m2, m3⟩ := M9.out.facts
                       rw [dQ_lv] at m0
                       rw [dQ_lt] at m3
                       dsimp only at m0 m1 m2 m3
                       obtain ⟨⟨t1, h1, t10, t11, t12, t13, t14, t15, -⟩, ⟨l1, g1, l10, l11, l12, l13, l14, l15, -⟩, -⟩ := S9.out.facts))
                generalize hW7 : w9.setCell ⟨W4.heap.size, 4, none⟩ (.slice A4 M1.length c4) = W7
                have S7 : Hid (Fm wr W7 [⟨W4.heap.size, 47, [.int .i64 K, .int .i64 (a : Int), .int .i64 (b : Int), .bool aw, .slice A4 M1.length c4, .slice none 0 0]⟩, ⟨wr.heap.size, 91, [.int .u8 lk, .int .u8 ls, .int .u8 ld, .bool la, .int .u16 lb, .int .u16 lo]⟩] []) := Lib.hid (by rw [← hW7]; exact S9.out.set 0 rfl 4 _)
                have O7 : Hid (OwnMt W7 (W4.heap.size + 1) M1 (.slice A4 M1.length c4)) := Lib.hid (by rw [← hW7]; exact hO.out.set 4 _)
                replace hW7 := Lib.hid hW7
                have M7 := Lib.hid (hM.out.to S7.out.bel)
                have va7 := (S7.out.bel.cell (p := ⟨bv, ov + a, none⟩) hbv).trans va.out
                have vb7 := (S7.out.bel.cell (p := ⟨bv, ov + b, none⟩) hbv).trans vb.out
                clear zM fM m0 m1 m2 m3 t1 h1 t10 t11 t12 t13 t14 t15 l1 g1 l10 l11 l12 l13 l14 l15 va6 vb6 va9 vb9 S9 M9 hO hd9 M6 hS6
                obtain ⟨zM, fM, m0, m1, m2, m3⟩ := M7.out.facts
                rw [dQ_lv] at m0
                rw [dQ_lt] at m3
                dsimp only at m0 m1 m2 m3
                obtain ⟨⟨t1, h1, t10, t11, t12, t13, t14, t15, -⟩, ⟨l1, g1, l10, l11, l12, l13, l14, l15, -⟩, -⟩ := S7.out.facts
                have hbv7 := Nat.lt_of_lt_of_le hbv S7.out.bel.size
                cases hk4 : (K == 4) with
                | false =>
                  have hk4' := Lib.hid (beq_eq_false_iff_ne.1 hk4)
                  have P7 := Lib.hid (OwnMt.nil W7 (W.heap.size + 1))
                  have O7b := Lib.hid (O7.out.base (B' := W.heap.size + 1) (by omega))
                  have Q3 := M7.out.o3
                  dsimp only at Q3
                  rw [dQ_lt] at Q3
                  replace Q3 := Lib.hid Q3
                  have hz : W.heap.size + 1 ≤ W7.heap.size := M7.out.size
                  go_wp2_with (at_builtin; refine push_own elTab rfl _ _ rfl (W.heap.size + 1) _ j _ Q3.out rfl [.int .i64 K, .int .i64 (a : Int), .int .i64 (b : Int), .bool aw, .slice A4 M1.length c4, .slice none 0 0] rfl rfl rfl (by omega) (by omega) hz ?_)
                  intro v' w5 hown5 hg5 hb5 hs5 hor5
                  have ha5 : Below W7.heap.size W7 (W7.alloc (.cells [Value.int .i64 K, .int .i64 (a : Int), .int .i64 (b : Int), .bool aw, .slice A4 M1.length c4, .slice none 0 0].toArray 47)) := (Below.refl _ _).alloc (Nat.le_refl _) _
                  obtain ⟨A9, c9, rfl, M9⟩ := (M7.out.to ha5).push3 (t := ⟨K, a, b, aw, M1, []⟩) (y := ⟨A4, c4, none, 0⟩) (by dsimp only; rw [dQ_lt]; exact hown5) (by dsimp only; rw [dQ_lt]; exact hg5) (O7b.out.to ha5) (P7.out.to ha5)
                  have hT : (⟨K, a, b, aw, M1, []⟩ : Tab) = dTab (dVs d) (lkAt d.lk j) := by
                    rw [hl.out, dTab_mk hK.out ha.out s0 hb.out d0 hnA.out hnB.out, if_neg hk4'.out, haw.out, hM1.out]
                  rw [hT, dQ_snoc] at M9
                  replace hT := Lib.hid hT
                  dsimp only at M9
                  replace M9 := Lib.hid M9
                  have hwM := M7.out.pb.below hb5 (Nat.lt_succ_self _)
                  have z5 := hwM.lt
                  have f5 := fun o => hwM.frozen o
                  have e0 : w5.cell? ⟨W.heap.size, 3, none⟩ = some (.slice y3 (dQ d j).tabs.length z3) := hwM.cell 3
                  clear hwM hown5 hg5 hb5 hs5 hor5 ha5 zM fM m0 m1 m2 m3 t1 h1 t10 t11 t12 t13 t14 t15 l1 g1 l10 l11 l12 l13 l14 l15
                  go_wp2_with fail
                  go_roundw
                  case rel => exact ⟨j + 1, _, _, by go_num, by omega, Or.inr (by omega), M9.out⟩
                  case measure => simp [intOf]; omega
                | true =>
                  have hk4' := Lib.hid (beq_iff_eq.1 hk4)
                  obtain ⟨M2, hM2⟩ : ∃ m, bitsM nA nA lo true = m := ⟨_, rfl⟩
                  have HB2 := Lib.hid (fun W => bits_any nA nA lo true W nA3 nA3 o0 o1)
                  rw [hM2] at HB2
                  replace hM2 := Lib.hid hM2
                  go_wp2_with fail
                  go_region_held3 (fun w' => w'.cell? ⟨W.heap.size, 0, none⟩ = some (.slice (some ⟨bv, ov, none⟩) d.vs.length z0) ∧ w'.cell? ⟨W4.heap.size, 1, none⟩ = some (.int .i64 (a : Int)) ∧ w'.cell? ⟨bv, ov + a, none⟩ = some (.int .i64 (nA : Int)) ∧ w'.cell? ⟨wr.heap.size, 5, none⟩ = some (.int .u16 lo)) (simp [*, World.cell?_setCell_far, cell_off])
                    (first
                      | ((with_reducible refine (HB2.out W7.drew).mono ?_)
                         rintro e w11 ⟨_, rfl, hb11, A5, c5, rfl, hO11⟩
                         have hd11 := ((Drawn.refl W7).drew).below.trans hb11
                         have S11 := Lib.hid (S7.out.call hd11)
                         have M11 := Lib.hid (M7.out.to hd11)
                         have O11 := Lib.hid (O7.out.to hd11)
                         have va11 := (hd11.cell (p := ⟨bv, ov + a, none⟩) (by exact hbv7)).trans va7
                         have hO := Lib.hid (hO11.base (B' := W4.heap.size + 1) (by show W4.heap.size < W7.heap.size; exact t1))
                         clear zM fM m0 m1 m2 m3 t1 h1 t10 t11 t12 t13 t14 t15 l1 g1 l10 l11 l12 l13 l14 l15 hb11 hO11
                         obtain ⟨zM, fM, m0, m1, m2, m3⟩ := M11.out.facts
                         rw [dQ_lv] at m0
                         rw [dQ_lt] at m3
                         dsimp only at m0 m1 m2 m3
                         obtain ⟨⟨t1, h1, t10, t11, t12, t13, t14, t15, -⟩, ⟨l1, g1, l10, l11, l12, l13, l14, l15, -⟩, -⟩ := S11.out.facts))
                  generalize hW8 : w11.setCell ⟨W4.heap.size, 5, none⟩ (.slice A5 M2.length c5) = W8
                  have S8 : Hid (Fm wr W8 [⟨W4.heap.size, 47, [.int .i64 K, .int .i64 (a : Int), .int .i64 (b : Int), .bool aw, .slice A4 M1.length c4, .slice A5 M2.length c5]⟩, ⟨wr.heap.size, 91, [.int .u8 lk, .int .u8 ls, .int .u8 ld, .bool la, .int .u16 lb, .int .u16 lo]⟩] []) := Lib.hid (by rw [← hW8]; exact S11.out.set 0 rfl 5 _)
                  have O8 : Hid (OwnMt W8 (W.heap.size + 1) M1 (.slice A4 M1.length c4)) := Lib.hid (by rw [← hW8]; exact (O11.out.set 5 _).base (by omega))
                  have P8 : Hid (OwnMt W8 (W.heap.size + 1) M2 (.slice A5 M2.length c5)) := Lib.hid (by rw [← hW8]; exact (hO.out.set 5 _).base (by omega))
                  replace hW8 := Lib.hid hW8
                  have M8 := Lib.hid (hM.out.to S8.out.bel)
                  clear zM fM m0 m1 m2 m3 t1 h1 t10 t11 t12 t13 t14 t15 l1 g1 l10 l11 l12 l13 l14 l15 va11 va7 vb7 S11 M11 O11 O7 hO hd11 M7 S7
                  obtain ⟨zM, fM, m0, m1, m2, m3⟩ := M8.out.facts
                  rw [dQ_lv] at m0
                  rw [dQ_lt] at m3
                  dsimp only at m0 m1 m2 m3
                  obtain ⟨⟨t1, h1, t10, t11, t12, t13, t14, t15, -⟩, ⟨l1, g1, l10, l11, l12, l13, l14, l15, -⟩, -⟩ := S8.out.facts
                  have O8b := Lib.hid (O8.out.base (B' := W.heap.size + 1) (by omega))
                  have Q3 := M8.out.o3
                  dsimp only at Q3
                  rw [dQ_lt] at Q3
                  replace Q3 := Lib.hid Q3
                  have hz : W.heap.size + 1 ≤ W8.heap.size := M8.out.size
                  go_wp2_with (at_builtin; refine push_own elTab rfl _ _ rfl (W.heap.size + 1) _ j _ Q3.out rfl [.int .i64 K, .int .i64 (a : Int), .int .i64 (b : Int), .bool aw, .slice A4 M1.length c4, .slice A5 M2.length c5] rfl rfl rfl (by omega) (by omega) hz ?_)
                  intro v' w5 hown5 hg5 hb5 hs5 hor5
                  have ha5 : Below W8.heap.size W8 (W8.alloc (.cells [Value.int .i64 K, .int .i64 (a : Int), .int .i64 (b : Int), .bool aw, .slice A4 M1.length c4, .slice A5 M2.length c5].toArray 47)) := (Below.refl _ _).alloc (Nat.le_refl _) _
                  obtain ⟨A9, c9, rfl, M9⟩ := (M8.out.to ha5).push3 (t := ⟨K, a, b, aw, M1, M2⟩) (y := ⟨A4, c4, A5, c5⟩) (by dsimp only; rw [dQ_lt]; exact hown5) (by dsimp only; rw [dQ_lt]; exact hg5) (O8b.out.to ha5) (P8.out.to ha5)
                  have hT : (⟨K, a, b, aw, M1, M2⟩ : Tab) = dTab (dVs d) (lkAt d.lk j) := by
                    rw [hl.out, dTab_mk hK.out ha.out s0 hb.out d0 hnA.out hnB.out, if_pos hk4'.out, hM2.out, haw.out, hM1.out]
                  rw [hT, dQ_snoc] at M9
                  replace hT := Lib.hid hT
                  dsimp only at M9
                  replace M9 := Lib.hid M9
                  have hwM := M8.out.pb.below hb5 (Nat.lt_succ_self _)
                  have z5 := hwM.lt
                  have f5 := fun o => hwM.frozen o
                  have e0 : w5.cell? ⟨W.heap.size, 3, none⟩ = some (.slice y3 (dQ d j).tabs.length z3) := hwM.cell 3
                  clear hwM hown5 hg5 hb5 hs5 hor5 ha5 zM fM m0 m1 m2 m3 t1 h1 t10 t11 t12 t13 t14 t15 l1 g1 l10 l11 l12 l13 l14 l15
                  go_wp2_with fail
                  go_roundw
                  case rel => exact ⟨j + 1, _, _, by go_num, by omega, Or.inr (by omega), M9.out⟩
                  case measure => simp [intOf]; omega
              · have jk : (j : Int) < (d.lk.length : Int) := by omega
                have jv : ¬ (0 : Int) < (d.vs.length : Int) := by omega
                have hj' : j = 0 := by omega
                obtain rfl := hj'
                have hQ := Lib.hid (dQ_nil (d := d) (by omega))
                have S9 := Lib.hid ((((T.out.set 0 rfl 0 (.slice y0 d.vs.length z0)).set 0 rfl 1 (.slice y1 (dQ d 0).now.length z1)).set 0 rfl 2 (.slice y2 (dQ d 0).tgt.length z2)).set 0 rfl 3 (.slice y3 0 z3))
                have hA9 := Lib.hid (M.po.far4 (b := w.heap.size + 1) (by omega) (.slice y0 d.vs.length z0) (.slice y1 (dQ d 0).now.length z1) (.slice y2 (dQ d 0).tgt.length z2) (.slice y3 0 z3))
                clear hdr M
                go_wp2
                clear zM fM m0 m1 m2 m3 r1 f1 r10 r11 r12 r13 r2 f2 r20 r21 r22 r23
                obtain ⟨⟨r1, f1, r10, r11, r12, r13, -⟩, -⟩ := S9.out.facts
                refine bodyPost_ret (v := .tuple #[.agg #[.slice y0 d.vs.length z0, .slice y1 (dQ d 0).now.length z1, .slice y2 (dQ d 0).tgt.length z2, .slice y3 0 z3], .bool true]) (by simp [results, Try.results16, go_sem, r10, r11, r12, r13]) rfl ?_
                refine Ret.mk ⟨S9.out.bel, ?_⟩
                rw [if_pos ⟨h3, h4⟩]
                refine ⟨⟨y0, z0, y1, z1, y2, z2, y3, z3⟩, F, ?_, ?_⟩
                · rw [← hQ.out]
                  dsimp only [probV]
                  rw [dQ_lv, dQ_lt]
                · rw [← hQ.out]
                  exact hA9.out.base (by omega)
            · have jk : ¬ (j : Int) < (d.lk.length : Int) := by omega
              by_cases hv0 : d.vs.length = 0
              · have hj0' : j = 0 := by omega
                have hj' : j = 0 := by omega
                obtain rfl := hj'
                have hQ := Lib.hid (dQ_nil (d := d) (by omega))
                replace hv0 := Lib.hid hv0
                have S9 := Lib.hid ((((T.out.set 0 rfl 0 (.slice y0 d.vs.length z0)).set 0 rfl 1 (.slice y1 (dQ d 0).now.length z1)).set 0 rfl 2 (.slice y2 (dQ d 0).tgt.length z2)).set 0 rfl 3 (.slice y3 0 z3))
                have hA9 := Lib.hid (M.po.far4 (b := w.heap.size + 1) (by omega) (.slice y0 d.vs.length z0) (.slice y1 (dQ d 0).now.length z1) (.slice y2 (dQ d 0).tgt.length z2) (.slice y3 0 z3))
                clear hdr M
                go_wp2
                clear zM fM m0 m1 m2 m3 r1 f1 r10 r11 r12 r13 r2 f2 r20 r21 r22 r23
                obtain ⟨⟨r1, f1, r10, r11, r12, r13, -⟩, -⟩ := S9.out.facts
                refine bodyPost_ret (v := .tuple #[.agg #[.slice y0 d.vs.length z0, .slice y1 (dQ d 0).now.length z1, .slice y2 (dQ d 0).tgt.length z2, .slice y3 0 z3], .bool true]) (by simp [results, Try.results16, go_sem, r10, r11, r12, r13]) rfl ?_
                refine Ret.mk ⟨S9.out.bel, ?_⟩
                rw [if_pos ⟨h3, h4⟩]
                refine ⟨⟨y0, z0, y1, z1, y2, z2, y3, z3⟩, F, ?_, ?_⟩
                · rw [← hQ.out]
                  dsimp only [probV]
                  rw [dQ_lv, dQ_lt]
                · rw [← hQ.out]
                  exact hA9.out.base (by omega)
              · clear jk
                have jk : ¬ (j : Int) < (d.lk.length : Int) := by omega
                have hj' : j = d.lk.length := by omega
                obtain rfl := hj'
                have hQ := Lib.hid (dQ_all (d := d) (by omega))
                have S9 := Lib.hid ((((T.out.set 0 rfl 0 (.slice y0 d.vs.length z0)).set 0 rfl 1 (.slice y1 (dQ d d.lk.length).now.length z1)).set 0 rfl 2 (.slice y2 (dQ d d.lk.length).tgt.length z2)).set 0 rfl 3 (.slice y3 d.lk.length z3))
                have hA9 := Lib.hid (M.po.far4 (b := w.heap.size + 1) (by omega) (.slice y0 d.vs.length z0) (.slice y1 (dQ d d.lk.length).now.length z1) (.slice y2 (dQ d d.lk.length).tgt.length z2) (.slice y3 d.lk.length z3))
                clear hdr M
                go_wp2
                clear zM fM m0 m1 m2 m3 r1 f1 r10 r11 r12 r13 r2 f2 r20 r21 r22 r23
                obtain ⟨⟨r1, f1, r10, r11, r12, r13, -⟩, -⟩ := S9.out.facts
                refine bodyPost_ret (v := .tuple #[.agg #[.slice y0 d.vs.length z0, .slice y1 (dQ d d.lk.length).now.length z1, .slice y2 (dQ d d.lk.length).tgt.length z2, .slice y3 d.lk.length z3], .bool true]) (by simp [results, Try.results16, go_sem, r10, r11, r12, r13]) rfl ?_
                refine Ret.mk ⟨S9.out.bel, ?_⟩
                rw [if_pos ⟨h3, h4⟩]
                refine ⟨⟨y0, z0, y1, z1, y2, z2, y3, z3⟩, F, ?_, ?_⟩
                · rw [← hQ.out]
                  dsimp only [probV]
                  rw [dQ_lv, dQ_lt]
                · rw [← hQ.out]
                  exact hA9.out.base (by omega)
          
    · have j3 : ¬ (3 : Int) < (d.vs.length : Int) := by omega
      have j4 : (4 : Int) < (d.lk.length : Int) := by omega
      have S4 := Lib.hid ((((SW.out.set 0 rfl 0 (.slice none 0 0)).set 0 rfl 1 (.slice none 0 0)).set 0 rfl 2 (.slice none 0 0)).set 0 rfl 3 (.slice none 0 0))
      go_enter Try.func16, Try.ntmps16
      go_wp2
      clear hW r1 f1 r10 r11 r12 r13 r2 f2 r20 r21 r22 r23
      obtain ⟨⟨r1, f1, r10, r11, r12, r13, -⟩, -⟩ := S4.out.facts
      refine bodyPost_ret (v := .tuple #[.agg #[.slice none 0 0, .slice none 0 0, .slice none 0 0, .slice none 0 0], .bool false]) (by simp [results, Try.results16, go_sem, r10, r11, r12, r13]) rfl ?_
      refine Ret.mk ⟨S4.out.bel, ?_⟩
      rw [if_neg (fun h => h4 h.2)]
      rfl
  · have j3 : (3 : Int) < (d.vs.length : Int) := by omega
    have S4 := Lib.hid ((((SW.out.set 0 rfl 0 (.slice none 0 0)).set 0 rfl 1 (.slice none 0 0)).set 0 rfl 2 (.slice none 0 0)).set 0 rfl 3 (.slice none 0 0))
    go_enter Try.func16, Try.ntmps16
    go_wp2
    clear hW r1 f1 r10 r11 r12 r13 r2 f2 r20 r21 r22 r23
    obtain ⟨⟨r1, f1, r10, r11, r12, r13, -⟩, -⟩ := S4.out.facts
    refine bodyPost_ret (v := .tuple #[.agg #[.slice none 0 0, .slice none 0 0, .slice none 0 0, .slice none 0 0], .bool false]) (by simp [results, Try.results16, go_sem, r10, r11, r12, r13]) rfl ?_
    refine Ret.mk ⟨S4.out.bel, ?_⟩
    rw [if_neg (fun h => h3 h.1)]
    rfl
end Go.Proofs.Ytickckehhfdoeaa
