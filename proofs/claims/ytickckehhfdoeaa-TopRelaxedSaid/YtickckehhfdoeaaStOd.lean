/-
  CONTRACT of sheaveref36.Of.
  Conditions: those that each theorem names.
-/
import Derived.Test.YtickckehhfdoeaaSb11
import Derived.Deep.RegionLaw
namespace Go.Proofs.Ytickckehhfdoeaa
open Go.RowKit Go.Sv
abbrev dmxV (d : DMx) (q : MixP) : Value := .agg #[.slice q.a0 d.base.length q.c0, .slice q.a1 d.next.length q.c1, .slice q.a2 d.held.length q.c2]
structure RDmx (w : World) (B : Nat) (d : DMx) (q : MixP) : Prop where
  r0 : Arr w B q.a0 d.base.length (u8v d.base)
  r1 : Arr w B q.a1 d.next.length (u8v d.next)
  r2 : Arr w B q.a2 d.held.length (u8v d.held)
theorem RDmx.below {w w' : World} {B : Nat} {d : DMx} {q : MixP} (h : RDmx w B d q) (hb : Below B w w') : RDmx w' B d q := ⟨h.r0.below hb, h.r1.below hb, h.r2.below hb⟩
theorem RDmx.more {w : World} {B B' : Nat} {d : DMx} {q : MixP} (h : RDmx w B d q) (hb : B ≤ B') : RDmx w B' d q := ⟨h.r0.more hb, h.r1.more hb, h.r2.more hb⟩
theorem RDmx.to {w w' : World} {d : DMx} {q : MixP} (h : RDmx w w.heap.size d q) (hb : Below w.heap.size w w') : RDmx w' w'.heap.size d q := (h.below hb).more hb.size
structure MDBd (d : DMx) : Prop where
  b : Bt8 d.base
  n : Bt8 d.next
  h : Bt8 d.held
/-- the mix after k services and j tables -/
def dT (p : Prob) (d : DMx) (k j : Nat) : Mx := ⟨(List.range k).map (dmB p d), (List.range k).map (dmN p d), (List.range j).map (dmH p d)⟩
theorem dT_lb (p : Prob) (d : DMx) (k j : Nat) : (dT p d k j).base.length = k := by simp [dT]
theorem dT_ln (p : Prob) (d : DMx) (k j : Nat) : (dT p d k j).next.length = k := by simp [dT]
theorem dT_lh (p : Prob) (d : DMx) (k j : Nat) : (dT p d k j).held.length = j := by simp [dT]
theorem dT_snoc {p : Prob} {d : DMx} {k : Nat} : (⟨(dT p d k 0).base ++ [dmB p d k], (dT p d k 0).next ++ [dmN p d k], (dT p d k 0).held⟩ : Mx) = dT p d (k + 1) 0 := by simp [dT, List.range_succ]
theorem dT_snocH {p : Prob} {d : DMx} {n k : Nat} : (⟨(dT p d n k).base, (dT p d n k).next, (dT p d n k).held ++ [dmH p d k]⟩ : Mx) = dT p d n (k + 1) := by simp [dT, List.range_succ]
theorem dT_gb {p : Prob} {d : DMx} {n k i : Nat} (hi : i < n) : gi (dT p d n k).base i = dmB p d i := gi_map hi
theorem dT_gn {p : Prob} {d : DMx} {n k i : Nat} (hi : i < n) : gi (dT p d n k).next i = dmN p d i := gi_map hi
theorem dmB_bd {p : Prob} (d : DMx) (hp : probE p = 0) {i : Nat} (hi : i < p.vs.length) : 0 ≤ dmB p d i ∧ dmB p d i < 8 := by
  obtain ⟨v0, v1⟩ := vs_le hp hi
  have b0 : 0 ≤ dmB p d i := Int.emod_nonneg _ (by omega)
  have b1 : dmB p d i < gi p.vs i := Int.emod_lt_of_pos _ (by omega)
  omega
theorem dmN_bd {p : Prob} (d : DMx) (hp : probE p = 0) {i : Nat} (hi : i < p.vs.length) : -1 ≤ dmN p d i ∧ dmN p d i < 8 := by
  obtain ⟨v0, v1⟩ := vs_le hp hi
  unfold dmN
  split
  · have b0 : 0 ≤ (dmB p d i + dcode d.next i % gi p.vs i) % gi p.vs i := Int.emod_nonneg _ (by omega)
    have b1 : (dmB p d i + dcode d.next i % gi p.vs i) % gi p.vs i < gi p.vs i := Int.emod_lt_of_pos _ (by omega)
    omega
  · omega
/-- a mix of the call's own -/
def MixR (w : World) (x : Mx) (v : Value) (w' : World) : Prop := Below w.heap.size w w' ∧ ∃ q, v = mixV x q ∧ AO w' w.heap.size x q
set_option maxHeartbeats 4000000 in
set_option maxRecDepth 100000 in
theorem of36_any (p : Prob) (q : ProbP) (d : DMx) (r : MixP) (w : World) (hp : RProb w w.heap.size p q) (hok : probE p = 0) (hd : RDmx w w.heap.size d r) (hbd : MDBd d) :
    Calls Try.prog 13 #[probV p q, dmxV d r] w (Ret (MixR w (dMix p d))) := by
  obtain ⟨hv6, ht12, -, -⟩ := prob_small hok
  obtain ⟨qa0, qc0, qa1, qc1, qa2, qc2, qa3, qc3⟩ := q
  obtain ⟨ra0, rc0, ra1, rc1, ra2, rc2⟩ := r
  have S0 := (((Fm.init w).box 39 [.slice qa0 p.vs.length qc0, .slice qa1 p.now.length qc1, .slice qa2 p.tgt.length qc2, .slice qa3 p.tabs.length qc3]).box' 34 [.slice ra0 d.base.length rc0, .slice ra1 d.next.length rc1, .slice ra2 d.held.length rc2] (K := w.heap.size + 1) (by simp)).box' 56 [.slice none 0 0, .slice none 0 0, .slice none 0 0] (K := w.heap.size + 1 + 1) (by simp)
  obtain ⟨W, hW, hWs, S⟩ : ∃ W, ((w.alloc (.cells #[.slice qa0 p.vs.length qc0, .slice qa1 p.now.length qc1, .slice qa2 p.tgt.length qc2, .slice qa3 p.tabs.length qc3] 39)).alloc (.cells #[.slice ra0 d.base.length rc0, .slice ra1 d.next.length rc1, .slice ra2 d.held.length rc2] 34)).alloc (.cells #[.slice none 0 0, .slice none 0 0, .slice none 0 0] 56) = W ∧ W.heap.size = w.heap.size + 1 + 1 + 1 ∧
      Fm w W [⟨w.heap.size + 1 + 1, 56, [.slice none 0 0, .slice none 0 0, .slice none 0 0]⟩, ⟨w.heap.size + 1, 34, [.slice ra0 d.base.length rc0, .slice ra1 d.next.length rc1, .slice ra2 d.held.length rc2]⟩, ⟨w.heap.size, 39, [.slice qa0 p.vs.length qc0, .slice qa1 p.now.length qc1, .slice qa2 p.tgt.length qc2, .slice qa3 p.tabs.length qc3]⟩] [] := ⟨_, rfl, by simp, S0⟩
  have hpW := Lib.hid (hp.to S.bel)
  have hdW := Lib.hid (hd.to S.bel)
  have hbb := Lib.hid hbd
  replace hok := Lib.hid hok
  have SW := Lib.hid S
  obtain ⟨⟨r1, f1, r10, r11, r12, -⟩, ⟨r2, f2, r20, r21, r22, -⟩, ⟨r3, f3, r30, r31, r32, r33, -⟩, -⟩ := SW.out.facts
  replace hWs := Lib.hid hWs
  clear S0 S hp hd hbd
  have M0 := Lib.hid (MB.new W)
  obtain ⟨W2, hW2, hb2⟩ : ∃ W2, W.alloc (.cells #[.slice none 0 0, .slice none 0 0, .slice none 0 0] 56) = W2 ∧ Below W.heap.size W W2 := ⟨_, rfl, (Below.refl _ _).alloc (Nat.le_refl _) _⟩
  rw [hW2] at M0
  go_enter Try.func13, Try.ntmps13
  go_wp2
  clear hW2 hW
  clear r1 f1 r10 r11 r12 r2 f2 r20 r21 r22 r3 f3 r30 r31 r32 r33
  go_loopw [6] (fun s6 wr => ∃ (k : Nat) (y : MixP), s6 = .int .i64 k ∧ k ≤ p.vs.length ∧ MB W W.heap.size (dT p d k 0) y wr) (fun s6 _ => p.vs.length - (intOf s6).toNat)
  case atStart => exact ⟨0, _, rfl, Nat.zero_le _, M0.out⟩
  case round =>
    obtain ⟨k, ⟨y0, z0, y1, z1, y2, z2⟩, rfl, hk, M⟩ := hrel
    have T := Lib.hid (SW.out.call M.bel)
    have hpr := hpW.out.below M.bel
    have hdr := hdW.out.below M.bel
    obtain ⟨zM, fM, m0, m1, m2⟩ := M.facts
    have O0 := M.o0
    rw [dT_lb] at O0 m0
    rw [dT_ln] at m1
    rw [dT_lh] at m2
    dsimp only at O0 m0 m1 m2
    replace O0 := Lib.hid O0
    have hzw : w.heap.size + 3 ≤ W.heap.size := by have := hWs.out; omega
    have hsM : W.heap.size + 1 ≤ wr.heap.size := M.size
    obtain ⟨⟨r1, f1, r10, r11, r12, -⟩, ⟨r2, f2, r20, r21, r22, -⟩, ⟨r3, f3, r30, r31, r32, r33, -⟩, -⟩ := T.out.facts
    by_cases hlt : k < p.vs.length
    · obtain ⟨bn, on, e0, hbn, hcn⟩ := hpr.r0 (by omega)
      dsimp only at e0
      subst e0
      have c := hcn k hlt
      unfold iv at c
      obtain ⟨v0, v1⟩ := vs_le hok.out hlt
      have jk : (k : Int) < (p.vs.length : Int) := by omega
      have hM := Lib.hid M
      have HC1 := Lib.hid (code6_any ra0 rc0 d.base k wr _ hdr.r0 hbb.out.b.1 hbb.out.b.2 (by omega))
      have HC2 := Lib.hid (code6_any ra1 rc1 d.next k wr _ hdr.r1 hbb.out.n.1 hbb.out.n.2 (by omega))
      obtain ⟨n, hn⟩ : ∃ n, gi p.vs k = n := ⟨_, rfl⟩
      rw [hn] at c v0 v1
      obtain ⟨x1, hx1, hx1p⟩ : ∃ x, dcode d.base k = x ∧ 0 ≤ x := ⟨_, rfl, (dcode_bd hbb.out.b k).1⟩
      rw [hx1] at HC1
      obtain ⟨x2, hx2, hx2p⟩ : ∃ x, dcode d.next k = x ∧ 0 ≤ x := ⟨_, rfl, (dcode_bd hbb.out.n k).1⟩
      rw [hx2] at HC2
      have n1 : x1.tmod n = x1 % n := Int.tmod_eq_emod_of_nonneg hx1p
      have n2 : x2.tmod n = x2 % n := Int.tmod_eq_emod_of_nonneg hx2p
      obtain ⟨u1x, hu1, hu10, hu11⟩ : ∃ u, x1 % n = u ∧ 0 ≤ u ∧ u < n := ⟨_, rfl, Int.emod_nonneg _ (by omega), Int.emod_lt_of_pos _ (by omega)⟩
      obtain ⟨u2x, hu2, hu20, hu21⟩ : ∃ u, x2 % n = u ∧ 0 ≤ u ∧ u < n := ⟨_, rfl, Int.emod_nonneg _ (by omega), Int.emod_lt_of_pos _ (by omega)⟩
      rw [hu1] at n1
      rw [hu2] at n2
      have hF : Hid (dmB p d k = u1x ∧ dmN p d k = if 0 < u2x then (u1x + u2x) % n else -1) := Lib.hid (by unfold dmN dmB; rw [hn, hx1, hx2, hu1, hu2]; exact ⟨rfl, rfl⟩)
      have nz : ¬ n = 0 := by omega
      have i1 : ¬ bn = W.heap.size := by omega
      have i2 : ¬ W.heap.size = bn := by omega
      clear hcn M hpr hdr hn hx1 hx2 hu1 hu2
      go_wp2_with fail
      with_reducible refine HC1.out.mono ?_
      rintro e w3 ⟨rfl, rfl⟩
      go_wp2_with fail
      with_reducible refine HC2.out.mono ?_
      rintro e w3 ⟨rfl, rfl⟩
      by_cases hpos : 0 < u2x
      · have hF2 : Hid (dmN p d k = (u1x + u2x) % n) := Lib.hid (by rw [hF.out.2, if_pos hpos])
        have w1' : IntKind.i64.wrap (u1x + u2x) = u1x + u2x := by simp [IntKind.wrap, IntKind.bits, IntKind.signed]; omega
        have n3 : (u1x + u2x).tmod n = (u1x + u2x) % n := Int.tmod_eq_emod_of_nonneg (by omega)
        obtain ⟨nx, hnx, hnx0, hnx1⟩ : ∃ u, (u1x + u2x) % n = u ∧ 0 ≤ u ∧ u < n := ⟨_, rfl, Int.emod_nonneg _ (by omega), Int.emod_lt_of_pos _ (by omega)⟩
        rw [hnx] at n3 hF2
        clear hnx
        go_wp2_with (at_builtin; refine push_own elInt rfl _ _ rfl (W.heap.size + 1) _ k _ O0.out rfl [.int .i64 u1x] rfl rfl rfl (by omega) (by omega) hsM ?_)
        intro v' w5 hown5 hg5 hb5 hs5 hor5
        obtain ⟨A5, c5, rfl, M5⟩ := ((hM.out.to ((Below.refl _ _).alloc (Nat.le_refl _) (.cells [Value.int .i64 u1x].toArray 3))).push0 (x := u1x) (by rw [dT_lb]; exact hown5) (by rw [dT_lb]; exact hg5) (by rw [dT_lb]; simpa using hor5))
        dsimp only at M5
        have hwM := hM.out.mb.below hb5 (Nat.lt_succ_self _)
        have z5 := hwM.lt
        have f5 := fun o => hwM.frozen o
        have e0 : w5.cell? ⟨W.heap.size, 0, none⟩ = some (.slice y0 (dT p d k 0).base.length z0) := hwM.cell 0
        have e1 : w5.cell? ⟨W.heap.size, 1, none⟩ = some (.slice y1 (dT p d k 0).next.length z1) := hwM.cell 1
        rw [dT_ln] at e1
        replace M5 := Lib.hid M5
        have O1 := M5.out.o1
        rw [dT_ln] at O1
        dsimp only at O1
        replace O1 := Lib.hid O1
        have hs6 : W.heap.size + 1 ≤ (w5.setCell ⟨W.heap.size, 0, none⟩ (.slice A5 ((dT p d k 0).base.length + 1) c5)).heap.size := M5.out.size
        clear hwM hown5 hg5 hb5 hs5 hor5 zM fM m0 m1 m2
        clear r1 f1 r10 r11 r12 r2 f2 r20 r21 r22 r3 f3 r30 r31 r32 r33
        go_wp2_with (at_builtin; refine push_own' elInt rfl _ _ rfl (W.heap.size + 1) _ k _ O1.out rfl w5.heap.size [.int .i64 nx] rfl (by simp) rfl rfl (by omega) (by omega) hs6 ?_)
        intro v' w7 hown7 hg7 hb7 hs7 hor7
        obtain ⟨A7, c7, rfl, M7⟩ := ((M5.out.to ((Below.refl _ _).alloc (Nat.le_refl _) (.cells [Value.int .i64 nx].toArray 3))).push1 (x := nx) (by dsimp only; rw [dT_ln]; exact hown7) (by dsimp only; rw [dT_ln]; exact hg7) (by dsimp only; rw [dT_ln]; simpa using hor7))
        dsimp only at M7
        rw [← hF.out.1, ← hF2.out, dT_snoc] at M7
        replace M7 := Lib.hid M7
        have hwM := M5.out.mb.below hb7 (Nat.lt_succ_self _)
        have z7 := hwM.lt
        have f7 := fun o => hwM.frozen o
        have c1 : w7.cell? ⟨W.heap.size, 1, none⟩ = some (.slice y1 (dT p d k 0).next.length z1) := hwM.cell 1
        clear hwM hown7 hg7 hor7 hb7 hs7
        go_wp2
        go_roundw
        case rel => exact ⟨k + 1, _, by go_num, by omega, M7.out⟩
        case measure => simp [intOf]; omega
      · have hF2 : Hid (dmN p d k = -1) := Lib.hid (by rw [hF.out.2, if_neg hpos])
        go_wp2_with (at_builtin; refine push_own elInt rfl _ _ rfl (W.heap.size + 1) _ k _ O0.out rfl [.int .i64 u1x] rfl rfl rfl (by omega) (by omega) hsM ?_)
        intro v' w5 hown5 hg5 hb5 hs5 hor5
        obtain ⟨A5, c5, rfl, M5⟩ := ((hM.out.to ((Below.refl _ _).alloc (Nat.le_refl _) (.cells [Value.int .i64 u1x].toArray 3))).push0 (x := u1x) (by rw [dT_lb]; exact hown5) (by rw [dT_lb]; exact hg5) (by rw [dT_lb]; simpa using hor5))
        dsimp only at M5
        have hwM := hM.out.mb.below hb5 (Nat.lt_succ_self _)
        have z5 := hwM.lt
        have f5 := fun o => hwM.frozen o
        have e0 : w5.cell? ⟨W.heap.size, 0, none⟩ = some (.slice y0 (dT p d k 0).base.length z0) := hwM.cell 0
        have e1 : w5.cell? ⟨W.heap.size, 1, none⟩ = some (.slice y1 (dT p d k 0).next.length z1) := hwM.cell 1
        rw [dT_ln] at e1
        replace M5 := Lib.hid M5
        have O1 := M5.out.o1
        rw [dT_ln] at O1
        dsimp only at O1
        replace O1 := Lib.hid O1
        have hs6 : W.heap.size + 1 ≤ (w5.setCell ⟨W.heap.size, 0, none⟩ (.slice A5 ((dT p d k 0).base.length + 1) c5)).heap.size := M5.out.size
        clear hwM hown5 hg5 hb5 hs5 hor5 zM fM m0 m1 m2
        clear r1 f1 r10 r11 r12 r2 f2 r20 r21 r22 r3 f3 r30 r31 r32 r33
        go_wp2_with (at_builtin; refine push_own' elInt rfl _ _ rfl (W.heap.size + 1) _ k _ O1.out rfl w5.heap.size [.int .i64 (-1)] rfl (by simp) rfl rfl (by omega) (by omega) hs6 ?_)
        intro v' w7 hown7 hg7 hb7 hs7 hor7
        obtain ⟨A7, c7, rfl, M7⟩ := ((M5.out.to ((Below.refl _ _).alloc (Nat.le_refl _) (.cells [Value.int .i64 (-1)].toArray 3))).push1 (x := (-1)) (by dsimp only; rw [dT_ln]; exact hown7) (by dsimp only; rw [dT_ln]; exact hg7) (by dsimp only; rw [dT_ln]; simpa using hor7))
        dsimp only at M7
        rw [← hF.out.1, ← hF2.out, dT_snoc] at M7
        replace M7 := Lib.hid M7
        have hwM := M5.out.mb.below hb7 (Nat.lt_succ_self _)
        have z7 := hwM.lt
        have f7 := fun o => hwM.frozen o
        have c1 : w7.cell? ⟨W.heap.size, 1, none⟩ = some (.slice y1 (dT p d k 0).next.length z1) := hwM.cell 1
        clear hwM hown7 hg7 hor7 hb7 hs7
        go_wp2
        go_roundw
        case rel => exact ⟨k + 1, _, by go_num, by omega, M7.out⟩
        case measure => simp [intOf]; omega
    · obtain rfl : k = p.vs.length := by omega
      have hMo := Lib.hid M
      clear hpr hdr hlt O0 M zM fM m0 m1 m2
      clear r1 f1 r10 r11 r12 r2 f2 r20 r21 r22 r3 f3 r30 r31 r32 r33
      rename World => wo
      obtain ⟨⟨r1, f1, r10, r11, r12, -⟩, ⟨r2, f2, r20, r21, r22, -⟩, ⟨r3, f3, r30, r31, r32, r33, -⟩, -⟩ := T.out.facts
      go_wp2
      clear r1 f1 r10 r11 r12 r2 f2 r20 r21 r22 r3 f3 r30 r31 r32 r33
      go_loopw [11, 13] (fun s11 _ wr => ∃ (k : Nat) (y : MixP), s11 = .int .i64 k ∧ k ≤ p.tabs.length ∧ MB W W.heap.size (dT p d p.vs.length k) y wr) (fun s11 _ _ => p.tabs.length - (intOf s11).toNat)
      case atStart => exact ⟨0, _, rfl, Nat.zero_le _, hMo.out⟩
      case round =>
        clear T hMo
        obtain ⟨k, ⟨y0, z0, y1, z1, y2, z2⟩, rfl, hk, M⟩ := hrel
        have T := Lib.hid (SW.out.call M.bel)
        have hpr := hpW.out.below M.bel
        have hdr := hdW.out.below M.bel
        obtain ⟨zM, fM, m0, m1, m2⟩ := M.facts
        have O2 := M.o2
        rw [dT_lb] at m0
        rw [dT_ln] at m1
        rw [dT_lh] at m2 O2
        dsimp only at O2 m0 m1 m2
        replace O2 := Lib.hid O2
        have hsM : W.heap.size + 1 ≤ wr.heap.size := M.size
        obtain ⟨⟨r1, f1, r10, r11, r12, -⟩, ⟨r2, f2, r20, r21, r22, -⟩, ⟨r3, f3, r30, r31, r32, r33, -⟩, -⟩ := T.out.facts
        by_cases hlt : k < p.tabs.length
        · obtain ⟨qt, hq1, hq2⟩ := hpr.r3
          obtain ⟨b3, o3, e3, hb3, hc3⟩ := hq1 (by omega)
          dsimp only at e3
          subst e3
          obtain ⟨t0, t1, t2, t3, t4, t5⟩ := tab_cells (hc3 k hlt)
          have F := tab_facts hok.out hlt
          obtain ⟨s, hs⟩ : ∃ s : Nat, (tab p.tabs k).src = (s : Int) := ⟨(tab p.tabs k).src.toNat, by have := F.s0; omega⟩
          have hsv : s < p.vs.length := by have := F.s1; omega
          have hst : (tab p.tabs k).src.toNat = s := by omega
          obtain ⟨bn, on, e0, hbn, hcn⟩ := hpr.r0 (by omega)
          dsimp only at e0
          subst e0
          have dv := hcn s hsv
          unfold iv at dv
          obtain ⟨vv0, vv1⟩ := vs_le hok.out hsv
          obtain ⟨v, hv⟩ : ∃ v, gi p.vs s = v := ⟨_, rfl⟩
          rw [hv] at dv vv0 vv1
          have jk : (k : Int) < (p.tabs.length : Int) := by omega
          have jn : (s : Int) < (p.vs.length : Int) := by omega
          have hMs := M.bel.size
          have hbnr : bn < wr.heap.size := by omega
          have hb3r : b3 < wr.heap.size := by omega
          have HS := Lib.hid (fun W => rstored_any (tab p.tabs k) (qt k) W)
          unfold tabV at HS
          rw [hs] at t1 HS
          have hM := Lib.hid M
          have hdR := Lib.hid hdr
          have hH : Hid (dmH p d k = if stB (tab p.tabs k).kind = true then ((run (dT p d p.vs.length k) s ||| ((dcode d.held k).toNat &&& (2 ^ v.toNat - 1)) : Nat) : Int) else 0) := Lib.hid (by unfold dmH; rw [hst, hv]; rfl)
          obtain ⟨W2, (hW2 : wr.alloc (.cells #[.int .i64 (tab p.tabs k).kind, .int .i64 s, .int .i64 (tab p.tabs k).dst, .bool (tab p.tabs k).aware, .slice (qt k).okA (tab p.tabs k).ok.length (qt k).okC, .slice (qt k).rwA (tab p.tabs k).rw.length (qt k).rwC] 47) = W2), U, hWW⟩ := fm_boxE (Fm.init wr) 47 [.int .i64 (tab p.tabs k).kind, .int .i64 s, .int .i64 (tab p.tabs k).dst, .bool (tab p.tabs k).aware, .slice (qt k).okA (tab p.tabs k).ok.length (qt k).okC, .slice (qt k).rwA (tab p.tabs k).rw.length (qt k).rwC]
          have dv2 := (hWW.cell (p := ⟨bn, on + s, none⟩) (by exact hbnr)).trans dv
          have hbn2 := Nat.lt_of_lt_of_le hbnr hWW.size
          have M2 := Lib.hid (hM.out.to hWW)
          have T2 := Lib.hid (T.out.call hWW)
          have hd2 := Lib.hid (hdR.out.below (hWW.mono hMs))
          clear hcn M hpr hdr hc3 hq1 hq2 F
          replace hs := Lib.hid hs
          replace hst := Lib.hid hst
          replace hv := Lib.hid hv
          have HSW := Lib.hid (HS.out W2)
          cases hkd : stB (tab p.tabs k).kind with
          | false =>
            rw [hkd] at hH HSW
            rw [if_neg (by decide)] at hH
            clear hkd
            obtain ⟨⟨x1, g1, x10, x11, x12, x13, x14, x15, -⟩, -⟩ := U.facts
            go_wp2_with fail
            clear hW2 zM fM m0 m1 m2 t0 t1 t2 t3 t4 t5 dv dv2
            clear r1 f1 r10 r11 r12 r2 f2 r20 r21 r22 r3 f3 r30 r31 r32 r33
            with_reducible refine HSW.out.mono ?_
            rintro e w3 ⟨rfl, hb3'⟩
            have M3 := Lib.hid (M2.out.to hb3')
            clear hb3' x1 g1 x10 x11 x12 x13 x14 x15 O2
            obtain ⟨zM, fM, m0, m1, m2⟩ := M3.out.facts
            have O2 := M3.out.o2
            rw [dT_lh] at m2 O2
            dsimp only at O2 m0 m1 m2
            replace O2 := Lib.hid O2
            have hs6 : W.heap.size + 1 ≤ w3.heap.size := M3.out.size
            go_wp2_with (at_builtin; refine push_own elSet rfl _ _ rfl (W.heap.size + 1) _ k _ O2.out rfl [.int .u8 (0)] rfl rfl rfl (by omega) (by omega) hs6 ?_)
            intro v' w7 hown7 hg7 hb7 hs7 hor7
            obtain ⟨A7, c7, rfl, M7⟩ := ((M3.out.to ((Below.refl _ _).alloc (Nat.le_refl _) _)).push2 (x := 0) (by rw [dT_lh]; exact hown7) (by rw [dT_lh]; exact hg7))
            dsimp only at M7
            rw [← hH.out, dT_snocH] at M7
            replace M7 := Lib.hid M7
            have hwM := M3.out.mb.below hb7 (Nat.lt_succ_self _)
            have z7 := hwM.lt
            have f7 := fun o => hwM.frozen o
            have c1 : w7.cell? ⟨W.heap.size, 2, none⟩ = some (.slice y2 (dT p d p.vs.length k).held.length z2) := hwM.cell 2
            clear hwM hown7 hg7 hor7 hb7 hs7 zM fM m0 m1 m2
            go_wp2
            go_roundw
            case rel => exact ⟨k + 1, _, by go_num, by omega, M7.out⟩
            case measure => simp [intOf]; omega
          | true =>
            rw [hkd] at hH HSW
            rw [if_pos rfl] at hH
            clear hkd
            obtain ⟨⟨x1, g1, x10, x11, x12, x13, x14, x15, -⟩, -⟩ := U.facts
            go_wp2_with fail
            clear hW2 zM fM m0 m1 m2 t0 t1 t2 t3 t4 t5 dv
            clear r1 f1 r10 r11 r12 r2 f2 r20 r21 r22 r3 f3 r30 r31 r32 r33
            with_reducible refine HSW.out.mono ?_
            rintro e w4 ⟨rfl, hb4⟩
            have M4 := Lib.hid (M2.out.to hb4)
            have U4 := Lib.hid (U.call hb4)
            have T4 := Lib.hid (T2.out.call hb4)
            have hd4 := Lib.hid (hd2.out.below (hb4.mono (by have := hWW.size; omega)))
            have dv4 := (hb4.cell (p := ⟨bn, on + s, none⟩) (by exact hbn2)).trans dv2
            have hbn4 := Nat.lt_of_lt_of_le hbn2 hb4.size
            have hws : W.heap.size ≤ w4.heap.size := by have := hWW.size; have := hb4.size; omega
            clear x1 g1 x10 x11 x12 x13 x14 x15 O2 dv2
            obtain ⟨⟨x1, g1, x10, x11, x12, x13, x14, x15, -⟩, -⟩ := U4.out.facts
            obtain ⟨⟨r1, f1, r10, r11, r12, -⟩, ⟨r2, f2, r20, r21, r22, -⟩, ⟨r3, f3, r30, r31, r32, r33, -⟩, -⟩ := T4.out.facts
            obtain ⟨zM, fM, m0, m1, m2⟩ := M4.out.facts
            rw [dT_lb] at m0
            rw [dT_ln] at m1
            rw [dT_lh] at m2
            dsimp only at m0 m1 m2
            obtain ⟨M', hM'⟩ : ∃ M, 2 ^ v.toNat - 1 = M := ⟨_, rfl⟩
            have hp2 : 2 ^ v.toNat ≤ 2 ^ 6 := Nat.pow_le_pow_right (by decide) (by omega)
            have hp1 : 1 ≤ 2 ^ v.toNat := Nat.one_le_two_pow
            have hM8 : M' < 256 := by omega
            have ws := shl8' (x := v) (by omega) (by omega)
            have e1 : ((2 ^ v.toNat : Nat) : Int) = (M' : Int) + 1 := by omega
            rw [e1] at ws
            have j8 : v ≤ 8 := by omega
            have w2' : IntKind.u8.wrap ((M' : Int) + 1 - 1) = (M' : Int) := by rw [show ((M' : Int) + 1 - 1) = (M' : Int) by omega]; exact back8 hM8
            have w3' : IntKind.u8.wrap (M' : Int) = (M' : Int) := back8 hM8
            obtain ⟨bb0, bb1⟩ := dmB_bd d hok.out hsv
            obtain ⟨bn0, bn1⟩ := dmN_bd d hok.out hsv
            have HR := fun W h => rrun_any (dT p d p.vs.length k) ⟨y0, z0, y1, z1, y2, z2⟩ s W h (by rw [dT_lb]; exact hsv) (by rw [dT_ln]; exact hsv) (by rw [dT_gb hsv]; exact bb0) (by rw [dT_gb hsv]; exact bb1) (by rw [dT_gn hsv]; exact bn0) (by rw [dT_gn hsv]; exact bn1)
            have hR8 : run (dT p d p.vs.length k) s < 256 := by
              unfold run
              rw [dT_gb hsv, dT_gn hsv]
              refine Nat.or_lt_two_pow (n := 8) (pow8 (by omega)) ?_
              split
              · exact pow8 (by omega)
              · decide
            obtain ⟨R, hR⟩ : ∃ R, run (dT p d p.vs.length k) s = R := ⟨_, rfl⟩
            rw [hR] at HR hR8 hH
            dsimp only [mixV] at HR
            simp only [dT_lb, dT_ln, dT_lh] at HR
            replace HR := Lib.hid HR
            obtain ⟨X, hX, hX8⟩ : ∃ X : Nat, dcode d.held k = (X : Int) ∧ X < 256 := ⟨(dcode d.held k).toNat, by have := (dcode_bd hbb.out.h k).1; omega, by have := dcode_bd hbb.out.h k; omega⟩
            have HC := Lib.hid (fun W5 h => code6_any ra2 rc2 d.held k W5 W.heap.size h hbb.out.h.1 hbb.out.h.2 (by omega))
            rw [hX] at HC hH
            rw [hM', Int.toNat_natCast] at hH
            have w4' : IntKind.u8.wrap (X : Int) = (X : Int) := back8 hX8
            have n1 := bits_and8 (a := X) (b := M') hX8 hM8
            have hA8 : X &&& M' < 256 := Nat.lt_of_le_of_lt Nat.and_le_left hX8
            obtain ⟨Y, hY⟩ : ∃ Y, X &&& M' = Y := ⟨_, rfl⟩
            rw [hY] at n1 hA8 hH
            have n2 := bits_or8 (a := R) (b := Y) hR8 hA8
            obtain ⟨Z, hZ⟩ : ∃ Z : Nat, R ||| Y = Z := ⟨_, rfl⟩
            rw [hZ] at n2 hH
            clear bb0 bb1 bn0 bn1 hR hX hY hZ hp2 hp1 e1 hM'
            go_wp2_with fail
            go_region_held3 (fun w' => w'.cell? ⟨W.heap.size, 0, none⟩ = some (.slice y0 p.vs.length z0) ∧ w'.cell? ⟨W.heap.size, 1, none⟩ = some (.slice y1 p.vs.length z1) ∧ w'.cell? ⟨W.heap.size, 2, none⟩ = some (.slice y2 k z2) ∧ w'.cell? ⟨wr.heap.size, 1, none⟩ = some (.int .i64 s) ∧ w'.cell? ⟨w.heap.size + 1, 2, none⟩ = some (.slice ra2 d.held.length rc2)) (go_keep)
              (first
                | (go_at_call 31
                   with_reducible refine (HR.out w4.drew (M4.out.to ((Drawn.refl w4).drew).below).mix).mono ?_
                   rintro e w5 ⟨rfl, hb5⟩
                   have hb5' : Below w4.heap.size w4 w5 := ((Drawn.refl w4).drew).below.trans hb5
                   have hd5 := Lib.hid (hd4.out.below (hb5'.mono hws))
                   have M5 := Lib.hid (M4.out.to hb5')
                   have k1 := (hb5'.cell (p := ⟨W.heap.size, 0, none⟩) (by exact zM)).trans m0
                   have k2 := (hb5'.cell (p := ⟨W.heap.size, 1, none⟩) (by exact zM)).trans m1
                   have k3 := (hb5'.cell (p := ⟨W.heap.size, 2, none⟩) (by exact zM)).trans m2
                   have k4 := (hb5'.cell (p := ⟨wr.heap.size, 1, none⟩) (by exact x1)).trans x11
                   have k5 := (hb5'.cell (p := ⟨w.heap.size + 1, 2, none⟩) (by exact r2)).trans r22)
                | (go_at_call 29
                   with_reducible refine (HC.out _ hd5.out.r2).mono ?_
                   rintro e w6 ⟨rfl, rfl⟩))
            all_goals
              clear k1 k2 k3 k4 k5 zM fM m0 m1 m2 x1 g1 x10 x11 x12 x13 x14 x15 dv4
              clear r1 f1 r10 r11 r12 r2 f2 r20 r21 r22 r3 f3 r30 r31 r32 r33
              obtain ⟨zM, fM, m0, m1, m2⟩ := M5.out.facts
              have O2 := M5.out.o2
              rw [dT_lh] at m2 O2
              dsimp only at O2 m0 m1 m2
              replace O2 := Lib.hid O2
              have hs6 : W.heap.size + 1 ≤ w5.heap.size := M5.out.size
              go_wp2_with (at_builtin; refine push_own elSet rfl _ _ rfl (W.heap.size + 1) _ k _ O2.out rfl [.int .u8 (Z : Int)] rfl rfl rfl (by omega) (by omega) hs6 ?_)
              intro v' w7 hown7 hg7 hb7 hs7 hor7
              obtain ⟨A7, c7, rfl, M7⟩ := ((M5.out.to ((Below.refl _ _).alloc (Nat.le_refl _) _)).push2 (x := (Z : Int)) (by rw [dT_lh]; exact hown7) (by rw [dT_lh]; exact hg7))
              dsimp only at M7
              rw [← hH.out, dT_snocH] at M7
              replace M7 := Lib.hid M7
              have hwM := M5.out.mb.below hb7 (Nat.lt_succ_self _)
              have z7 := hwM.lt
              have f7 := fun o => hwM.frozen o
              have c1 : w7.cell? ⟨W.heap.size, 2, none⟩ = some (.slice y2 (dT p d p.vs.length k).held.length z2) := hwM.cell 2
              clear hwM hown7 hg7 hor7 hb7 hs7 zM fM m0 m1 m2
              go_wp2
              go_roundw
              case rel => exact ⟨k + 1, _, by go_num, by omega, M7.out⟩
              case measure => simp [intOf]; omega
        · obtain rfl : k = p.tabs.length := by omega
          have S9 := Lib.hid (((T.out.set 0 rfl 0 (.slice y0 p.vs.length z0)).set 0 rfl 1 (.slice y1 p.vs.length z1)).set 0 rfl 2 (.slice y2 p.tabs.length z2))
          have hA9 := Lib.hid (M.ao.far3 (g := w.heap.size + 1 + 1) (by omega) (.slice y0 p.vs.length z0) (.slice y1 p.vs.length z1) (.slice y2 p.tabs.length z2))
          clear hlt hpr hdr M O2
          go_wp2
          clear zM fM m0 m1 m2
          clear r1 f1 r10 r11 r12 r2 f2 r20 r21 r22 r3 f3 r30 r31 r32 r33
          obtain ⟨⟨r1, f1, r10, r11, r12, -⟩, -⟩ := S9.out.facts
          refine bodyPost_ret (v := .agg #[.slice y0 p.vs.length z0, .slice y1 p.vs.length z1, .slice y2 p.tabs.length z2]) (by simp [results, Try.results13, go_sem, r10, r11, r12]) rfl ?_
          exact Ret.mk ⟨S9.out.bel, ⟨y0, z0, y1, z1, y2, z2⟩, by show Value.agg _ = mixV (dT p d p.vs.length p.tabs.length) _; dsimp only [mixV]; rw [dT_lb, dT_ln, dT_lh], hA9.out.base (by omega)⟩
end Go.Proofs.Ytickckehhfdoeaa
