/-
  CONTRACTS of power.check and of Pass, Fail, Expected.
  Conditions: those that each theorem names.
-/
import Derived.Test.YtpoddmkimhkmoaaGreatPwD
import Derived.Test.YtpoddmkimhkmoaaGreatPwS
import Derived.Test.YtpoddmkimhkmoaaGreatPb3
import Derived.Test.YtpoddmkimhkmoaaGreatPb2
namespace Go.Proofs.YtpoddmkimhkmoaaGreat
open Go.RowKit Go.Sv Go.Pw
theorem RFr.new1 {w : World} {e : TypeId} {n d : List Int} {q r : LmP} (hn : RLm w w.heap.size n q) (hd : RLm w w.heap.size d r) :
    RFr (w.alloc (.cells #[.slice q.a n.length q.c, .slice r.a d.length r.c] e)) (w.alloc (.cells #[.slice q.a n.length q.c, .slice r.a d.length r.c] e)).heap.size (some ⟨w.heap.size, 0, none⟩) 1 (fun _ => n) (fun _ => d) (fun _ => q) (fun _ => r) := by
  have hb : Below w.heap.size w (w.alloc (.cells #[.slice q.a n.length q.c, .slice r.a d.length r.c] e)) := (Below.refl _ _).alloc (Nat.le_refl _) _
  have hw := Whole.new w e #[.slice q.a n.length q.c, .slice r.a d.length r.c]
  refine ⟨fun _ => ⟨w.heap.size, 0, rfl, hw.lt, fun k hk i hi => ?_⟩, fun _ _ => hn.to hb, fun _ _ => hd.to hb⟩
  obtain rfl : k = 0 := by omega
  rcases (by omega : i = 0 ∨ i = 1) with rfl | rfl
  · exact hw.cell 0
  · exact hw.cell 1
/-- one of two -/
def pk {α : Type} (a b : α) (k : Nat) : α := if k = 0 then a else b
theorem RFr.new2 {w : World} {e : TypeId} {n d n2 d2 : List Int} {q r q2 r2 : LmP} (hn : RLm w w.heap.size n q) (hd : RLm w w.heap.size d r) (hn2 : RLm w w.heap.size n2 q2) (hd2 : RLm w w.heap.size d2 r2) :
    RFr (w.alloc (.cells #[.slice q.a n.length q.c, .slice r.a d.length r.c, .slice q2.a n2.length q2.c, .slice r2.a d2.length r2.c] e)) (w.alloc (.cells #[.slice q.a n.length q.c, .slice r.a d.length r.c, .slice q2.a n2.length q2.c, .slice r2.a d2.length r2.c] e)).heap.size (some ⟨w.heap.size, 0, none⟩) 2 (pk n n2) (pk d d2) (pk q q2) (pk r r2) := by
  have hb : Below w.heap.size w (w.alloc (.cells #[.slice q.a n.length q.c, .slice r.a d.length r.c, .slice q2.a n2.length q2.c, .slice r2.a d2.length r2.c] e)) := (Below.refl _ _).alloc (Nat.le_refl _) _
  have hw := Whole.new w e #[.slice q.a n.length q.c, .slice r.a d.length r.c, .slice q2.a n2.length q2.c, .slice r2.a d2.length r2.c]
  refine ⟨fun _ => ⟨w.heap.size, 0, rfl, hw.lt, fun k hk i hi => ?_⟩, fun k hk => ?_, fun k hk => ?_⟩
  · rcases (by omega : k = 0 ∨ k = 1) with rfl | rfl <;> rcases (by omega : i = 0 ∨ i = 1) with rfl | rfl
    · exact hw.cell 0
    · exact hw.cell 1
    · exact hw.cell 2
    · exact hw.cell 3
  · rcases (by omega : k = 0 ∨ k = 1) with rfl | rfl
    · exact hn.to hb
    · exact hn2.to hb
  · rcases (by omega : k = 0 ∨ k = 1) with rfl | rfl
    · exact hd.to hb
    · exact hd2.to hb
open Classical in
/-- the error of a probability -/
noncomputable def prE (n d : List Int) : Int := frE 1 0 (fun _ => n) (fun _ => d) (fun _ => n) (fun _ => d)
open Classical in
noncomputable def chE (t : Tst) (n d : List Int) : Int := if validE t = 0 then prE n d else validE t
set_option maxHeartbeats 2000000 in
set_option maxRecDepth 100000 in
theorem check_any (t : Tst) (q : TstP) (n d : List Int) (qn qd : LmP) (w : World) (h : RTst w w.heap.size t q) (hbd : TBd t) (hn : RLm w w.heap.size n qn) (hd : RLm w w.heap.size d qd) (ln : Lim n) (ld : Lim d) :
    Calls Tryz.prog 40 #[tstV t q, ratV n qn d qd] w (fun e w' => e = .returned (.int .i64 (chE t n d)) ∧ Below w.heap.size w w') := by
  obtain ⟨ta, tc, tb, td⟩ := q
  have HV := Lib.hid (fun w' (h' : RTst w' w'.heap.size t ⟨ta, tc, tb, td⟩) => hvalid_any t ⟨ta, tc, tb, td⟩ w' h' hbd)
  have HF := Lib.hid (fun (w' : World) (ba : Nat) (q r : LmP) (h : RFr w' w'.heap.size (some ⟨ba, 0, none⟩) 1 (fun _ => n) (fun _ => d) (fun _ => q) (fun _ => r)) => fractions_one w' ba 0 1 1 (fun _ => n) (fun _ => d) (fun _ => q) (fun _ => r) h (fun _ _ => ⟨ln, ld⟩) (by omega))
  have S := Lib.hid ((natArg (natArg (Fm.init w) hd) hn).arg (tstRd w.heap.size t ⟨ta, tc, tb, td⟩) h (fun g hg => hg))
  clear h hbd hn hd ln ld
  obtain ⟨qna, qnc⟩ := qn
  obtain ⟨qda, qdc⟩ := qd
  replace S := Lib.hid (S.out.box 32 [.slice ta t.acc.length tc, .slice tb t.rej.length td])
  replace S := Lib.hid (S.out.box' 26 [.slice qna n.length qnc, .slice qda d.length qdc] (K := w.heap.size + 1) (by simp))
  obtain ⟨E, hE⟩ : ∃ E, validE t = E := ⟨_, rfl⟩
  obtain ⟨F, hF⟩ : ∃ F, prE n d = F := ⟨_, rfl⟩
  have hc : chE t n d = if E = 0 then F else E := by unfold chE; rw [hE, hF]
  rw [hc]
  obtain ⟨R, hR⟩ : ∃ R, (if E = 0 then F else E) = R := ⟨_, rfl⟩
  rw [hR]
  replace hR := Lib.hid hR
  rw [hE] at HV
  rw [show frE 1 0 (fun _ => n) (fun _ => d) (fun _ => n) (fun _ => d) = F from hF] at HF
  clear hc hE hF
  go_enter Tryz.func40, Tryz.ntmps40
  go_wp2_with fail
  refine (HV.out _ (rtst_more S.out.r0 S.out.size)).mono ?_
  rintro e w1 ⟨rfl, hb⟩
  replace S := Lib.hid (S.out.call hb)
  clear hb
  obtain ⟨⟨z1, f1, y1, y1a, -⟩, ⟨z0, f0, y0, y0a, -⟩, -⟩ := S.out.facts
  by_cases c : E = 0
  · replace hR := Lib.hid (hR.out.symm.trans (if_pos c))
    subst c
    have hfr := Lib.hid (RFr.new1 (e := 26) S.out.r1 S.out.r2)
    go_wp2_with fail
    refine (HF.out _ _ _ _ hfr.out).mono ?_
    rintro e w2 ⟨rfl, hb⟩
    replace S := Lib.hid ((S.out.obj _).call hb)
    clear hb z1 f1 y1 y1a z0 f0 y0 y0a hfr
    go_wp2
    go_ret
    exact ⟨by rw [hR.out]; rfl, S.out.bel⟩
  · have hx : (E != 0) = true := by rw [bne_iff_ne]; exact c
    replace hR := Lib.hid (hR.out.symm.trans (if_neg c))
    clear c
    go_wp2
    go_ret
    exact ⟨by rw [hR.out]; rfl, S.out.bel⟩
end Go.Proofs.YtpoddmkimhkmoaaGreat
namespace Go.Proofs.YtpoddmkimhkmoaaGreat
open Go.RowKit Go.Sv Go.Pw
set_option maxHeartbeats 2000000 in
set_option maxRecDepth 100000 in
theorem atMost_any (x y n d : Nat) (qx qy qn qd : LmP) (w : World) (hx : RLm w w.heap.size (lim x) qx) (hy : RLm w w.heap.size (lim y) qy) (hn : RLm w w.heap.size (lim n) qn) (hd : RLm w w.heap.size (lim d) qd)
    (sx : sm x) (sy : sm y) (sn : sm n) (sd : sm d) (s1 : sm (x * d)) (s2 : sm (n * y)) :
    Calls Tryz.prog 27 #[natV (lim x) qx, natV (lim y) qy, ratV (lim n) qn (lim d) qd] w (fun e w' => e = .returned (.bool (decide (x * d ≤ n * y))) ∧ Below w.heap.size w w') := by
  have S := Lib.hid (natArg (natArg (natArg (natArg (Fm.init w) hd) hn) hy) hx)
  have M1 := Lib.hid (fun q r w' h1 h2 => pmul_lim x d q r w' sx sd s1 h1 h2)
  have M2 := Lib.hid (fun q r w' h1 h2 => pmul_lim n y q r w' sn sy s2 h1 h2)
  have HC := Lib.hid (fun q r w' h1 h2 => ncmp_lim (x * d) (n * y) q r w' h1 h2)
  have hle := cmp_le (x * d) (n * y)
  obtain ⟨V, hV⟩ : ∃ V, cmpL (lim (x * d)) (lim (n * y)) = V := ⟨_, rfl⟩
  rw [hV] at HC hle
  have hle2 : decide (x * d ≤ n * y) = decide (V ≤ 0) := decide_eq_decide.2 hle.symm
  rw [hle2]
  clear hV hle hle2 sx sy sn sd s1 s2 hx hy hn hd
  obtain ⟨Xv, h1⟩ : ∃ v, lim x = v := ⟨_, rfl⟩
  obtain ⟨Yv, h2⟩ : ∃ v, lim y = v := ⟨_, rfl⟩
  obtain ⟨Nv, h3⟩ : ∃ v, lim n = v := ⟨_, rfl⟩
  obtain ⟨Dv, h4⟩ : ∃ v, lim d = v := ⟨_, rfl⟩
  obtain ⟨Pv, h5⟩ : ∃ v, lim (x * d) = v := ⟨_, rfl⟩
  obtain ⟨Rv, h6⟩ : ∃ v, lim (n * y) = v := ⟨_, rfl⟩
  rw [h1, h2, h3, h4] at S
  rw [h1, h4, h5] at M1
  rw [h3, h2, h6] at M2
  rw [h5, h6] at HC
  rw [h1, h2, h3, h4]
  clear h1 h2 h3 h4 h5 h6
  obtain ⟨xa, xc⟩ := qx
  obtain ⟨ya, yc⟩ := qy
  obtain ⟨na, nc⟩ := qn
  obtain ⟨da, dc⟩ := qd
  replace S := Lib.hid (S.out.box 24 [.slice xa Xv.length xc])
  replace S := Lib.hid (S.out.box' 24 [.slice ya Yv.length yc] (K := w.heap.size + 1) (by simp))
  replace S := Lib.hid (S.out.box' 26 [.slice na Nv.length nc, .slice da Dv.length dc] (K := w.heap.size + 1 + 1) (by simp))
  go_enter Tryz.func27, Tryz.ntmps27
  go_wp2_with fail
  replace S := Lib.hid S.out.drew
  obtain ⟨⟨z2, f2, y2, y2a, -⟩, ⟨z1, f1, y1, -⟩, ⟨z0, f0, y0, -⟩, -⟩ := S.out.facts
  go_region_held3 (fun w' => w'.cell? ⟨w.heap.size, 0, none⟩ = some (.slice xa Xv.length xc) ∧ w'.cell? ⟨w.heap.size + 1, 0, none⟩ = some (.slice ya Yv.length yc) ∧ w'.cell? ⟨w.heap.size + 1 + 1, 0, none⟩ = some (.slice na Nv.length nc) ∧ w'.cell? ⟨w.heap.size + 1 + 1, 1, none⟩ = some (.slice da Dv.length dc)) (go_keep)
    (first
      | ((with_reducible refine (M1.out ⟨xa, xc⟩ ⟨da, dc⟩ _ (natOld S.out (by simp)) (natOld S.out (by simp))).mono ?_); rintro e wx ⟨_, rfl, qx, rfl, hr, hf, hb⟩; replace S := Lib.hid (natRes S.out hr hf hb); clear hr hf hb z2 f2 y2 y2a z1 f1 y1 z0 f0 y0; obtain ⟨⟨z2, f2, y2, y2a, -⟩, ⟨z1, f1, y1, -⟩, ⟨z0, f0, y0, -⟩, -⟩ := S.out.facts)
      | ((with_reducible refine (M2.out ⟨na, nc⟩ ⟨ya, yc⟩ _ (natOld S.out (by simp)) (natOld S.out (by simp))).mono ?_); rintro e wx ⟨_, rfl, qy, rfl, hr, hf, hb⟩; replace S := Lib.hid (natRes S.out hr hf hb); clear hr hf hb z2 f2 y2 y2a z1 f1 y1 z0 f0 y0; obtain ⟨⟨z2, f2, y2, y2a, -⟩, ⟨z1, f1, y1, -⟩, ⟨z0, f0, y0, -⟩, -⟩ := S.out.facts)
      | ((with_reducible refine (HC.out _ _ _ (natOld S.out (by simp)) (natOld S.out (by simp))).mono ?_); rintro e wx ⟨rfl, hb⟩; replace S := Lib.hid (S.out.call hb); clear hb z2 f2 y2 y2a z1 f1 y1 z0 f0 y0; obtain ⟨⟨z2, f2, y2, y2a, -⟩, ⟨z1, f1, y1, -⟩, ⟨z0, f0, y0, -⟩, -⟩ := S.out.facts))
  all_goals
    go_wp2
    go_ret
    exact ⟨rfl, S.out.bel⟩
theorem pk_lim {a b : List Int} (ha : Lim a) (hb : Lim b) (k : Nat) : Lim (pk a b k) := by
  unfold pk
  split
  · exact ha
  · exact hb
/-- the error of two probabilities with two bounds -/
noncomputable def pairE (n0 d0 n1 d1 an ad bn bd : List Int) : Int :=
  let F := frE 2 2 (pk n0 n1) (pk d0 d1) (pk an bn) (pk ad bd)
  if F ≠ 0 then F else if crE n0 d0 n1 d1 ≠ 0 ∨ 0 ≤ rcV n0 d0 n1 d1 then 1 else 0
set_option maxHeartbeats 2000000 in
set_option maxRecDepth 100000 in
theorem pair_any (n0 d0 n1 d1 an ad bn bd : List Int) (q0 r0 q1 r1 q2 r2 q3 r3 : LmP) (w : World) (g0 : RLm w w.heap.size n0 q0) (h0 : RLm w w.heap.size d0 r0) (g1 : RLm w w.heap.size n1 q1) (h1 : RLm w w.heap.size d1 r1) (g2 : RLm w w.heap.size an q2) (h2 : RLm w w.heap.size ad r2) (g3 : RLm w w.heap.size bn q3) (h3 : RLm w w.heap.size bd r3)
    (l0 : Lim n0) (m0 : Lim d0) (l1 : Lim n1) (m1 : Lim d1) (l2 : Lim an) (m2 : Lim ad) (l3 : Lim bn) (m3 : Lim bd) :
    Calls Tryz.prog 22 #[ratV n0 q0 d0 r0, ratV n1 q1 d1 r1, ratV an q2 ad r2, ratV bn q3 bd r3] w (fun e w' => e = .returned (.int .i64 (pairE n0 d0 n1 d1 an ad bn bd)) ∧ Below w.heap.size w w') := by
  have S := Lib.hid (natArg (natArg (natArg (natArg (natArg (natArg (natArg (natArg (Fm.init w) h3) g3) h2) g2) h1) g1) h0) g0)
  have HF := Lib.hid (fun (w' : World) (ba bb : Nat) (Q R P T : Nat → LmP) (h : RFr w' w'.heap.size (some ⟨ba, 0, none⟩) 2 (pk n0 n1) (pk d0 d1) Q R) (h' : RFr w' w'.heap.size (some ⟨bb, 0, none⟩) 2 (pk an bn) (pk ad bd) P T) =>
    fractions_two w' ba 0 2 2 (pk n0 n1) (pk d0 d1) Q R bb 0 2 2 (pk an bn) (pk ad bd) P T h h' (fun k _ => ⟨pk_lim l0 l1 k, pk_lim m0 m1 k⟩) (fun k _ => ⟨pk_lim l2 l3 k, pk_lim m2 m3 k⟩) (by omega) (by omega))
  have HC := Lib.hid (fun q r q' r' w' (a : RLm w' w'.heap.size n0 q) (b : RLm w' w'.heap.size d0 r) (c : RLm w' w'.heap.size n1 q') (d : RLm w' w'.heap.size d1 r') => xcmp_any w' n0 q a l0 d0 r b m0 n1 q' c l1 d1 r' d m1)
  clear g0 h0 g1 h1 g2 h2 g3 h3 l0 m0 l1 m1 l2 m2 l3 m3
  obtain ⟨F, hF⟩ : ∃ F, frE 2 2 (pk n0 n1) (pk d0 d1) (pk an bn) (pk ad bd) = F := ⟨_, rfl⟩
  obtain ⟨V, hV⟩ : ∃ V, rcV n0 d0 n1 d1 = V := ⟨_, rfl⟩
  obtain ⟨E, hE⟩ : ∃ V, crE n0 d0 n1 d1 = V := ⟨_, rfl⟩
  have hc : pairE n0 d0 n1 d1 an ad bn bd = if F ≠ 0 then F else if E ≠ 0 ∨ 0 ≤ V then 1 else 0 := by unfold pairE; rw [hF, hV, hE]
  obtain ⟨R, hR⟩ : ∃ R, (if F ≠ 0 then F else if E ≠ 0 ∨ 0 ≤ V then (1 : Int) else 0) = R := ⟨_, rfl⟩
  rw [hc, hR]
  rw [hF] at HF
  rw [hV, hE] at HC
  replace hR := Lib.hid hR
  clear hc hF hV hE
  obtain ⟨a0, c0⟩ := q0
  obtain ⟨a1, c1⟩ := r0
  obtain ⟨a2, c2⟩ := q1
  obtain ⟨a3, c3⟩ := r1
  obtain ⟨a4, c4⟩ := q2
  obtain ⟨a5, c5⟩ := r2
  obtain ⟨a6, c6⟩ := q3
  obtain ⟨a7, c7⟩ := r3
  replace S := Lib.hid (S.out.box 26 [.slice a0 n0.length c0, .slice a1 d0.length c1])
  replace S := Lib.hid (S.out.box' 26 [.slice a2 n1.length c2, .slice a3 d1.length c3] (K := w.heap.size + 1) (by simp))
  replace S := Lib.hid (S.out.box' 26 [.slice a4 an.length c4, .slice a5 ad.length c5] (K := w.heap.size + 1 + 1) (by simp))
  replace S := Lib.hid (S.out.box' 26 [.slice a6 bn.length c6, .slice a7 bd.length c7] (K := w.heap.size + 1 + 1 + 1) (by simp))
  go_enter Tryz.func22, Tryz.ntmps22
  go_wp2_with fail
  have hsz : ((((w.alloc (.cells #[.slice a0 n0.length c0, .slice a1 d0.length c1] 26)).alloc (.cells #[.slice a2 n1.length c2, .slice a3 d1.length c3] 26)).alloc (.cells #[.slice a4 an.length c4, .slice a5 ad.length c5] 26)).alloc (.cells #[.slice a6 bn.length c6, .slice a7 bd.length c7] 26)).heap.size = w.heap.size + 1 + 1 + 1 + 1 := by simp
  generalize (((w.alloc (.cells #[.slice a0 n0.length c0, .slice a1 d0.length c1] 26)).alloc (.cells #[.slice a2 n1.length c2, .slice a3 d1.length c3] 26)).alloc (.cells #[.slice a4 an.length c4, .slice a5 ad.length c5] 26)).alloc (.cells #[.slice a6 bn.length c6, .slice a7 bd.length c7] 26) = W0 at S hsz ⊢
  have hz : Hid ((W0.alloc (.cells #[.slice a0 n0.length c0, .slice a1 d0.length c1, .slice a2 n1.length c2, .slice a3 d1.length c3] 26)).heap.size = w.heap.size + 1 + 1 + 1 + 1 + 1) := Lib.hid (by simp [hsz])
  have f1 : RFr (W0.alloc (.cells #[.slice a0 n0.length c0, .slice a1 d0.length c1, .slice a2 n1.length c2, .slice a3 d1.length c3] 26)) (W0.alloc (.cells #[.slice a0 n0.length c0, .slice a1 d0.length c1, .slice a2 n1.length c2, .slice a3 d1.length c3] 26)).heap.size (some ⟨W0.heap.size, 0, none⟩) 2 (pk n0 n1) (pk d0 d1) (pk ⟨a0, c0⟩ ⟨a2, c2⟩) (pk ⟨a1, c1⟩ ⟨a3, c3⟩) := RFr.new2 S.out.r0 S.out.r1 S.out.r2 S.out.r3
  rw [hsz] at f1
  clear hsz
  have S2 := S.out.obj (.cells #[.slice a0 n0.length c0, .slice a1 d0.length c1, .slice a2 n1.length c2, .slice a3 d1.length c3] 26)
  generalize W0.alloc (.cells #[.slice a0 n0.length c0, .slice a1 d0.length c1, .slice a2 n1.length c2, .slice a3 d1.length c3] 26) = W1 at f1 S2 hz ⊢
  have f1' := f1.to ((Below.refl _ _).alloc (Nat.le_refl _) (.cells #[.slice a4 an.length c4, .slice a5 ad.length c5, .slice a6 bn.length c6, .slice a7 bd.length c7] 26))
  have f2 : RFr (W1.alloc (.cells #[.slice a4 an.length c4, .slice a5 ad.length c5, .slice a6 bn.length c6, .slice a7 bd.length c7] 26)) (W1.alloc (.cells #[.slice a4 an.length c4, .slice a5 ad.length c5, .slice a6 bn.length c6, .slice a7 bd.length c7] 26)).heap.size (some ⟨W1.heap.size, 0, none⟩) 2 (pk an bn) (pk ad bd) (pk ⟨a4, c4⟩ ⟨a6, c6⟩) (pk ⟨a5, c5⟩ ⟨a7, c7⟩) := RFr.new2 S2.r4 S2.r5 S2.r6 S2.r7
  rw [hz.out] at f2
  refine (HF.out _ _ _ _ _ _ _ f1' f2).mono ?_
  rintro e w1 ⟨rfl, hb⟩
  replace S := Lib.hid ((S2.obj _).call hb)
  clear hb f1 f1' f2 S2 hz
  obtain ⟨⟨z3, f3, y3, y3a, -⟩, ⟨z2, f2, y2, y2a, -⟩, ⟨z1, f1, y1, y1a, -⟩, ⟨z0, f0, y0, y0a, -⟩, -⟩ := S.out.facts
  by_cases c : F = 0
  · have hx : (F != 0) = false := by rw [bne_eq_false_iff_eq]; exact c
    replace hR := Lib.hid (hR.out.symm.trans (if_neg (by simp [c])))
    clear c
    go_wp2_with fail
    refine (HC.out ⟨a0, c0⟩ ⟨a1, c1⟩ ⟨a2, c2⟩ ⟨a3, c3⟩ _ S.out.r0 S.out.r1 S.out.r2 S.out.r3).mono ?_
    rintro e w2 ⟨rfl, hb⟩
    replace S := Lib.hid (S.out.call hb)
    clear hb z3 f3 y3 y3a z2 f2 y2 y2a z1 f1 y1 y1a z0 f0 y0 y0a
    by_cases c2 : E = 0
    · have hx2 : (E != 0) = false := by rw [bne_eq_false_iff_eq]; exact c2
      by_cases c3 : 0 ≤ V
      · have hx3 : decide (0 ≤ V) = true := decide_eq_true c3
        replace hR := Lib.hid (hR.out.trans (if_pos (.inr c3)))
        clear c2 c3
        go_wp2
        go_ret
        exact ⟨by rw [hR.out]; rfl, S.out.bel⟩
      · have hx3 : decide (0 ≤ V) = false := by rw [decide_eq_false_iff_not]; exact c3
        replace hR := Lib.hid (hR.out.trans (if_neg (by simp [c2]; omega)))
        clear c2 c3
        go_wp2
        go_ret
        exact ⟨by rw [hR.out]; rfl, S.out.bel⟩
    · have hx2 : (E != 0) = true := by rw [bne_iff_ne]; exact c2
      replace hR := Lib.hid (hR.out.trans (if_pos (.inl c2)))
      clear c2
      go_wp2
      go_ret
      exact ⟨by rw [hR.out]; rfl, S.out.bel⟩
  · have hx : (F != 0) = true := by rw [bne_iff_ne]; exact c
    replace hR := Lib.hid (hR.out.symm.trans (if_pos c))
    clear c
    go_wp2
    go_ret
    exact ⟨by rw [hR.out]; rfl, S.out.bel⟩
end Go.Proofs.YtpoddmkimhkmoaaGreat
namespace Go.Proofs.YtpoddmkimhkmoaaGreat
open Go.RowKit Go.Sv Go.Pw
/-- a probability -/
structure PrB (a d : Nat) : Prop where
  le : a ≤ d
  d1 : 1 ≤ d
  d2 : d ≤ 1000
  g : Nat.gcd a d = 1
theorem PrB.v {a d : Nat} (h : PrB a d) : vR (lim a) (lim d) = true := vR_lim (sm_s (by have := h.le; have := h.d2; omega)) (sm_s (by have := h.d2; omega)) (by have := h.d1; omega) h.g
theorem PrB.e {a d : Nat} (h : PrB a d) : prE (lim a) (lim d) = 0 := by
  refine frE_0 (fun _ _ => h.v) (fun _ hj => by omega) (fun _ _ => ⟨(cmp_le a d).2 h.le, (cmp_le d 1000).2 h.d2⟩) (fun _ hj => by omega)
theorem PrB.ch {a d : Nat} (h : PrB a d) {t : Tst} (hv : validE t = 0) : chE t (lim a) (lim d) = 0 := by
  unfold chE; rw [if_pos hv]; exact h.e
theorem SRes.un {w w' : World} {F P E D : Nat} {v : Value} (h : SRes w F P E D v w') : ∃ q1 q2 q3 q4 : LmP, v = .tuple #[natV (lim F) q1, natV (lim P) q2, natV (lim E) q3, natV (lim D) q4] ∧ RLm w' w'.heap.size (lim F) q1 ∧ RLm w' w'.heap.size (lim P) q2 ∧ RLm w' w'.heap.size (lim E) q3 ∧ RLm w' w'.heap.size (lim D) q4 ∧ Below w.heap.size w w' := h
set_option maxHeartbeats 4000000 in
set_option maxRecDepth 100000 in
theorem pass_any (t : Tst) (q : TstP) (a d : Nat) (qn qd : LmP) (w : World) (h : RTst w w.heap.size t q) (hbd : TBd t) (hv : validE t = 0) (hp : PrB a d) (hn : RLm w w.heap.size (lim a) qn) (hd : RLm w w.heap.size (lim d) qd) :
    Calls Tryz.prog 15 #[tstV t q, ratV (lim a) qn (lim d) qd] w (Ret (RRes2 w (rdN (allS (VT t) a (d - a) t.acc.length kP) (d ^ t.acc.length)) (rdD (allS (VT t) a (d - a) t.acc.length kP) (d ^ t.acc.length)) 0)) := by
  have n1 := (validE_vld hv).n1
  have hb2 : a + (d - a) = d := by have := hp.le; omega
  obtain ⟨ta, tc, tb, td⟩ := q
  obtain ⟨qna, qnc⟩ := qn
  obtain ⟨qda, qdc⟩ := qd
  have HC := Lib.hid (fun w' (h' : RTst w' w'.heap.size t ⟨ta, tc, tb, td⟩) (h1 : RLm w' w'.heap.size (lim a) ⟨qna, qnc⟩) (h2 : RLm w' w'.heap.size (lim d) ⟨qda, qdc⟩) => by
    have := check_any t ⟨ta, tc, tb, td⟩ (lim a) (lim d) ⟨qna, qnc⟩ ⟨qda, qdc⟩ w' h' hbd h1 h2 (lim_lim _) (lim_lim _)
    rw [hp.ch hv] at this
    exact this)
  have HS := Lib.hid (fun w' (h' : RTst w' w'.heap.size t ⟨ta, tc, tb, td⟩) (h1 : RLm w' w'.heap.size (lim a) ⟨qna, qnc⟩) (h2 : RLm w' w'.heap.size (lim d) ⟨qda, qdc⟩) => sums_any t ⟨ta, tc, tb, td⟩ a d ⟨qna, qnc⟩ ⟨qda, qdc⟩ w' h' hbd hv h1 h2 hp.le hp.d1 hp.d2)
  have sD : sm (d ^ t.acc.length) := sm_b (Nat.le_trans (big_pow hp.d2 n1) (Nat.le_mul_of_pos_left _ (by decide)))
  have D0 : d ^ t.acc.length ≠ 0 := by have := Nat.pow_pos (n := t.acc.length) (show 0 < d from hp.d1); omega
  have sX : sm (allS (VT t) a (d - a) t.acc.length kP) := by
    have e2 := allS_le (V := VT t) (a := a) (b := d - a) (N := t.acc.length) (k := kP) (B := 64) (fun v n hn => by unfold kP; split <;> omega)
    rw [hb2] at e2
    exact sm_b (Nat.le_trans e2 (Nat.mul_le_mul (by decide) (big_pow hp.d2 n1)))
  generalize allS (VT t) a (d - a) t.acc.length kF = F at *
  generalize allS (VT t) a (d - a) t.acc.length kP = P at *
  generalize allS (VT t) a (d - a) t.acc.length kE = E at *
  generalize d ^ t.acc.length = D at *
  have HM := Lib.hid (fun q r w' (h1 : RLm w' w'.heap.size (lim P) q) (h2 : RLm w' w'.heap.size (lim D) r) => by
    have := make_any w' (lim P) q h1 (lim_lim _) (lim D) r h2 (lim_lim _)
    rw [(mak_lim sX sD D0).1, (mak_lim sX sD D0).2.1, (mak_lim sX sD D0).2.2] at this
    exact this)
  have S := Lib.hid ((natArg (natArg (Fm.init w) hd) hn).arg (tstRd w.heap.size t ⟨ta, tc, tb, td⟩) h (fun g hg => hg))
  clear h hbd hv hn hd hp n1 sD D0 sX hb2
  replace HS := Lib.hid (fun w' h' h1 h2 => (HS.out w' h' h1 h2))
  obtain ⟨Av, hA⟩ : ∃ v, lim a = v := ⟨_, rfl⟩
  obtain ⟨Dv, hD⟩ : ∃ v, lim d = v := ⟨_, rfl⟩
  obtain ⟨N, hN⟩ : ∃ v, rdN P D = v := ⟨_, rfl⟩
  obtain ⟨M, hM⟩ : ∃ v, rdD P D = v := ⟨_, rfl⟩
  rw [hA, hD] at HC HS S
  rw [hN, hM] at HM
  rw [hA, hD, hN, hM]
  clear hA hD hN hM
  replace S := Lib.hid (S.out.box 32 [.slice ta t.acc.length tc, .slice tb t.rej.length td])
  replace S := Lib.hid (S.out.box' 26 [.slice qna Av.length qnc, .slice qda Dv.length qdc] (K := w.heap.size + 1) (by simp))
  replace S := Lib.hid (S.out.box' 26 [.slice none 0 0, .slice none 0 0] (K := w.heap.size + 1 + 1) (by simp))
  go_enter Tryz.func15, Tryz.ntmps15
  go_wp2_with fail
  refine (HC.out _ (rtst_more S.out.r0 S.out.size) S.out.r1 S.out.r2).mono ?_
  rintro e w1 ⟨rfl, hb⟩
  replace S := Lib.hid (S.out.call hb)
  clear hb
  obtain ⟨⟨z2, f2, y2, y2a, -⟩, ⟨z1, f1, y1, y1a, -⟩, ⟨z0, f0, y0, y0a, -⟩, -⟩ := S.out.facts
  go_wp2_with fail
  refine (HS.out _ (rtst_more S.out.r0 S.out.size) S.out.r1 S.out.r2).mono ?_
  rintro e w2 ⟨_, rfl, q1, q2, q3, q4, rfl, r1, r2, r3, r4, hb⟩
  replace S := Lib.hid (natOf (natOf (natOf (natOf S.out r1 hb (by simp)) r2 (Below.refl _ _) (by simp)) r3 (Below.refl _ _) (by simp)) r4 (Below.refl _ _) (by simp))
  clear hb r1 r2 r3 r4 z2 f2 y2 y2a z1 f1 y1 y1a z0 f0 y0 y0a
  obtain ⟨Fv, hF⟩ : ∃ v, lim F = v := ⟨_, rfl⟩
  obtain ⟨Pv, hP⟩ : ∃ v, lim P = v := ⟨_, rfl⟩
  obtain ⟨Ev, hE⟩ : ∃ v, lim E = v := ⟨_, rfl⟩
  obtain ⟨Gv, hG⟩ : ∃ v, lim D = v := ⟨_, rfl⟩
  rw [hF, hP, hE, hG] at S
  rw [hP, hG] at HM
  rw [hF, hP, hE, hG]
  clear hF hP hE hG
  replace S := Lib.hid (S.out.box 24 [.slice q1.a Fv.length q1.c])
  replace S := Lib.hid (S.out.box' 24 [.slice q2.a Pv.length q2.c] (K := w2.heap.size + 1) (by simp))
  replace S := Lib.hid (S.out.box' 24 [.slice q3.a Ev.length q3.c] (K := w2.heap.size + 1 + 1) (by simp))
  replace S := Lib.hid (S.out.box' 24 [.slice q4.a Gv.length q4.c] (K := w2.heap.size + 1 + 1 + 1) (by simp))
  obtain ⟨⟨z6, f6, y6, -⟩, ⟨z5, f5, y5, -⟩, ⟨z4, f4, y4, -⟩, ⟨z3, f3, y3, -⟩, ⟨z2, f2, y2, y2a, -⟩, ⟨z1, f1, y1, y1a, -⟩, ⟨z0, f0, y0, y0a, -⟩, -⟩ := S.out.facts
  go_wp2_with fail
  refine (HM.out q2 q4 _ (natOld S.out (by simp)) (natOld S.out (by simp))).mono ?_
  rintro e w3 ⟨_, rfl, q5, q6, rfl, hr, hr2, hf, hf2, hb⟩
  have fr1 := Lib.hid (hf.le S.out.size)
  have fr2 := Lib.hid (hf2.le S.out.size)
  replace S := Lib.hid (natRes2 S.out hr hr2 hf hf2 hb)
  clear hr hr2 hf hf2 hb z6 f6 y6 z5 f5 y5 z4 f4 y4 z3 f3 y3 z2 f2 y2 y2a z1 f1 y1 y1a z0 f0 y0 y0a
  obtain ⟨⟨z6, f6, y6, -⟩, ⟨z5, f5, y5, -⟩, ⟨z4, f4, y4, -⟩, ⟨z3, f3, y3, -⟩, ⟨z2, f2, y2, y2a, -⟩, ⟨z1, f1, y1, y1a, -⟩, ⟨z0, f0, y0, y0a, -⟩, -⟩ := S.out.facts
  replace S := Lib.hid ((S.out.set 4 rfl 0 (.slice q5.a N.length q5.c)).set 4 rfl 1 (.slice q6.a M.length q6.c))
  go_wp2
  refine bodyPost_ret (v := .tuple #[ratV N q5 M q6, .int .i64 0]) (by simp [results, Tryz.results15, go_sem, y2, y2a]) rfl ?_
  exact Ret.mk (fm_rres2 S.out (by simp) (by simp) fr1.out fr2.out)
set_option maxHeartbeats 4000000 in
set_option maxRecDepth 100000 in
theorem expd_any (t : Tst) (q : TstP) (a d : Nat) (qn qd : LmP) (w : World) (h : RTst w w.heap.size t q) (hbd : TBd t) (hv : validE t = 0) (hp : PrB a d) (hn : RLm w w.heap.size (lim a) qn) (hd : RLm w w.heap.size (lim d) qd) :
    Calls Tryz.prog 17 #[tstV t q, ratV (lim a) qn (lim d) qd] w (Ret (RRes2 w (rdN (allS (VT t) a (d - a) t.acc.length kE) (d ^ t.acc.length)) (rdD (allS (VT t) a (d - a) t.acc.length kE) (d ^ t.acc.length)) 0)) := by
  have n1 := (validE_vld hv).n1
  have hb2 : a + (d - a) = d := by have := hp.le; omega
  obtain ⟨ta, tc, tb, td⟩ := q
  obtain ⟨qna, qnc⟩ := qn
  obtain ⟨qda, qdc⟩ := qd
  have HC := Lib.hid (fun w' (h' : RTst w' w'.heap.size t ⟨ta, tc, tb, td⟩) (h1 : RLm w' w'.heap.size (lim a) ⟨qna, qnc⟩) (h2 : RLm w' w'.heap.size (lim d) ⟨qda, qdc⟩) => by
    have := check_any t ⟨ta, tc, tb, td⟩ (lim a) (lim d) ⟨qna, qnc⟩ ⟨qda, qdc⟩ w' h' hbd h1 h2 (lim_lim _) (lim_lim _)
    rw [hp.ch hv] at this
    exact this)
  have HS := Lib.hid (fun w' (h' : RTst w' w'.heap.size t ⟨ta, tc, tb, td⟩) (h1 : RLm w' w'.heap.size (lim a) ⟨qna, qnc⟩) (h2 : RLm w' w'.heap.size (lim d) ⟨qda, qdc⟩) => sums_any t ⟨ta, tc, tb, td⟩ a d ⟨qna, qnc⟩ ⟨qda, qdc⟩ w' h' hbd hv h1 h2 hp.le hp.d1 hp.d2)
  have sD : sm (d ^ t.acc.length) := sm_b (Nat.le_trans (big_pow hp.d2 n1) (Nat.le_mul_of_pos_left _ (by decide)))
  have D0 : d ^ t.acc.length ≠ 0 := by have := Nat.pow_pos (n := t.acc.length) (show 0 < d from hp.d1); omega
  have sX : sm (allS (VT t) a (d - a) t.acc.length kE) := by
    have e2 := allS_le (V := VT t) (a := a) (b := d - a) (N := t.acc.length) (k := kE) (B := 64) (fun v n hn => by unfold kE; omega)
    rw [hb2] at e2
    exact sm_b (Nat.le_trans e2 (Nat.mul_le_mul (by decide) (big_pow hp.d2 n1)))
  generalize allS (VT t) a (d - a) t.acc.length kF = F at *
  generalize allS (VT t) a (d - a) t.acc.length kP = P at *
  generalize allS (VT t) a (d - a) t.acc.length kE = E at *
  generalize d ^ t.acc.length = D at *
  have HM := Lib.hid (fun q r w' (h1 : RLm w' w'.heap.size (lim E) q) (h2 : RLm w' w'.heap.size (lim D) r) => by
    have := make_any w' (lim E) q h1 (lim_lim _) (lim D) r h2 (lim_lim _)
    rw [(mak_lim sX sD D0).1, (mak_lim sX sD D0).2.1, (mak_lim sX sD D0).2.2] at this
    exact this)
  have S := Lib.hid ((natArg (natArg (Fm.init w) hd) hn).arg (tstRd w.heap.size t ⟨ta, tc, tb, td⟩) h (fun g hg => hg))
  clear h hbd hv hn hd hp n1 sD D0 sX hb2
  replace HS := Lib.hid (fun w' h' h1 h2 => (HS.out w' h' h1 h2))
  obtain ⟨Av, hA⟩ : ∃ v, lim a = v := ⟨_, rfl⟩
  obtain ⟨Dv, hD⟩ : ∃ v, lim d = v := ⟨_, rfl⟩
  obtain ⟨N, hN⟩ : ∃ v, rdN E D = v := ⟨_, rfl⟩
  obtain ⟨M, hM⟩ : ∃ v, rdD E D = v := ⟨_, rfl⟩
  rw [hA, hD] at HC HS S
  rw [hN, hM] at HM
  rw [hA, hD, hN, hM]
  clear hA hD hN hM
  replace S := Lib.hid (S.out.box 32 [.slice ta t.acc.length tc, .slice tb t.rej.length td])
  replace S := Lib.hid (S.out.box' 26 [.slice qna Av.length qnc, .slice qda Dv.length qdc] (K := w.heap.size + 1) (by simp))
  replace S := Lib.hid (S.out.box' 26 [.slice none 0 0, .slice none 0 0] (K := w.heap.size + 1 + 1) (by simp))
  go_enter Tryz.func17, Tryz.ntmps17
  go_wp2_with fail
  refine (HC.out _ (rtst_more S.out.r0 S.out.size) S.out.r1 S.out.r2).mono ?_
  rintro e w1 ⟨rfl, hb⟩
  replace S := Lib.hid (S.out.call hb)
  clear hb
  obtain ⟨⟨z2, f2, y2, y2a, -⟩, ⟨z1, f1, y1, y1a, -⟩, ⟨z0, f0, y0, y0a, -⟩, -⟩ := S.out.facts
  go_wp2_with fail
  refine (HS.out _ (rtst_more S.out.r0 S.out.size) S.out.r1 S.out.r2).mono ?_
  rintro e w2 ⟨_, rfl, q1, q2, q3, q4, rfl, r1, r2, r3, r4, hb⟩
  replace S := Lib.hid (natOf (natOf (natOf (natOf S.out r1 hb (by simp)) r2 (Below.refl _ _) (by simp)) r3 (Below.refl _ _) (by simp)) r4 (Below.refl _ _) (by simp))
  clear hb r1 r2 r3 r4 z2 f2 y2 y2a z1 f1 y1 y1a z0 f0 y0 y0a
  obtain ⟨Fv, hF⟩ : ∃ v, lim F = v := ⟨_, rfl⟩
  obtain ⟨Pv, hP⟩ : ∃ v, lim P = v := ⟨_, rfl⟩
  obtain ⟨Ev, hE⟩ : ∃ v, lim E = v := ⟨_, rfl⟩
  obtain ⟨Gv, hG⟩ : ∃ v, lim D = v := ⟨_, rfl⟩
  rw [hF, hP, hE, hG] at S
  rw [hE, hG] at HM
  rw [hF, hP, hE, hG]
  clear hF hP hE hG
  replace S := Lib.hid (S.out.box 24 [.slice q1.a Fv.length q1.c])
  replace S := Lib.hid (S.out.box' 24 [.slice q2.a Pv.length q2.c] (K := w2.heap.size + 1) (by simp))
  replace S := Lib.hid (S.out.box' 24 [.slice q3.a Ev.length q3.c] (K := w2.heap.size + 1 + 1) (by simp))
  replace S := Lib.hid (S.out.box' 24 [.slice q4.a Gv.length q4.c] (K := w2.heap.size + 1 + 1 + 1) (by simp))
  obtain ⟨⟨z6, f6, y6, -⟩, ⟨z5, f5, y5, -⟩, ⟨z4, f4, y4, -⟩, ⟨z3, f3, y3, -⟩, ⟨z2, f2, y2, y2a, -⟩, ⟨z1, f1, y1, y1a, -⟩, ⟨z0, f0, y0, y0a, -⟩, -⟩ := S.out.facts
  go_wp2_with fail
  refine (HM.out q3 q4 _ (natOld S.out (by simp)) (natOld S.out (by simp))).mono ?_
  rintro e w3 ⟨_, rfl, q5, q6, rfl, hr, hr2, hf, hf2, hb⟩
  have fr1 := Lib.hid (hf.le S.out.size)
  have fr2 := Lib.hid (hf2.le S.out.size)
  replace S := Lib.hid (natRes2 S.out hr hr2 hf hf2 hb)
  clear hr hr2 hf hf2 hb z6 f6 y6 z5 f5 y5 z4 f4 y4 z3 f3 y3 z2 f2 y2 y2a z1 f1 y1 y1a z0 f0 y0 y0a
  obtain ⟨⟨z6, f6, y6, -⟩, ⟨z5, f5, y5, -⟩, ⟨z4, f4, y4, -⟩, ⟨z3, f3, y3, -⟩, ⟨z2, f2, y2, y2a, -⟩, ⟨z1, f1, y1, y1a, -⟩, ⟨z0, f0, y0, y0a, -⟩, -⟩ := S.out.facts
  replace S := Lib.hid ((S.out.set 4 rfl 0 (.slice q5.a N.length q5.c)).set 4 rfl 1 (.slice q6.a M.length q6.c))
  go_wp2
  refine bodyPost_ret (v := .tuple #[ratV N q5 M q6, .int .i64 0]) (by simp [results, Tryz.results17, go_sem, y2, y2a]) rfl ?_
  exact Ret.mk (fm_rres2 S.out (by simp) (by simp) fr1.out fr2.out)
end Go.Proofs.YtpoddmkimhkmoaaGreat
