/-
  CONTRACTS of Same, Few, few, of, awake.
  Conditions: those that each theorem names.
-/
import Derived.Test.YtoiokopmpcogbaaGreatDoorRaO
import Derived.Test.YtoiokopmpcogbaaGreatDoorRaQ
import Derived.Test.YtoiokopmpcogbaaGreatDoorRaM
import Derived.Deep.RegionHeld3
namespace Go.Proofs.YtoiokopmpcogbaaGreatDoor
open Go.RowKit Go.Sv
set_option maxHeartbeats 2000000 in
set_option maxRecDepth 100000 in
theorem xsame_t (w : World) (n d : List Int) (q r q2 r2 : LmP) (hn : RLm w w.heap.size n q) (hd : RLm w w.heap.size d r) (hn2 : RLm w w.heap.size n q2) (hd2 : RLm w w.heap.size d r2) :
    Calls Tryz.prog 17 #[ratV n q d r, ratV n q2 d r2] w (fun e w' => e = .returned (.bool true) ∧ Below w.heap.size w w') := by
  have S := Lib.hid (natArg (natArg (natArg (natArg (Fm.init w) hd2) hn2) hd) hn)
  have H1 := Lib.hid (fun q r w' (h1 : RLm w' w'.heap.size n q) (h2 : RLm w' w'.heap.size n r) => by
    have := same_any n n q r w' h1 h2
    rw [decide_eq_true rfl] at this
    exact this)
  have H2 := Lib.hid (fun q r w' (h1 : RLm w' w'.heap.size d q) (h2 : RLm w' w'.heap.size d r) => by
    have := same_any d d q r w' h1 h2
    rw [decide_eq_true rfl] at this
    exact this)
  obtain ⟨qa, qc⟩ := q
  obtain ⟨ra, rc⟩ := r
  obtain ⟨q2a, q2c⟩ := q2
  obtain ⟨r2a, r2c⟩ := r2
  replace S := Lib.hid (S.out.box 28 [.slice qa n.length qc, .slice ra d.length rc])
  replace S := Lib.hid (S.out.box' 28 [.slice q2a n.length q2c, .slice r2a d.length r2c] (K := w.heap.size + 1) (by simp))
  clear hn hd hn2 hd2
  go_enter Tryz.func17, Tryz.ntmps17
  go_wp2_with fail
  refine (H1.out _ _ _ S.out.r0 S.out.r2).mono ?_
  rintro e w1 ⟨rfl, hb⟩
  replace S := Lib.hid (S.out.call hb)
  clear hb
  obtain ⟨⟨z1, f1, y1, y1a, -⟩, ⟨z0, f0, y0, y0a, -⟩, -⟩ := S.out.facts
  go_wp2_with fail
  refine (H2.out _ _ _ S.out.r1 S.out.r3).mono ?_
  rintro e w2 ⟨rfl, hb⟩
  replace S := Lib.hid (S.out.call hb)
  clear hb z0 f0 y0 y0a z1 f1 y1 y1a
  obtain ⟨⟨z1, f1, y1, y1a, -⟩, ⟨z0, f0, y0, y0a, -⟩, -⟩ := S.out.facts
  go_wp2
  go_ret
  exact ⟨rfl, S.out.bel⟩
def fewB (n d : List Int) : Bool := decide ((n.length : Int) ≤ 130) && decide ((d.length : Int) ≤ 8) && (decide ((n.length : Int) ≤ 8) || decide ((d.length : Int) ≤ 1))
set_option maxHeartbeats 2000000 in
set_option maxRecDepth 100000 in
theorem xfew_any (w : World) (n d : List Int) (q r : LmP) :
    Calls Tryz.prog 21 #[ratV n q d r] w (fun e w' => e = .returned (.bool (fewB n d)) ∧ Below w.heap.size w w') := by
  have S := Lib.hid (Fm.init w)
  have hF : Hid (∀ b1 b2 b3 b4, decide ((n.length : Int) ≤ 130) = b1 → decide ((d.length : Int) ≤ 8) = b2 → decide ((n.length : Int) ≤ 8) = b3 → decide ((d.length : Int) ≤ 1) = b4 → (b1 && b2 && (b3 || b4)) = fewB n d) := Lib.hid (fun b1 b2 b3 b4 e1 e2 e3 e4 => by rw [← e1, ← e2, ← e3, ← e4]; rfl)
  obtain ⟨b1, e1⟩ : ∃ b, decide ((n.length : Int) ≤ 130) = b := ⟨_, rfl⟩
  obtain ⟨b2, e2⟩ : ∃ b, decide ((d.length : Int) ≤ 8) = b := ⟨_, rfl⟩
  obtain ⟨b3, e3⟩ : ∃ b, decide ((n.length : Int) ≤ 8) = b := ⟨_, rfl⟩
  obtain ⟨b4, e4⟩ : ∃ b, decide ((d.length : Int) ≤ 1) = b := ⟨_, rfl⟩
  replace hF := Lib.hid (hF.out _ _ _ _ e1 e2 e3 e4)
  obtain ⟨qa, qc⟩ := q
  obtain ⟨ra, rc⟩ := r
  replace S := Lib.hid (S.out.box 28 [.slice qa n.length qc, .slice ra d.length rc])
  cases b1 <;> cases b2 <;> cases b3 <;> cases b4
  all_goals
    go_enter Tryz.func21, Tryz.ntmps21
    go_wp2
    go_ret
    exact ⟨ret_b hF.out, S.out.bel⟩
set_option maxHeartbeats 2000000 in
set_option maxRecDepth 100000 in
theorem few_c (w : World) (n d : List Int) (q r : LmP) :
    Calls Tryz.prog 14 #[natV n q, natV d r] w (fun e w' => e = .returned (.bool (fewB n d)) ∧ Below w.heap.size w w') := by
  have S := Lib.hid (Fm.init w)
  have HF := Lib.hid (fun q r w' => xfew_any w' n d q r)
  obtain ⟨qa, qc⟩ := q
  obtain ⟨ra, rc⟩ := r
  replace S := Lib.hid (S.out.box 24 [.slice qa n.length qc])
  replace S := Lib.hid (S.out.box' 24 [.slice ra d.length rc] (K := w.heap.size + 1) (by simp))
  go_enter Tryz.func14, Tryz.ntmps14
  go_wp2_with fail
  refine (HF.out ⟨qa, qc⟩ ⟨ra, rc⟩ _).mono ?_
  rintro e w1 ⟨rfl, hb⟩
  replace S := Lib.hid (S.out.call hb)
  clear hb
  go_wp2
  go_ret
  exact ⟨rfl, S.out.bel⟩
set_option maxHeartbeats 2000000 in
set_option maxRecDepth 100000 in
theorem of_c (a b : Nat) (w : World) (ha : a < 18446744073709551616) (hb : b < 18446744073709551616) (hz : b ≠ 0) :
    Calls Tryz.prog 38 #[.int .u64 (a : Int), .int .u64 (b : Int)] w (Ret (RRes w (rdN a b) (rdD a b))) := by
  have S := Lib.hid (Fm.init w)
  have HO := Lib.hid (fun w' => by
    have := xrof_any (a : Int) (b : Int) w' (by omega) (by omega) (by omega) (by omega)
    rw [Int.toNat_natCast, Int.toNat_natCast, (mak_lim (sm_s ha) (sm_s hb) hz).1, (mak_lim (sm_s ha) (sm_s hb) hz).2.1, (mak_lim (sm_s ha) (sm_s hb) hz).2.2] at this
    exact this)
  obtain ⟨N, hN⟩ : ∃ V, rdN a b = V := ⟨_, rfl⟩
  obtain ⟨D, hD⟩ : ∃ V, rdD a b = V := ⟨_, rfl⟩
  rw [hN, hD] at HO
  rw [hN, hD]
  clear hN hD hz ha hb
  replace S := Lib.hid (S.out.box 28 [.slice none 0 0, .slice none 0 0])
  go_enter Tryz.func38, Tryz.ntmps38
  go_wp2_with fail
  refine (HO.out _).mono ?_
  rintro e w1 ⟨_, rfl, q1, q2, rfl, hr, hr2, hf, hf2, hb⟩
  have fr1 := Lib.hid (hf.le S.out.size)
  have fr2 := Lib.hid (hf2.le S.out.size)
  replace S := Lib.hid (natRes2 S.out hr hr2 hf hf2 hb)
  clear hr hr2 hf hf2 hb
  obtain ⟨⟨z0, f0, y0, y0a, -⟩, -⟩ := S.out.facts
  replace S := Lib.hid (S.out.set 0 rfl 0 (.slice q1.a N.length q1.c))
  replace S := Lib.hid (S.out.set 0 rfl 1 (.slice q2.a D.length q2.c))
  replace S := Lib.hid (S.out.box' 28 [.slice q1.a N.length q1.c, .slice q2.a D.length q2.c] (K := w1.heap.size) (by simp))
  go_wp2
  refine bodyPost_ret (v := ratV N q1 D q2) (by simp [results, Tryz.results38, go_sem, y0, y0a, z0]) rfl ?_
  exact Ret.mk (fm_rres S.out (by simp) (by simp) fr1.out fr2.out)
set_option maxHeartbeats 2000000 in
set_option maxRecDepth 100000 in
theorem awake_c (w : World) (ht : Tab w) (hm : MaxL w) : Calls Tryz.prog 13 #[] w fun e w' => e = .returned (.bool true) ∧ Below w.heap.size w w' := by
  have HO := Lib.hid (fun w' => by
    have := xof_any 6 4 w' (by decide) (by decide) (by decide) (by decide)
    rw [show (6 : Int).toNat = 6 from rfl, show (4 : Int).toNat = 4 from rfl, (mak_lim (a := 6) (b := 4) (sm_s (by decide)) (sm_s (by decide)) (by decide)).1, (mak_lim (a := 6) (b := 4) (sm_s (by decide)) (sm_s (by decide)) (by decide)).2.1, (mak_lim (a := 6) (b := 4) (sm_s (by decide)) (sm_s (by decide)) (by decide)).2.2, rd64.1, rd64.2] at this
    exact this)
  have O13 : Hid (∀ w', Calls Tryz.prog 38 #[.int .u64 1, .int .u64 3] w' (Ret (RRes w' (lim 1) (lim 3)))) := Lib.hid fun w' => by
    have := of_c 1 3 w' (by decide) (by decide) (by decide)
    rw [rd13.1, rd13.2] at this
    exact this
  have O16 : Hid (∀ w', Calls Tryz.prog 38 #[.int .u64 1, .int .u64 6] w' (Ret (RRes w' (lim 1) (lim 6)))) := Lib.hid fun w' => by
    have := of_c 1 6 w' (by decide) (by decide) (by decide)
    rw [rd16.1, rd16.2] at this
    exact this
  have O23 : Hid (∀ w', Calls Tryz.prog 38 #[.int .u64 2, .int .u64 3] w' (Ret (RRes w' (lim 2) (lim 3)))) := Lib.hid fun w' => by
    have := of_c 2 3 w' (by decide) (by decide) (by decide)
    rw [rd23.1, rd23.2] at this
    exact this
  have O32 : Hid (∀ w', Calls Tryz.prog 38 #[.int .u64 3, .int .u64 2] w' (Ret (RRes w' (lim 3) (lim 2)))) := Lib.hid fun w' => by
    have := of_c 3 2 w' (by decide) (by decide) (by decide)
    rw [rd32.1, rd32.2] at this
    exact this
  have O12 : Hid (∀ w', Calls Tryz.prog 38 #[.int .u64 1, .int .u64 2] w' (Ret (RRes w' (lim 1) (lim 2)))) := Lib.hid fun w' => by
    have := of_c 1 2 w' (by decide) (by decide) (by decide)
    rw [rd12.1, rd12.2] at this
    exact this
  have HA := Lib.hid (fun q0 q1 q2 q3 w' (h0 : RLm w' w'.heap.size (lim 1) q0) (h1 : RLm w' w'.heap.size (lim 3) q1) (h2 : RLm w' w'.heap.size (lim 1) q2) (h3 : RLm w' w'.heap.size (lim 6) q3) => show Calls _ _ _ _ (Ret (RRes2 w' (addN (lim 1) (lim 3) (lim 1) (lim 6)) (addD (lim 1) (lim 3) (lim 1) (lim 6)) (addE (lim 1) (lim 3) (lim 1) (lim 6)))) from xadd_any w' _ q0 h0 (lim_lim _) _ q1 h1 (lim_lim _) _ q2 h2 (lim_lim _) _ q3 h3 (lim_lim _))
  rw [awk_add.1, awk_add.2.1, awk_add.2.2] at HA
  have HB := Lib.hid (fun q0 q1 q2 q3 w' (h0 : RLm w' w'.heap.size (lim 1) q0) (h1 : RLm w' w'.heap.size (lim 6) q1) (h2 : RLm w' w'.heap.size (lim 1) q2) (h3 : RLm w' w'.heap.size (lim 3) q3) => show Calls _ _ _ _ (Ret (RRes2 w' (subN (lim 1) (lim 6) (lim 1) (lim 3)) (subD (lim 1) (lim 6) (lim 1) (lim 3)) (subE (lim 1) (lim 6) (lim 1) (lim 3)))) from xsub_any w' _ q0 h0 (lim_lim _) _ q1 h1 (lim_lim _) _ q2 h2 (lim_lim _) _ q3 h3 (lim_lim _))
  rw [awk_sub.1, awk_sub.2.1, awk_sub.2.2] at HB
  have HD := Lib.hid (fun q r w' (h1 : RLm w' w'.heap.size (lim 2) q) (h2 : RLm w' w'.heap.size (lim 3) r) (ht : Tab w') => by
    have := xdec_any w' (lim 2) q h1 (lim_lim _) (lim 3) r h2 (lim_lim _) 3 ht
    rw [awk_dec.1, awk_dec.2] at this
    exact this)
  have HP : Hid (∀ w', MaxL w' → Calls Tryz.prog 35 #[.string ⟨#[52, 47, 50]⟩] w' (Ret (RRes2 w' [] [] 2))) := Lib.hid fun w' hm => by
    have := xparse2 [52] [50] w' (by decide) hm (by decide)
    rw [awk_prs.1, awk_prs.2.1, awk_prs.2.2] at this
    exact this
  have HS := Lib.hid (fun n d q r q2 r2 w' (h1 : RLm w' w'.heap.size n q) (h2 : RLm w' w'.heap.size d r) (h3 : RLm w' w'.heap.size n q2) (h4 : RLm w' w'.heap.size d r2) => xsame_t w' n d q r q2 r2 h1 h2 h3 h4)
  have ht' := Lib.hid (fun w' (hb : Below w.heap.size w w') => ht.to hb)
  have hm' := Lib.hid (fun w' (hb : Below w.heap.size w w') => hm.to hb)
  have S := Lib.hid (Fm.init w)
  clear ht hm
  obtain ⟨L1, hL1⟩ : ∃ V, lim 1 = V := ⟨_, rfl⟩
  obtain ⟨L2, hL2⟩ : ∃ V, lim 2 = V := ⟨_, rfl⟩
  obtain ⟨L3, hL3⟩ : ∃ V, lim 3 = V := ⟨_, rfl⟩
  obtain ⟨L6, hL6⟩ : ∃ V, lim 6 = V := ⟨_, rfl⟩
  rw [hL3, hL2] at HO
  rw [hL1, hL3] at O13
  rw [hL1, hL6] at O16
  rw [hL2, hL3] at O23
  rw [hL3, hL2] at O32
  rw [hL1, hL2] at O12
  rw [hL1, hL3, hL6, hL2] at HA
  rw [hL1, hL3, hL6] at HB
  rw [hL2, hL3] at HD
  clear hL1 hL2 hL3 hL6
  go_enter Tryz.func13, Tryz.ntmps13
  go_wp2_with fail
  refine (HO.out _).mono ?_
  rintro e w1 ⟨_, rfl, q1, r1, rfl, hr, hr2, hf, hf2, hb⟩
  replace S := Lib.hid (natRes2 S.out hr hr2 hf hf2 hb)
  clear hr hr2 hf hf2 hb
  replace S := Lib.hid (S.out.box 28 [.slice q1.a (L3).length q1.c, .slice r1.a (L2).length r1.c])
  go_wp2_with fail
  refine (O13.out _).mono ?_
  rintro e w2 ⟨_, rfl, q2, r2, rfl, hr, hr2, hf, hf2, hb⟩
  replace S := Lib.hid (natRes2 S.out hr hr2 hf hf2 hb)
  clear hr hr2 hf hf2 hb
  obtain ⟨⟨z0, f0, y0, y0a, -⟩, -⟩ := S.out.facts
  go_wp2_with fail
  refine (O16.out _).mono ?_
  rintro e w3 ⟨_, rfl, q3, r3, rfl, hr, hr2, hf, hf2, hb⟩
  replace S := Lib.hid (natRes2 S.out hr hr2 hf hf2 hb)
  clear hr hr2 hf hf2 hb z0 f0 y0 y0a
  obtain ⟨⟨z0, f0, y0, y0a, -⟩, -⟩ := S.out.facts
  go_wp2_with fail
  refine (HA.out _ _ _ _ _ S.out.r3 S.out.r2 S.out.r1 S.out.r0).mono ?_
  rintro e w4 ⟨_, rfl, q4, r4, rfl, hr, hr2, hf, hf2, hb⟩
  replace S := Lib.hid (natRes2 S.out hr hr2 hf hf2 hb)
  clear hr hr2 hf hf2 hb z0 f0 y0 y0a
  obtain ⟨⟨z0, f0, y0, y0a, -⟩, -⟩ := S.out.facts
  replace S := Lib.hid (S.out.box 28 [.slice q4.a (L1).length q4.c, .slice r4.a (L2).length r4.c])
  go_wp2_with fail
  refine (O16.out _).mono ?_
  rintro e w5 ⟨_, rfl, q5, r5, rfl, hr, hr2, hf, hf2, hb⟩
  replace S := Lib.hid (natRes2 S.out hr hr2 hf hf2 hb)
  clear hr hr2 hf hf2 hb z0 f0 y0 y0a
  obtain ⟨⟨z1, f1, y1, y1a, -⟩, ⟨z0, f0, y0, y0a, -⟩, -⟩ := S.out.facts
  go_wp2_with fail
  refine (O13.out _).mono ?_
  rintro e w6 ⟨_, rfl, q6, r6, rfl, hr, hr2, hf, hf2, hb⟩
  replace S := Lib.hid (natRes2 S.out hr hr2 hf hf2 hb)
  clear hr hr2 hf hf2 hb z0 f0 y0 y0a z1 f1 y1 y1a
  obtain ⟨⟨z1, f1, y1, y1a, -⟩, ⟨z0, f0, y0, y0a, -⟩, -⟩ := S.out.facts
  go_wp2_with fail
  refine (HB.out _ _ _ _ _ S.out.r3 S.out.r2 S.out.r1 S.out.r0).mono ?_
  rintro e w7 ⟨_, rfl, q7, r7, rfl, hr, hr2, hf, hf2, hb⟩
  replace S := Lib.hid (natRes2 S.out hr hr2 hf hf2 hb)
  clear hr hr2 hf hf2 hb z0 f0 y0 y0a z1 f1 y1 y1a
  obtain ⟨⟨z1, f1, y1, y1a, -⟩, ⟨z0, f0, y0, y0a, -⟩, -⟩ := S.out.facts
  replace S := Lib.hid (S.out.box 28 [.slice q7.a 0 q7.c, .slice r7.a 0 r7.c])
  go_wp2_with fail
  refine (O23.out _).mono ?_
  rintro e w8 ⟨_, rfl, q8, r8, rfl, hr, hr2, hf, hf2, hb⟩
  replace S := Lib.hid (natRes2 S.out hr hr2 hf hf2 hb)
  clear hr hr2 hf hf2 hb z0 f0 y0 y0a z1 f1 y1 y1a
  obtain ⟨⟨z2, f2, y2, y2a, -⟩, ⟨z1, f1, y1, y1a, -⟩, ⟨z0, f0, y0, y0a, -⟩, -⟩ := S.out.facts
  go_wp2_with fail
  refine (HD.out _ _ _ S.out.r1 S.out.r0 (ht'.out _ S.out.bel)).mono ?_
  rintro e w9 ⟨rfl, hb⟩
  replace S := Lib.hid (S.out.call hb)
  clear hb z0 f0 y0 y0a z1 f1 y1 y1a z2 f2 y2 y2a
  obtain ⟨⟨z2, f2, y2, y2a, -⟩, ⟨z1, f1, y1, y1a, -⟩, ⟨z0, f0, y0, y0a, -⟩, -⟩ := S.out.facts
  go_wp2_with fail
  refine (HP.out _ (hm'.out _ S.out.bel)).mono ?_
  rintro e w10 ⟨_, rfl, q9, r9, rfl, hr, hr2, hf, hf2, hb⟩
  replace S := Lib.hid (natRes2 S.out hr hr2 hf hf2 hb)
  clear hr hr2 hf hf2 hb z0 f0 y0 y0a z1 f1 y1 y1a z2 f2 y2 y2a
  obtain ⟨⟨z2, f2, y2, y2a, -⟩, ⟨z1, f1, y1, y1a, -⟩, ⟨z0, f0, y0, y0a, -⟩, -⟩ := S.out.facts
  replace S := Lib.hid (S.out.box 28 [.slice q9.a 0 q9.c, .slice r9.a 0 r9.c])
  go_wp2_with fail
  replace S := Lib.hid ((S.out.drop _ [rowRd L2 r4, rowRd L1 q4, rowRd L2 r1, rowRd L3 q1] (List.Sublist.refl _) (.cons _ (.cons _ (.cons _ (.cons _ (.cons _ (.cons _ (.cons _ (.cons _ (.cons _ (.cons _ (.cons_cons _ (.cons_cons _ (.cons _ (.cons _ (.cons _ (.cons _ (.cons_cons _ (.cons_cons _ (List.nil_sublist _)))))))))))))))))))).drew)
  clear z0 f0 y0 y0a z1 f1 y1 y1a z2 f2 y2 y2a
  obtain ⟨-, -, ⟨-, -, y1, y1a, -⟩, ⟨-, -, y0, y0a, -⟩, -⟩ := S.out.facts
  go_region_held3 (fun w' => (w'.cell? ⟨w1.heap.size, 0, none⟩ = some (.slice q1.a L3.length q1.c) ∧ w'.cell? ⟨w1.heap.size, 1, none⟩ = some (.slice r1.a L2.length r1.c)) ∧ (w'.cell? ⟨w4.heap.size, 0, none⟩ = some (.slice q4.a L1.length q4.c) ∧ w'.cell? ⟨w4.heap.size, 1, none⟩ = some (.slice r4.a L2.length r4.c))) (go_keep)
    (first
      | ((with_reducible refine (O32.out _).mono ?_); rintro e wx ⟨_, rfl, qx, rx, rfl, hr, hr2, hf, hf2, hb⟩; replace S := Lib.hid (natRes2 S.out hr hr2 hf hf2 hb); clear hr hr2 hf hf2 hb; clear y0 y0a y1 y1a; obtain ⟨-, -, ⟨-, -, y1, y1a, -⟩, ⟨-, -, y0, y0a, -⟩, -⟩ := S.out.facts)
      | ((with_reducible refine (O12.out _).mono ?_); rintro e wx ⟨_, rfl, qx, rx, rfl, hr, hr2, hf, hf2, hb⟩; replace S := Lib.hid (natRes2 S.out hr hr2 hf hf2 hb); clear hr hr2 hf hf2 hb; clear y0 y0a y1 y1a; obtain ⟨-, -, ⟨-, -, y1, y1a, -⟩, ⟨-, -, y0, y0a, -⟩, -⟩ := S.out.facts)
      | ((with_reducible refine (HS.out _ _ _ _ _ _ _ (natOld S.out (by simp)) (natOld S.out (by simp)) (natOld S.out (by simp)) (natOld S.out (by simp))).mono ?_); rintro e wx ⟨rfl, hb⟩; replace S := Lib.hid (S.out.call hb); clear hb; clear y0 y0a y1 y1a; obtain ⟨-, -, ⟨-, -, y1, y1a, -⟩, ⟨-, -, y0, y0a, -⟩, -⟩ := S.out.facts))
  all_goals
    go_wp2
    go_ret
    exact ⟨rfl, S.out.bel⟩
end Go.Proofs.YtoiokopmpcogbaaGreatDoor
