/-
  LAW PowerVerdicts.
  Conditions: the arguments are as they come in.
-/
import Derived.Test.YtpoddmkimhkmoaaPwY
import Derived.Test.YtpoddmkimhkmoaaPb6
import Derived.Test.YtpoddmkimhkmoaaPh3
import Derived.Test.YtpoddmkimhkmoaaPwLp
import Derived.Test.YtpoddmkimhkmoaaPwQ
namespace Go.Proofs.Ytpoddmkimhkmoaa
open Go.RowKit Go.Sv Go.Pw
theorem ofT_bd8 {l : List Int} (h : l.length ≤ 8) : TBd (ofT l) := by
  obtain ⟨L1, L2⟩ := ofT_len l
  exact ⟨by rw [L1]; omega, by rw [L2]; omega⟩
set_option maxHeartbeats 8000000 in
set_option maxRecDepth 100000 in
theorem law_verdicts (l : List Int) (A : Option Addr) (c : Nat) (cn cd : Nat) (w : World) (hn : l.length ≤ 9223372036854775807) (hb : ∀ i, i < l.length → 0 ≤ gi l i ∧ gi l i < 256) (ha : Arr w w.heap.size A l.length (u8v l)) (hcn : cn < 65536) (hcd : cd < 65536) :
    Calls Try.prog 7 #[.slice A l.length c, .agg #[.int .u16 (cn : Int), .int .u16 (cd : Int)]] w (fun e w' => e = .returned (.bool true) ∧ Below w.heap.size w w') := by
  by_cases g : 0 < l.length ∧ l.length ≤ 8
  case neg =>
    have H1 := Lib.hid (fun w' => rof_no l A c w' (by omega) hn)
    have HA := Lib.hid (fun w' => awake_any w')
    have S := Lib.hid (Fm.init w)
    clear g hb ha hcn hcd
    replace S := Lib.hid (S.out.box 38 [.int .u16 (cn : Int), .int .u16 (cd : Int)])
    obtain ⟨⟨z0, f0, y0, y0a, -⟩, -⟩ := S.out.facts
    go_enter Try.func7, Try.ntmps7
    go_wp2_with fail
    refine (H1.out _).mono ?_
    rintro e w1 ⟨_, rfl, q1, rfl, hr, hb⟩
    replace S := Lib.hid (fm_tst S.out hb hr (by simp [NoInt]))
    clear hr hb
    clear z0 f0 y0 y0a
    obtain ⟨⟨z0, f0, y0, y0a, -⟩, -⟩ := S.out.facts
    clear z0 f0 y0 y0a
    replace S := Lib.hid (S.out.box 25 [.slice q1.a0 tst0.acc.length q1.c0, .slice q1.a1 tst0.rej.length q1.c1])
    obtain ⟨⟨z1, f1, y1, y1a, -⟩, ⟨z0, f0, y0, y0a, -⟩, -⟩ := S.out.facts
    go_wp2_with fail
    refine (HA.out _).mono ?_
    rintro e w2 ⟨rfl, hb⟩
    replace S := Lib.hid (S.out.call hb)
    clear hb
    clear z1 f1 y1 y1a z0 f0 y0 y0a
    obtain ⟨⟨z1, f1, y1, y1a, -⟩, ⟨z0, f0, y0, y0a, -⟩, -⟩ := S.out.facts
    go_wp2_with fail
    refine (HA.out _).mono ?_
    rintro e w3 ⟨rfl, hb⟩
    replace S := Lib.hid (S.out.call hb)
    clear hb
    clear z1 f1 y1 y1a z0 f0 y0 y0a
    obtain ⟨⟨z1, f1, y1, y1a, -⟩, ⟨z0, f0, y0, y0a, -⟩, -⟩ := S.out.facts
    go_wp2
    go_ret
    exact ⟨rfl, S.out.bel⟩
  case pos =>
    obtain ⟨L1, L2⟩ := ofT_len l
    have hv := vld_validE (ofT_vld g.1 g.2 (fun i hi => (hb i hi).1))
    have hbd := ofT_bd8 g.2
    have h8 : (ofT l).acc.length ≤ 8 := by rw [L1]; exact g.2
    have hT0 : (ofT l).acc.length = l.length := L1
    have hR0 : (ofT l).rej.length = l.length := L2
    have HA := Lib.hid (fun w' => awake_any w')
    have hOf := Lib.hid (fun w' (hbel : Below w.heap.size w w') => rof_ok l A c w' g.1 g.2 hb ((ha.below hbel).more hbel.size))
    obtain ⟨a, d, hp, hRa⟩ := ratio_any cn cd hcn hcd
    have HF := Lib.hid (fun q qn qd w' h h1 h2 => fail_any (ofT l) q a d qn qd w' h hbd hv hp h1 h2)
    have HRF := Lib.hid (fun q qn qd w' h h1 h2 => rfail_any (ofT l) q a d qn qd w' h hbd hv hp h1 h2 h8)
    have HP := Lib.hid (fun q qn qd w' h h1 h2 => pass_any (ofT l) q a d qn qd w' h hbd hv hp h1 h2)
    have HRP := Lib.hid (fun q qn qd w' h h1 h2 => rpass_any (ofT l) q a d qn qd w' h hbd hv hp h1 h2 h8)
    have c1 := add_one hv hp h8 rfl rfl
    have kp := (pw8 hp h8).1
    obtain ⟨t, ht⟩ : ∃ t, ofT l = t := ⟨_, rfl⟩
    rw [ht] at hOf h8 HF HRF HP HRP c1 kp
    replace hRa := Lib.hid hRa
    clear hv hbd hT0 hR0 L1 L2 ht g hb ha hcn hcd hp
    obtain ⟨FN, hFN⟩ : ∃ v, rdN (allS (VT t) a (d - a) t.acc.length kF) (d ^ t.acc.length) = v := ⟨_, rfl⟩
    obtain ⟨FD, hFD⟩ : ∃ v, rdD (allS (VT t) a (d - a) t.acc.length kF) (d ^ t.acc.length) = v := ⟨_, rfl⟩
    obtain ⟨PN, hPN⟩ : ∃ v, rdN (allS (VT t) a (d - a) t.acc.length kP) (d ^ t.acc.length) = v := ⟨_, rfl⟩
    obtain ⟨PD, hPD⟩ : ∃ v, rdD (allS (VT t) a (d - a) t.acc.length kP) (d ^ t.acc.length) = v := ⟨_, rfl⟩
    have lF : Lim FN ∧ Lim FD := by
      obtain ⟨p, q, e1, e2, -⟩ := rd_val (N := allS (VT t) a (d - a) t.acc.length kF) (D := d ^ t.acc.length) kp
      rw [← hFN, ← hFD, e1, e2]
      exact ⟨lim_lim _, lim_lim _⟩
    have lP : Lim PN ∧ Lim PD := by
      obtain ⟨p, q, e1, e2, -⟩ := rd_val (N := allS (VT t) a (d - a) t.acc.length kP) (D := d ^ t.acc.length) kp
      rw [← hPN, ← hPD, e1, e2]
      exact ⟨lim_lim _, lim_lim _⟩
    rw [hFN, hFD] at HF HRF c1
    rw [hPN, hPD] at HP HRP c1
    clear hFN hFD hPN hPD kp
    have O11 : Hid (∀ w', Calls Try.prog 16 #[.int .u64 1, .int .u64 1] w' (Ret (RRes w' (lim 1) (lim 1)))) := Lib.hid fun w' => by
      have := ofP_any 1 1 w' (by decide) (by decide) (by decide)
      rw [(rd_kk (K := 1) (by decide)).1, (rd_kk (K := 1) (by decide)).2] at this
      exact this
    obtain ⟨One, hOne⟩ : ∃ v, lim 1 = v := ⟨_, rfl⟩
    obtain ⟨La, hLa⟩ : ∃ v, lim a = v := ⟨_, rfl⟩
    obtain ⟨Ld, hLd⟩ : ∃ v, lim d = v := ⟨_, rfl⟩
    rw [hOne] at c1 O11
    rw [hLa, hLd] at HF HRF HP HRP hRa
    clear hOne hLa hLd
    have HAd := Lib.hid (fun q r q' r' w' h1 h2 h3 h4 => show Calls _ _ _ _ (Ret (RRes2 w' (addN FN FD PN PD) (addD FN FD PN PD) (addE FN FD PN PD))) from xadd_any w' FN q h1 lF.1 FD r h2 lF.2 PN q' h3 lP.1 PD r' h4 lP.2)
    rw [c1.1, c1.2.1, c1.2.2] at HAd
    have HSr := Lib.hid (fun n d q r q2 r2 w' h1 h2 h3 h4 => xsame_t w' n d q r q2 r2 h1 h2 h3 h4)
    clear c1 lF lP
    have S := Lib.hid (Fm.init w)
    replace S := Lib.hid (S.out.box 38 [.int .u16 (cn : Int), .int .u16 (cd : Int)])
    obtain ⟨⟨z0, f0, y0, y0a, -⟩, -⟩ := S.out.facts
    go_enter Try.func7, Try.ntmps7
    go_wp2_with fail
    refine (hOf.out _ S.out.bel).mono ?_
    rintro e w1 ⟨_, rfl, q1, rfl, hr, hb⟩
    replace S := Lib.hid (fm_tst S.out hb hr (by simp [NoInt]))
    clear hr hb
    clear z0 f0 y0 y0a
    obtain ⟨⟨z0, f0, y0, y0a, -⟩, -⟩ := S.out.facts
    clear z0 f0 y0 y0a
    replace S := Lib.hid (S.out.box 25 [.slice q1.a0 t.acc.length q1.c0, .slice q1.a1 t.rej.length q1.c1])
    obtain ⟨⟨z1, f1, y1, y1a, -⟩, ⟨z0, f0, y0, y0a, -⟩, -⟩ := S.out.facts
    go_wp2_with fail
    refine (HA.out _).mono ?_
    rintro e w2 ⟨rfl, hb⟩
    replace S := Lib.hid (S.out.call hb)
    clear hb
    clear z1 f1 y1 y1a z0 f0 y0 y0a
    obtain ⟨⟨z1, f1, y1, y1a, -⟩, ⟨z0, f0, y0, y0a, -⟩, -⟩ := S.out.facts
    go_wp2_with fail
    refine (hRa.out _).mono ?_
    rintro e w3 ⟨_, rfl, q3, r3, rfl, hr, hr2, hf, hf2, hb⟩
    replace S := Lib.hid (natRes2 S.out hr hr2 hf hf2 hb)
    clear hr hr2 hf hf2 hb
    clear z1 f1 y1 y1a z0 f0 y0 y0a
    obtain ⟨⟨z1, f1, y1, y1a, -⟩, ⟨z0, f0, y0, y0a, -⟩, -⟩ := S.out.facts
    clear z1 f1 y1 y1a z0 f0 y0 y0a
    replace S := Lib.hid (S.out.box 43 [.slice q3.a La.length q3.c, .slice r3.a Ld.length r3.c])
    obtain ⟨⟨z2, f2, y2, y2a, -⟩, ⟨z1, f1, y1, y1a, -⟩, ⟨z0, f0, y0, y0a, -⟩, -⟩ := S.out.facts
    go_wp2_with fail
    refine (HF.out q1 q3 r3 _ (tstOld S.out (by simp)) (natOld S.out (by simp)) (natOld S.out (by simp))).mono ?_
    rintro e w4 ⟨_, rfl, q4, r4, rfl, hr, hr2, hf, hf2, hb⟩
    replace S := Lib.hid (natRes2 S.out hr hr2 hf hf2 hb)
    clear hr hr2 hf hf2 hb
    clear z2 f2 y2 y2a z1 f1 y1 y1a z0 f0 y0 y0a
    obtain ⟨⟨z2, f2, y2, y2a, -⟩, ⟨z1, f1, y1, y1a, -⟩, ⟨z0, f0, y0, y0a, -⟩, -⟩ := S.out.facts
    clear z2 f2 y2 y2a z1 f1 y1 y1a z0 f0 y0 y0a
    replace S := Lib.hid (S.out.box 43 [.slice q4.a FN.length q4.c, .slice r4.a FD.length r4.c])
    obtain ⟨⟨z3, f3, y3, y3a, -⟩, ⟨z2, f2, y2, y2a, -⟩, ⟨z1, f1, y1, y1a, -⟩, ⟨z0, f0, y0, y0a, -⟩, -⟩ := S.out.facts
    go_wp2_with fail
    refine (HP.out q1 q3 r3 _ (tstOld S.out (by simp)) (natOld S.out (by simp)) (natOld S.out (by simp))).mono ?_
    rintro e w5 ⟨_, rfl, q5, r5, rfl, hr, hr2, hf, hf2, hb⟩
    replace S := Lib.hid (natRes2 S.out hr hr2 hf hf2 hb)
    clear hr hr2 hf hf2 hb
    clear z3 f3 y3 y3a z2 f2 y2 y2a z1 f1 y1 y1a z0 f0 y0 y0a
    obtain ⟨⟨z3, f3, y3, y3a, -⟩, ⟨z2, f2, y2, y2a, -⟩, ⟨z1, f1, y1, y1a, -⟩, ⟨z0, f0, y0, y0a, -⟩, -⟩ := S.out.facts
    clear z3 f3 y3 y3a z2 f2 y2 y2a z1 f1 y1 y1a z0 f0 y0 y0a
    replace S := Lib.hid (S.out.box 43 [.slice q5.a PN.length q5.c, .slice r5.a PD.length r5.c])
    obtain ⟨⟨z4, f4, y4, y4a, -⟩, ⟨z3, f3, y3, y3a, -⟩, ⟨z2, f2, y2, y2a, -⟩, ⟨z1, f1, y1, y1a, -⟩, ⟨z0, f0, y0, y0a, -⟩, -⟩ := S.out.facts
    go_wp2_with fail
    refine (HAd.out q4 r4 q5 r5 _ (natOld S.out (by simp)) (natOld S.out (by simp)) (natOld S.out (by simp)) (natOld S.out (by simp))).mono ?_
    rintro e w6 ⟨_, rfl, q6, r6, rfl, hr, hr2, hf, hf2, hb⟩
    replace S := Lib.hid (natRes2 S.out hr hr2 hf hf2 hb)
    clear hr hr2 hf hf2 hb
    clear z4 f4 y4 y4a z3 f3 y3 y3a z2 f2 y2 y2a z1 f1 y1 y1a z0 f0 y0 y0a
    obtain ⟨⟨z4, f4, y4, y4a, -⟩, ⟨z3, f3, y3, y3a, -⟩, ⟨z2, f2, y2, y2a, -⟩, ⟨z1, f1, y1, y1a, -⟩, ⟨z0, f0, y0, y0a, -⟩, -⟩ := S.out.facts
    clear z4 f4 y4 y4a z3 f3 y3 y3a z2 f2 y2 y2a z1 f1 y1 y1a z0 f0 y0 y0a
    replace S := Lib.hid (S.out.box 43 [.slice q6.a One.length q6.c, .slice r6.a One.length r6.c])
    obtain ⟨⟨z5, f5, y5, y5a, -⟩, ⟨z4, f4, y4, y4a, -⟩, ⟨z3, f3, y3, y3a, -⟩, ⟨z2, f2, y2, y2a, -⟩, ⟨z1, f1, y1, y1a, -⟩, ⟨z0, f0, y0, y0a, -⟩, -⟩ := S.out.facts
    go_wp2_with fail
    replace S := Lib.hid S.out.drew
    clear z5 f5 y5 y5a z4 f4 y4 y4a z3 f3 y3 y3a z2 f2 y2 y2a z1 f1 y1 y1a z0 f0 y0 y0a
    obtain ⟨⟨z5, f5, y5, y5a, -⟩, ⟨z4, f4, y4, y4a, -⟩, ⟨z3, f3, y3, y3a, -⟩, ⟨z2, f2, y2, y2a, -⟩, ⟨z1, f1, y1, y1a, -⟩, ⟨z0, f0, y0, y0a, -⟩, -⟩ := S.out.facts
    go_region_held3 (fun w' => w'.cell? ⟨w6.heap.size, 0, none⟩ = some (.slice q6.a One.length q6.c) ∧ w'.cell? ⟨w6.heap.size, 1, none⟩ = some (.slice r6.a One.length r6.c) ∧ w'.cell? ⟨w5.heap.size, 0, none⟩ = some (.slice q5.a PN.length q5.c) ∧ w'.cell? ⟨w5.heap.size, 1, none⟩ = some (.slice r5.a PD.length r5.c) ∧ w'.cell? ⟨w4.heap.size, 0, none⟩ = some (.slice q4.a FN.length q4.c) ∧ w'.cell? ⟨w4.heap.size, 1, none⟩ = some (.slice r4.a FD.length r4.c) ∧ w'.cell? ⟨w3.heap.size, 0, none⟩ = some (.slice q3.a La.length q3.c) ∧ w'.cell? ⟨w3.heap.size, 1, none⟩ = some (.slice r3.a Ld.length r3.c) ∧ w'.cell? ⟨w1.heap.size, 0, none⟩ = some (.slice q1.a0 t.acc.length q1.c0) ∧ w'.cell? ⟨w1.heap.size, 1, none⟩ = some (.slice q1.a1 t.rej.length q1.c1)) (first | with_reducible assumption | go_keep)
      (first
        | ((with_reducible refine (HRF.out q1 q3 r3 _ (tstOld S.out (by simp)) (natOld S.out (by simp)) (natOld S.out (by simp))).mono ?_); rintro e wx ⟨_, rfl, qx, rx, rfl, hr, hr2, hf, hf2, hb⟩; replace S := Lib.hid (natRes2 S.out hr hr2 hf hf2 hb); clear hr hr2 hf hf2 hb; clear z5 f5 y5 y5a z4 f4 y4 y4a z3 f3 y3 y3a z2 f2 y2 y2a z1 f1 y1 y1a z0 f0 y0 y0a; obtain ⟨⟨z5, f5, y5, y5a, -⟩, ⟨z4, f4, y4, y4a, -⟩, ⟨z3, f3, y3, y3a, -⟩, ⟨z2, f2, y2, y2a, -⟩, ⟨z1, f1, y1, y1a, -⟩, ⟨z0, f0, y0, y0a, -⟩, -⟩ := S.out.facts)
        | ((with_reducible refine (HSr.out FN FD q4 r4 qx rx _ (natOld S.out (by simp)) (natOld S.out (by simp)) (natOld S.out (by simp)) (natOld S.out (by simp))).mono ?_); rintro e wx ⟨rfl, hb⟩; replace S := Lib.hid (S.out.call hb); clear hb; clear z5 f5 y5 y5a z4 f4 y4 y4a z3 f3 y3 y3a z2 f2 y2 y2a z1 f1 y1 y1a z0 f0 y0 y0a; obtain ⟨⟨z5, f5, y5, y5a, -⟩, ⟨z4, f4, y4, y4a, -⟩, ⟨z3, f3, y3, y3a, -⟩, ⟨z2, f2, y2, y2a, -⟩, ⟨z1, f1, y1, y1a, -⟩, ⟨z0, f0, y0, y0a, -⟩, -⟩ := S.out.facts)
        | ((with_reducible refine (HRP.out q1 q3 r3 _ (tstOld S.out (by simp)) (natOld S.out (by simp)) (natOld S.out (by simp))).mono ?_); rintro e wx ⟨_, rfl, qy, ry, rfl, hr, hr2, hf, hf2, hb⟩; replace S := Lib.hid (natRes2 S.out hr hr2 hf hf2 hb); clear hr hr2 hf hf2 hb; clear z5 f5 y5 y5a z4 f4 y4 y4a z3 f3 y3 y3a z2 f2 y2 y2a z1 f1 y1 y1a z0 f0 y0 y0a; obtain ⟨⟨z5, f5, y5, y5a, -⟩, ⟨z4, f4, y4, y4a, -⟩, ⟨z3, f3, y3, y3a, -⟩, ⟨z2, f2, y2, y2a, -⟩, ⟨z1, f1, y1, y1a, -⟩, ⟨z0, f0, y0, y0a, -⟩, -⟩ := S.out.facts)
        | ((with_reducible refine (HSr.out PN PD q5 r5 qy ry _ (natOld S.out (by simp)) (natOld S.out (by simp)) (natOld S.out (by simp)) (natOld S.out (by simp))).mono ?_); rintro e wx ⟨rfl, hb⟩; replace S := Lib.hid (S.out.call hb); clear hb; clear z5 f5 y5 y5a z4 f4 y4 y4a z3 f3 y3 y3a z2 f2 y2 y2a z1 f1 y1 y1a z0 f0 y0 y0a; obtain ⟨⟨z5, f5, y5, y5a, -⟩, ⟨z4, f4, y4, y4a, -⟩, ⟨z3, f3, y3, y3a, -⟩, ⟨z2, f2, y2, y2a, -⟩, ⟨z1, f1, y1, y1a, -⟩, ⟨z0, f0, y0, y0a, -⟩, -⟩ := S.out.facts)
        | ((with_reducible refine (O11.out _).mono ?_); rintro e wx ⟨_, rfl, qz, rz, rfl, hr, hr2, hf, hf2, hb⟩; replace S := Lib.hid (natRes2 S.out hr hr2 hf hf2 hb); clear hr hr2 hf hf2 hb; clear z5 f5 y5 y5a z4 f4 y4 y4a z3 f3 y3 y3a z2 f2 y2 y2a z1 f1 y1 y1a z0 f0 y0 y0a; obtain ⟨⟨z5, f5, y5, y5a, -⟩, ⟨z4, f4, y4, y4a, -⟩, ⟨z3, f3, y3, y3a, -⟩, ⟨z2, f2, y2, y2a, -⟩, ⟨z1, f1, y1, y1a, -⟩, ⟨z0, f0, y0, y0a, -⟩, -⟩ := S.out.facts)
        | ((with_reducible refine (HSr.out One One q6 r6 qz rz _ (natOld S.out (by simp)) (natOld S.out (by simp)) (natOld S.out (by simp)) (natOld S.out (by simp))).mono ?_); rintro e wx ⟨rfl, hb⟩; replace S := Lib.hid (S.out.call hb); clear hb; clear z5 f5 y5 y5a z4 f4 y4 y4a z3 f3 y3 y3a z2 f2 y2 y2a z1 f1 y1 y1a z0 f0 y0 y0a; obtain ⟨⟨z5, f5, y5, y5a, -⟩, ⟨z4, f4, y4, y4a, -⟩, ⟨z3, f3, y3, y3a, -⟩, ⟨z2, f2, y2, y2a, -⟩, ⟨z1, f1, y1, y1a, -⟩, ⟨z0, f0, y0, y0a, -⟩, -⟩ := S.out.facts))
    go_wp2
    go_ret
    exact ⟨rfl, S.out.bel⟩
end Go.Proofs.Ytpoddmkimhkmoaa
