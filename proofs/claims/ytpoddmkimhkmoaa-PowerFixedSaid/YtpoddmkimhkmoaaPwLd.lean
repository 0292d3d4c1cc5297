/-
  LAW PowerFixed.
  Conditions: the arguments are as they come in.
-/
import Derived.Test.YtpoddmkimhkmoaaPwY
import Derived.Test.YtpoddmkimhkmoaaPb6
import Derived.Test.YtpoddmkimhkmoaaPwLp
namespace Go.Proofs.Ytpoddmkimhkmoaa
open Go.RowKit Go.Sv Go.Pw
set_option maxHeartbeats 8000000 in
set_option maxRecDepth 100000 in
theorem law_fixed (n cn cd : Nat) (w : World) (_hn : n < 256) (hcn : cn < 65536) (_hcd : cd < 65536) :
    Calls Try.prog 5 #[.int .u8 (n : Int), .agg #[.int .u16 (cn : Int), .int .u16 (cd : Int)]] w (fun e w' => e = .returned (.bool true) ∧ Below w.heap.size w w') := by
  have HA := Lib.hid (fun w' => awake_any w')
  obtain ⟨k, hk⟩ : ∃ k : Nat, k = 1 + n % 64 := ⟨_, rfl⟩
  have k0 : 0 < k := by omega
  have k1 : k ≤ 64 := by omega
  obtain ⟨a, d, hp, hRa⟩ := ratio_any cn (cd % 100) hcn (by omega)
  have hF0 := Lib.hid (fun w' => rfixed_ok k 0 w' k0 k1 (by omega) (by omega))
  have hF1 := Lib.hid (fun w' => rfixed_ok k (k : Int) w' k0 k1 (by omega) (by omega))
  have v0 := vld_validE (fixT_vld (n := k) (c := 0) k0 k1 (by omega) (by omega))
  have v1 := vld_validE (fixT_vld (n := k) (c := (k : Int)) k0 k1 (by omega) (by omega))
  have l0 := fixT_len (n := k) 0 k0
  have l1 := fixT_len (n := k) (k : Int) k0
  have HP0 := Lib.hid (fun q qn qd w' h h1 h2 => by
    have := pass_any (fixT k 0) q a d qn qd w' h ⟨by rw [l0.1]; omega, by rw [l0.2]; omega⟩ v0 hp h1 h2
    rw [l0.1, (fix_none k0 hp).1, (fix_none k0 hp).2] at this
    exact this)
  have HP1 := Lib.hid (fun q qn qd w' h h1 h2 => by
    have := pass_any (fixT k (k : Int)) q a d qn qd w' h ⟨by rw [l1.1]; omega, by rw [l1.2]; omega⟩ v1 hp h1 h2
    rw [l1.1, (fix_all k0 hp).1, (fix_all k0 hp).2] at this
    exact this)
  have hle := hp.le
  have hd2 := hp.d2
  have hsm : ∀ x, x ≤ 1000 → sm (x ^ k) := fun x hx => sm_b (Nat.le_trans (big_pow hx k1) (Nat.le_mul_of_pos_left _ (by decide)))
  have HSb := Lib.hid (fun q r q' r' w' h1 h2 h3 h4 => by
    have := rsub1 w' (a := a) (d := d) q r q' r' h1 h2 h3 h4 hp.v hle hd2
    have g : Nat.gcd (d - a) d = 1 := (Nat.gcd_self_sub_left hle).trans hp.g
    rw [(rd_self hp.d1 g).1, (rd_self hp.d1 g).2] at this
    exact this)
  obtain ⟨E1, hE1⟩ : ∃ v, powE (lim (d - a)) (k : Int) = v := ⟨_, rfl⟩
  obtain ⟨E2, hE2⟩ : ∃ v, powE (lim d) (k : Int) = v := ⟨_, rfl⟩
  have HW1 := Lib.hid (fun q w' h => by
    have := rpow_any (lim (d - a)) q (k : Int) w' h (lim_lim _) (by omega)
    rw [pow_lim (sm_s (by omega)) (hsm _ (by omega)), hE1] at this
    exact this)
  have HW2 := Lib.hid (fun q w' h => by
    have := rpow_any (lim d) q (k : Int) w' h (lim_lim _) (by omega)
    rw [pow_lim (sm_s (by omega)) (hsm _ (by omega)), hE2] at this
    exact this)
  have O11 : Hid (∀ w', Calls Try.prog 16 #[.int .u64 1, .int .u64 1] w' (Ret (RRes w' (lim 1) (lim 1)))) := Lib.hid fun w' => by
    have := ofP_any 1 1 w' (by decide) (by decide) (by decide)
    rw [(rd_kk (K := 1) (by decide)).1, (rd_kk (K := 1) (by decide)).2] at this
    exact this
  obtain ⟨One, hOne⟩ : ∃ v, lim 1 = v := ⟨_, rfl⟩
  obtain ⟨La, hLa⟩ : ∃ v, lim a = v := ⟨_, rfl⟩
  obtain ⟨Ld, hLd⟩ : ∃ v, lim d = v := ⟨_, rfl⟩
  obtain ⟨Lb, hLb⟩ : ∃ v, lim (d - a) = v := ⟨_, rfl⟩
  obtain ⟨Un, hUn⟩ : ∃ v, lim ((d - a) ^ k) = v := ⟨_, rfl⟩
  obtain ⟨Ud, hUd⟩ : ∃ v, lim (d ^ k) = v := ⟨_, rfl⟩
  rw [hOne] at O11 HP1 HSb
  rw [hLa, hLd] at HP0 HP1 HSb hRa
  rw [hLd] at HW2
  rw [hLb] at HSb HW1
  rw [hUn] at HP0 HW1
  rw [hUd] at HP0 HW2
  clear hOne hLa hLd hLb hUn hUd hE1 hE2 hsm hle hd2 v0 v1 hp
  have HSr := Lib.hid (fun n d q r q2 r2 w' h1 h2 h3 h4 => xsame_t w' n d q r q2 r2 h1 h2 h3 h4)
  obtain ⟨T0, hT0⟩ : ∃ v, fixT k 0 = v := ⟨_, rfl⟩
  obtain ⟨T1, hT1⟩ : ∃ v, fixT k (k : Int) = v := ⟨_, rfl⟩
  rw [hT0] at hF0 HP0
  rw [hT1] at hF1 HP1
  clear hT0 hT1 l0 l1
  have m1 : ((cd % 100 : Nat) : Int) = (cd : Int) % 100 := by simp
  rw [m1] at hRa
  replace hRa := Lib.hid hRa
  have hk2 : 1 + (n : Int) % 64 = (k : Int) := by omega
  have b1 : IntKind.u8.wrap ((n : Int) % 64) = (n : Int) % 64 := by simp [IntKind.wrap, IntKind.bits, IntKind.signed]; omega
  have b2 : IntKind.i64.wrap ((n : Int) % 64) = (n : Int) % 64 := IntWalk.i64_in _ (by omega)
  have b3 : IntKind.i64.wrap (k : Int) = (k : Int) := IntWalk.i64_in _ (by omega)
  have b4 : IntKind.u16.wrap ((cd : Int) % 100) = (cd : Int) % 100 := by simp [IntKind.wrap, IntKind.bits, IntKind.signed]; omega
  clear m1 hk hcn k0 k1
  have S := Lib.hid (Fm.init w)
  replace S := Lib.hid (S.out.box 38 [.int .u16 (cn : Int), .int .u16 (cd : Int)])
  obtain ⟨⟨z0, f0, y0, y0a, -⟩, -⟩ := S.out.facts
  go_enter Try.func5, Try.ntmps5
  go_wp2_with fail
  refine (HA.out _).mono ?_
  rintro e w1 ⟨rfl, hb⟩
  replace S := Lib.hid (S.out.call hb)
  clear hb
  clear z0 f0 y0 y0a
  obtain ⟨⟨z0, f0, y0, y0a, -⟩, -⟩ := S.out.facts
  go_wp2_with fail
  replace S := Lib.hid (S.out.set 0 rfl 1 (.int .u16 ((cd : Int) % 100)))
  refine (hRa.out _).mono ?_
  rintro e w2 ⟨_, rfl, q2, r2, rfl, hr, hr2, hf, hf2, hb⟩
  replace S := Lib.hid (natRes2 S.out hr hr2 hf hf2 hb)
  clear hr hr2 hf hf2 hb
  clear z0 f0 y0 y0a
  obtain ⟨⟨z0, f0, y0, y0a, -⟩, -⟩ := S.out.facts
  clear z0 f0 y0 y0a
  replace S := Lib.hid (S.out.box 43 [.slice q2.a La.length q2.c, .slice r2.a Ld.length r2.c])
  obtain ⟨⟨z1, f1, y1, y1a, -⟩, ⟨z0, f0, y0, y0a, -⟩, -⟩ := S.out.facts
  go_wp2_with fail
  refine (hF0.out _).mono ?_
  rintro e w3 ⟨_, rfl, q3, rfl, hr, hb⟩
  replace S := Lib.hid (fm_tst S.out hb hr (by simp [NoInt]))
  clear hr hb
  clear z1 f1 y1 y1a z0 f0 y0 y0a
  obtain ⟨⟨z1, f1, y1, y1a, -⟩, ⟨z0, f0, y0, y0a, -⟩, -⟩ := S.out.facts
  clear z1 f1 y1 y1a z0 f0 y0 y0a
  replace S := Lib.hid (S.out.box 25 [.slice q3.a0 T0.acc.length q3.c0, .slice q3.a1 T0.rej.length q3.c1])
  obtain ⟨⟨z2, f2, y2, y2a, -⟩, ⟨z1, f1, y1, y1a, -⟩, ⟨z0, f0, y0, y0a, -⟩, -⟩ := S.out.facts
  go_wp2_with fail
  refine (hF1.out _).mono ?_
  rintro e w4 ⟨_, rfl, q4, rfl, hr, hb⟩
  replace S := Lib.hid (fm_tst S.out hb hr (by simp [NoInt]))
  clear hr hb
  clear z2 f2 y2 y2a z1 f1 y1 y1a z0 f0 y0 y0a
  obtain ⟨⟨z2, f2, y2, y2a, -⟩, ⟨z1, f1, y1, y1a, -⟩, ⟨z0, f0, y0, y0a, -⟩, -⟩ := S.out.facts
  clear z2 f2 y2 y2a z1 f1 y1 y1a z0 f0 y0 y0a
  replace S := Lib.hid (S.out.box 25 [.slice q4.a0 T1.acc.length q4.c0, .slice q4.a1 T1.rej.length q4.c1])
  obtain ⟨⟨z3, f3, y3, y3a, -⟩, ⟨z2, f2, y2, y2a, -⟩, ⟨z1, f1, y1, y1a, -⟩, ⟨z0, f0, y0, y0a, -⟩, -⟩ := S.out.facts
  go_wp2_with fail
  refine (HP0.out q3 q2 r2 _ (tstOld S.out (by simp)) (natOld S.out (by simp)) (natOld S.out (by simp))).mono ?_
  rintro e w5 ⟨_, rfl, q5, r5, rfl, hr, hr2, hf, hf2, hb⟩
  replace S := Lib.hid (natRes2 S.out hr hr2 hf hf2 hb)
  clear hr hr2 hf hf2 hb
  clear z3 f3 y3 y3a z2 f2 y2 y2a z1 f1 y1 y1a z0 f0 y0 y0a
  obtain ⟨⟨z3, f3, y3, y3a, -⟩, ⟨z2, f2, y2, y2a, -⟩, ⟨z1, f1, y1, y1a, -⟩, ⟨z0, f0, y0, y0a, -⟩, -⟩ := S.out.facts
  clear z3 f3 y3 y3a z2 f2 y2 y2a z1 f1 y1 y1a z0 f0 y0 y0a
  replace S := Lib.hid (S.out.box 43 [.slice q5.a Un.length q5.c, .slice r5.a Ud.length r5.c])
  obtain ⟨⟨z4, f4, y4, y4a, -⟩, ⟨z3, f3, y3, y3a, -⟩, ⟨z2, f2, y2, y2a, -⟩, ⟨z1, f1, y1, y1a, -⟩, ⟨z0, f0, y0, y0a, -⟩, -⟩ := S.out.facts
  go_wp2_with fail
  refine (HP1.out q4 q2 r2 _ (tstOld S.out (by simp)) (natOld S.out (by simp)) (natOld S.out (by simp))).mono ?_
  rintro e w6 ⟨_, rfl, q6, r6, rfl, hr, hr2, hf, hf2, hb⟩
  replace S := Lib.hid (natRes2 S.out hr hr2 hf hf2 hb)
  clear hr hr2 hf hf2 hb
  clear z4 f4 y4 y4a z3 f3 y3 y3a z2 f2 y2 y2a z1 f1 y1 y1a z0 f0 y0 y0a
  obtain ⟨⟨z4, f4, y4, y4a, -⟩, ⟨z3, f3, y3, y3a, -⟩, ⟨z2, f2, y2, y2a, -⟩, ⟨z1, f1, y1, y1a, -⟩, ⟨z0, f0, y0, y0a, -⟩, -⟩ := S.out.facts
  clear z4 f4 y4 y4a z3 f3 y3 y3a z2 f2 y2 y2a z1 f1 y1 y1a z0 f0 y0 y0a
  replace S := Lib.hid (S.out.box 43 [.slice q6.a One.length q6.c, .slice r6.a One.length r6.c])
  obtain ⟨⟨z5, f5, y5, y5a, -⟩, ⟨z4, f4, y4, y4a, -⟩, ⟨z3, f3, y3, y3a, -⟩, ⟨z2, f2, y2, y2a, -⟩, ⟨z1, f1, y1, y1a, -⟩, ⟨z0, f0, y0, y0a, -⟩, -⟩ := S.out.facts
  go_upto_region 10 with fail
  go_cut [15, 16] (fun s15 s16 wx => ∃ (B15 : Nat) (q7 r7 : LmP), s15 = .pointer (some ⟨B15, 0, none⟩) ∧ s16 = .int .i64 0 ∧ Hid (Fm w wx [⟨B15, 43, [.slice q7.a Lb.length q7.c, .slice r7.a Ld.length r7.c]⟩, ⟨w6.heap.size, 43, [.slice q6.a One.length q6.c, .slice r6.a One.length r6.c]⟩, ⟨w5.heap.size, 43, [.slice q5.a Un.length q5.c, .slice r5.a Ud.length r5.c]⟩, ⟨w4.heap.size, 25, [.slice q4.a0 T1.acc.length q4.c0, .slice q4.a1 T1.rej.length q4.c1]⟩, ⟨w3.heap.size, 25, [.slice q3.a0 T0.acc.length q3.c0, .slice q3.a1 T0.rej.length q3.c1]⟩, ⟨w2.heap.size, 43, [.slice q2.a La.length q2.c, .slice r2.a Ld.length r2.c]⟩, ⟨w.heap.size, 38, [.int .u16 (cn : Int), .int .u16 ((cd : Int) % 100)]⟩] [rowRd Ld r7, rowRd Lb q7, rowRd One r6, rowRd One q6, rowRd Ud r5, rowRd Un q5]))
  case first =>
    clear z5 f5 y5 y5a z4 f4 y4 y4a z3 f3 y3 y3a z2 f2 y2 y2a z1 f1 y1 y1a z0 f0 y0 y0a
    generalize w6.alloc (.cells #[.slice q6.a One.length q6.c, .slice r6.a One.length r6.c] 43) = W3 at S ⊢
    obtain ⟨⟨z5, f5, y5, y5a, -⟩, ⟨z4, f4, y4, y4a, -⟩, ⟨z3, f3, y3, y3a, -⟩, ⟨z2, f2, y2, y2a, -⟩, ⟨z1, f1, y1, y1a, -⟩, ⟨z0, f0, y0, y0a, -⟩, -⟩ := S.out.facts
    have nbl1 := Nat.ne_of_lt z1
    have nbg1 := Nat.ne_of_gt z1
    have zz1 := z1
    clear z5 f5 y5 y5a z4 f4 y4 y4a z3 f3 y3 y3a z2 f2 y2 y2a z1 f1 y1 y1a z0 f0 y0 y0a
    have S3 := S
    have hkA : (W3.alloc (.cells #[.slice none 0 0, .slice none 0 0] 43)).drew.cell? ⟨w2.heap.size, 0, none⟩ = some (.slice q2.a La.length q2.c) ∧ (W3.alloc (.cells #[.slice none 0 0, .slice none 0 0] 43)).drew.cell? ⟨w2.heap.size, 1, none⟩ = some (.slice r2.a Ld.length r2.c) := by
      obtain ⟨⟨z6, f6, y6, y6a, -⟩, ⟨z5, f5, y5, y5a, -⟩, ⟨z4, f4, y4, y4a, -⟩, ⟨z3, f3, y3, y3a, -⟩, ⟨z2, f2, y2, y2a, -⟩, ⟨z1, f1, y1, y1a, -⟩, ⟨z0, f0, y0, y0a, -⟩, -⟩ := (S3.out.box 43 [.slice none 0 0, .slice none 0 0]).drew.facts
      exact ⟨y1, y1a⟩
    replace S := Lib.hid S.out.drew
    obtain ⟨⟨z5, f5, y5, y5a, -⟩, ⟨z4, f4, y4, y4a, -⟩, ⟨z3, f3, y3, y3a, -⟩, ⟨z2, f2, y2, y2a, -⟩, ⟨z1, f1, y1, y1a, -⟩, ⟨z0, f0, y0, y0a, -⟩, -⟩ := S.out.facts
    go_region_held3 (fun w' => w'.cell? ⟨w2.heap.size, 0, none⟩ = some (.slice q2.a La.length q2.c) ∧ w'.cell? ⟨w2.heap.size, 1, none⟩ = some (.slice r2.a Ld.length r2.c)) (first | with_reducible assumption | go_keep)
      (first
        | ((with_reducible refine (O11.out _).mono ?_); rintro e wx ⟨_, rfl, qx, qy, rfl, hr, hr2, hf, hf2, hb⟩; replace S := Lib.hid (natRes2 ((S3.out.box 43 [.slice none 0 0, .slice none 0 0]).drew) hr hr2 hf hf2 hb); clear hr hr2 hf hf2 hb; clear z5 f5 y5 y5a z4 f4 y4 y4a z3 f3 y3 y3a z2 f2 y2 y2a z1 f1 y1 y1a z0 f0 y0 y0a; obtain ⟨⟨z6, f6, y6, y6a, -⟩, ⟨z5, f5, y5, y5a, -⟩, ⟨z4, f4, y4, y4a, -⟩, ⟨z3, f3, y3, y3a, -⟩, ⟨z2, f2, y2, y2a, -⟩, ⟨z1, f1, y1, y1a, -⟩, ⟨z0, f0, y0, y0a, -⟩, -⟩ := S.out.facts)
        | ((with_reducible refine (O11.out _).mono ?_); rintro e wx ⟨_, rfl, qx, qy, rfl, hr, hr2, hf, hf2, hb⟩; replace S := Lib.hid (natRes2 S.out hr hr2 hf hf2 hb); clear hr hr2 hf hf2 hb; clear z6 f6 y6 y6a z5 f5 y5 y5a z4 f4 y4 y4a z3 f3 y3 y3a z2 f2 y2 y2a z1 f1 y1 y1a z0 f0 y0 y0a; obtain ⟨⟨z6, f6, y6, y6a, -⟩, ⟨z5, f5, y5, y5a, -⟩, ⟨z4, f4, y4, y4a, -⟩, ⟨z3, f3, y3, y3a, -⟩, ⟨z2, f2, y2, y2a, -⟩, ⟨z1, f1, y1, y1a, -⟩, ⟨z0, f0, y0, y0a, -⟩, -⟩ := S.out.facts)
        | ((with_reducible refine (HSb.out qx qy q2 r2 _ (natOld S.out (by simp)) (natOld S.out (by simp)) (natOld S.out (by simp)) (natOld S.out (by simp))).mono ?_); rintro e wx ⟨_, rfl, qx, qy, rfl, hr, hr2, hf, hf2, hb⟩; replace S := Lib.hid (natRes2 S.out hr hr2 hf hf2 hb); clear hr hr2 hf hf2 hb; clear z6 f6 y6 y6a z5 f5 y5 y5a z4 f4 y4 y4a z3 f3 y3 y3a z2 f2 y2 y2a z1 f1 y1 y1a z0 f0 y0 y0a; obtain ⟨⟨z6, f6, y6, y6a, -⟩, ⟨z5, f5, y5, y5a, -⟩, ⟨z4, f4, y4, y4a, -⟩, ⟨z3, f3, y3, y3a, -⟩, ⟨z2, f2, y2, y2a, -⟩, ⟨z1, f1, y1, y1a, -⟩, ⟨z0, f0, y0, y0a, -⟩, -⟩ := S.out.facts)
        | ((with_reducible refine (O11.out _).mono ?_); rintro e wx ⟨_, rfl, qx, qy, rfl, hr, hr2, hf, hf2, hb⟩; replace S := Lib.hid (natRes2 S.out hr hr2 hf hf2 hb); clear hr hr2 hf hf2 hb; clear z5 f5 y5 y5a z4 f4 y4 y4a z3 f3 y3 y3a z2 f2 y2 y2a z1 f1 y1 y1a z0 f0 y0 y0a; obtain ⟨⟨z5, f5, y5, y5a, -⟩, ⟨z4, f4, y4, y4a, -⟩, ⟨z3, f3, y3, y3a, -⟩, ⟨z2, f2, y2, y2a, -⟩, ⟨z1, f1, y1, y1a, -⟩, ⟨z0, f0, y0, y0a, -⟩, -⟩ := S.out.facts)
        | ((with_reducible refine (HSb.out qx qy q2 r2 _ (natOld S.out (by simp)) (natOld S.out (by simp)) (natOld S.out (by simp)) (natOld S.out (by simp))).mono ?_); rintro e wx ⟨_, rfl, qx, qy, rfl, hr, hr2, hf, hf2, hb⟩; replace S := Lib.hid (natRes2 S.out hr hr2 hf hf2 hb); clear hr hr2 hf hf2 hb; clear z5 f5 y5 y5a z4 f4 y4 y4a z3 f3 y3 y3a z2 f2 y2 y2a z1 f1 y1 y1a z0 f0 y0 y0a; obtain ⟨⟨z5, f5, y5, y5a, -⟩, ⟨z4, f4, y4, y4a, -⟩, ⟨z3, f3, y3, y3a, -⟩, ⟨z2, f2, y2, y2a, -⟩, ⟨z1, f1, y1, y1a, -⟩, ⟨z0, f0, y0, y0a, -⟩, -⟩ := S.out.facts)
        | ((with_reducible refine (O11.out _).mono ?_); rintro e wx ⟨_, rfl, qx, qy, rfl, hr, hr2, hf, hf2, hb⟩; replace S := Lib.hid (natRes2 (S.out.box 43 [.slice none 0 0, .slice none 0 0]) hr hr2 hf hf2 hb); clear hr hr2 hf hf2 hb; have nbl1 := Nat.ne_of_lt z1; have nbg1 := Nat.ne_of_gt z1; clear z5 f5 y5 y5a z4 f4 y4 y4a z3 f3 y3 y3a z2 f2 y2 y2a z1 f1 y1 y1a z0 f0 y0 y0a; obtain ⟨⟨z6, f6, y6, y6a, -⟩, ⟨z5, f5, y5, y5a, -⟩, ⟨z4, f4, y4, y4a, -⟩, ⟨z3, f3, y3, y3a, -⟩, ⟨z2, f2, y2, y2a, -⟩, ⟨z1, f1, y1, y1a, -⟩, ⟨z0, f0, y0, y0a, -⟩, -⟩ := S.out.facts)
        | ((with_reducible refine (HSb.out qx qy q2 r2 _ (natOld (S.out.box 43 [.slice none 0 0, .slice none 0 0]) (by simp)) (natOld (S.out.box 43 [.slice none 0 0, .slice none 0 0]) (by simp)) (natOld (S.out.box 43 [.slice none 0 0, .slice none 0 0]) (by simp)) (natOld (S.out.box 43 [.slice none 0 0, .slice none 0 0]) (by simp))).mono ?_); rintro e wx ⟨_, rfl, qx, qy, rfl, hr, hr2, hf, hf2, hb⟩; replace S := Lib.hid (natRes2 (S.out.box 43 [.slice none 0 0, .slice none 0 0]) hr hr2 hf hf2 hb); clear hr hr2 hf hf2 hb; have nbl1 := Nat.ne_of_lt z1; have nbg1 := Nat.ne_of_gt z1; clear z5 f5 y5 y5a z4 f4 y4 y4a z3 f3 y3 y3a z2 f2 y2 y2a z1 f1 y1 y1a z0 f0 y0 y0a; obtain ⟨⟨z6, f6, y6, y6a, -⟩, ⟨z5, f5, y5, y5a, -⟩, ⟨z4, f4, y4, y4a, -⟩, ⟨z3, f3, y3, y3a, -⟩, ⟨z2, f2, y2, y2a, -⟩, ⟨z1, f1, y1, y1a, -⟩, ⟨z0, f0, y0, y0a, -⟩, -⟩ := S.out.facts))
    all_goals (go_wp2_with fail; go_meet)
    all_goals
      first
        | exact ⟨_, qx, qy, rfl, rfl, Lib.hid (fm_sel (S.out.box 43 [.slice qx.a Lb.length qx.c, .slice qy.a Ld.length qy.c]) _ _ (List.Sublist.refl _) (by simp))⟩
        | exact ⟨_, qx, qy, rfl, rfl, Lib.hid (fm_sel ((S.out.set 0 rfl 0 (.slice qx.a Lb.length qx.c)).set 0 rfl 1 (.slice qy.a Ld.length qy.c)) _ _ (List.Sublist.refl _) (by simp))⟩
  case rest =>
    clear S HSb z5 f5 y5 y5a z4 f4 y4 y4a z3 f3 y3 y3a z2 f2 y2 y2a z1 f1 y1 y1a z0 f0 y0 y0a
    obtain ⟨B15, q7, r7, rfl, rfl, S⟩ := hcut
    obtain ⟨⟨z6, f6, y6, y6a, -⟩, ⟨z5, f5, y5, y5a, -⟩, ⟨z4, f4, y4, y4a, -⟩, ⟨z3, f3, y3, y3a, -⟩, ⟨z2, f2, y2, y2a, -⟩, ⟨z1, f1, y1, y1a, -⟩, ⟨z0, f0, y0, y0a, -⟩, -⟩ := S.out.facts
    go_wp2_with fail
    refine (HW1.out q7 _ (natOld S.out (by simp))).mono ?_
    rintro e w8 ⟨_, rfl, q8, rfl, hr, hb⟩
    replace S := Lib.hid (natOf S.out hr hb (by simp))
    clear hr hb
    clear z6 f6 y6 y6a z5 f5 y5 y5a z4 f4 y4 y4a z3 f3 y3 y3a z2 f2 y2 y2a z1 f1 y1 y1a z0 f0 y0 y0a
    obtain ⟨⟨z6, f6, y6, y6a, -⟩, ⟨z5, f5, y5, y5a, -⟩, ⟨z4, f4, y4, y4a, -⟩, ⟨z3, f3, y3, y3a, -⟩, ⟨z2, f2, y2, y2a, -⟩, ⟨z1, f1, y1, y1a, -⟩, ⟨z0, f0, y0, y0a, -⟩, -⟩ := S.out.facts
    clear z6 f6 y6 y6a z5 f5 y5 y5a z4 f4 y4 y4a z3 f3 y3 y3a z2 f2 y2 y2a z1 f1 y1 y1a z0 f0 y0 y0a
    replace S := Lib.hid (S.out.box 41 [.slice q8.a Un.length q8.c])
    obtain ⟨⟨z7, f7, y7, -⟩, ⟨z6, f6, y6, y6a, -⟩, ⟨z5, f5, y5, y5a, -⟩, ⟨z4, f4, y4, y4a, -⟩, ⟨z3, f3, y3, y3a, -⟩, ⟨z2, f2, y2, y2a, -⟩, ⟨z1, f1, y1, y1a, -⟩, ⟨z0, f0, y0, y0a, -⟩, -⟩ := S.out.facts
    go_wp2_with fail
    refine (HW2.out r7 _ (natOld S.out (by simp))).mono ?_
    rintro e w9 ⟨_, rfl, q9, rfl, hr, hb⟩
    replace S := Lib.hid (natOf S.out hr hb (by simp))
    clear hr hb
    clear z7 f7 y7 z6 f6 y6 y6a z5 f5 y5 y5a z4 f4 y4 y4a z3 f3 y3 y3a z2 f2 y2 y2a z1 f1 y1 y1a z0 f0 y0 y0a
    obtain ⟨⟨z7, f7, y7, -⟩, ⟨z6, f6, y6, y6a, -⟩, ⟨z5, f5, y5, y5a, -⟩, ⟨z4, f4, y4, y4a, -⟩, ⟨z3, f3, y3, y3a, -⟩, ⟨z2, f2, y2, y2a, -⟩, ⟨z1, f1, y1, y1a, -⟩, ⟨z0, f0, y0, y0a, -⟩, -⟩ := S.out.facts
    clear z7 f7 y7 z6 f6 y6 y6a z5 f5 y5 y5a z4 f4 y4 y4a z3 f3 y3 y3a z2 f2 y2 y2a z1 f1 y1 y1a z0 f0 y0 y0a
    replace S := Lib.hid (S.out.box 41 [.slice q9.a Ud.length q9.c])
    obtain ⟨⟨z8, f8, y8, -⟩, ⟨z7, f7, y7, -⟩, ⟨z6, f6, y6, y6a, -⟩, ⟨z5, f5, y5, y5a, -⟩, ⟨z4, f4, y4, y4a, -⟩, ⟨z3, f3, y3, y3a, -⟩, ⟨z2, f2, y2, y2a, -⟩, ⟨z1, f1, y1, y1a, -⟩, ⟨z0, f0, y0, y0a, -⟩, -⟩ := S.out.facts
    go_wp2_with fail
    replace S := Lib.hid S.out.drew
    clear z8 f8 y8 z7 f7 y7 z6 f6 y6 y6a z5 f5 y5 y5a z4 f4 y4 y4a z3 f3 y3 y3a z2 f2 y2 y2a z1 f1 y1 y1a z0 f0 y0 y0a
    obtain ⟨⟨z8, f8, y8, -⟩, ⟨z7, f7, y7, -⟩, ⟨z6, f6, y6, y6a, -⟩, ⟨z5, f5, y5, y5a, -⟩, ⟨z4, f4, y4, y4a, -⟩, ⟨z3, f3, y3, y3a, -⟩, ⟨z2, f2, y2, y2a, -⟩, ⟨z1, f1, y1, y1a, -⟩, ⟨z0, f0, y0, y0a, -⟩, -⟩ := S.out.facts
    go_region_held3 (fun w' => w'.cell? ⟨w6.heap.size, 0, none⟩ = some (.slice q6.a One.length q6.c) ∧ w'.cell? ⟨w6.heap.size, 1, none⟩ = some (.slice r6.a One.length r6.c) ∧ w'.cell? ⟨w5.heap.size, 0, none⟩ = some (.slice q5.a Un.length q5.c) ∧ w'.cell? ⟨w5.heap.size, 1, none⟩ = some (.slice r5.a Ud.length r5.c) ∧ w'.cell? ⟨w8.heap.size, 0, none⟩ = some (.slice q8.a Un.length q8.c) ∧ w'.cell? ⟨w9.heap.size, 0, none⟩ = some (.slice q9.a Ud.length q9.c)) (first | with_reducible assumption | go_keep)
      (first
        | ((with_reducible refine (O11.out _).mono ?_); rintro e wx ⟨_, rfl, qx, rx, rfl, hr, hr2, hf, hf2, hb⟩; replace S := Lib.hid (natRes2 S.out hr hr2 hf hf2 hb); clear hr hr2 hf hf2 hb; clear z8 f8 y8 z7 f7 y7 z6 f6 y6 y6a z5 f5 y5 y5a z4 f4 y4 y4a z3 f3 y3 y3a z2 f2 y2 y2a z1 f1 y1 y1a z0 f0 y0 y0a; obtain ⟨⟨z8, f8, y8, -⟩, ⟨z7, f7, y7, -⟩, ⟨z6, f6, y6, y6a, -⟩, ⟨z5, f5, y5, y5a, -⟩, ⟨z4, f4, y4, y4a, -⟩, ⟨z3, f3, y3, y3a, -⟩, ⟨z2, f2, y2, y2a, -⟩, ⟨z1, f1, y1, y1a, -⟩, ⟨z0, f0, y0, y0a, -⟩, -⟩ := S.out.facts)
        | ((with_reducible refine (HSr.out One One q6 r6 qx rx _ (natOld S.out (by simp)) (natOld S.out (by simp)) (natOld S.out (by simp)) (natOld S.out (by simp))).mono ?_); rintro e wx ⟨rfl, hb⟩; replace S := Lib.hid (S.out.call hb); clear hb; clear z8 f8 y8 z7 f7 y7 z6 f6 y6 y6a z5 f5 y5 y5a z4 f4 y4 y4a z3 f3 y3 y3a z2 f2 y2 y2a z1 f1 y1 y1a z0 f0 y0 y0a; obtain ⟨⟨z8, f8, y8, -⟩, ⟨z7, f7, y7, -⟩, ⟨z6, f6, y6, y6a, -⟩, ⟨z5, f5, y5, y5a, -⟩, ⟨z4, f4, y4, y4a, -⟩, ⟨z3, f3, y3, y3a, -⟩, ⟨z2, f2, y2, y2a, -⟩, ⟨z1, f1, y1, y1a, -⟩, ⟨z0, f0, y0, y0a, -⟩, -⟩ := S.out.facts)
        | ((with_reducible refine (HSr.out Un Ud q5 r5 q8 q9 _ (natOld S.out (by simp)) (natOld S.out (by simp)) (natOld S.out (by simp)) (natOld S.out (by simp))).mono ?_); rintro e wx ⟨rfl, hb⟩; replace S := Lib.hid (S.out.call hb); clear hb; clear z8 f8 y8 z7 f7 y7 z6 f6 y6 y6a z5 f5 y5 y5a z4 f4 y4 y4a z3 f3 y3 y3a z2 f2 y2 y2a z1 f1 y1 y1a z0 f0 y0 y0a; obtain ⟨⟨z8, f8, y8, -⟩, ⟨z7, f7, y7, -⟩, ⟨z6, f6, y6, y6a, -⟩, ⟨z5, f5, y5, y5a, -⟩, ⟨z4, f4, y4, y4a, -⟩, ⟨z3, f3, y3, y3a, -⟩, ⟨z2, f2, y2, y2a, -⟩, ⟨z1, f1, y1, y1a, -⟩, ⟨z0, f0, y0, y0a, -⟩, -⟩ := S.out.facts))
    go_wp2
    go_ret
    exact ⟨rfl, S.out.bel⟩
end Go.Proofs.Ytpoddmkimhkmoaa
