/-
  LAW PowerExpected.
  Conditions: the arguments are as they come in.
-/
import Derived.Test.YtpoddmkimhkmoaaPwY
import Derived.Test.YtpoddmkimhkmoaaPb6
import Derived.Test.YtpoddmkimhkmoaaPh3
import Derived.Test.YtpoddmkimhkmoaaPwLp
import Derived.Test.YtpoddmkimhkmoaaPwQ
namespace Go.Proofs.Ytpoddmkimhkmoaa
open Go.RowKit Go.Sv Go.Pw
theorem ofT_bd8 {l : List Int} (h : l.length ≤ 8) : TBd (ofT l) := by
  obtain ⟨L1, L2⟩ := ofT_len l
  exact ⟨by rw [L1]; omega, by rw [L2]; omega⟩
set_option maxHeartbeats 8000000 in
set_option maxRecDepth 100000 in
theorem law_expected (l : List Int) (A : Option Addr) (c : Nat) (cn cd : Nat) (w : World) (hn : l.length ≤ 9223372036854775807) (hb : ∀ i, i < l.length → 0 ≤ gi l i ∧ gi l i < 256) (ha : Arr w w.heap.size A l.length (u8v l)) (hcn : cn < 65536) (hcd : cd < 65536) :
    Calls Try.prog 4 #[.slice A l.length c, .agg #[.int .u16 (cn : Int), .int .u16 (cd : Int)]] w (fun e w' => e = .returned (.bool true) ∧ Below w.heap.size w w') := by
  by_cases g : 0 < l.length ∧ l.length ≤ 8
  case neg =>
    have H1 := Lib.hid (fun w' => rof_no l A c w' (by omega) hn)
    have HA := Lib.hid (fun w' => awake_any w')
    have S := Lib.hid (Fm.init w)
    clear g hb ha hcn hcd
    replace S := Lib.hid (S.out.box 38 [.int .u16 (cn : Int), .int .u16 (cd : Int)])
    obtain ⟨⟨z0, f0, y0, y0a, -⟩, -⟩ := S.out.facts
    go_enter Try.func4, Try.ntmps4
    go_wp2_with fail
    refine (H1.out _).mono ?_
    rintro e w1 ⟨_, rfl, q1, rfl, hr, hb⟩
    replace S := Lib.hid (fm_tst S.out hb hr (by simp [NoInt]))
    clear hr hb
    clear z0 f0 y0 y0a
    obtain ⟨⟨z0, f0, y0, y0a, -⟩, -⟩ := S.out.facts
    clear z0 f0 y0 y0a
    replace S := Lib.hid (S.out.box 25 [.slice q1.a0 tst0.acc.length q1.c0, .slice q1.a1 tst0.rej.length q1.c1])
    obtain ⟨⟨z1, f1, y1, y1a, -⟩, ⟨z0, f0, y0, y0a, -⟩, -⟩ := S.out.facts
    go_wp2_with fail
    refine (HA.out _).mono ?_
    rintro e w2 ⟨rfl, hb⟩
    replace S := Lib.hid (S.out.call hb)
    clear hb
    clear z1 f1 y1 y1a z0 f0 y0 y0a
    obtain ⟨⟨z1, f1, y1, y1a, -⟩, ⟨z0, f0, y0, y0a, -⟩, -⟩ := S.out.facts
    go_wp2_with fail
    refine (HA.out _).mono ?_
    rintro e w3 ⟨rfl, hb⟩
    replace S := Lib.hid (S.out.call hb)
    clear hb
    clear z1 f1 y1 y1a z0 f0 y0 y0a
    obtain ⟨⟨z1, f1, y1, y1a, -⟩, ⟨z0, f0, y0, y0a, -⟩, -⟩ := S.out.facts
    go_wp2
    go_ret
    exact ⟨rfl, S.out.bel⟩
  case pos =>
    obtain ⟨L1, L2⟩ := ofT_len l
    have hv := vld_validE (ofT_vld g.1 g.2 (fun i hi => (hb i hi).1))
    have hbd := ofT_bd8 g.2
    have h8 : (ofT l).acc.length ≤ 8 := by rw [L1]; exact g.2
    have hT0 : (ofT l).acc.length = l.length := L1
    have hR0 : (ofT l).rej.length = l.length := L2
    have HA := Lib.hid (fun w' => awake_any w')
    have hOf := Lib.hid (fun w' (hbel : Below w.heap.size w w') => rof_ok l A c w' g.1 g.2 hb ((ha.below hbel).more hbel.size))
    obtain ⟨a, d, hp, hRa⟩ := ratio_any cn cd hcn hcd
    have HE := Lib.hid (fun q qn qd w' h h1 h2 => expd_any (ofT l) q a d qn qd w' h hbd hv hp h1 h2)
    have HRE := Lib.hid (fun q qn qd w' h h1 h2 => rexpd_any (ofT l) q a d qn qd w' h hbd hv hp h1 h2 h8)
    have c1 := cmp_low hv hp h8 rfl
    have c2 := cmp_high hv hp h8 rfl
    have kp := (pw8 hp h8).1
    obtain ⟨t, ht⟩ : ∃ t, ofT l = t := ⟨_, rfl⟩
    rw [ht] at hOf h8 HE HRE c1 c2 kp
    replace hRa := Lib.hid hRa
    clear hv hbd hT0 hR0 L1 L2 ht g hb ha hcn hcd hp
    obtain ⟨EN, hEN⟩ : ∃ v, rdN (allS (VT t) a (d - a) t.acc.length kE) (d ^ t.acc.length) = v := ⟨_, rfl⟩
    obtain ⟨ED, hED⟩ : ∃ v, rdD (allS (VT t) a (d - a) t.acc.length kE) (d ^ t.acc.length) = v := ⟨_, rfl⟩
    have lE : Lim EN ∧ Lim ED := by
      obtain ⟨p, q, e1, e2, -⟩ := rd_val (N := allS (VT t) a (d - a) t.acc.length kE) (D := d ^ t.acc.length) kp
      rw [← hEN, ← hED, e1, e2]
      exact ⟨lim_lim _, lim_lim _⟩
    rw [hEN, hED] at HE HRE c1 c2
    clear hEN hED kp
    obtain ⟨MN, hMN⟩ : ∃ v, rdN t.acc.length 1 = v := ⟨_, rfl⟩
    obtain ⟨MD, hMD⟩ : ∃ v, rdD t.acc.length 1 = v := ⟨_, rfl⟩
    have ON1 : Hid (∀ w', Calls Try.prog 16 #[.int .u64 (t.acc.length : Int), .int .u64 1] w' (Ret (RRes w' (rdN t.acc.length 1) (rdD t.acc.length 1)))) := Lib.hid (fun w' => ofP_any t.acc.length 1 w' (by omega) (by decide) (by decide))
    have lM : Lim MN ∧ Lim MD := by
      obtain ⟨p, q, e1, e2, -⟩ := rd_val (N := t.acc.length) (D := 1) (by decide)
      rw [← hMN, ← hMD, e1, e2]
      exact ⟨lim_lim _, lim_lim _⟩
    rw [hMN, hMD] at c2 ON1
    clear hMN hMD
    have O11 : Hid (∀ w', Calls Try.prog 16 #[.int .u64 1, .int .u64 1] w' (Ret (RRes w' (lim 1) (lim 1)))) := Lib.hid fun w' => by
      have := ofP_any 1 1 w' (by decide) (by decide) (by decide)
      rw [(rd_kk (K := 1) (by decide)).1, (rd_kk (K := 1) (by decide)).2] at this
      exact this
    obtain ⟨One, hOne⟩ : ∃ v, lim 1 = v := ⟨_, rfl⟩
    obtain ⟨La, hLa⟩ : ∃ v, lim a = v := ⟨_, rfl⟩
    obtain ⟨Ld, hLd⟩ : ∃ v, lim d = v := ⟨_, rfl⟩
    have lO : Lim One := by rw [← hOne]; exact lim_lim _
    rw [hOne] at c1 O11
    rw [hLa, hLd] at HE HRE hRa
    clear hOne hLa hLd
    obtain ⟨V1, hV1⟩ : ∃ v, rcV EN ED One One = v := ⟨_, rfl⟩
    obtain ⟨V2, hV2⟩ : ∃ v, rcV EN ED MN MD = v := ⟨_, rfl⟩
    rw [hV1] at c1
    rw [hV2] at c2
    have d1 : decide (0 ≤ V1) = true := decide_eq_true c1.2
    have d2 : decide (V2 ≤ 0) = true := decide_eq_true c2.2
    have HC1 := Lib.hid (fun q r q' r' w' h1 h2 h3 h4 => by
      have := xcmp_any w' EN q h1 lE.1 ED r h2 lE.2 One q' h3 lO One r' h4 lO
      rw [hV1, c1.1] at this
      exact this)
    have HC2 := Lib.hid (fun q r q' r' w' h1 h2 h3 h4 => by
      have := xcmp_any w' EN q h1 lE.1 ED r h2 lE.2 MN q' h3 lM.1 MD r' h4 lM.2
      rw [hV2, c2.1] at this
      exact this)
    have HSr := Lib.hid (fun q r q2 r2 w' h1 h2 h3 h4 => xsame_t w' EN ED q r q2 r2 h1 h2 h3 h4)
    have hwr : IntKind.u64.wrap (t.acc.length : Int) = (t.acc.length : Int) := by simp [IntKind.wrap, IntKind.bits, IntKind.signed]; omega
    clear hV1 hV2 c1 c2 lE lM lO
    have S := Lib.hid (Fm.init w)
    replace S := Lib.hid (S.out.box 38 [.int .u16 (cn : Int), .int .u16 (cd : Int)])
    obtain ⟨⟨z0, f0, y0, y0a, -⟩, -⟩ := S.out.facts
    go_enter Try.func4, Try.ntmps4
    go_wp2_with fail
    refine (hOf.out _ S.out.bel).mono ?_
    rintro e w1 ⟨_, rfl, q1, rfl, hr, hb⟩
    replace S := Lib.hid (fm_tst S.out hb hr (by simp [NoInt]))
    clear hr hb
    clear z0 f0 y0 y0a
    obtain ⟨⟨z0, f0, y0, y0a, -⟩, -⟩ := S.out.facts
    clear z0 f0 y0 y0a
    replace S := Lib.hid (S.out.box 25 [.slice q1.a0 t.acc.length q1.c0, .slice q1.a1 t.rej.length q1.c1])
    obtain ⟨⟨z1, f1, y1, y1a, -⟩, ⟨z0, f0, y0, y0a, -⟩, -⟩ := S.out.facts
    go_wp2_with fail
    refine (HA.out _).mono ?_
    rintro e w2 ⟨rfl, hb⟩
    replace S := Lib.hid (S.out.call hb)
    clear hb
    clear z1 f1 y1 y1a z0 f0 y0 y0a
    obtain ⟨⟨z1, f1, y1, y1a, -⟩, ⟨z0, f0, y0, y0a, -⟩, -⟩ := S.out.facts
    go_wp2_with fail
    refine (hRa.out _).mono ?_
    rintro e w3 ⟨_, rfl, q3, r3, rfl, hr, hr2, hf, hf2, hb⟩
    replace S := Lib.hid (natRes2 S.out hr hr2 hf hf2 hb)
    clear hr hr2 hf hf2 hb
    clear z1 f1 y1 y1a z0 f0 y0 y0a
    obtain ⟨⟨z1, f1, y1, y1a, -⟩, ⟨z0, f0, y0, y0a, -⟩, -⟩ := S.out.facts
    clear z1 f1 y1 y1a z0 f0 y0 y0a
    replace S := Lib.hid (S.out.box 43 [.slice q3.a La.length q3.c, .slice r3.a Ld.length r3.c])
    obtain ⟨⟨z2, f2, y2, y2a, -⟩, ⟨z1, f1, y1, y1a, -⟩, ⟨z0, f0, y0, y0a, -⟩, -⟩ := S.out.facts
    go_wp2_with fail
    refine (HE.out q1 q3 r3 _ (tstOld S.out (by simp)) (natOld S.out (by simp)) (natOld S.out (by simp))).mono ?_
    rintro e w4 ⟨_, rfl, q4, r4, rfl, hr, hr2, hf, hf2, hb⟩
    replace S := Lib.hid (natRes2 S.out hr hr2 hf hf2 hb)
    clear hr hr2 hf hf2 hb
    clear z2 f2 y2 y2a z1 f1 y1 y1a z0 f0 y0 y0a
    obtain ⟨⟨z2, f2, y2, y2a, -⟩, ⟨z1, f1, y1, y1a, -⟩, ⟨z0, f0, y0, y0a, -⟩, -⟩ := S.out.facts
    clear z2 f2 y2 y2a z1 f1 y1 y1a z0 f0 y0 y0a
    replace S := Lib.hid (S.out.box 43 [.slice q4.a EN.length q4.c, .slice r4.a ED.length r4.c])
    obtain ⟨⟨z3, f3, y3, y3a, -⟩, ⟨z2, f2, y2, y2a, -⟩, ⟨z1, f1, y1, y1a, -⟩, ⟨z0, f0, y0, y0a, -⟩, -⟩ := S.out.facts
    go_wp2_with fail
    replace S := Lib.hid S.out.drew
    clear z3 f3 y3 y3a z2 f2 y2 y2a z1 f1 y1 y1a z0 f0 y0 y0a
    obtain ⟨⟨z3, f3, y3, y3a, -⟩, ⟨z2, f2, y2, y2a, -⟩, ⟨z1, f1, y1, y1a, -⟩, ⟨z0, f0, y0, y0a, -⟩, -⟩ := S.out.facts
    go_region_held3 (fun w' => w'.cell? ⟨w4.heap.size, 0, none⟩ = some (.slice q4.a EN.length q4.c) ∧ w'.cell? ⟨w4.heap.size, 1, none⟩ = some (.slice r4.a ED.length r4.c)) (first | with_reducible assumption | go_keep)
      (first
        | ((with_reducible refine (O11.out _).mono ?_); rintro e wx ⟨_, rfl, qx, rx, rfl, hr, hr2, hf, hf2, hb⟩; replace S := Lib.hid (natRes2 S.out hr hr2 hf hf2 hb); clear hr hr2 hf hf2 hb; clear z3 f3 y3 y3a z2 f2 y2 y2a z1 f1 y1 y1a z0 f0 y0 y0a; obtain ⟨⟨z3, f3, y3, y3a, -⟩, ⟨z2, f2, y2, y2a, -⟩, ⟨z1, f1, y1, y1a, -⟩, ⟨z0, f0, y0, y0a, -⟩, -⟩ := S.out.facts)
        | ((with_reducible refine (HC1.out q4 r4 qx rx _ (natOld S.out (by simp)) (natOld S.out (by simp)) (natOld S.out (by simp)) (natOld S.out (by simp))).mono ?_); rintro e wx ⟨rfl, hb⟩; replace S := Lib.hid (S.out.call hb); clear hb; clear z3 f3 y3 y3a z2 f2 y2 y2a z1 f1 y1 y1a z0 f0 y0 y0a; obtain ⟨⟨z3, f3, y3, y3a, -⟩, ⟨z2, f2, y2, y2a, -⟩, ⟨z1, f1, y1, y1a, -⟩, ⟨z0, f0, y0, y0a, -⟩, -⟩ := S.out.facts))
    go_wp2_with fail
    replace S := Lib.hid S.out.drew
    clear z3 f3 y3 y3a z2 f2 y2 y2a z1 f1 y1 y1a z0 f0 y0 y0a
    obtain ⟨⟨z3, f3, y3, y3a, -⟩, ⟨z2, f2, y2, y2a, -⟩, ⟨z1, f1, y1, y1a, -⟩, ⟨z0, f0, y0, y0a, -⟩, -⟩ := S.out.facts
    go_region_held3 (fun w' => w'.cell? ⟨w4.heap.size, 0, none⟩ = some (.slice q4.a EN.length q4.c) ∧ w'.cell? ⟨w4.heap.size, 1, none⟩ = some (.slice r4.a ED.length r4.c) ∧ w'.cell? ⟨w1.heap.size, 0, none⟩ = some (.slice q1.a0 t.acc.length q1.c0)) (first | with_reducible assumption | go_keep)
      (first
        | ((with_reducible refine (ON1.out _).mono ?_); rintro e wx ⟨_, rfl, qy, ry, rfl, hr, hr2, hf, hf2, hb⟩; replace S := Lib.hid (natRes2 S.out hr hr2 hf hf2 hb); clear hr hr2 hf hf2 hb; clear z3 f3 y3 y3a z2 f2 y2 y2a z1 f1 y1 y1a z0 f0 y0 y0a; obtain ⟨⟨z3, f3, y3, y3a, -⟩, ⟨z2, f2, y2, y2a, -⟩, ⟨z1, f1, y1, y1a, -⟩, ⟨z0, f0, y0, y0a, -⟩, -⟩ := S.out.facts)
        | ((with_reducible refine (HC2.out q4 r4 qy ry _ (natOld S.out (by simp)) (natOld S.out (by simp)) (natOld S.out (by simp)) (natOld S.out (by simp))).mono ?_); rintro e wx ⟨rfl, hb⟩; replace S := Lib.hid (S.out.call hb); clear hb; clear z3 f3 y3 y3a z2 f2 y2 y2a z1 f1 y1 y1a z0 f0 y0 y0a; obtain ⟨⟨z3, f3, y3, y3a, -⟩, ⟨z2, f2, y2, y2a, -⟩, ⟨z1, f1, y1, y1a, -⟩, ⟨z0, f0, y0, y0a, -⟩, -⟩ := S.out.facts))
    go_wp2_with fail
    replace S := Lib.hid S.out.drew
    clear z3 f3 y3 y3a z2 f2 y2 y2a z1 f1 y1 y1a z0 f0 y0 y0a
    obtain ⟨⟨z3, f3, y3, y3a, -⟩, ⟨z2, f2, y2, y2a, -⟩, ⟨z1, f1, y1, y1a, -⟩, ⟨z0, f0, y0, y0a, -⟩, -⟩ := S.out.facts
    go_region_held3 (fun w' => w'.cell? ⟨w4.heap.size, 0, none⟩ = some (.slice q4.a EN.length q4.c) ∧ w'.cell? ⟨w4.heap.size, 1, none⟩ = some (.slice r4.a ED.length r4.c) ∧ w'.cell? ⟨w1.heap.size, 0, none⟩ = some (.slice q1.a0 t.acc.length q1.c0) ∧ w'.cell? ⟨w1.heap.size, 1, none⟩ = some (.slice q1.a1 t.rej.length q1.c1) ∧ w'.cell? ⟨w3.heap.size, 0, none⟩ = some (.slice q3.a La.length q3.c) ∧ w'.cell? ⟨w3.heap.size, 1, none⟩ = some (.slice r3.a Ld.length r3.c)) (first | with_reducible assumption | go_keep)
      (first
        | ((with_reducible refine (HRE.out q1 q3 r3 _ (tstOld S.out (by simp)) (natOld S.out (by simp)) (natOld S.out (by simp))).mono ?_); rintro e wx ⟨_, rfl, qz, rz, rfl, hr, hr2, hf, hf2, hb⟩; replace S := Lib.hid (natRes2 S.out hr hr2 hf hf2 hb); clear hr hr2 hf hf2 hb; clear z3 f3 y3 y3a z2 f2 y2 y2a z1 f1 y1 y1a z0 f0 y0 y0a; obtain ⟨⟨z3, f3, y3, y3a, -⟩, ⟨z2, f2, y2, y2a, -⟩, ⟨z1, f1, y1, y1a, -⟩, ⟨z0, f0, y0, y0a, -⟩, -⟩ := S.out.facts)
        | ((with_reducible refine (HSr.out q4 r4 qz rz _ (natOld S.out (by simp)) (natOld S.out (by simp)) (natOld S.out (by simp)) (natOld S.out (by simp))).mono ?_); rintro e wx ⟨rfl, hb⟩; replace S := Lib.hid (S.out.call hb); clear hb; clear z3 f3 y3 y3a z2 f2 y2 y2a z1 f1 y1 y1a z0 f0 y0 y0a; obtain ⟨⟨z3, f3, y3, y3a, -⟩, ⟨z2, f2, y2, y2a, -⟩, ⟨z1, f1, y1, y1a, -⟩, ⟨z0, f0, y0, y0a, -⟩, -⟩ := S.out.facts))
    go_wp2
    go_ret
    exact ⟨rfl, S.out.bel⟩
end Go.Proofs.Ytpoddmkimhkmoaa
