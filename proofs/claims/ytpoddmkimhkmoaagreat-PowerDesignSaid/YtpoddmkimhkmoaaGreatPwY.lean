/-
  CONTRACT of sheavelaw46.awake: it is true.
  Conditions: none.
-/
import Derived.Test.YtpoddmkimhkmoaaGreatPwX
import Derived.Test.YtpoddmkimhkmoaaGreatPb5
import Derived.Test.YtpoddmkimhkmoaaGreatPwQ
import Derived.Test.YtpoddmkimhkmoaaGreatPwI
import Derived.Test.YtpoddmkimhkmoaaGreatPh2
namespace Go.Proofs.YtpoddmkimhkmoaaGreat
open Go.RowKit Go.Sv Go.Pw
set_option maxHeartbeats 8000000 in
set_option maxRecDepth 100000 in
theorem awake_any (w : World) : Calls Tryz.prog 5 #[] w fun e w' => e = .returned (.bool true) ∧ Below w.heap.size w w' := by
  have O1_2 : Hid (∀ w', Calls Tryz.prog 16 #[.int .u64 1, .int .u64 2] w' (Ret (RRes w' (lim 1) (lim 2)))) := Lib.hid fun w' => by
    have := ofP_any 1 2 w' (by decide) (by decide) (by decide)
    rw [(rd_eq (N := 1) (D := 2) (n := 1) (d := 2) (by decide) (by decide) (by decide) (by decide)).1, (rd_eq (N := 1) (D := 2) (n := 1) (d := 2) (by decide) (by decide) (by decide) (by decide)).2] at this
    exact this
  have O1_10 : Hid (∀ w', Calls Tryz.prog 16 #[.int .u64 1, .int .u64 10] w' (Ret (RRes w' (lim 1) (lim 10)))) := Lib.hid fun w' => by
    have := ofP_any 1 10 w' (by decide) (by decide) (by decide)
    rw [(rd_eq (N := 1) (D := 10) (n := 1) (d := 10) (by decide) (by decide) (by decide) (by decide)).1, (rd_eq (N := 1) (D := 10) (n := 1) (d := 10) (by decide) (by decide) (by decide) (by decide)).2] at this
    exact this
  have O9_10 : Hid (∀ w', Calls Tryz.prog 16 #[.int .u64 9, .int .u64 10] w' (Ret (RRes w' (lim 9) (lim 10)))) := Lib.hid fun w' => by
    have := ofP_any 9 10 w' (by decide) (by decide) (by decide)
    rw [(rd_eq (N := 9) (D := 10) (n := 9) (d := 10) (by decide) (by decide) (by decide) (by decide)).1, (rd_eq (N := 9) (D := 10) (n := 9) (d := 10) (by decide) (by decide) (by decide) (by decide)).2] at this
    exact this
  have O1_5 : Hid (∀ w', Calls Tryz.prog 16 #[.int .u64 1, .int .u64 5] w' (Ret (RRes w' (lim 1) (lim 5)))) := Lib.hid fun w' => by
    have := ofP_any 1 5 w' (by decide) (by decide) (by decide)
    rw [(rd_eq (N := 1) (D := 5) (n := 1) (d := 5) (by decide) (by decide) (by decide) (by decide)).1, (rd_eq (N := 1) (D := 5) (n := 1) (d := 5) (by decide) (by decide) (by decide) (by decide)).2] at this
    exact this
  have O1_4 : Hid (∀ w', Calls Tryz.prog 16 #[.int .u64 1, .int .u64 4] w' (Ret (RRes w' (lim 1) (lim 4)))) := Lib.hid fun w' => by
    have := ofP_any 1 4 w' (by decide) (by decide) (by decide)
    rw [(rd_eq (N := 1) (D := 4) (n := 1) (d := 4) (by decide) (by decide) (by decide) (by decide)).1, (rd_eq (N := 1) (D := 4) (n := 1) (d := 4) (by decide) (by decide) (by decide) (by decide)).2] at this
    exact this
  have O5_2 : Hid (∀ w', Calls Tryz.prog 16 #[.int .u64 5, .int .u64 2] w' (Ret (RRes w' (lim 5) (lim 2)))) := Lib.hid fun w' => by
    have := ofP_any 5 2 w' (by decide) (by decide) (by decide)
    rw [(rd_eq (N := 5) (D := 2) (n := 5) (d := 2) (by decide) (by decide) (by decide) (by decide)).1, (rd_eq (N := 5) (D := 2) (n := 5) (d := 2) (by decide) (by decide) (by decide) (by decide)).2] at this
    exact this
  have HPa := Lib.hid (fun q w' (h : RTst w' w'.heap.size awT q) => paths_any awT q w' h awT_b awT_v)
  have HPs := Lib.hid (fun (a0 a1 : Option Addr) qn qd w' (h : RTst w' w'.heap.size awT ⟨a0, 3, a1, 3⟩) h1 h2 => show Calls Tryz.prog 15 #[.agg #[.slice a0 3 3, .slice a1 3 3], ratV (lim 1) qn (lim 2) qd] w' (Ret (RRes2 w' (lim 1) (lim 4) 0)) from by
    have := pass_any awT ⟨a0, 3, a1, 3⟩ 1 2 qn qd w' h awT_b awT_v ⟨by decide, by decide, by decide, by decide⟩ h1 h2
    rw [aw_p.1, aw_p.2] at this
    exact this)
  have HEx := Lib.hid (fun (a0 a1 : Option Addr) qn qd w' (h : RTst w' w'.heap.size awT ⟨a0, 3, a1, 3⟩) h1 h2 => show Calls Tryz.prog 17 #[.agg #[.slice a0 3 3, .slice a1 3 3], ratV (lim 1) qn (lim 2) qd] w' (Ret (RRes2 w' (lim 5) (lim 2) 0)) from by
    have := expd_any awT ⟨a0, 3, a1, 3⟩ 1 2 qn qd w' h awT_b awT_v ⟨by decide, by decide, by decide, by decide⟩ h1 h2
    rw [aw_e.1, aw_e.2] at this
    exact this)
  have HDs := Lib.hid (fun q0 r0 q1 r1 q2 r2 q3 r3 w' g0 h0 g1 h1 g2 h2 g3 h3 => (design_any 1 10 9 10 1 5 1 5 3 q0 r0 q1 r1 q2 r2 q3 r3 w' g0 h0 g1 h1 g2 h2 g3 h3 aw_pair (by decide) (by decide) (by decide) (by decide) (by decide) (by decide) (by decide) (by decide) (by decide) (by decide)).mono (fun e w2 ⟨v, e1, r⟩ => (⟨v, e1, aw_des r⟩ : Ret (TRes w' (fixT 1 0) 0) e w2)))
  have HR := Lib.hid (fun w' => by
    have := rof_any 2 w' (by decide) (by decide)
    rw [show (2 : Int).toNat = 2 from rfl] at this
    exact this)
  have HSn := Lib.hid (fun q r w' (h1 : RLm w' w'.heap.size (lim 2) q) (h2 : RLm w' w'.heap.size (lim 2) r) => by
    have := same_any (lim 2) (lim 2) q r w' h1 h2
    rw [decide_eq_true rfl] at this
    exact this)
  have HSr := Lib.hid (fun n d q r q2 r2 w' (h1 : RLm w' w'.heap.size n q) (h2 : RLm w' w'.heap.size d r) (h3 : RLm w' w'.heap.size n q2) (h4 : RLm w' w'.heap.size d r2) => xsame_t w' n d q r q2 r2 h1 h2 h3 h4)
  have HSt := Lib.hid (fun (q : TstP) (a0 a1 : Option Addr) w' (h1 : RTst w' w'.heap.size ⟨[0], [1]⟩ q) (h2 : RTst w' w'.heap.size ⟨[0], [1]⟩ ⟨a0, 1, a1, 1⟩) => show Calls Tryz.prog 9 #[.agg #[.slice q.a0 1 q.c0, .slice q.a1 1 q.c1], .agg #[.slice a0 1 1, .slice a1 1 1]] w' (fun e w2 => e = .returned (.bool true) ∧ Below w'.heap.size w' w2) from by
    have := hsame_any ⟨[0], [1]⟩ ⟨[0], [1]⟩ q ⟨a0, 1, a1, 1⟩ w' h1 h2 ⟨by decide, by decide⟩ ⟨by decide, by decide⟩
    rw [decide_eq_true rfl] at this
    exact this)
  have S := Lib.hid (Fm.init w)
  obtain ⟨L1, hL1⟩ : ∃ V, lim 1 = V := ⟨_, rfl⟩
  obtain ⟨L2, hL2⟩ : ∃ V, lim 2 = V := ⟨_, rfl⟩
  obtain ⟨L4, hL4⟩ : ∃ V, lim 4 = V := ⟨_, rfl⟩
  obtain ⟨L5, hL5⟩ : ∃ V, lim 5 = V := ⟨_, rfl⟩
  obtain ⟨L9, hL9⟩ : ∃ V, lim 9 = V := ⟨_, rfl⟩
  obtain ⟨L10, hL10⟩ : ∃ V, lim 10 = V := ⟨_, rfl⟩
  rw [hL1, hL2] at O1_2
  rw [hL1, hL10] at O1_10
  rw [hL9, hL10] at O9_10
  rw [hL1, hL5] at O1_5
  rw [hL1, hL4] at O1_4
  rw [hL5, hL2] at O5_2
  rw [hL1, hL2, hL4] at HPs
  rw [hL1, hL2, hL5] at HEx
  rw [hL1, hL10, hL9, hL5] at HDs
  rw [hL2] at HR
  rw [hL2] at HSn
  replace hL2 := Lib.hid hL2
  rw [show awT.acc.length = 3 from rfl] at HPa
  clear hL1 hL4 hL5 hL9 hL10
  rw [show ((3 : Nat) : Int) = 3 from rfl, show fixT 1 0 = ⟨[0], [1]⟩ from rfl] at HDs
  replace S := Lib.hid (((S.out.obj (.cells ([-1, 0, 0].map (Value.int .i64)).toArray 3)).obj (.cells ([2, 2, 1].map (Value.int .i64)).toArray 3)))
  have hT0 := rtst_lits w [-1, 0, 0] [2, 2, 1] 3 3 3
  replace S := Lib.hid (fm_tst0 S.out (t := awT) hT0 (by simp [NoInt]))
  clear hT0
  replace S := Lib.hid (S.out.box' 32 [.slice (some ⟨w.heap.size, 0, none⟩) 3 3, .slice (some ⟨w.heap.size + 1, 0, none⟩) 3 3] (K := w.heap.size + 1 + 1) (by simp))
  go_enter Tryz.func5, Tryz.ntmps5
  go_wp2_with fail
  refine (HPa.out ⟨some ⟨w.heap.size, 0, none⟩, 3, some ⟨w.heap.size + 1, 0, none⟩, 3⟩ _ (tstOld S.out (by simp))).mono ?_
  rintro e w1 ⟨_, rfl, A, c, RR, KK, Q, rfl, hT, hb⟩
  obtain ⟨ga, oa, rfl, -, -, -⟩ := hT.arr (by decide)
  obtain ⟨g2, o2, e2, -, -, -⟩ := (hT.row 2 (by decide)).arr (by decide)
  obtain ⟨lo, hlo⟩ : ∃ l, ((((w.alloc (.cells ([-1, 0, 0].map (Value.int .i64)).toArray 3)).alloc (.cells ([2, 2, 1].map (Value.int .i64)).toArray 3)).alloc (.cells [.slice (some ⟨w.heap.size, 0, none⟩) 3 3, .slice (some ⟨w.heap.size + 1, 0, none⟩) 3 3].toArray 32)).heap.size) = l := ⟨_, rfl⟩
  obtain ⟨hi, hhi⟩ : ∃ l, w1.heap.size = l := ⟨_, rfl⟩
  replace S : Hid (Fm w w1 [⟨w.heap.size + 1 + 1, 32, [.slice (some ⟨w.heap.size, 0, none⟩) 3 3, .slice (some ⟨w.heap.size + 1, 0, none⟩) 3 3]⟩] [tabRd lo hi (some ⟨ga, oa, none⟩) (3 + 1) (fun i f => lim (U (VT awT) i f)) RR KK Q, tstRd2 awT ⟨some ⟨w.heap.size, 0, none⟩, 3, some ⟨w.heap.size + 1, 0, none⟩, 3⟩]) := Lib.hid (S.out.res (tabRd lo hi (some ⟨ga, oa, none⟩) (3 + 1) (fun i f => lim (U (VT awT) i f)) RR KK Q) hb (by rw [← hlo, ← hhi]; exact hT) (fun g hg => by rw [← hlo, ← hhi] at hg; exact hg))
  clear hT hb hlo hhi
  obtain ⟨yT, zT, S5⟩ := tab_at S.out (lo := lo) (hi := hi) (g := ga) (o := oa) (k := 3 + 1) (L := fun i f => lim (U (VT awT) i f)) (R := RR) (K := KK) (Q := Q) (i := 2) (by simp) (by decide)
  rw [e2] at yT S5
  replace e2 := Lib.hid e2
  replace S : Hid (Fm w w1 [⟨w.heap.size + 1 + 1, 32, [.slice (some ⟨w.heap.size, 0, none⟩) 3 3, .slice (some ⟨w.heap.size + 1, 0, none⟩) 3 3]⟩] [nrowRd lo hi (some ⟨g2, o2, none⟩) (2 + 1) (fun f => lim (U (VT awT) 2 f)) (Q 2), tabRd lo hi (some ⟨ga, oa, none⟩) (3 + 1) (fun i f => lim (U (VT awT) i f)) RR KK Q, tstRd2 awT ⟨some ⟨w.heap.size, 0, none⟩, 3, some ⟨w.heap.size + 1, 0, none⟩, 3⟩]) := Lib.hid S5
  clear S5
  obtain ⟨⟨z0, f0, y0, y0a, -⟩, -⟩ := S.out.facts
  go_upto_region 3 with fail
  go_cut [4, 5] (fun s4 s5 wx => ∃ (B4 : Nat) (qn4 qd4 : LmP), s4 = .pointer (some ⟨B4, 0, none⟩) ∧ s5 = .int .i64 0 ∧ Hid (Fm w wx [⟨B4, 26, [.slice qn4.a L1.length qn4.c, .slice qd4.a L4.length qd4.c]⟩, ⟨w.heap.size + 1 + 1, 32, [.slice (some ⟨w.heap.size, 0, none⟩) 3 3, .slice (some ⟨w.heap.size + 1, 0, none⟩) 3 3]⟩] [rowRd L4 qd4, rowRd L1 qn4, nrowRd lo hi (some ⟨g2, o2, none⟩) (2 + 1) (fun f => lim (U (VT awT) 2 f)) (Q 2), tabRd lo hi (some ⟨ga, oa, none⟩) (3 + 1) (fun i f => lim (U (VT awT) i f)) RR KK Q, tstRd2 awT ⟨some ⟨w.heap.size, 0, none⟩, 3, some ⟨w.heap.size + 1, 0, none⟩, 3⟩]))
  case first =>
    obtain ⟨⟨z0, f0, y0, y0a, -⟩, -⟩ := S.out.facts
    have nbl0 := Nat.ne_of_lt z0
    have nbg0 := Nat.ne_of_gt z0
    have zz0 := z0
    clear z0 f0 y0 y0a
    have S3 := S
    have hkA : (w1.alloc (.cells #[.slice none 0 0, .slice none 0 0] 26)).drew.cell? ⟨w.heap.size + 1 + 1, 0, none⟩ = some (.slice (some ⟨w.heap.size, 0, none⟩) 3 3) ∧ (w1.alloc (.cells #[.slice none 0 0, .slice none 0 0] 26)).drew.cell? ⟨w.heap.size + 1 + 1, 1, none⟩ = some (.slice (some ⟨w.heap.size + 1, 0, none⟩) 3 3) := by
      obtain ⟨⟨z1, f1, y1, y1a, -⟩, ⟨z0, f0, y0, y0a, -⟩, -⟩ := (S3.out.box 26 [.slice none 0 0, .slice none 0 0]).drew.facts
      exact ⟨y0, y0a⟩
    replace S := Lib.hid S.out.drew
    obtain ⟨⟨z0, f0, y0, y0a, -⟩, -⟩ := S.out.facts
    go_region_held3 (fun w' => w'.cell? ⟨w.heap.size + 1 + 1, 0, none⟩ = some (.slice (some ⟨w.heap.size, 0, none⟩) 3 3) ∧ w'.cell? ⟨w.heap.size + 1 + 1, 1, none⟩ = some (.slice (some ⟨w.heap.size + 1, 0, none⟩) 3 3)) (first | with_reducible assumption | go_keep)
      (first
        | ((with_reducible refine (O1_2.out _).mono ?_); rintro e wx ⟨_, rfl, qx, qy, rfl, hr, hr2, hf, hf2, hb⟩; replace S := Lib.hid (natRes2 ((S3.out.box 26 [.slice none 0 0, .slice none 0 0]).drew) hr hr2 hf hf2 hb); clear hr hr2 hf hf2 hb; clear z0 f0 y0 y0a; obtain ⟨⟨z1, f1, y1, y1a, -⟩, ⟨z0, f0, y0, y0a, -⟩, -⟩ := S.out.facts)
        | ((with_reducible refine (O1_2.out _).mono ?_); rintro e wx ⟨_, rfl, qx, qy, rfl, hr, hr2, hf, hf2, hb⟩; replace S := Lib.hid (natRes2 S.out hr hr2 hf hf2 hb); clear hr hr2 hf hf2 hb; clear z1 f1 y1 y1a z0 f0 y0 y0a; obtain ⟨⟨z1, f1, y1, y1a, -⟩, ⟨z0, f0, y0, y0a, -⟩, -⟩ := S.out.facts)
        | ((with_reducible refine (HPs.out (some ⟨w.heap.size, 0, none⟩) (some ⟨w.heap.size + 1, 0, none⟩) qx qy _ (tstOld S.out (by simp)) (natOld S.out (by simp)) (natOld S.out (by simp))).mono ?_); rintro e wx ⟨_, rfl, qx, qy, rfl, hr, hr2, hf, hf2, hb⟩; replace S := Lib.hid (natRes2 S.out hr hr2 hf hf2 hb); clear hr hr2 hf hf2 hb; clear z1 f1 y1 y1a z0 f0 y0 y0a; obtain ⟨⟨z1, f1, y1, y1a, -⟩, ⟨z0, f0, y0, y0a, -⟩, -⟩ := S.out.facts)
        | ((with_reducible refine (O1_2.out _).mono ?_); rintro e wx ⟨_, rfl, qx, qy, rfl, hr, hr2, hf, hf2, hb⟩; replace S := Lib.hid (natRes2 S.out hr hr2 hf hf2 hb); clear hr hr2 hf hf2 hb; clear z0 f0 y0 y0a; obtain ⟨⟨z0, f0, y0, y0a, -⟩, -⟩ := S.out.facts)
        | ((with_reducible refine (HPs.out (some ⟨w.heap.size, 0, none⟩) (some ⟨w.heap.size + 1, 0, none⟩) qx qy _ (tstOld S.out (by simp)) (natOld S.out (by simp)) (natOld S.out (by simp))).mono ?_); rintro e wx ⟨_, rfl, qx, qy, rfl, hr, hr2, hf, hf2, hb⟩; replace S := Lib.hid (natRes2 S.out hr hr2 hf hf2 hb); clear hr hr2 hf hf2 hb; clear z0 f0 y0 y0a; obtain ⟨⟨z0, f0, y0, y0a, -⟩, -⟩ := S.out.facts)
        | ((with_reducible refine (O1_2.out _).mono ?_); rintro e wx ⟨_, rfl, qx, qy, rfl, hr, hr2, hf, hf2, hb⟩; replace S := Lib.hid (natRes2 (S.out.box 26 [.slice none 0 0, .slice none 0 0]) hr hr2 hf hf2 hb); clear hr hr2 hf hf2 hb; have nbl0 := Nat.ne_of_lt z0; have nbg0 := Nat.ne_of_gt z0; clear z0 f0 y0 y0a; obtain ⟨⟨z1, f1, y1, y1a, -⟩, ⟨z0, f0, y0, y0a, -⟩, -⟩ := S.out.facts)
        | ((with_reducible refine (HPs.out (some ⟨w.heap.size, 0, none⟩) (some ⟨w.heap.size + 1, 0, none⟩) qx qy _ (tstOld (S.out.box 26 [.slice none 0 0, .slice none 0 0]) (by simp)) (natOld (S.out.box 26 [.slice none 0 0, .slice none 0 0]) (by simp)) (natOld (S.out.box 26 [.slice none 0 0, .slice none 0 0]) (by simp))).mono ?_); rintro e wx ⟨_, rfl, qx, qy, rfl, hr, hr2, hf, hf2, hb⟩; replace S := Lib.hid (natRes2 (S.out.box 26 [.slice none 0 0, .slice none 0 0]) hr hr2 hf hf2 hb); clear hr hr2 hf hf2 hb; have nbl0 := Nat.ne_of_lt z0; have nbg0 := Nat.ne_of_gt z0; clear z0 f0 y0 y0a; obtain ⟨⟨z1, f1, y1, y1a, -⟩, ⟨z0, f0, y0, y0a, -⟩, -⟩ := S.out.facts))
    all_goals (go_wp2_with fail; go_meet)
    all_goals
      first
        | exact ⟨_, qx, qy, rfl, rfl, Lib.hid (fm_sel (S.out.box 26 [.slice qx.a L1.length qx.c, .slice qy.a L4.length qy.c]) _ _ (List.Sublist.refl _) (by simp))⟩
        | exact ⟨_, qx, qy, rfl, rfl, Lib.hid (fm_sel ((S.out.set 0 rfl 0 (.slice qx.a L1.length qx.c)).set 0 rfl 1 (.slice qy.a L4.length qy.c)) _ _ (List.Sublist.refl _) (by simp))⟩
  case rest =>
    clear S HPs z0 f0 y0 y0a yT zT
    obtain ⟨B4, qn4, qd4, rfl, rfl, S⟩ := hcut
    rename World => w3
    obtain ⟨⟨z1, f1, y1, y1a, -⟩, ⟨z0, f0, y0, y0a, -⟩, -⟩ := S.out.facts
    go_upto_region 4 with fail
    go_cut [6, 7] (fun s6 s7 wx => ∃ (B6 : Nat) (qn6 qd6 : LmP), s6 = .pointer (some ⟨B6, 0, none⟩) ∧ s7 = .int .i64 0 ∧ Hid (Fm w wx [⟨B6, 26, [.slice qn6.a L5.length qn6.c, .slice qd6.a L2.length qd6.c]⟩, ⟨B4, 26, [.slice qn4.a L1.length qn4.c, .slice qd4.a L4.length qd4.c]⟩, ⟨w.heap.size + 1 + 1, 32, [.slice (some ⟨w.heap.size, 0, none⟩) 3 3, .slice (some ⟨w.heap.size + 1, 0, none⟩) 3 3]⟩] [rowRd L2 qd6, rowRd L5 qn6, rowRd L4 qd4, rowRd L1 qn4, nrowRd lo hi (some ⟨g2, o2, none⟩) (2 + 1) (fun f => lim (U (VT awT) 2 f)) (Q 2), tabRd lo hi (some ⟨ga, oa, none⟩) (3 + 1) (fun i f => lim (U (VT awT) i f)) RR KK Q, tstRd2 awT ⟨some ⟨w.heap.size, 0, none⟩, 3, some ⟨w.heap.size + 1, 0, none⟩, 3⟩]))
    case first =>
      obtain ⟨⟨z1, f1, y1, y1a, -⟩, ⟨z0, f0, y0, y0a, -⟩, -⟩ := S.out.facts
      have nbl0 := Nat.ne_of_lt z0
      have nbg0 := Nat.ne_of_gt z0
      have zz0 := z0
      clear z1 f1 y1 y1a z0 f0 y0 y0a
      have S3 := S
      have hkA : (w3.alloc (.cells #[.slice none 0 0, .slice none 0 0] 26)).drew.cell? ⟨w.heap.size + 1 + 1, 0, none⟩ = some (.slice (some ⟨w.heap.size, 0, none⟩) 3 3) ∧ (w3.alloc (.cells #[.slice none 0 0, .slice none 0 0] 26)).drew.cell? ⟨w.heap.size + 1 + 1, 1, none⟩ = some (.slice (some ⟨w.heap.size + 1, 0, none⟩) 3 3) := by
        obtain ⟨⟨z2, f2, y2, y2a, -⟩, ⟨z1, f1, y1, y1a, -⟩, ⟨z0, f0, y0, y0a, -⟩, -⟩ := (S3.out.box 26 [.slice none 0 0, .slice none 0 0]).drew.facts
        exact ⟨y0, y0a⟩
      replace S := Lib.hid S.out.drew
      obtain ⟨⟨z1, f1, y1, y1a, -⟩, ⟨z0, f0, y0, y0a, -⟩, -⟩ := S.out.facts
      go_region_held3 (fun w' => w'.cell? ⟨w.heap.size + 1 + 1, 0, none⟩ = some (.slice (some ⟨w.heap.size, 0, none⟩) 3 3) ∧ w'.cell? ⟨w.heap.size + 1 + 1, 1, none⟩ = some (.slice (some ⟨w.heap.size + 1, 0, none⟩) 3 3)) (first | with_reducible assumption | go_keep)
        (first
          | ((with_reducible refine (O1_2.out _).mono ?_); rintro e wx ⟨_, rfl, qx, qy, rfl, hr, hr2, hf, hf2, hb⟩; replace S := Lib.hid (natRes2 ((S3.out.box 26 [.slice none 0 0, .slice none 0 0]).drew) hr hr2 hf hf2 hb); clear hr hr2 hf hf2 hb; clear z1 f1 y1 y1a z0 f0 y0 y0a; obtain ⟨⟨z2, f2, y2, y2a, -⟩, ⟨z1, f1, y1, y1a, -⟩, ⟨z0, f0, y0, y0a, -⟩, -⟩ := S.out.facts)
          | ((with_reducible refine (O1_2.out _).mono ?_); rintro e wx ⟨_, rfl, qx, qy, rfl, hr, hr2, hf, hf2, hb⟩; replace S := Lib.hid (natRes2 S.out hr hr2 hf hf2 hb); clear hr hr2 hf hf2 hb; clear z2 f2 y2 y2a z1 f1 y1 y1a z0 f0 y0 y0a; obtain ⟨⟨z2, f2, y2, y2a, -⟩, ⟨z1, f1, y1, y1a, -⟩, ⟨z0, f0, y0, y0a, -⟩, -⟩ := S.out.facts)
          | ((with_reducible refine (HEx.out (some ⟨w.heap.size, 0, none⟩) (some ⟨w.heap.size + 1, 0, none⟩) qx qy _ (tstOld S.out (by simp)) (natOld S.out (by simp)) (natOld S.out (by simp))).mono ?_); rintro e wx ⟨_, rfl, qx, qy, rfl, hr, hr2, hf, hf2, hb⟩; replace S := Lib.hid (natRes2 S.out hr hr2 hf hf2 hb); clear hr hr2 hf hf2 hb; clear z2 f2 y2 y2a z1 f1 y1 y1a z0 f0 y0 y0a; obtain ⟨⟨z2, f2, y2, y2a, -⟩, ⟨z1, f1, y1, y1a, -⟩, ⟨z0, f0, y0, y0a, -⟩, -⟩ := S.out.facts)
          | ((with_reducible refine (O1_2.out _).mono ?_); rintro e wx ⟨_, rfl, qx, qy, rfl, hr, hr2, hf, hf2, hb⟩; replace S := Lib.hid (natRes2 S.out hr hr2 hf hf2 hb); clear hr hr2 hf hf2 hb; clear z1 f1 y1 y1a z0 f0 y0 y0a; obtain ⟨⟨z1, f1, y1, y1a, -⟩, ⟨z0, f0, y0, y0a, -⟩, -⟩ := S.out.facts)
          | ((with_reducible refine (HEx.out (some ⟨w.heap.size, 0, none⟩) (some ⟨w.heap.size + 1, 0, none⟩) qx qy _ (tstOld S.out (by simp)) (natOld S.out (by simp)) (natOld S.out (by simp))).mono ?_); rintro e wx ⟨_, rfl, qx, qy, rfl, hr, hr2, hf, hf2, hb⟩; replace S := Lib.hid (natRes2 S.out hr hr2 hf hf2 hb); clear hr hr2 hf hf2 hb; clear z1 f1 y1 y1a z0 f0 y0 y0a; obtain ⟨⟨z1, f1, y1, y1a, -⟩, ⟨z0, f0, y0, y0a, -⟩, -⟩ := S.out.facts)
          | ((with_reducible refine (O1_2.out _).mono ?_); rintro e wx ⟨_, rfl, qx, qy, rfl, hr, hr2, hf, hf2, hb⟩; replace S := Lib.hid (natRes2 (S.out.box 26 [.slice none 0 0, .slice none 0 0]) hr hr2 hf hf2 hb); clear hr hr2 hf hf2 hb; have nbl0 := Nat.ne_of_lt z0; have nbg0 := Nat.ne_of_gt z0; clear z1 f1 y1 y1a z0 f0 y0 y0a; obtain ⟨⟨z2, f2, y2, y2a, -⟩, ⟨z1, f1, y1, y1a, -⟩, ⟨z0, f0, y0, y0a, -⟩, -⟩ := S.out.facts)
          | ((with_reducible refine (HEx.out (some ⟨w.heap.size, 0, none⟩) (some ⟨w.heap.size + 1, 0, none⟩) qx qy _ (tstOld (S.out.box 26 [.slice none 0 0, .slice none 0 0]) (by simp)) (natOld (S.out.box 26 [.slice none 0 0, .slice none 0 0]) (by simp)) (natOld (S.out.box 26 [.slice none 0 0, .slice none 0 0]) (by simp))).mono ?_); rintro e wx ⟨_, rfl, qx, qy, rfl, hr, hr2, hf, hf2, hb⟩; replace S := Lib.hid (natRes2 (S.out.box 26 [.slice none 0 0, .slice none 0 0]) hr hr2 hf hf2 hb); clear hr hr2 hf hf2 hb; have nbl0 := Nat.ne_of_lt z0; have nbg0 := Nat.ne_of_gt z0; clear z1 f1 y1 y1a z0 f0 y0 y0a; obtain ⟨⟨z2, f2, y2, y2a, -⟩, ⟨z1, f1, y1, y1a, -⟩, ⟨z0, f0, y0, y0a, -⟩, -⟩ := S.out.facts))
      all_goals (go_wp2_with fail; go_meet)
      all_goals
        first
          | exact ⟨_, qx, qy, rfl, rfl, Lib.hid (fm_sel (S.out.box 26 [.slice qx.a L5.length qx.c, .slice qy.a L2.length qy.c]) _ _ (List.Sublist.refl _) (by simp))⟩
          | exact ⟨_, qx, qy, rfl, rfl, Lib.hid (fm_sel ((S.out.set 0 rfl 0 (.slice qx.a L5.length qx.c)).set 0 rfl 1 (.slice qy.a L2.length qy.c)) _ _ (List.Sublist.refl _) (by simp))⟩
    case rest =>
      clear S HEx z1 f1 y1 y1a z0 f0 y0 y0a
      obtain ⟨B6, qn6, qd6, rfl, rfl, S⟩ := hcut
      rename World => w4
      go_wp2_with fail
      refine (O1_10.out _).mono ?_
      rintro e w5 ⟨_, rfl, p1, r1, rfl, hr, hr2, hf, hf2, hb⟩
      replace S := Lib.hid (natRes2 S.out hr hr2 hf hf2 hb)
      clear hr hr2 hf hf2 hb
      go_wp2_with fail
      refine (O9_10.out _).mono ?_
      rintro e w6 ⟨_, rfl, p2, r2, rfl, hr, hr2, hf, hf2, hb⟩
      replace S := Lib.hid (natRes2 S.out hr hr2 hf hf2 hb)
      clear hr hr2 hf hf2 hb
      go_wp2_with fail
      refine (O1_5.out _).mono ?_
      rintro e w7 ⟨_, rfl, p3, r3, rfl, hr, hr2, hf, hf2, hb⟩
      replace S := Lib.hid (natRes2 S.out hr hr2 hf hf2 hb)
      clear hr hr2 hf hf2 hb
      go_wp2_with fail
      refine (O1_5.out _).mono ?_
      rintro e w8 ⟨_, rfl, p4, r4, rfl, hr, hr2, hf, hf2, hb⟩
      replace S := Lib.hid (natRes2 S.out hr hr2 hf hf2 hb)
      clear hr hr2 hf hf2 hb
      go_wp2_with fail
      refine (HDs.out p1 r1 p2 r2 p3 r3 p4 r4 _ (natOld S.out (by simp)) (natOld S.out (by simp)) (natOld S.out (by simp)) (natOld S.out (by simp)) (natOld S.out (by simp)) (natOld S.out (by simp)) (natOld S.out (by simp)) (natOld S.out (by simp))).mono ?_
      rintro e w9 ⟨_, rfl, qd, rfl, hr, hb⟩
      replace S := Lib.hid (fm_tst S.out hb hr (by simp [NoInt]))
      clear hr hb HDs
      replace S := Lib.hid (S.out.box 32 [.slice qd.a0 1 qd.c0, .slice qd.a1 1 qd.c1])
      replace S := Lib.hid (fm_sel S.out _ [tstRd2 ⟨[0], [1]⟩ qd, rowRd L2 qd6, rowRd L5 qn6, rowRd L4 qd4, rowRd L1 qn4, nrowRd lo hi (some ⟨g2, o2, none⟩) (2 + 1) (fun f => lim (U (VT awT) 2 f)) (Q 2), tabRd lo hi (some ⟨ga, oa, none⟩) (3 + 1) (fun i f => lim (U (VT awT) i f)) RR KK Q, tstRd2 awT ⟨some ⟨w.heap.size, 0, none⟩, 3, some ⟨w.heap.size + 1, 0, none⟩, 3⟩] (List.Sublist.refl _) (by simp))
      obtain ⟨yT, zT, S5⟩ := tab_at S.out (lo := lo) (hi := hi) (g := ga) (o := oa) (k := 3 + 1) (L := fun i f => lim (U (VT awT) i f)) (R := RR) (K := KK) (Q := Q) (i := 2) (by simp) (by decide)
      clear S5
      rw [e2.out] at yT
      obtain ⟨yR, zR, -, rR⟩ := row_at S.out (lo := lo) (hi := hi) (g := g2) (o := o2) (k := 2 + 1) (L := fun f => lim (U (VT awT) 2 f)) (Q := Q 2) (i := 1) (by simp) (by decide)
      rw [aw_u, hL2.out] at yR rR
      replace S := Lib.hid (natOf S.out rR (Below.refl _ _) (by simp))
      clear rR
      obtain ⟨⟨z3, f3, y3, y3a, -⟩, ⟨z2, f2, y2, y2a, -⟩, ⟨z1, f1, y1, y1a, -⟩, ⟨z0, f0, y0, y0a, -⟩, -⟩ := S.out.facts
      go_upto_region 7 with fail
      replace S := Lib.hid S.out.drew
      clear z3 f3 y3 y3a z2 f2 y2 y2a z1 f1 y1 y1a z0 f0 y0 y0a yT zT yR zR
      obtain ⟨⟨z3, f3, y3, y3a, -⟩, ⟨z2, f2, y2, y2a, -⟩, ⟨z1, f1, y1, y1a, -⟩, ⟨z0, f0, y0, y0a, -⟩, -⟩ := S.out.facts
      obtain ⟨yT, zT, -⟩ := tab_at S.out (lo := lo) (hi := hi) (g := ga) (o := oa) (k := 3 + 1) (L := fun i f => lim (U (VT awT) i f)) (R := RR) (K := KK) (Q := Q) (i := 2) (by simp) (by decide); rw [e2.out] at yT; obtain ⟨yR, zR, -, -⟩ := row_at S.out (lo := lo) (hi := hi) (g := g2) (o := o2) (k := 2 + 1) (L := fun f => lim (U (VT awT) 2 f)) (Q := Q 2) (i := 1) (by simp) (by decide); rw [aw_u, hL2.out] at yR
      go_region_held3 (fun w' => w'.cell? ⟨ga, oa + 2, none⟩ = some (.slice (some ⟨g2, o2, none⟩) (2 + 1) (KK 2)) ∧ w'.cell? ⟨g2, o2 + 1, none⟩ = some (.slice (Q 2 1).a L2.length (Q 2 1).c) ∧ w'.cell? ⟨B4, 0, none⟩ = some (.slice qn4.a L1.length qn4.c) ∧ w'.cell? ⟨B4, 1, none⟩ = some (.slice qd4.a L4.length qd4.c) ∧ w'.cell? ⟨B6, 0, none⟩ = some (.slice qn6.a L5.length qn6.c) ∧ w'.cell? ⟨B6, 1, none⟩ = some (.slice qd6.a L2.length qd6.c) ∧ w'.cell? ⟨w9.heap.size, 0, none⟩ = some (.slice qd.a0 1 qd.c0) ∧ w'.cell? ⟨w9.heap.size, 1, none⟩ = some (.slice qd.a1 1 qd.c1)) (first | with_reducible assumption | go_keep)
        (first
          | ((with_reducible refine (HR.out _).mono ?_); rintro e wx ⟨_, rfl, qx, rfl, hr, hf, hb⟩; replace S := Lib.hid (natRes S.out hr hf hb); clear hr hf hb; clear z3 f3 y3 y3a z2 f2 y2 y2a z1 f1 y1 y1a z0 f0 y0 y0a yT zT yR zR; obtain ⟨⟨z3, f3, y3, y3a, -⟩, ⟨z2, f2, y2, y2a, -⟩, ⟨z1, f1, y1, y1a, -⟩, ⟨z0, f0, y0, y0a, -⟩, -⟩ := S.out.facts; obtain ⟨yT, zT, -⟩ := tab_at S.out (lo := lo) (hi := hi) (g := ga) (o := oa) (k := 3 + 1) (L := fun i f => lim (U (VT awT) i f)) (R := RR) (K := KK) (Q := Q) (i := 2) (by simp) (by decide); rw [e2.out] at yT; obtain ⟨yR, zR, -, -⟩ := row_at S.out (lo := lo) (hi := hi) (g := g2) (o := o2) (k := 2 + 1) (L := fun f => lim (U (VT awT) 2 f)) (Q := Q 2) (i := 1) (by simp) (by decide); rw [aw_u, hL2.out] at yR)
          | ((with_reducible refine (HSn.out (Q 2 1) qx _ (natOld S.out (by simp)) (natOld S.out (by simp))).mono ?_); rintro e wx ⟨rfl, hb⟩; replace S := Lib.hid (S.out.call hb); clear hb; clear z3 f3 y3 y3a z2 f2 y2 y2a z1 f1 y1 y1a z0 f0 y0 y0a yT zT yR zR; obtain ⟨⟨z3, f3, y3, y3a, -⟩, ⟨z2, f2, y2, y2a, -⟩, ⟨z1, f1, y1, y1a, -⟩, ⟨z0, f0, y0, y0a, -⟩, -⟩ := S.out.facts; obtain ⟨yT, zT, -⟩ := tab_at S.out (lo := lo) (hi := hi) (g := ga) (o := oa) (k := 3 + 1) (L := fun i f => lim (U (VT awT) i f)) (R := RR) (K := KK) (Q := Q) (i := 2) (by simp) (by decide); rw [e2.out] at yT; obtain ⟨yR, zR, -, -⟩ := row_at S.out (lo := lo) (hi := hi) (g := g2) (o := o2) (k := 2 + 1) (L := fun f => lim (U (VT awT) 2 f)) (Q := Q 2) (i := 1) (by simp) (by decide); rw [aw_u, hL2.out] at yR)
          | ((with_reducible refine (O1_4.out _).mono ?_); rintro e wx ⟨_, rfl, qx, qy, rfl, hr, hr2, hf, hf2, hb⟩; replace S := Lib.hid (natRes2 S.out hr hr2 hf hf2 hb); clear hr hr2 hf hf2 hb; clear z3 f3 y3 y3a z2 f2 y2 y2a z1 f1 y1 y1a z0 f0 y0 y0a yT zT yR zR; obtain ⟨⟨z3, f3, y3, y3a, -⟩, ⟨z2, f2, y2, y2a, -⟩, ⟨z1, f1, y1, y1a, -⟩, ⟨z0, f0, y0, y0a, -⟩, -⟩ := S.out.facts; obtain ⟨yT, zT, -⟩ := tab_at S.out (lo := lo) (hi := hi) (g := ga) (o := oa) (k := 3 + 1) (L := fun i f => lim (U (VT awT) i f)) (R := RR) (K := KK) (Q := Q) (i := 2) (by simp) (by decide); rw [e2.out] at yT; obtain ⟨yR, zR, -, -⟩ := row_at S.out (lo := lo) (hi := hi) (g := g2) (o := o2) (k := 2 + 1) (L := fun f => lim (U (VT awT) 2 f)) (Q := Q 2) (i := 1) (by simp) (by decide); rw [aw_u, hL2.out] at yR)
          | ((with_reducible refine (HSr.out L1 L4 qn4 qd4 qx qy _ (natOld S.out (by simp)) (natOld S.out (by simp)) (natOld S.out (by simp)) (natOld S.out (by simp))).mono ?_); rintro e wx ⟨rfl, hb⟩; replace S := Lib.hid (S.out.call hb); clear hb; clear z3 f3 y3 y3a z2 f2 y2 y2a z1 f1 y1 y1a z0 f0 y0 y0a yT zT yR zR; obtain ⟨⟨z3, f3, y3, y3a, -⟩, ⟨z2, f2, y2, y2a, -⟩, ⟨z1, f1, y1, y1a, -⟩, ⟨z0, f0, y0, y0a, -⟩, -⟩ := S.out.facts; obtain ⟨yT, zT, -⟩ := tab_at S.out (lo := lo) (hi := hi) (g := ga) (o := oa) (k := 3 + 1) (L := fun i f => lim (U (VT awT) i f)) (R := RR) (K := KK) (Q := Q) (i := 2) (by simp) (by decide); rw [e2.out] at yT; obtain ⟨yR, zR, -, -⟩ := row_at S.out (lo := lo) (hi := hi) (g := g2) (o := o2) (k := 2 + 1) (L := fun f => lim (U (VT awT) 2 f)) (Q := Q 2) (i := 1) (by simp) (by decide); rw [aw_u, hL2.out] at yR)
          | ((with_reducible refine (O5_2.out _).mono ?_); rintro e wx ⟨_, rfl, qx, qy, rfl, hr, hr2, hf, hf2, hb⟩; replace S := Lib.hid (natRes2 S.out hr hr2 hf hf2 hb); clear hr hr2 hf hf2 hb; clear z3 f3 y3 y3a z2 f2 y2 y2a z1 f1 y1 y1a z0 f0 y0 y0a yT zT yR zR; obtain ⟨⟨z3, f3, y3, y3a, -⟩, ⟨z2, f2, y2, y2a, -⟩, ⟨z1, f1, y1, y1a, -⟩, ⟨z0, f0, y0, y0a, -⟩, -⟩ := S.out.facts; obtain ⟨yT, zT, -⟩ := tab_at S.out (lo := lo) (hi := hi) (g := ga) (o := oa) (k := 3 + 1) (L := fun i f => lim (U (VT awT) i f)) (R := RR) (K := KK) (Q := Q) (i := 2) (by simp) (by decide); rw [e2.out] at yT; obtain ⟨yR, zR, -, -⟩ := row_at S.out (lo := lo) (hi := hi) (g := g2) (o := o2) (k := 2 + 1) (L := fun f => lim (U (VT awT) 2 f)) (Q := Q 2) (i := 1) (by simp) (by decide); rw [aw_u, hL2.out] at yR)
          | ((with_reducible refine (HSr.out L5 L2 qn6 qd6 qx qy _ (natOld S.out (by simp)) (natOld S.out (by simp)) (natOld S.out (by simp)) (natOld S.out (by simp))).mono ?_); rintro e wx ⟨rfl, hb⟩; replace S := Lib.hid (S.out.call hb); clear hb; clear z3 f3 y3 y3a z2 f2 y2 y2a z1 f1 y1 y1a z0 f0 y0 y0a yT zT yR zR; obtain ⟨⟨z3, f3, y3, y3a, -⟩, ⟨z2, f2, y2, y2a, -⟩, ⟨z1, f1, y1, y1a, -⟩, ⟨z0, f0, y0, y0a, -⟩, -⟩ := S.out.facts; obtain ⟨yT, zT, -⟩ := tab_at S.out (lo := lo) (hi := hi) (g := ga) (o := oa) (k := 3 + 1) (L := fun i f => lim (U (VT awT) i f)) (R := RR) (K := KK) (Q := Q) (i := 2) (by simp) (by decide); rw [e2.out] at yT; obtain ⟨yR, zR, -, -⟩ := row_at S.out (lo := lo) (hi := hi) (g := g2) (o := o2) (k := 2 + 1) (L := fun f => lim (U (VT awT) 2 f)) (Q := Q 2) (i := 1) (by simp) (by decide); rw [aw_u, hL2.out] at yR)
          | ((with_reducible refine (HSt.out qd (some ⟨wx.heap.size, 0, none⟩) (some ⟨wx.heap.size + 1, 0, none⟩) _ (tstOld ((S.out.obj (.cells #[.int .i64 0] 3)).obj (.cells #[.int .i64 1] 3)) (by simp)) (rtst_d1 wx 3)).mono ?_); rintro e wy ⟨rfl, hb⟩; replace S := Lib.hid (((S.out.obj (.cells #[.int .i64 0] 3)).obj (.cells #[.int .i64 1] 3)).call hb); clear hb; clear z3 f3 y3 y3a z2 f2 y2 y2a z1 f1 y1 y1a z0 f0 y0 y0a yT zT yR zR; obtain ⟨⟨z3, f3, y3, y3a, -⟩, ⟨z2, f2, y2, y2a, -⟩, ⟨z1, f1, y1, y1a, -⟩, ⟨z0, f0, y0, y0a, -⟩, -⟩ := S.out.facts; obtain ⟨yT, zT, -⟩ := tab_at S.out (lo := lo) (hi := hi) (g := ga) (o := oa) (k := 3 + 1) (L := fun i f => lim (U (VT awT) i f)) (R := RR) (K := KK) (Q := Q) (i := 2) (by simp) (by decide); rw [e2.out] at yT; obtain ⟨yR, zR, -, -⟩ := row_at S.out (lo := lo) (hi := hi) (g := g2) (o := o2) (k := 2 + 1) (L := fun f => lim (U (VT awT) 2 f)) (Q := Q 2) (i := 1) (by simp) (by decide); rw [aw_u, hL2.out] at yR)
          | ((with_reducible refine (HSt.out qd (some ⟨wx.heap.size + 1, 0, none⟩) (some ⟨wx.heap.size, 0, none⟩) _ (tstOld ((S.out.obj (.cells #[.int .i64 1] 3)).obj (.cells #[.int .i64 0] 3)) (by simp)) (rtst_d2 wx 3)).mono ?_); rintro e wy ⟨rfl, hb⟩; replace S := Lib.hid (((S.out.obj (.cells #[.int .i64 1] 3)).obj (.cells #[.int .i64 0] 3)).call hb); clear hb; clear z3 f3 y3 y3a z2 f2 y2 y2a z1 f1 y1 y1a z0 f0 y0 y0a yT zT yR zR; obtain ⟨⟨z3, f3, y3, y3a, -⟩, ⟨z2, f2, y2, y2a, -⟩, ⟨z1, f1, y1, y1a, -⟩, ⟨z0, f0, y0, y0a, -⟩, -⟩ := S.out.facts; obtain ⟨yT, zT, -⟩ := tab_at S.out (lo := lo) (hi := hi) (g := ga) (o := oa) (k := 3 + 1) (L := fun i f => lim (U (VT awT) i f)) (R := RR) (K := KK) (Q := Q) (i := 2) (by simp) (by decide); rw [e2.out] at yT; obtain ⟨yR, zR, -, -⟩ := row_at S.out (lo := lo) (hi := hi) (g := g2) (o := o2) (k := 2 + 1) (L := fun f => lim (U (VT awT) 2 f)) (Q := Q 2) (i := 1) (by simp) (by decide); rw [aw_u, hL2.out] at yR))
      all_goals
        go_wp2
        go_ret
        exact ⟨rfl, S.out.bel⟩
end Go.Proofs.YtpoddmkimhkmoaaGreat
