/-
  CONTRACTS of the laws HealthEarlier and HealthAlways: each returns true.
  Conditions: those that each theorem names.
-/
import Derived.Test.YtbpgpjmihbmcbaaDoorHeaK
import Derived.Test.YtbpgpjmihbmcbaaDoorHeaX
namespace Go.Proofs.YtbpgpjmihbmcbaaDoor
open Go.RowKit Go.Sv

theorem curtail_vld {t : Tst} (vl : Vld t) (q : TstP) (w : World) (h : RTst w w.heap.size t q) (hbd : TBd t) :
    Calls Tryd.prog 22 #[tstV t q] w (Ret (TRes w (curT t) 0)) := by
  have h1 := curtail_any t q w h hbd
  unfold curV at h1
  rw [if_pos (vld_validE vl), vld_validE vl] at h1
  exact h1
theorem decide_ok {t : Tst} (vl : Vld t) (q : TstP) (A : Option Addr) (l : List Bool) (n c : Nat) (w : World) (h : RTst w w.heap.size t q) (hbd : TBd t) (hl : Arr w w.heap.size A l.length (bv l)) (hn : l.length ≤ 9223372036854775807)
    {v : Int} {m : Nat} (hd : decR t l = (v, m)) (e : l.length = n) :
    Calls Tryd.prog 16 #[tstV t q, .slice A n c] w fun e w' => e = .returned (.tuple #[.int .i64 v, .int .i64 m, .int .i64 0]) ∧ Below w.heap.size w w' := by
  have h1 := decide_any t q A l c w h hbd hl hn
  rw [hd, vld_validE vl, e] at h1
  exact h1
theorem verdict_ok {t : Tst} (vl : Vld t) (q : TstP) (n : Nat) (f : Int) (w : World) (h : RTst w w.heap.size t q) (hbd : TBd t) (h1 : 1 ≤ n) (h2 : n ≤ t.acc.length) (h3 : 0 ≤ f) (h4 : f ≤ n) {v : Int} (hv : atV t n f = v) :
    Calls Tryd.prog 25 #[tstV t q, .int .i64 n, .int .i64 f] w fun e w' => e = .returned (.tuple #[.int .i64 v, .int .i64 0]) ∧ Below w.heap.size w w' := by
  have h5 := verdict_any t q n f w h hbd
  have e0 := verdE_0 (vld_validE vl) (n := n) (f := f) (by omega)
  rw [verdV_ok e0, e0, hv] at h5
  exact h5
theorem curT_bd {t : Tst} (vl : Vld t) : TBd (curT t) := by
  obtain ⟨L1, L2⟩ := curT_len t
  have := vl.n1
  exact ⟨by rw [L1]; omega, by rw [L2]; omega⟩
theorem ofT_bd {l : List Int} (h : l.length ≤ 8) : TBd (ofT l) := by
  obtain ⟨L1, L2⟩ := ofT_len l
  exact ⟨by rw [L1]; omega, by rw [L2]; omega⟩

set_option maxHeartbeats 2000000 in
theorem law_earlier (l : List Int) (A : Option Addr) (c : Nat) (b : Int) (w : World) (ht : Tab w) (hn : l.length ≤ 9223372036854775807) (hb : ∀ i, i < l.length → 0 ≤ gi l i ∧ gi l i < 256) (ha : Arr w w.heap.size A l.length (u8v l)) (b0 : 0 ≤ b) (b1 : b < 256) :
    Calls Tryd.prog 6 #[.slice A l.length c, .int .u8 b] w fun e w' => e = .returned (.bool true) ∧ Below w.heap.size w w' := by
  have hA : Hid (∀ w', Below w.heap.size w w' → Calls Tryd.prog 11 #[] w' fun e w'' => e = .returned (.bool true) ∧ Below w'.heap.size w' w'') := Lib.hid fun w' h => awake_any w' (ht.to h)
  clear ht
  by_cases g : 0 < l.length ∧ l.length ≤ 8
  case neg =>
    have H1 := Lib.hid (rof_no l A c w (by omega) hn)
    clear g hb ha
    go_enter Tryd.func6, Tryd.ntmps6
    go_wp2_with fail
    refine H1.out.mono ?_
    rintro e w1 ⟨_, rfl, q, rfl, hr, hb1⟩
    have hbx1 : Below w1.heap.size w1 (w1.alloc (.cells #[.slice q.a0 tst0.acc.length q.c0, .slice q.a1 tst0.rej.length q.c1] 26)) := (Below.refl _ _).alloc (Nat.le_refl _) _
    have hc1 := Lib.hid (below_of hb1 hb1.size hbx1)
    clear hr hb1 hbx1
    go_wp2_with fail
    refine (hA.out _ hc1.out).mono ?_
    rintro e w2 ⟨rfl, hb2⟩
    have hc2 := Lib.hid (below_of hc1.out hc1.out.size hb2)
    clear hb2
    go_wp2_with fail
    refine (hA.out _ hc2.out).mono ?_
    rintro e w3 ⟨rfl, hb3⟩
    have hc3 := Lib.hid (below_of hc2.out hc2.out.size hb3)
    clear hb3
    go_wp2
    go_ret
    exact ⟨rfl, hc3.out⟩
  obtain ⟨g0, g8⟩ := g
  have vl := ofT_vld g0 g8 (fun i hi => (hb i hi).1)
  have hbd := ofT_bd g8
  have L1 := (ofT_len l).1
  have ol : (outc b l.length).length = l.length := outc_len b l.length
  obtain ⟨ev, em⟩ := decR_early vl (l := outc b l.length) (by rw [ol, L1])
  obtain ⟨v, hv⟩ : ∃ v, (decR (ofT l) (outc b l.length)).1 = v := ⟨_, rfl⟩
  obtain ⟨m1, hm1⟩ : ∃ m, (decR (ofT l) (outc b l.length)).2 = m := ⟨_, rfl⟩
  obtain ⟨m2, hm2⟩ : ∃ m, (decR (curT (ofT l)) (outc b l.length)).2 = m := ⟨_, rfl⟩
  rw [hm1, hm2] at em
  have D1 : decR (ofT l) (outc b l.length) = (v, m1) := Prod.ext hv hm1
  have D2 : decR (curT (ofT l)) (outc b l.length) = (v, m2) := Prod.ext (ev.trans hv) hm2
  have H1 := Lib.hid (rof_ok l A c w g0 g8 hb ha)
  have HC := Lib.hid (fun q w' h => curtail_vld vl q w' h hbd)
  have HO := Lib.hid (fun w' => outcomes_any l.length b (by omega) b0 w')
  have HD1 := Lib.hid (fun q A' c' w' h ha' => decide_ok vl q A' (outc b l.length) l.length c' w' h hbd ha' (by omega) D1 ol)
  have HD2 := Lib.hid (fun q A' c' w' h ha' => decide_ok (curT_vld vl) q A' (outc b l.length) l.length c' w' h (curT_bd vl) ha' (by omega) D2 ol)
  have e1 : decide (m2 ≤ m1) = true := decide_eq_true em
  have OL := Lib.hid ol
  obtain ⟨t, ht⟩ : ∃ t, ofT l = t := ⟨_, rfl⟩
  rw [ht] at H1 HC HD1 HD2
  obtain ⟨u, hu⟩ : ∃ u, curT t = u := ⟨_, rfl⟩
  rw [hu] at HC HD2
  clear vl hbd L1 ol ev em hv hm1 hm2 D1 D2 hb ha ht hu
  go_enter Tryd.func6, Tryd.ntmps6
  go_wp2_with fail
  refine H1.out.mono ?_
  rintro e w1 ⟨_, rfl, q, rfl, hr1, hb1⟩
  have hbx1 : Below w1.heap.size w1 (w1.alloc (.cells #[.slice q.a0 t.acc.length q.c0, .slice q.a1 t.rej.length q.c1] 26)) := (Below.refl _ _).alloc (Nat.le_refl _) _
  have hc1 := Lib.hid (below_of hb1 hb1.size hbx1)
  have R1 := Lib.hid (hr1.to hbx1)
  have B1 := Lib.hid (TBox.new (w := w1) (e := 26) (t := t) (q := q))
  clear hr1 hb1 hbx1
  go_wp2_with fail
  refine (hA.out _ hc1.out).mono ?_
  rintro e w2 ⟨rfl, hb2⟩
  have hc2 := Lib.hid (below_of hc1.out hc1.out.size hb2)
  have R2 := Lib.hid (R1.out.to hb2)
  have B2 := Lib.hid (B1.out.to hb2)
  clear hb2
  obtain ⟨z, y0, y1⟩ := B2.out
  go_wp2_with fail
  refine (HC.out q _ R2.out).mono ?_
  rintro e w3 ⟨_, rfl, q3, rfl, hr3, hb3⟩
  have hbx3 : Below w3.heap.size w3 (w3.alloc (.cells #[.slice q3.a0 u.acc.length q3.c0, .slice q3.a1 u.rej.length q3.c1] 26)) := (Below.refl _ _).alloc (Nat.le_refl _) _
  have hc3 := Lib.hid (below_of (below_of hc2.out hc2.out.size hb3) (by have := hc2.out.size; have := hb3.size; omega) hbx3)
  have R3 := Lib.hid ((R2.out.to hb3).to hbx3)
  have B3 := Lib.hid ((B2.out.to hb3).to hbx3)
  have R3' := Lib.hid (hr3.to hbx3)
  have B3' := Lib.hid (TBox.new (w := w3) (e := 26) (t := u) (q := q3))
  clear hr3 hb3 hbx3 z y0 y1
  go_wp2_with fail
  refine (HO.out _).mono ?_
  rintro e w4 ⟨_, rfl, A4, c4, rfl, _, har, hb4⟩
  rw [OL.out]
  have hc4 := Lib.hid (below_of hc3.out hc3.out.size hb4)
  have R4 := Lib.hid (R3.out.to hb4)
  have B4 := Lib.hid (B3.out.to hb4)
  have R4' := Lib.hid (R3'.out.to hb4)
  have B4' := Lib.hid (B3'.out.to hb4)
  replace har := Lib.hid har
  clear hb4
  obtain ⟨z, y0, y1⟩ := B4.out
  go_wp2_with fail
  refine (HD1.out q A4 c4 _ R4.out har.out).mono ?_
  rintro e w5 ⟨rfl, hb5⟩
  have hc5 := Lib.hid (below_of hc4.out hc4.out.size hb5)
  have R5' := Lib.hid (R4'.out.to hb5)
  have B5' := Lib.hid (B4'.out.to hb5)
  have har5 := Lib.hid ((har.out.below hb5).more hb5.size)
  clear hb5 z y0 y1
  obtain ⟨z, y0, y1⟩ := B5'.out
  go_wp2_with fail
  refine (HD2.out q3 A4 c4 _ R5'.out har5.out).mono ?_
  rintro e w6 ⟨rfl, hb6⟩
  have hc6 := Lib.hid (below_of hc5.out hc5.out.size hb6)
  clear hb6 z y0 y1
  go_wp2
  go_ret
  exact ⟨by simp, hc6.out⟩

set_option maxHeartbeats 2000000 in
theorem law_always (l : List Int) (A : Option Addr) (c : Nat) (b : Int) (w : World) (ht : Tab w) (hn : l.length ≤ 9223372036854775807) (hb : ∀ i, i < l.length → 0 ≤ gi l i ∧ gi l i < 256) (ha : Arr w w.heap.size A l.length (u8v l)) (b0 : 0 ≤ b) (b1 : b < 256) :
    Calls Tryd.prog 9 #[.slice A l.length c, .int .u8 b] w fun e w' => e = .returned (.bool true) ∧ Below w.heap.size w w' := by
  have hA : Hid (∀ w', Below w.heap.size w w' → Calls Tryd.prog 11 #[] w' fun e w'' => e = .returned (.bool true) ∧ Below w'.heap.size w' w'') := Lib.hid fun w' h => awake_any w' (ht.to h)
  clear ht
  by_cases g : 0 < l.length ∧ l.length ≤ 8
  case neg =>
    have H1 := Lib.hid (rof_no l A c w (by omega) hn)
    clear g hb ha
    go_enter Tryd.func9, Tryd.ntmps9
    go_wp2_with fail
    refine H1.out.mono ?_
    rintro e w1 ⟨_, rfl, q, rfl, hr, hb1⟩
    have hbx1 : Below w1.heap.size w1 (w1.alloc (.cells #[.slice q.a0 tst0.acc.length q.c0, .slice q.a1 tst0.rej.length q.c1] 26)) := (Below.refl _ _).alloc (Nat.le_refl _) _
    have hc1 := Lib.hid (below_of hb1 hb1.size hbx1)
    clear hr hb1 hbx1
    go_wp2_with fail
    refine (hA.out _ hc1.out).mono ?_
    rintro e w2 ⟨rfl, hb2⟩
    have hc2 := Lib.hid (below_of hc1.out hc1.out.size hb2)
    clear hb2
    go_wp2_with fail
    refine (hA.out _ hc2.out).mono ?_
    rintro e w3 ⟨rfl, hb3⟩
    have hc3 := Lib.hid (below_of hc2.out hc2.out.size hb3)
    clear hb3
    go_wp2
    go_ret
    exact ⟨rfl, hc3.out⟩
  obtain ⟨g0, g8⟩ := g
  have vl := ofT_vld g0 g8 (fun i hi => (hb i hi).1)
  have hbd := ofT_bd g8
  have L1 := (ofT_len l).1
  have ol : (outc b l.length).length = l.length := outc_len b l.length
  obtain ⟨m, D1, hm, hne, hall⟩ := decR_spec vl (l := outc b l.length) (by rw [ol, L1])
  rw [ol] at hm
  have H1 := Lib.hid (rof_ok l A c w g0 g8 hb ha)
  have HO := Lib.hid (fun w' => outcomes_any l.length b (by omega) b0 w')
  have HD1 := Lib.hid (fun q A' c' w' h ha' => decide_ok vl q A' (outc b l.length) l.length c' w' h hbd ha' (by omega) D1 ol)
  have HV : Hid (∀ q w' k, k < m → RTst w' w'.heap.size (ofT l) q → Calls Tryd.prog 25 #[tstV (ofT l) q, .int .i64 ((k : Int) + 1), .int .i64 (failsTo (outc b l.length) (k + 1))] w' fun e w'' => e = .returned (.tuple #[.int .i64 0, .int .i64 0]) ∧ Below w'.heap.size w' w'') := Lib.hid fun q w' k hk h => by
    have fb := failsTo_bd (outc b l.length) (k + 1)
    have := verdict_ok vl q (k + 1) (failsTo (outc b l.length) (k + 1)) w' h hbd (by omega) (by rw [L1]; omega) fb.1 fb.2 (hall k hk)
    simpa using this
  have HW : Hid (∀ q w', RTst w' w'.heap.size (ofT l) q → Calls Tryd.prog 25 #[tstV (ofT l) q, .int .i64 ((m : Int) + 1), .int .i64 (failsTo (outc b l.length) (m + 1))] w' fun e w'' => e = .returned (.tuple #[.int .i64 (decAt (ofT l) (outc b l.length) m), .int .i64 0]) ∧ Below w'.heap.size w' w'') := Lib.hid fun q w' h => by
    have fb := failsTo_bd (outc b l.length) (m + 1)
    have := verdict_ok vl q (m + 1) (failsTo (outc b l.length) (m + 1)) w' h hbd (by omega) (by rw [L1]; omega) fb.1 fb.2 (v := decAt (ofT l) (outc b l.length) m) rfl
    simpa using this
  have OL := Lib.hid ol
  obtain ⟨t, ht⟩ : ∃ t, ofT l = t := ⟨_, rfl⟩
  obtain ⟨v, hv⟩ : ∃ v, decAt (ofT l) (outc b l.length) m = v := ⟨_, rfl⟩
  rw [hv] at HD1 HW hne
  rw [ht] at H1 HD1 HV HW
  have ev : (v == 0) = false := beq_eq_false_iff_ne.2 hne
  have en : decide ((l.length : Int) < (m : Int) + 1) = false := by rw [decide_eq_false_iff_not]; omega
  have en' : decide (l.length < m + 1) = false := by rw [decide_eq_false_iff_not]; omega
  clear vl hbd L1 ol D1 hb ha ht hv hne hall
  go_enter Tryd.func9, Tryd.ntmps9
  go_wp2_with fail
  refine H1.out.mono ?_
  rintro e w1 ⟨_, rfl, q, rfl, hr1, hb1⟩
  have hbx1 : Below w1.heap.size w1 (w1.alloc (.cells #[.slice q.a0 t.acc.length q.c0, .slice q.a1 t.rej.length q.c1] 26)) := (Below.refl _ _).alloc (Nat.le_refl _) _
  have hc1 := Lib.hid (below_of hb1 hb1.size hbx1)
  have R1 := Lib.hid (hr1.to hbx1)
  have B1 := Lib.hid (TBox.new (w := w1) (e := 26) (t := t) (q := q))
  clear hr1 hb1 hbx1
  go_wp2_with fail
  refine (hA.out _ hc1.out).mono ?_
  rintro e w2 ⟨rfl, hb2⟩
  have hc2 := Lib.hid (below_of hc1.out hc1.out.size hb2)
  have R2 := Lib.hid (R1.out.to hb2)
  have B2 := Lib.hid (B1.out.to hb2)
  clear hb2
  go_wp2_with fail
  refine (HO.out _).mono ?_
  rintro e w4 ⟨_, rfl, A4, c4, rfl, _, har, hb4⟩
  rw [OL.out] at har ⊢
  have hc4 := Lib.hid (below_of hc2.out hc2.out.size hb4)
  have R4 := Lib.hid (R2.out.to hb4)
  have B4 := Lib.hid (B2.out.to hb4)
  have har' := Lib.hid (show Arr w4 w4.heap.size A4 (outc b l.length).length (bv (outc b l.length)) by rw [OL.out]; exact har)
  replace har := Lib.hid har
  clear hb4
  obtain ⟨z, y0, y1⟩ := B4.out
  go_wp2_with fail
  refine (HD1.out q A4 c4 _ R4.out har'.out).mono ?_
  rintro e w5 ⟨rfl, hb5⟩
  have hc5 := Lib.hid (below_of hc4.out hc4.out.size hb5)
  have R5 := Lib.hid (R4.out.to hb5)
  have B5 := Lib.hid (B4.out.to hb5)
  have har5 := Lib.hid ((har.out.below hb5).more hb5.size)
  clear hb5 z y0 y1
  have ec : ((m + 1 : Nat) : Int) = (m : Int) + 1 := by omega
  rw [ec]
  clear ec
  go_wp2_with fail
  go_loopw [11, 12, 13, 14] (fun f i _ _ wr => ∃ k : Nat, k ≤ m + 1 ∧ i = .int .i64 ((k : Int) + 1) ∧ f = .int .i64 (failsTo (outc b l.length) k) ∧ Below w5.heap.size w5 wr) (fun _ i _ _ _ => m + 2 - (intOf i).toNat)
  case atStart => exact ⟨0, Nat.zero_le _, rfl, rfl, Below.refl _ _⟩
  case round =>
    obtain ⟨k, hk, rfl, rfl, hd⟩ := hrel
    obtain ⟨z, y0, y1⟩ := B5.out.to hd
    have R6 := Lib.hid (R5.out.to hd)
    have hc6 := Lib.hid (below_of hc5.out hc5.out.size hd)
    by_cases hle : k ≤ m
    · have hkl : k < l.length := by omega
      obtain ⟨ab, o, rfl, hb, hc⟩ := har5.out (by omega)
      have d := (hd.cell (p := ⟨ab, o + k, none⟩) hb).trans (hc k hkl)
      clear hc
      unfold bv at d
      have t1 : decide ((k : Int) ≤ (m : Int)) = true := decide_eq_true (by omega)
      have t1' : decide (k ≤ m) = true := decide_eq_true hle
      have bb := failsTo_bd (outc b l.length) k
      have E : failsTo (outc b l.length) (k + 1) = failsTo (outc b l.length) k + bi (gb (outc b l.length) k) := rfl
      have i0 : (0 : Int) ≤ k := by omega
      replace hd := Lib.hid hd
      rcases Nat.lt_or_ge k m with hlt | hge
      · have x1 : decide ((k : Int) + 1 < (m : Int) + 1) = true := decide_eq_true (by omega)
        have x1' : decide (k < m) = true := decide_eq_true hlt
        have x2 : ((k : Int) + 1 == (m : Int) + 1) = false := beq_eq_false_iff_ne.2 (by omega)
        have x2' : ((k : Int) == (m : Int)) = false := beq_eq_false_iff_ne.2 (by omega)
        have HV' := Lib.hid (HV.out q wr k hlt R6.out)
        cases hg : gb (outc b l.length) k
        · rw [hg] at d E
          have E' : Hid (failsTo (outc b l.length) (k + 1) = failsTo (outc b l.length) k) := Lib.hid (by rw [E, bi_f]; omega)
          rw [E'.out] at HV'
          clear E hg
          go_wp2_with fail
          refine HV'.out.mono ?_
          rintro e w6 ⟨rfl, hb6⟩
          have hc7 := Lib.hid (below_of hd.out hd.out.size hb6)
          clear hb6 z y0 y1
          go_wp2
          go_roundw
          case rel => exact ⟨k + 1, by omega, by go_num, val_i E'.out.symm, hc7.out⟩
          case measure => simp [intOf]; omega
        · rw [hg] at d E
          have E' : Hid (failsTo (outc b l.length) (k + 1) = failsTo (outc b l.length) k + 1) := Lib.hid (by rw [E, bi_t])
          rw [E'.out] at HV'
          clear E hg
          go_wp2_with fail
          refine HV'.out.mono ?_
          rintro e w6 ⟨rfl, hb6⟩
          have hc7 := Lib.hid (below_of hd.out hd.out.size hb6)
          clear hb6 z y0 y1
          go_wp2
          go_roundw
          case rel => exact ⟨k + 1, by omega, by go_num, val_i E'.out.symm, hc7.out⟩
          case measure => simp [intOf]; omega
      · obtain rfl : k = m := by omega
        have HW' := Lib.hid (HW.out q wr R6.out)
        cases hg : gb (outc b l.length) k
        · rw [hg] at d E
          have E' : Hid (failsTo (outc b l.length) (k + 1) = failsTo (outc b l.length) k) := Lib.hid (by rw [E, bi_f]; omega)
          rw [E'.out] at HW'
          clear E hg
          go_wp2_with fail
          refine HW'.out.mono ?_
          rintro e w6 ⟨rfl, hb6⟩
          have hc7 := Lib.hid (below_of hd.out hd.out.size hb6)
          clear hb6 z y0 y1
          go_wp2
          go_roundw
          case rel => exact ⟨k + 1, by omega, by go_num, val_i E'.out.symm, hc7.out⟩
          case measure => simp [intOf]; omega
        · rw [hg] at d E
          have E' : Hid (failsTo (outc b l.length) (k + 1) = failsTo (outc b l.length) k + 1) := Lib.hid (by rw [E, bi_t])
          rw [E'.out] at HW'
          clear E hg
          go_wp2_with fail
          refine HW'.out.mono ?_
          rintro e w6 ⟨rfl, hb6⟩
          have hc7 := Lib.hid (below_of hd.out hd.out.size hb6)
          clear hb6 z y0 y1
          go_wp2
          go_roundw
          case rel => exact ⟨k + 1, by omega, by go_num, val_i E'.out.symm, hc7.out⟩
          case measure => simp [intOf]; omega
    · have t1 : decide ((k : Int) ≤ (m : Int)) = false := by rw [decide_eq_false_iff_not]; omega
      have t1' : decide (k ≤ m) = false := by rw [decide_eq_false_iff_not]; exact hle
      clear hd z y0 y1
      go_wp2
      go_ret
      exact ⟨rfl, hc6.out⟩
end Go.Proofs.YtbpgpjmihbmcbaaDoor
