/-
  CONTRACTS of Decimal of the reference.
  Conditions: those that each theorem names.
-/
import Derived.Test.YtoiokopmpcogbaaGreatDoorRaL
import Derived.Deep.RegionLaw
namespace Go.Proofs.YtoiokopmpcogbaaGreatDoor
open Go.RowKit Go.Sv
theorem mul_ten {a : List Int} (va : vN a = true) : mulV a (lim 10) = cutV (vl a * 10) ∧ mulE a (lim 10) = cutE (vl a * 10) := by
  unfold mulV mulE
  rw [va, vN_ten, vl_lim, Bool.and_self, if_pos rfl, if_pos rfl]
  exact ⟨rfl, rfl⟩
theorem rep_cons (k : Nat) (ds : List UInt8) : (⟨#[48]⟩ : ByteArray) ++ bS (List.replicate k 48 ++ ds) = bS (List.replicate (k + 1) 48 ++ ds) := by
  rw [show (⟨#[48]⟩ : ByteArray) = bS [48] from rfl, bS_append, List.replicate_succ]; rfl
theorem rep_end {k d : Nat} {ds : List UInt8} (h : k = 0 ∨ k + ds.length ≤ d + 1) (hd : d < k + ds.length) : List.replicate k 48 ++ ds = padS ds d := by
  unfold padS
  rw [show d + 1 - ds.length = k by omega]
theorem fmt_div {N D : Nat} (h : ¬ 128 < (lim N).length) : (lim (N / D)).length ≤ 128 := by
  rcases Nat.lt_or_ge 128 (lim (N / D)).length with c | c
  · exact absurd (len_mono (Nat.div_le_self _ _) c) h
  · exact c
set_option maxHeartbeats 2000000 in
set_option maxRecDepth 100000 in
theorem xrdec_a (w : World) (rn : List Int) (qrn : LmP) (hrn : RLm w w.heap.size rn qrn) (lrn : Lim rn) (rd : List Int) (qrd : LmP) (hrd : RLm w w.heap.size rd qrd) (lrd : Lim rd) (k : Int) (hv : vR rn rd = false) :
    Calls Tryz.prog 27 #[ratV rn qrn rd qrd, .int .i64 k] w (fun e w' => e = .returned (.tuple #[.string (dcV rn rd k), .int .i64 (dcE rn rd k)]) ∧ Below w.heap.size w w') := by
  have S := Lib.hid (natArg (natArg (Fm.init w) hrd) hrn)
  have HV := Lib.hid (fun q r w' (h1 : RLm w' w'.heap.size rn q) (h2 : RLm w' w'.heap.size rd r) => by
    have := rvalidR_any w' rn q h1 lrn rd r h2 lrd
    rw [hv] at this
    exact this)
  have u := Lib.hid (dc_a hv : dcV rn rd k = _ ∧ _)
  clear hv
  obtain ⟨qrna, qrnc⟩ := qrn
  obtain ⟨qrda, qrdc⟩ := qrd
  replace S := Lib.hid (S.out.box 28 [.slice qrna rn.length qrnc, .slice qrda rd.length qrdc])
  clear hrn hrd
  go_enter Tryz.func27, Tryz.ntmps27
  go_wp2_with fail
  refine (HV.out _ _ _ S.out.r0 S.out.r1).mono ?_
  rintro e w1 ⟨rfl, hb⟩
  replace S := Lib.hid (S.out.call hb)
  clear hb
  obtain ⟨⟨z0, f0, y0, y0a, -⟩, -⟩ := S.out.facts
  go_wp2
  refine bodyPost_ret (v := .tuple #[.string (⟨#[]⟩), .int .i64 1]) (by simp [results, Tryz.results27, go_sem]) rfl ?_
  rw [u.out.1, u.out.2]
  exact ⟨rfl, S.out.bel⟩
set_option maxHeartbeats 2000000 in
set_option maxRecDepth 100000 in
theorem xrdec_b (w : World) (rn : List Int) (qrn : LmP) (hrn : RLm w w.heap.size rn qrn) (lrn : Lim rn) (rd : List Int) (qrd : LmP) (hrd : RLm w w.heap.size rd qrd) (lrd : Lim rd) (k : Int) (hv : vR rn rd = true) (hk : k < 0) :
    Calls Tryz.prog 27 #[ratV rn qrn rd qrd, .int .i64 k] w (fun e w' => e = .returned (.tuple #[.string (dcV rn rd k), .int .i64 (dcE rn rd k)]) ∧ Below w.heap.size w w') := by
  have S := Lib.hid (natArg (natArg (Fm.init w) hrd) hrn)
  have HV := Lib.hid (fun q r w' (h1 : RLm w' w'.heap.size rn q) (h2 : RLm w' w'.heap.size rd r) => by
    have := rvalidR_any w' rn q h1 lrn rd r h2 lrd
    rw [hv] at this
    exact this)
  have u := Lib.hid (dc_b hv (by omega) : dcV rn rd k = _ ∧ _)
  have d0 : decide (k < 0) = true := decide_eq_true hk
  clear hv hk
  obtain ⟨qrna, qrnc⟩ := qrn
  obtain ⟨qrda, qrdc⟩ := qrd
  replace S := Lib.hid (S.out.box 28 [.slice qrna rn.length qrnc, .slice qrda rd.length qrdc])
  clear hrn hrd
  go_enter Tryz.func27, Tryz.ntmps27
  go_wp2_with fail
  refine (HV.out _ _ _ S.out.r0 S.out.r1).mono ?_
  rintro e w1 ⟨rfl, hb⟩
  replace S := Lib.hid (S.out.call hb)
  clear hb
  obtain ⟨⟨z0, f0, y0, y0a, -⟩, -⟩ := S.out.facts
  go_wp2
  refine bodyPost_ret (v := .tuple #[.string (⟨#[]⟩), .int .i64 7]) (by simp [results, Tryz.results27, go_sem]) rfl ?_
  rw [u.out.1, u.out.2]
  exact ⟨rfl, S.out.bel⟩
set_option maxHeartbeats 2000000 in
set_option maxRecDepth 100000 in
theorem xrdec_c (w : World) (rn : List Int) (qrn : LmP) (hrn : RLm w w.heap.size rn qrn) (lrn : Lim rn) (rd : List Int) (qrd : LmP) (hrd : RLm w w.heap.size rd qrd) (lrd : Lim rd) (k : Int) (hv : vR rn rd = true) (hk : 30 < k) :
    Calls Tryz.prog 27 #[ratV rn qrn rd qrd, .int .i64 k] w (fun e w' => e = .returned (.tuple #[.string (dcV rn rd k), .int .i64 (dcE rn rd k)]) ∧ Below w.heap.size w w') := by
  have S := Lib.hid (natArg (natArg (Fm.init w) hrd) hrn)
  have HV := Lib.hid (fun q r w' (h1 : RLm w' w'.heap.size rn q) (h2 : RLm w' w'.heap.size rd r) => by
    have := rvalidR_any w' rn q h1 lrn rd r h2 lrd
    rw [hv] at this
    exact this)
  have u := Lib.hid (dc_b hv (by omega) : dcV rn rd k = _ ∧ _)
  have d0 : decide (k < 0) = false := decide_eq_false (by omega)
  have d1 : decide (30 < k) = true := decide_eq_true hk
  clear hv hk
  obtain ⟨qrna, qrnc⟩ := qrn
  obtain ⟨qrda, qrdc⟩ := qrd
  replace S := Lib.hid (S.out.box 28 [.slice qrna rn.length qrnc, .slice qrda rd.length qrdc])
  clear hrn hrd
  go_enter Tryz.func27, Tryz.ntmps27
  go_wp2_with fail
  refine (HV.out _ _ _ S.out.r0 S.out.r1).mono ?_
  rintro e w1 ⟨rfl, hb⟩
  replace S := Lib.hid (S.out.call hb)
  clear hb
  obtain ⟨⟨z0, f0, y0, y0a, -⟩, -⟩ := S.out.facts
  go_wp2
  refine bodyPost_ret (v := .tuple #[.string (⟨#[]⟩), .int .i64 7]) (by simp [results, Tryz.results27, go_sem]) rfl ?_
  rw [u.out.1, u.out.2]
  exact ⟨rfl, S.out.bel⟩
set_option maxHeartbeats 2000000 in
set_option maxRecDepth 100000 in
theorem xrdec_g (w : World) (rn : List Int) (qrn : LmP) (hrn : RLm w w.heap.size rn qrn) (lrn : Lim rn) (rd : List Int) (qrd : LmP) (hrd : RLm w w.heap.size rd qrd) (lrd : Lim rd) (d : Nat) (hv : vR rn rd = true) (hd : d ≤ 30) :
    Calls Tryz.prog 27 #[ratV rn qrn rd qrd, .int .i64 d] w (fun e w' => e = .returned (.tuple #[.string (dcV rn rd d), .int .i64 (dcE rn rd d)]) ∧ Below w.heap.size w w') := by
  have S := Lib.hid (natArg (natArg (Fm.init w) hrd) hrn)
  have HV := Lib.hid (fun q r w' (h1 : RLm w' w'.heap.size rn q) (h2 : RLm w' w'.heap.size rd r) => by
    have := rvalidR_any w' rn q h1 lrn rd r h2 lrd
    rw [hv] at this
    exact this)
  have d0 : decide ((d : Int) < 0) = false := decide_eq_false (by omega)
  have d1 : decide (30 < (d : Int)) = false := decide_eq_false (by omega)
  have d2 : decide (30 < d) = false := decide_eq_false (by omega)
  obtain ⟨vn, vd, zd, -⟩ := vR_pos hv
  have HO := Lib.hid (fun w' => rof_any 10 w' (by decide) (by decide))
  simp only [show (10 : Int).toNat = 10 from rfl] at HO
  have HM := Lib.hid (fun l q r w' (h1 : RLm w' w'.heap.size l q) (h2 : RLm w' w'.heap.size (lim 10) r) (hl : Lim l) (va : vN l = true) => by
    have := rmul_any l (lim 10) q r w' h1 h2 hl (lim_lim _)
    rw [(mul_ten va).1, (mul_ten va).2] at this
    exact this)
  obtain ⟨T, hT⟩ : ∃ V, lim 10 = V := ⟨_, rfl⟩
  rw [hT] at HO HM
  have e00 := Lib.hid (show rn = lim (vl rn * 10 ^ 0) by rw [Nat.pow_zero, Nat.mul_one]; exact lim_vl lrn (vN_can vn).2)
  have r128 : rn.length ≤ 128 := (vN_can vn).1
  have hC := Lib.hid (fun j (h : j ≤ d) (c : 128 < (lim (vl rn * 10 ^ j)).length) => dc_c hv hd (len_mono (Nat.mul_le_mul_left _ (Nat.pow_le_pow_right (by decide) h)) c))
  have hD := Lib.hid (fun (c : ¬ 128 < (lim (vl rn * 10 ^ d)).length) => dc_d hv hd c)
  have HD := Lib.hid (fun (c : ¬ 128 < (lim (vl rn * 10 ^ d)).length) q r w' (h1 : RLm w' w'.heap.size (lim (vl rn * 10 ^ d)) q) (h2 : RLm w' w'.heap.size rd r) => by
    have := rdiv_any (lim (vl rn * 10 ^ d)) rd q r w' h1 h2 (lim_lim _) lrd
    have hvv : (vN (lim (vl rn * 10 ^ d)) && vN rd) = true := by rw [vd, vN_lim (by omega)]; rfl
    rw [show quoV (lim (vl rn * 10 ^ d)) rd = lim (vl (lim (vl rn * 10 ^ d)) / vl rd) from if_pos ⟨hvv, zd⟩, show remV (lim (vl rn * 10 ^ d)) rd = lim (vl (lim (vl rn * 10 ^ d)) % vl rd) from if_pos ⟨hvv, zd⟩, show divE (lim (vl rn * 10 ^ d)) rd = 0 from by unfold divE; rw [if_pos hvv, if_neg zd], vl_lim] at this
    exact this)
  have HF := Lib.hid (fun (c : ¬ 128 < (lim (vl rn * 10 ^ d)).length) q w' (h1 : RLm w' w'.heap.size (lim (vl rn * 10 ^ d / vl rd)) q) => by
    have := rformat_any (lim (vl rn * 10 ^ d / vl rd)) q w' h1 (lim_lim _)
    have vM : vN (lim (vl rn * 10 ^ d / vl rd)) = true := vN_lim (fmt_div c)
    rw [show fmtV (lim (vl rn * 10 ^ d / vl rd)) = decS (vl (lim (vl rn * 10 ^ d / vl rd))) from if_pos vM, show fmtE (lim (vl rn * 10 ^ d / vl rd)) = 0 from if_pos vM, vl_lim] at this
    exact this)
  have bM := Lib.hid (fun (c : ¬ 128 < (lim (vl rn * 10 ^ d)).length) => by
    have := decS_bd (lim_lim (vl rn * 10 ^ d / vl rd)) (vN_lim (fmt_div c))
    rw [vl_lim] at this
    exact this)
  have hL : Hid (dcL (vl rn) (vl rd) d = dotS (padS (Lib.decDigits (vl rn * 10 ^ d / vl rd)) d) d) := Lib.hid rfl
  have hds0 := List.length_pos_iff.2 (dec_ne (vl rn * 10 ^ d / vl rd))
  obtain ⟨N, hN⟩ : ∃ N, vl rn = N := ⟨_, rfl⟩
  obtain ⟨L, hLL⟩ : ∃ L, dcL N (vl rd) d = L := ⟨_, rfl⟩
  obtain ⟨ds, hds⟩ : ∃ ds, Lib.decDigits (N * 10 ^ d / vl rd) = ds := ⟨_, rfl⟩
  obtain ⟨X, hX⟩ : ∃ X, decS (N * 10 ^ d / vl rd) = X := ⟨_, rfl⟩
  rw [hN] at e00 hC hD HD HF bM hL hds0
  have hXs : X = bS ds := by rw [← hX, ← hds]
  rw [hX] at HF bM
  rw [hLL] at hD hL
  rw [hds] at hL hds0
  obtain ⟨Q, hQ⟩ : ∃ V, lim (N * 10 ^ d / vl rd) = V := ⟨_, rfl⟩
  obtain ⟨RR, hR⟩ : ∃ V, lim (N * 10 ^ d % vl rd) = V := ⟨_, rfl⟩
  rw [hQ, hR] at HD
  rw [hQ] at HF
  replace hXs := Lib.hid hXs
  clear hv vn vd zd hT hN hLL hds hX hQ hR
  obtain ⟨qrna, qrnc⟩ := qrn
  obtain ⟨qrda, qrdc⟩ := qrd
  replace S := Lib.hid (S.out.box 28 [.slice qrna rn.length qrnc, .slice qrda rd.length qrdc])
  clear hrn hrd
  go_enter Tryz.func27, Tryz.ntmps27
  go_wp2_with fail
  refine (HV.out _ _ _ S.out.r0 S.out.r1).mono ?_
  rintro e w1 ⟨rfl, hb⟩
  replace S := Lib.hid (S.out.call hb)
  clear hb
  obtain ⟨⟨z0, f0, y0, y0a, -⟩, -⟩ := S.out.facts
  replace S := Lib.hid (S.out.box 24 [.slice qrna rn.length qrnc])
  go_wp2
  go_loopw [7, 8] (fun s7 _ wr => ∃ (j : Nat) (l : List Int) (q : LmP), s7 = .int .i64 j ∧ j ≤ d ∧ l = lim (N * 10 ^ j) ∧ l.length ≤ 128 ∧ Fm w wr [⟨w1.heap.size, 24, [.slice q.a l.length q.c]⟩, ⟨w.heap.size, 28, [.slice qrna rn.length qrnc, .slice qrda rd.length qrdc]⟩] [rowRd l q, rowRd rd ⟨qrda, qrdc⟩]) (fun s7 _ _ => d - (intOf s7).toNat)
  case atStart => exact ⟨0, rn, ⟨qrna, qrnc⟩, rfl, Nat.zero_le _, e00.out, r128, S.out⟩
  case round =>
    have n1 : w.heap.size ≠ w1.heap.size := by omega
    have n2 : w1.heap.size ≠ w.heap.size := by omega
    clear S z0 f0 y0 y0a
    obtain ⟨j, l, ⟨ql, cl⟩, rfl, hj, hl, h128, S⟩ := hrel
    replace S := Lib.hid S
    have vL : vl l = N * 10 ^ j := by rw [hl, vl_lim]
    have lL : Lim l := by rw [hl]; exact lim_lim _
    have vn : vN l = true := by rw [hl]; exact vN_lim (by rw [← hl]; exact h128)
    by_cases hlt : j < d
    · have HM1 := Lib.hid (fun q r w' h1 h2 => HM.out l q r w' h1 h2 lL vn)
      rw [vL, show N * 10 ^ j * 10 = N * 10 ^ (j + 1) by rw [Nat.pow_succ, Nat.mul_assoc]] at HM1
      replace S := Lib.hid S.out.drew
      obtain ⟨⟨zO, fO, yO, -⟩, ⟨zR, fR, yR, yRa, -⟩, -⟩ := S.out.facts
      by_cases big : 128 < (lim (N * 10 ^ (j + 1))).length
      · rw [show cutV (N * 10 ^ (j + 1)) = [] from if_pos big, show cutE (N * 10 ^ (j + 1)) = 3 from if_pos big] at HM1
        have u := Lib.hid (hC.out (j + 1) hlt big)
        clear big hl vL lL vn hC hD HD HF bM hL HM e00
        go_wp2
        go_region_law (first
          | (go_simp; go_at_call 49; refine (HO.out _).mono ?_; rintro e w6 ⟨_, rfl, q6, rfl, hr6, hf6, hb6⟩; have S6 := Lib.hid (natRes S.out hr6 hf6 hb6); clear hr6 hf6 hb6; clear zO fO yO zR fR yR yRa; obtain ⟨⟨zO, fO, yO, -⟩, ⟨zR, fR, yR, yRa, -⟩, -⟩ := S6.out.facts)
          | (go_simp; go_at_call 61; refine (HM1.out _ _ _ S6.out.r1 S6.out.r0).mono ?_; rintro e w7 ⟨_, rfl, q7, rfl, hr7, hf7, hb7⟩; have S7 := Lib.hid (natRes S6.out hr7 hf7 hb7); clear hr7 hf7 hb7; clear zO fO yO zR fR yR yRa; obtain ⟨⟨zO, fO, yO, -⟩, ⟨zR, fR, yR, yRa, -⟩, -⟩ := S7.out.facts))
        all_goals
          replace S := Lib.hid (S7.out.set 0 rfl 0 (.slice q7.a 0 q7.c))
          go_wp2
          refine bodyPost_ret (v := .tuple #[.string ⟨#[]⟩, .int .i64 3]) (by simp [results, Tryz.results27, go_sem]) rfl ?_
          rw [u.out.1, u.out.2]
          exact ⟨rfl, S.out.bel⟩
      · rw [show cutV (N * 10 ^ (j + 1)) = lim (N * 10 ^ (j + 1)) from if_neg big, show cutE (N * 10 ^ (j + 1)) = 0 from if_neg big] at HM1
        obtain ⟨m, hm⟩ : ∃ m, lim (N * 10 ^ (j + 1)) = m := ⟨_, rfl⟩
        rw [hm] at HM1 big
        have m128 : m.length ≤ 128 := by omega
        replace hm := Lib.hid hm
        clear big hl vL lL vn hC hD HD HF bM hL HM e00
        go_wp2
        go_region_law (first
          | (go_simp; go_at_call 49; refine (HO.out _).mono ?_; rintro e w6 ⟨_, rfl, q6, rfl, hr6, hf6, hb6⟩; have S6 := Lib.hid (natRes S.out hr6 hf6 hb6); clear hr6 hf6 hb6; clear zO fO yO zR fR yR yRa; obtain ⟨⟨zO, fO, yO, -⟩, ⟨zR, fR, yR, yRa, -⟩, -⟩ := S6.out.facts)
          | (go_simp; go_at_call 61; refine (HM1.out _ _ _ S6.out.r1 S6.out.r0).mono ?_; rintro e w7 ⟨_, rfl, q7, rfl, hr7, hf7, hb7⟩; have S7 := Lib.hid (natRes S6.out hr7 hf7 hb7); clear hr7 hf7 hb7; clear zO fO yO zR fR yR yRa; obtain ⟨⟨zO, fO, yO, -⟩, ⟨zR, fR, yR, yRa, -⟩, -⟩ := S7.out.facts))
        all_goals
          have hF := Lib.hid ((S7.out.set 0 rfl 0 (.slice q7.a m.length q7.c)).drop _ [rowRd m q7, rowRd rd ⟨qrda, qrdc⟩] (List.Sublist.refl _) (.cons_cons _ (.cons _ (.cons _ (List.Sublist.refl _)))))
          go_wp2
          go_roundw
          case rel => exact ⟨j + 1, m, q7, by go_num, hlt, hm.out.symm, m128, hF.out⟩
          case measure => simp [intOf]; omega
    · obtain rfl : j = d := by omega
      have c : ¬ 128 < (lim (N * 10 ^ j)).length := by rw [← hl]; omega
      have u := Lib.hid (hD.out c)
      have HD1 := Lib.hid (HD.out c)
      have HF1 := Lib.hid (HF.out c)
      have bX := bM.out c
      rw [← hl] at HD1
      clear c hl vL lL vn hC hD HD HF bM HM e00 hlt
      obtain ⟨⟨zO, fO, yO, -⟩, ⟨zR, fR, yR, yRa, -⟩, -⟩ := S.out.facts
      go_wp2_with fail
      refine (HD1.out _ _ _ S.out.r0 S.out.r1).mono ?_
      rintro e w2 ⟨_, rfl, q2, q3, rfl, hr, hr2, hf, hf2, hb⟩
      replace S := Lib.hid (natRes2 S.out hr hr2 hf hf2 hb)
      clear hr hr2 hf hf2 hb zO fO yO zR fR yR yRa
      replace S := Lib.hid (S.out.box 24 [.slice q2.a Q.length q2.c])
      replace S := Lib.hid (S.out.box' 24 [.slice q3.a RR.length q3.c] (K := w2.heap.size + 1) (by simp))
      go_wp2_with fail
      refine (HF1.out _ _ S.out.r1).mono ?_
      rintro e w3 ⟨rfl, hb⟩
      replace S := Lib.hid (S.out.call hb)
      clear hb
      go_wp2
      go_loop [12] (fun s => ∃ (Y : ByteArray) (k : Nat), s = .string Y ∧ Y = bS (List.replicate k 48 ++ ds) ∧ (k = 0 ∨ k + ds.length ≤ j + 1)) (fun s => match s with | .string b => j + 1 - b.size | _ => 0)
      case atStart => exact ⟨X, 0, rfl, hXs.out, Or.inl rfl⟩
      case round =>
        obtain ⟨Y, k, rfl, hY, hk⟩ := hrel
        have hXl : X.size = ds.length := by rw [hXs.out, bS_size]
        have hYl : Y.size = k + ds.length := by rw [hY, bS_size]; simp
        have hYb : Y.size ≤ 100040 := by omega
        by_cases hle : Y.size ≤ j
        · have t1 : decide ((Y.size : Int) ≤ (j : Int)) = true := decide_eq_true (by omega)
          have t2 : decide (Y.size ≤ j) = true := decide_eq_true hle
          have c1 : ¬ 9223372036854775807 < 1 + Y.size := by omega
          have hn : Hid ((⟨#[48]⟩ : ByteArray) ++ Y = bS (List.replicate (k + 1) 48 ++ ds)) := Lib.hid (by rw [hY, rep_cons])
          have hk' : k + 1 + ds.length ≤ j + 1 := by omega
          have hms : ((⟨#[48]⟩ : ByteArray) ++ Y).size = 1 + Y.size := by rw [ByteArray.size_append]; rfl
          replace hms := Lib.hid hms
          clear hY hk hYl hXl
          go_wp2
          go_round
          case rel => exact ⟨_, k + 1, rfl, hn.out, Or.inr hk'⟩
          case measure =>
            have := hms.out
            show j + 1 - ((⟨#[48]⟩ : ByteArray) ++ Y).size < j + 1 - Y.size
            omega
        · have t1 : decide ((Y.size : Int) ≤ (j : Int)) = false := decide_eq_false (by omega)
          have t2 : decide (Y.size ≤ j) = false := decide_eq_false hle
          have hYs : Y = bS (padS ds j) := by rw [hY, rep_end hk (by omega)]
          by_cases hz : j = 0
          · have d3 : decide (0 < (j : Int)) = false := decide_eq_false (by omega)
            have d4 : decide (0 < j) = false := decide_eq_false (by omega)
            have hF : Hid (bS L = Y) := Lib.hid (by rw [hL.out, dot_z _ hz, ← hYs])
            rw [hF.out] at u
            clear hz hYs hY hk hYl hXl hle hL
            go_wp2
            refine bodyPost_ret (v := .tuple #[.string Y, .int .i64 0]) (by simp [results, Tryz.results27, go_sem]) rfl ?_
            rw [u.out.1, u.out.2]
            exact ⟨rfl, S.out.bel⟩
          · have d3 : decide (0 < (j : Int)) = true := decide_eq_true (by omega)
            have d4 : decide (0 < j) = true := decide_eq_true (by omega)
            have hF : Hid (bS L = Y.extract 0 (Y.size - j) ++ ⟨#[46]⟩ ++ Y.extract (Y.size - j) Y.size) := Lib.hid (by rw [hL.out, hYs, bS_size, dot_p _ hz])
            have k1 : IntKind.i64.wrap ((Y.size : Int) - (j : Int)) = (Y.size : Int) - (j : Int) := IntWalk.i64_in _ (by omega)
            have k2 : (0 : Int) ≤ (Y.size : Int) - (j : Int) := by omega
            have k3 : (Y.size : Int) - (j : Int) ≤ (Y.size : Int) := by omega
            have k4 : ((Y.size : Int) - (j : Int)).toNat = Y.size - j := by omega
            have x1 : (Y.extract 0 (Y.size - j)).size + 1 + (Y.extract (Y.size - j) Y.size).size ≤ 200000 := by simp [ByteArray.size_extract]; omega
            obtain ⟨A, kA⟩ : ∃ A, Y.extract 0 (Y.size - j) = A := ⟨_, rfl⟩
            obtain ⟨B, kB⟩ : ∃ B, Y.extract (Y.size - j) Y.size = B := ⟨_, rfl⟩
            rw [kA, kB] at x1 hF
            have x2 : ¬ 9223372036854775807 < A.size + 1 := by omega
            have x3 : ¬ 9223372036854775807 < A.size + 1 + B.size := by omega
            rw [hF.out] at u
            clear hz hYs hY hk hYl hXl hle hL x1
            replace k1 := Lib.hid k1
            replace k4 := Lib.hid k4
            replace kA := Lib.hid kA
            replace kB := Lib.hid kB
            go_wp2_with fail
            replace k1 := k1.out
            replace k4 := k4.out
            replace kA := kA.out
            replace kB := kB.out
            refine wp_region_quiet_lit (by kernel_rfl) (by kernel_rfl) ?_
            repeat (go_big_quiet_step (fail))
            refine wpQuiet_nil ?_
            intro w9 hw9
            have hd9 : Drawn _ w9 := hw9
            replace S := Lib.hid (S.out.drawn hd9)
            clear hd9 hw9 k1 k4 kA kB
            go_wp2
            refine bodyPost_ret (v := .tuple #[.string (A ++ ⟨#[46]⟩ ++ B), .int .i64 0]) (by simp [results, Tryz.results27, go_sem]) rfl ?_
            rw [u.out.1, u.out.2]
            exact ⟨rfl, S.out.bel⟩
set_option maxHeartbeats 2000000 in
set_option maxRecDepth 100000 in
theorem xdec_any (w : World) (rn : List Int) (qrn : LmP) (hrn : RLm w w.heap.size rn qrn) (lrn : Lim rn) (rd : List Int) (qrd : LmP) (hrd : RLm w w.heap.size rd qrd) (lrd : Lim rd) (k : Int) (ht : Tab w) :
    Calls Tryz.prog 26 #[ratV rn qrn rd qrd, .int .i64 k] w (fun e w' => e = .returned (.tuple #[.string (dcV rn rd k), .int .i64 (dcE rn rd k)]) ∧ Below w.heap.size w w') := by
  cases hv : vR rn rd with
  | false => exact xdec_a w rn qrn hrn lrn rd qrd hrd lrd k hv
  | true =>
    by_cases h0 : k < 0
    · exact xdec_b w rn qrn hrn lrn rd qrd hrd lrd k hv h0
    by_cases h1 : 30 < k
    · exact xdec_c w rn qrn hrn lrn rd qrd hrd lrd k hv h1
    obtain ⟨d, rfl⟩ : ∃ d : Nat, k = d := ⟨k.toNat, by omega⟩
    have hd : d ≤ 30 := by omega
    by_cases hl : 128 < (lim (vl rn * 10 ^ d)).length
    · exact xdec_d w rn qrn hrn lrn rd qrd hrd lrd d hv hd hl ht
    by_cases hz : d = 0
    · exact xdec_e w rn qrn hrn lrn rd qrd hrd lrd d hv hd hl ht hz
    rcases Nat.lt_or_ge d (Lib.decDigits (vl rn * 10 ^ d / vl rd)).length with hs | hs
    · exact xdec_g w rn qrn hrn lrn rd qrd hrd lrd d hv hd hl ht hz hs
    · exact xdec_f w rn qrn hrn lrn rd qrd hrd lrd d hv hd hl ht hz hs
set_option maxHeartbeats 2000000 in
set_option maxRecDepth 100000 in
theorem xrdec_any (w : World) (rn : List Int) (qrn : LmP) (hrn : RLm w w.heap.size rn qrn) (lrn : Lim rn) (rd : List Int) (qrd : LmP) (hrd : RLm w w.heap.size rd qrd) (lrd : Lim rd) (k : Int) :
    Calls Tryz.prog 27 #[ratV rn qrn rd qrd, .int .i64 k] w (fun e w' => e = .returned (.tuple #[.string (dcV rn rd k), .int .i64 (dcE rn rd k)]) ∧ Below w.heap.size w w') := by
  cases hv : vR rn rd with
  | false => exact xrdec_a w rn qrn hrn lrn rd qrd hrd lrd k hv
  | true =>
    by_cases h0 : k < 0
    · exact xrdec_b w rn qrn hrn lrn rd qrd hrd lrd k hv h0
    by_cases h1 : 30 < k
    · exact xrdec_c w rn qrn hrn lrn rd qrd hrd lrd k hv h1
    obtain ⟨d, rfl⟩ : ∃ d : Nat, k = d := ⟨k.toNat, by omega⟩
    have hd : d ≤ 30 := by omega
    exact xrdec_g w rn qrn hrn lrn rd qrd hrd lrd d hv hd
end Go.Proofs.YtoiokopmpcogbaaGreatDoor
