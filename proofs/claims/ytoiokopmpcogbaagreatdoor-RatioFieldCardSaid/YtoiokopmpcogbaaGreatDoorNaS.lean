/-
  CONTRACT of natural.Parse at texts of numbers.
  Conditions: those that each theorem names.
-/
import Derived.Test.YtoiokopmpcogbaaGreatDoorNt11
namespace Go.Proofs.YtoiokopmpcogbaaGreatDoor
open Go.RowKit Go.Sv
theorem bS_extract (l : List UInt8) (a b : Nat) : (bS l).extract a b = bS ((l.drop a).take (b - a)) := by
  have := Lib.extract_data (bS l) a b
  apply ByteArray.ext
  apply Array.ext'
  rw [this]
/-- the state of the loop over the groups -/
structure PsI (l : List UInt8) (gO : Nat) (w : World) (i : Nat) (m : List Int) (q : LmP) (wr : World) : Prop where
  il : i ≤ l.length
  gr : i = 0 ∨ (l.length - i) % 9 = 0
  is : m = lim (dval (l.take i))
  le : m.length ≤ 128
  fm : Fm w wr [⟨gO, 24, [.slice q.a m.length q.c]⟩, ⟨w.heap.size, 24, [.slice none 0 0]⟩] [rowRd m q]
  fr : Fr w.heap.size q

set_option maxHeartbeats 2000000 in
set_option maxRecDepth 100000 in
theorem parse_go1 (l : List UInt8) (w : World) (hs : l.length ≤ 100000) (hT : txtOk l = true) (c1 : 1 < l.length) :
    Calls Tryz.prog 67 #[.string (bS l)] w (Ret (NRes2 w (cutV (dval l)) (cutE (dval l)))) := by
  have h' : l ≠ [] ∧ (∀ c ∈ l, isDg c = true) ∧ (l.length ≤ 1 ∨ l.head? ≠ some 48) := by
    unfold txtOk at hT
    simp only [Bool.and_eq_true, Bool.or_eq_true, List.all_eq_true, decide_eq_true_eq, Bool.not_eq_true', List.isEmpty_eq_false_iff, beq_eq_false_iff_ne] at hT
    exact ⟨hT.1.1, hT.1.2, hT.2⟩
  obtain ⟨h0, hd, hh⟩ := h'
  have hl0 : 0 < l.length := by
    cases l with
    | nil => exact absurd rfl h0
    | cons c r => simp
  have S := Lib.hid ((Fm.init w).box 24 [.slice none 0 0])
  obtain ⟨cap, w1, hcv, hb1, hce⟩ := bytes_of l (w.alloc (.cells #[.slice none 0 0] 24))
  rw [World.size_alloc] at hcv hce
  have HC := cfun_any l _ cap w1 hce hs
  rw [show l.all isDg = true from List.all_eq_true.2 hd] at HC
  replace HC := Lib.hid HC
  replace S := Lib.hid (S.out.call hb1)
  have e1 : l.isEmpty = false := by cases l with | nil => exact absurd rfl h0 | cons c r => rfl
  have hsz := bS_size l
  have c2 : ∀ h : 0 < (bS l).size, ((((bS l)[0]'h).toNat : Int) == 48) = false := fun h => by
    rw [bS_get l 0 h hl0]
    refine beq_eq_false_iff_ne.2 fun e => ?_
    rcases hh with hh | hh
    · omega
    · apply hh
      rw [List.head?_eq_getElem?, List.getElem?_eq_getElem hl0]
      congr 1
      apply UInt8.toNat_inj.1
      show l[0].toNat = 48
      omega
  have hz1 : w.heap.size < w1.heap.size := by have := S.out.b_lt (x := ⟨w.heap.size, 24, [.slice none 0 0]⟩) (by simp); exact this
  replace hd := Lib.hid hd
  have I0 : Hid (PsI l w1.heap.size w 0 [] ⟨none, 0⟩ (w1.alloc (.cells #[.slice none 0 0] 24))) := Lib.hid
    ⟨Nat.zero_le _, Or.inl rfl, lim_zero.symm, by simp, (S.out.box 24 [.slice none 0 0]).also (rowRd [] ⟨none, 0⟩) (RLm.none_ _ _) (fun g ⟨h, _⟩ => absurd h (by simp)), Fr.none_ _⟩
  clear hb1 hce hh h0 hT
  have c2 := c2 (by omega)
  have i1 : (1 : Int) < (l.length : Int) := by omega
  have i2 : decide ((1 : Int) < (l.length : Int)) = true := decide_eq_true i1
  replace hsz := Lib.hid hsz
  go_enter Tryz.func67, Tryz.ntmps67
  go_wp2_with fail
  refine HC.out.mono ?_
  rintro e w' ⟨rfl, rfl⟩
  clear hcv HC S
  go_wp2
  go_loopw [6, 7, 8, 9, 10, 11] (fun s6 _ _ _ _ _ wr => ∃ (i : Nat) (m : List Int) (q' : LmP), s6 = .int .i64 i ∧ PsI l w1.heap.size w i m q' wr) (fun s6 _ _ _ _ _ _ => l.length - (intOf s6).toNat)
  case atStart => exact ⟨0, [], ⟨none, 0⟩, rfl, I0.out⟩
  case round =>
    clear I0
    obtain ⟨i, m, ⟨q1, c1'⟩, rfl, I⟩ := hrel
    have hil := I.il
    have hm := I.is
    have hm128 := I.le
    have S := Lib.hid I.fm
    by_cases hlt : i < l.length
    · obtain ⟨kk, hkk⟩ : ∃ kk, (l.length - i - 1) % 9 = kk := ⟨_, rfl⟩
      have hk8 : kk ≤ 8 := by omega
      have hik : i + kk + 1 ≤ l.length := by omega
      have hgr' : (l.length - (i + kk + 1)) % 9 = 0 := by omega
      have j1 : IntKind.i64.wrap ((l.length : Int) - i) = (l.length : Int) - i := IntWalk.i64_in _ (by omega)
      have j2 : (i : Int) ≤ (l.length : Int) := by omega
      have j3 : 1 ≤ (l.length : Int) - i := by omega
      have ek : ((l.length : Int) - i - 1) % 9 = (kk : Int) := by omega
      have hPU : Hid (∀ w', Calls Tryz.prog 97 #[.string ((bS l).extract i (i + kk + 1)), .int .i64 10, .int .i64 64] w' fun e w'' => e = .returned (.tuple #[.int .u64 ((dval ((l.drop i).take (kk + 1)) : Nat) : Int), .nilIface]) ∧ Below w'.heap.size w' w'') := Lib.hid fun w' => by
        rw [bS_extract, show i + kk + 1 - i = kk + 1 by omega]
        refine (Tryz.strconv_ParseUint_10_at64_ok (bS ((l.drop i).take (kk + 1))) (by rw [bS_size, List.length_take]; omega) (dval ((l.drop i).take (kk + 1))) (parseB_ok (by
          intro e
          have := congrArg List.length e
          rw [List.length_take, List.length_drop, List.length_nil] at this
          omega) (fun c hc => hd.out c (List.mem_of_mem_drop (List.mem_of_mem_take hc))) (by rw [List.length_take]; omega)) w').mono ?_
        rintro e w'' ⟨rfl, hw⟩
        refine ⟨rfl, ?_⟩
        rcases hw with rfl | rfl
        · exact Below.refl _ _
        · exact ⟨rfl, rfl, rfl, by rw [Lib.bytesWorld_size]; omega, fun k hk => Lib.bytesWorld_at_old w' _ _ k hk⟩
      have hstep := dval_take_step l i (kk + 1) (by omega)
      have hpart : dval ((l.drop i).take (kk + 1)) < 1000000000 := by
        have h1 := dval_lt ((l.drop i).take (kk + 1)) (fun c hc => hd.out c (List.mem_of_mem_drop (List.mem_of_mem_take hc)))
        have h2 : ((l.drop i).take (kk + 1)).length ≤ 9 := by rw [List.length_take]; omega
        have h3 := Nat.pow_le_pow_right (n := 10) (by decide) h2
        omega
      obtain ⟨pv, hpv⟩ : ∃ pv, dval ((l.drop i).take (kk + 1)) = pv := ⟨_, rfl⟩
      rw [hpv] at hPU hstep hpart
      replace hstep := Lib.hid hstep
      have hP9 : 10 ^ (kk + 1) ≤ 1000000000 := by
        have h3 := Nat.pow_le_pow_right (n := 10) (by decide) (show kk + 1 ≤ 9 by omega)
        omega
      have hPj : Hid (∀ j, j ≤ kk → 10 ^ j ≤ 100000000) := Lib.hid fun j hj => by
        have h3 := Nat.pow_le_pow_right (n := 10) (by decide) (show j ≤ 8 by omega)
        omega
      clear hpv I
      replace hm := Lib.hid hm
      obtain ⟨⟨zO, fO, yO, -⟩, ⟨zR, fR, yR, -⟩, -⟩ := S.out.facts
      clear hkk
      go_wp2_with fail
      refine (hPU.out _).mono ?_
      rintro e w5 ⟨rfl, hb5⟩
      replace S := Lib.hid (S.out.call hb5)
      clear hb5 zO fO yO zR fR yR hPU
      obtain ⟨⟨zO, fO, yO, -⟩, ⟨zR, fR, yR, -⟩, -⟩ := S.out.facts
      go_wp2
      go_loop [10, 59] (fun s10 s59 => ∃ (j P : Nat), s59 = .int .i64 j ∧ s10 = .int .u64 P ∧ j ≤ kk + 1 ∧ P = 10 ^ j) (fun _ s59 => kk + 1 - (intOf s59).toNat)
      case atStart => exact ⟨0, 1, rfl, rfl, Nat.zero_le _, rfl⟩
      case round =>
        obtain ⟨j, P, rfl, rfl, hj, hP⟩ := hrel
        by_cases hjk : j < kk + 1
        · have hPP := hPj.out j (by omega)
          rw [← hP] at hPP
          have hP' : Hid (P * 10 = 10 ^ (j + 1)) := Lib.hid (by rw [hP, Nat.pow_succ])
          have hjk' : (j : Int) < (kk : Int) + 1 := by omega
          have wP : IntKind.u64.wrap ((P : Int) * 10) = (P : Int) * 10 := by simp [IntKind.wrap, IntKind.bits, IntKind.signed]; omega
          replace hP := Lib.hid hP
          go_wp2
          go_round
          case rel => exact ⟨j + 1, P * 10, by go_num, by go_num, by omega, hP'.out⟩
          case measure => simp [intOf]; omega
        · obtain rfl : j = kk + 1 := by omega
          have hjk' : ¬ (((kk + 1 : Nat) : Int) < (kk : Int) + 1) := by omega
          rw [← hP] at hP9
          replace hP := Lib.hid hP
          have HO := Lib.hid (fun w' => of_any P w' (by omega) (by omega))
          rw [Int.toNat_natCast] at HO
          have vm : vl m = dval (l.take i) := by rw [hm.out, vl_lim]
          have hmL : Lim m := by rw [hm.out]; exact lim_lim _
          have vm1 : vN m = true := by rw [hm.out]; exact vN_lim (by rw [← hm.out]; exact hm128)
          have vP : vN (lim P) = true := vN_lim (lim_len_le.2 (by
            have := Bp_mono (show 1 ≤ 128 by omega)
            have e : Bp 1 = 4294967296 := by decide
            omega))
          have HM := Lib.hid (fun q3 w' (h1 : RLm w' w'.heap.size m ⟨q1, c1'⟩) (h3 : RLm w' w'.heap.size (lim P) q3) => by
            have := mul_any m (lim P) ⟨q1, c1'⟩ q3 w' h1 h3 hmL (lim_lim _)
            unfold mulV mulE at this
            rw [vm1, vP, vl_lim, vm, Bool.and_self, if_pos rfl, if_pos rfl] at this
            exact this)
          replace S := Lib.hid S.out.drew
          have hle1 : dval (l.take i) * P ≤ dval l := by
            have h1 := dval_take_le l i
            have h2 : 10 ^ (kk + 1) ≤ 10 ^ (l.length - i) := Nat.pow_le_pow_right (by decide) (by omega)
            rw [← hP.out] at h2
            exact Nat.le_trans (Nat.mul_le_mul_left _ h2) h1
          have hle2 := dval_mono l (i + (kk + 1))
          rw [hstep.out, ← hP.out] at hle2
          clear vm hmL vm1 vP
          by_cases big : 128 < (lim (dval (l.take i) * P)).length
          · have bn := len_mono hle1 big
            have e1 : cutV (dval (l.take i) * P) = [] := if_pos big
            have e2 : cutE (dval (l.take i) * P) = 3 := if_pos big
            have e3 : Hid (cutV (dval l) = []) := Lib.hid (if_pos bn)
            have e4 : Hid (cutE (dval l) = 3) := Lib.hid (if_pos bn)
            rw [e1, e2] at HM
            clear e1 e2 bn big hle1 hle2
            go_wp2
            go_region_law (first
              | (go_simp; go_at_call 48; refine (HO.out _).mono ?_; rintro e w6 ⟨_, rfl, q6, rfl, hr6, hf6, hb6⟩; have S6 := Lib.hid (natRes S.out hr6 hf6 hb6); clear hr6 hf6 hb6; clear zO fO yO zR fR yR; obtain ⟨⟨zO, fO, yO, -⟩, ⟨zR, fR, yR, -⟩, -⟩ := S6.out.facts)
              | (go_simp; go_at_call 52; refine (HM.out _ _ S6.out.r1 S6.out.r0).mono ?_; rintro e w7 ⟨_, rfl, q7, rfl, hr7, hf7, hb7⟩; have S7 := Lib.hid (natRes S6.out hr7 hf7 hb7); clear hr7 hf7 hb7; clear zO fO yO zR fR yR; obtain ⟨⟨zO, fO, yO, -⟩, ⟨zR, fR, yR, -⟩, -⟩ := S7.out.facts))
            all_goals
              have hF := Lib.hid ((S7.out.set 0 rfl 0 (.slice q7.a 0 q7.c)).set 1 rfl 0 (.slice none 0 0))
              go_wp2
              refine bodyPost_ret (v := .tuple #[.agg #[.slice none 0 0], .int .i64 3]) (by simp [results, Tryz.results67, go_sem, yR]) rfl ?_
              rw [e3.out, e4.out]
              exact Ret.mk (NRes2.none_ hF.out.bel)
          · have e1 : cutV (dval (l.take i) * P) = lim (dval (l.take i) * P) := if_neg big
            have e2 : cutE (dval (l.take i) * P) = 0 := if_neg big
            rw [e1, e2] at HM
            have vm1 : vN (lim (dval (l.take i) * P)) = true := vN_lim (by omega)
            have vP : vN (lim pv) = true := vN_lim (lim_len_le.2 (by
              have := Bp_mono (show 1 ≤ 128 by omega)
              have e : Bp 1 = 4294967296 := by decide
              omega))
            have HA := Lib.hid (fun q2 q3 w' (h1 : RLm w' w'.heap.size (lim (dval (l.take i) * P)) q2) (h3 : RLm w' w'.heap.size (lim pv) q3) => by
              have := add_any (lim (dval (l.take i) * P)) (lim pv) q2 q3 w' h1 h3 (lim_lim _) (lim_lim _)
              unfold sumV sumE at this
              rw [vm1, vP, vl_lim, vl_lim, Bool.and_self, if_pos rfl, if_pos rfl] at this
              exact this)
            have HO2 := Lib.hid (fun w' => of_any pv w' (by omega) (by omega))
            rw [Int.toNat_natCast] at HO2
            have hst : Hid (dval (l.take (i + (kk + 1))) = dval (l.take i) * P + pv) := Lib.hid (by rw [hstep.out, ← hP.out])
            obtain ⟨m2, hm2⟩ : ∃ m2, lim (dval (l.take i) * P) = m2 := ⟨_, rfl⟩
            obtain ⟨V2, hV2⟩ : ∃ V2, dval (l.take i) * P + pv = V2 := ⟨_, rfl⟩
            rw [hm2] at HM HA
            rw [hV2] at HA hle2 hst
            clear e1 e2 vm1 vP hm2 big hV2 hle1
            by_cases big : 128 < (lim V2).length
            · have bn := len_mono hle2 big
              have e1 : cutV V2 = [] := if_pos big
              have e2 : cutE V2 = 3 := if_pos big
              have e3 : Hid (cutV (dval l) = []) := Lib.hid (if_pos bn)
              have e4 : Hid (cutE (dval l) = 3) := Lib.hid (if_pos bn)
              rw [e1, e2] at HA
              clear e1 e2 bn big hle2
              go_wp2
              go_region_law (first
                | (go_simp; go_at_call 48; refine (HO.out _).mono ?_; rintro e w6 ⟨_, rfl, q6, rfl, hr6, hf6, hb6⟩; have S6 := Lib.hid (natRes S.out hr6 hf6 hb6); clear hr6 hf6 hb6; clear zO fO yO zR fR yR; obtain ⟨⟨zO, fO, yO, -⟩, ⟨zR, fR, yR, -⟩, -⟩ := S6.out.facts)
                | (go_simp; go_at_call 52; refine (HM.out _ _ S6.out.r1 S6.out.r0).mono ?_; rintro e w7 ⟨_, rfl, q7, rfl, hr7, hf7, hb7⟩; have S7 := Lib.hid (natRes S6.out hr7 hf7 hb7); clear hr7 hf7 hb7; clear zO fO yO zR fR yR; obtain ⟨⟨zO, fO, yO, -⟩, ⟨zR, fR, yR, -⟩, -⟩ := S7.out.facts))
              all_goals
                replace S := Lib.hid ((S7.out.set 0 rfl 0 (.slice q7.a m2.length q7.c)).drop _ [rowRd m2 q7] (List.Sublist.refl _) (.cons_cons _ (List.nil_sublist _))).drew
                clear S6 S7
                go_wp2
                go_region_law (first
                  | (go_simp; go_at_call 48; refine (HO2.out _).mono ?_; rintro e w8 ⟨_, rfl, q8, rfl, hr8, hf8, hb8⟩; have S8 := Lib.hid (natRes S.out hr8 hf8 hb8); clear hr8 hf8 hb8; clear zO fO yO zR fR yR; obtain ⟨⟨zO, fO, yO, -⟩, ⟨zR, fR, yR, -⟩, -⟩ := S8.out.facts)
                  | (go_simp; go_at_call 51; refine (HA.out _ _ _ S8.out.r1 S8.out.r0).mono ?_; rintro e w9 ⟨_, rfl, q9, rfl, hr9, hf9, hb9⟩; have S9 := Lib.hid (natRes S8.out hr9 hf9 hb9); have hFr9 := Lib.hid (hf9.le S8.out.size); clear hr9 hf9 hb9; clear zO fO yO zR fR yR; obtain ⟨⟨zO, fO, yO, -⟩, ⟨zR, fR, yR, -⟩, -⟩ := S9.out.facts))
                all_goals
                  have hF := Lib.hid ((S9.out.set 0 rfl 0 (.slice q9.a 0 q9.c)).set 1 rfl 0 (.slice none 0 0))
                  go_wp2
                  refine bodyPost_ret (v := .tuple #[.agg #[.slice none 0 0], .int .i64 3]) (by simp [results, Tryz.results67, go_sem, yR]) rfl ?_
                  rw [e3.out, e4.out]
                  exact Ret.mk (NRes2.none_ hF.out.bel)
            · have e1 : cutV V2 = lim V2 := if_neg big
              have e2 : cutE V2 = 0 := if_neg big
              rw [e1, e2] at HA
              obtain ⟨m3, hm3⟩ : ∃ m3, lim V2 = m3 := ⟨_, rfl⟩
              rw [hm3] at HA big
              have hfin : Hid (∀ wr q9, Fm w wr [⟨w1.heap.size, 24, [.slice q9.a m3.length q9.c]⟩, ⟨w.heap.size, 24, [.slice none 0 0]⟩] [rowRd m3 q9] → Fr w.heap.size q9 → PsI l w1.heap.size w (i + (kk + 1)) m3 q9 wr) := Lib.hid fun wr q9 hf hfr =>
                ⟨by omega, Or.inr (by rw [← Nat.add_assoc]; exact hgr'), by rw [hst.out, hm3], by omega, hf, hfr⟩
              clear e1 e2 hm3 big hle2
              go_wp2
              go_region_law (first
                | (go_simp; go_at_call 48; refine (HO.out _).mono ?_; rintro e w6 ⟨_, rfl, q6, rfl, hr6, hf6, hb6⟩; have S6 := Lib.hid (natRes S.out hr6 hf6 hb6); clear hr6 hf6 hb6; clear zO fO yO zR fR yR; obtain ⟨⟨zO, fO, yO, -⟩, ⟨zR, fR, yR, -⟩, -⟩ := S6.out.facts)
                | (go_simp; go_at_call 52; refine (HM.out _ _ S6.out.r1 S6.out.r0).mono ?_; rintro e w7 ⟨_, rfl, q7, rfl, hr7, hf7, hb7⟩; have S7 := Lib.hid (natRes S6.out hr7 hf7 hb7); clear hr7 hf7 hb7; clear zO fO yO zR fR yR; obtain ⟨⟨zO, fO, yO, -⟩, ⟨zR, fR, yR, -⟩, -⟩ := S7.out.facts))
              all_goals
                replace S := Lib.hid ((S7.out.set 0 rfl 0 (.slice q7.a m2.length q7.c)).drop _ [rowRd m2 q7] (List.Sublist.refl _) (.cons_cons _ (List.nil_sublist _))).drew
                clear S6 S7
                go_wp2
                go_region_law (first
                  | (go_simp; go_at_call 48; refine (HO2.out _).mono ?_; rintro e w8 ⟨_, rfl, q8, rfl, hr8, hf8, hb8⟩; have S8 := Lib.hid (natRes S.out hr8 hf8 hb8); clear hr8 hf8 hb8; clear zO fO yO zR fR yR; obtain ⟨⟨zO, fO, yO, -⟩, ⟨zR, fR, yR, -⟩, -⟩ := S8.out.facts)
                  | (go_simp; go_at_call 51; refine (HA.out _ _ _ S8.out.r1 S8.out.r0).mono ?_; rintro e w9 ⟨_, rfl, q9, rfl, hr9, hf9, hb9⟩; have S9 := Lib.hid (natRes S8.out hr9 hf9 hb9); have hFr9 := Lib.hid (hf9.le S8.out.size); clear hr9 hf9 hb9; clear zO fO yO zR fR yR; obtain ⟨⟨zO, fO, yO, -⟩, ⟨zR, fR, yR, -⟩, -⟩ := S9.out.facts))
                all_goals
                  have hF := Lib.hid ((S9.out.set 0 rfl 0 (.slice q9.a m3.length q9.c)).drop _ [rowRd m3 q9] (List.Sublist.refl _) (.cons_cons _ (List.nil_sublist _)))
                  go_wp2
                  go_roundw
                  case rel => exact ⟨i + (kk + 1), m3, q9, by go_num, hfin.out _ _ hF.out hFr9.out⟩
                  case measure => simp [intOf]; omega
    · obtain rfl : i = l.length := by omega
      rw [List.take_length] at hm
      have hV : Hid (cutV (dval l) = m) := Lib.hid (by unfold cutV; rw [← hm, if_neg (by omega)])
      have hE : Hid (cutE (dval l) = 0) := Lib.hid (by unfold cutE; rw [← hm, if_neg (by omega)])
      obtain ⟨⟨zO, fO, yO, -⟩, ⟨zR, fR, yR, -⟩, -⟩ := S.out.facts
      have hF := Lib.hid (S.out.set 1 rfl 0 (.slice q1 m.length c1'))
      have hfr := Lib.hid I.fr
      clear I hm hlt
      go_wp2
      refine bodyPost_ret (v := .tuple #[natV m ⟨q1, c1'⟩, .int .i64 0]) (by simp [results, Tryz.results67, go_sem, yR]) rfl ?_
      rw [hV.out, hE.out]
      exact Ret.mk (fm_nres2 hF.out (by simp) hfr.out)
set_option maxHeartbeats 2000000 in
set_option maxRecDepth 100000 in
theorem parse_go2 (l : List UInt8) (w : World) (hs : l.length ≤ 100000) (hT : txtOk l = true) (c1 : ¬ 1 < l.length) :
    Calls Tryz.prog 67 #[.string (bS l)] w (Ret (NRes2 w (cutV (dval l)) (cutE (dval l)))) := by
  have h' : l ≠ [] ∧ (∀ c ∈ l, isDg c = true) ∧ (l.length ≤ 1 ∨ l.head? ≠ some 48) := by
    unfold txtOk at hT
    simp only [Bool.and_eq_true, Bool.or_eq_true, List.all_eq_true, decide_eq_true_eq, Bool.not_eq_true', List.isEmpty_eq_false_iff, beq_eq_false_iff_ne] at hT
    exact ⟨hT.1.1, hT.1.2, hT.2⟩
  obtain ⟨h0, hd, hh⟩ := h'
  have hl0 : 0 < l.length := by
    cases l with
    | nil => exact absurd rfl h0
    | cons c r => simp
  have S := Lib.hid ((Fm.init w).box 24 [.slice none 0 0])
  obtain ⟨cap, w1, hcv, hb1, hce⟩ := bytes_of l (w.alloc (.cells #[.slice none 0 0] 24))
  rw [World.size_alloc] at hcv hce
  have HC := cfun_any l _ cap w1 hce hs
  rw [show l.all isDg = true from List.all_eq_true.2 hd] at HC
  replace HC := Lib.hid HC
  replace S := Lib.hid (S.out.call hb1)
  have e1 : l.isEmpty = false := by cases l with | nil => exact absurd rfl h0 | cons c r => rfl
  have hsz := bS_size l
  have hz1 : w.heap.size < w1.heap.size := by have := S.out.b_lt (x := ⟨w.heap.size, 24, [.slice none 0 0]⟩) (by simp); exact this
  replace hd := Lib.hid hd
  have I0 : Hid (PsI l w1.heap.size w 0 [] ⟨none, 0⟩ (w1.alloc (.cells #[.slice none 0 0] 24))) := Lib.hid
    ⟨Nat.zero_le _, Or.inl rfl, lim_zero.symm, by simp, (S.out.box 24 [.slice none 0 0]).also (rowRd [] ⟨none, 0⟩) (RLm.none_ _ _) (fun g ⟨h, _⟩ => absurd h (by simp)), Fr.none_ _⟩
  clear hb1 hce hh h0 hT
  have i2 : decide ((1 : Int) < (l.length : Int)) = false := decide_eq_false (by omega)
  replace hsz := Lib.hid hsz
  go_enter Tryz.func67, Tryz.ntmps67
  go_wp2_with fail
  refine HC.out.mono ?_
  rintro e w' ⟨rfl, rfl⟩
  clear hcv HC S c1
  go_wp2
  clear i2
  go_loopw [6, 7, 8, 9, 10, 11] (fun s6 _ _ _ _ _ wr => ∃ (i : Nat) (m : List Int) (q' : LmP), s6 = .int .i64 i ∧ PsI l w1.heap.size w i m q' wr) (fun s6 _ _ _ _ _ _ => l.length - (intOf s6).toNat)
  case atStart => exact ⟨0, [], ⟨none, 0⟩, rfl, I0.out⟩
  case round =>
    clear I0
    obtain ⟨i, m, ⟨q1, c1'⟩, rfl, I⟩ := hrel
    have hil := I.il
    have hm := I.is
    have hm128 := I.le
    have S := Lib.hid I.fm
    by_cases hlt : i < l.length
    · obtain ⟨kk, hkk⟩ : ∃ kk, (l.length - i - 1) % 9 = kk := ⟨_, rfl⟩
      have hk8 : kk ≤ 8 := by omega
      have hik : i + kk + 1 ≤ l.length := by omega
      have hgr' : (l.length - (i + kk + 1)) % 9 = 0 := by omega
      have j1 : IntKind.i64.wrap ((l.length : Int) - i) = (l.length : Int) - i := IntWalk.i64_in _ (by omega)
      have j2 : (i : Int) ≤ (l.length : Int) := by omega
      have j3 : 1 ≤ (l.length : Int) - i := by omega
      have ek : ((l.length : Int) - i - 1) % 9 = (kk : Int) := by omega
      have hPU : Hid (∀ w', Calls Tryz.prog 97 #[.string ((bS l).extract i (i + kk + 1)), .int .i64 10, .int .i64 64] w' fun e w'' => e = .returned (.tuple #[.int .u64 ((dval ((l.drop i).take (kk + 1)) : Nat) : Int), .nilIface]) ∧ Below w'.heap.size w' w'') := Lib.hid fun w' => by
        rw [bS_extract, show i + kk + 1 - i = kk + 1 by omega]
        refine (Tryz.strconv_ParseUint_10_at64_ok (bS ((l.drop i).take (kk + 1))) (by rw [bS_size, List.length_take]; omega) (dval ((l.drop i).take (kk + 1))) (parseB_ok (by
          intro e
          have := congrArg List.length e
          rw [List.length_take, List.length_drop, List.length_nil] at this
          omega) (fun c hc => hd.out c (List.mem_of_mem_drop (List.mem_of_mem_take hc))) (by rw [List.length_take]; omega)) w').mono ?_
        rintro e w'' ⟨rfl, hw⟩
        refine ⟨rfl, ?_⟩
        rcases hw with rfl | rfl
        · exact Below.refl _ _
        · exact ⟨rfl, rfl, rfl, by rw [Lib.bytesWorld_size]; omega, fun k hk => Lib.bytesWorld_at_old w' _ _ k hk⟩
      have hstep := dval_take_step l i (kk + 1) (by omega)
      have hpart : dval ((l.drop i).take (kk + 1)) < 1000000000 := by
        have h1 := dval_lt ((l.drop i).take (kk + 1)) (fun c hc => hd.out c (List.mem_of_mem_drop (List.mem_of_mem_take hc)))
        have h2 : ((l.drop i).take (kk + 1)).length ≤ 9 := by rw [List.length_take]; omega
        have h3 := Nat.pow_le_pow_right (n := 10) (by decide) h2
        omega
      obtain ⟨pv, hpv⟩ : ∃ pv, dval ((l.drop i).take (kk + 1)) = pv := ⟨_, rfl⟩
      rw [hpv] at hPU hstep hpart
      replace hstep := Lib.hid hstep
      have hP9 : 10 ^ (kk + 1) ≤ 1000000000 := by
        have h3 := Nat.pow_le_pow_right (n := 10) (by decide) (show kk + 1 ≤ 9 by omega)
        omega
      have hPj : Hid (∀ j, j ≤ kk → 10 ^ j ≤ 100000000) := Lib.hid fun j hj => by
        have h3 := Nat.pow_le_pow_right (n := 10) (by decide) (show j ≤ 8 by omega)
        omega
      clear hpv I
      replace hm := Lib.hid hm
      obtain ⟨⟨zO, fO, yO, -⟩, ⟨zR, fR, yR, -⟩, -⟩ := S.out.facts
      clear hkk
      go_wp2_with fail
      refine (hPU.out _).mono ?_
      rintro e w5 ⟨rfl, hb5⟩
      replace S := Lib.hid (S.out.call hb5)
      clear hb5 zO fO yO zR fR yR hPU
      obtain ⟨⟨zO, fO, yO, -⟩, ⟨zR, fR, yR, -⟩, -⟩ := S.out.facts
      go_wp2
      go_loop [10, 59] (fun s10 s59 => ∃ (j P : Nat), s59 = .int .i64 j ∧ s10 = .int .u64 P ∧ j ≤ kk + 1 ∧ P = 10 ^ j) (fun _ s59 => kk + 1 - (intOf s59).toNat)
      case atStart => exact ⟨0, 1, rfl, rfl, Nat.zero_le _, rfl⟩
      case round =>
        obtain ⟨j, P, rfl, rfl, hj, hP⟩ := hrel
        by_cases hjk : j < kk + 1
        · have hPP := hPj.out j (by omega)
          rw [← hP] at hPP
          have hP' : Hid (P * 10 = 10 ^ (j + 1)) := Lib.hid (by rw [hP, Nat.pow_succ])
          have hjk' : (j : Int) < (kk : Int) + 1 := by omega
          have wP : IntKind.u64.wrap ((P : Int) * 10) = (P : Int) * 10 := by simp [IntKind.wrap, IntKind.bits, IntKind.signed]; omega
          replace hP := Lib.hid hP
          go_wp2
          go_round
          case rel => exact ⟨j + 1, P * 10, by go_num, by go_num, by omega, hP'.out⟩
          case measure => simp [intOf]; omega
        · obtain rfl : j = kk + 1 := by omega
          have hjk' : ¬ (((kk + 1 : Nat) : Int) < (kk : Int) + 1) := by omega
          rw [← hP] at hP9
          replace hP := Lib.hid hP
          have HO := Lib.hid (fun w' => of_any P w' (by omega) (by omega))
          rw [Int.toNat_natCast] at HO
          have vm : vl m = dval (l.take i) := by rw [hm.out, vl_lim]
          have hmL : Lim m := by rw [hm.out]; exact lim_lim _
          have vm1 : vN m = true := by rw [hm.out]; exact vN_lim (by rw [← hm.out]; exact hm128)
          have vP : vN (lim P) = true := vN_lim (lim_len_le.2 (by
            have := Bp_mono (show 1 ≤ 128 by omega)
            have e : Bp 1 = 4294967296 := by decide
            omega))
          have HM := Lib.hid (fun q3 w' (h1 : RLm w' w'.heap.size m ⟨q1, c1'⟩) (h3 : RLm w' w'.heap.size (lim P) q3) => by
            have := mul_any m (lim P) ⟨q1, c1'⟩ q3 w' h1 h3 hmL (lim_lim _)
            unfold mulV mulE at this
            rw [vm1, vP, vl_lim, vm, Bool.and_self, if_pos rfl, if_pos rfl] at this
            exact this)
          replace S := Lib.hid S.out.drew
          have hle1 : dval (l.take i) * P ≤ dval l := by
            have h1 := dval_take_le l i
            have h2 : 10 ^ (kk + 1) ≤ 10 ^ (l.length - i) := Nat.pow_le_pow_right (by decide) (by omega)
            rw [← hP.out] at h2
            exact Nat.le_trans (Nat.mul_le_mul_left _ h2) h1
          have hle2 := dval_mono l (i + (kk + 1))
          rw [hstep.out, ← hP.out] at hle2
          clear vm hmL vm1 vP
          by_cases big : 128 < (lim (dval (l.take i) * P)).length
          · have bn := len_mono hle1 big
            have e1 : cutV (dval (l.take i) * P) = [] := if_pos big
            have e2 : cutE (dval (l.take i) * P) = 3 := if_pos big
            have e3 : Hid (cutV (dval l) = []) := Lib.hid (if_pos bn)
            have e4 : Hid (cutE (dval l) = 3) := Lib.hid (if_pos bn)
            rw [e1, e2] at HM
            clear e1 e2 bn big hle1 hle2
            go_wp2
            go_region_law (first
              | (go_simp; go_at_call 48; refine (HO.out _).mono ?_; rintro e w6 ⟨_, rfl, q6, rfl, hr6, hf6, hb6⟩; have S6 := Lib.hid (natRes S.out hr6 hf6 hb6); clear hr6 hf6 hb6; clear zO fO yO zR fR yR; obtain ⟨⟨zO, fO, yO, -⟩, ⟨zR, fR, yR, -⟩, -⟩ := S6.out.facts)
              | (go_simp; go_at_call 52; refine (HM.out _ _ S6.out.r1 S6.out.r0).mono ?_; rintro e w7 ⟨_, rfl, q7, rfl, hr7, hf7, hb7⟩; have S7 := Lib.hid (natRes S6.out hr7 hf7 hb7); clear hr7 hf7 hb7; clear zO fO yO zR fR yR; obtain ⟨⟨zO, fO, yO, -⟩, ⟨zR, fR, yR, -⟩, -⟩ := S7.out.facts))
            all_goals
              have hF := Lib.hid ((S7.out.set 0 rfl 0 (.slice q7.a 0 q7.c)).set 1 rfl 0 (.slice none 0 0))
              go_wp2
              refine bodyPost_ret (v := .tuple #[.agg #[.slice none 0 0], .int .i64 3]) (by simp [results, Tryz.results67, go_sem, yR]) rfl ?_
              rw [e3.out, e4.out]
              exact Ret.mk (NRes2.none_ hF.out.bel)
          · have e1 : cutV (dval (l.take i) * P) = lim (dval (l.take i) * P) := if_neg big
            have e2 : cutE (dval (l.take i) * P) = 0 := if_neg big
            rw [e1, e2] at HM
            have vm1 : vN (lim (dval (l.take i) * P)) = true := vN_lim (by omega)
            have vP : vN (lim pv) = true := vN_lim (lim_len_le.2 (by
              have := Bp_mono (show 1 ≤ 128 by omega)
              have e : Bp 1 = 4294967296 := by decide
              omega))
            have HA := Lib.hid (fun q2 q3 w' (h1 : RLm w' w'.heap.size (lim (dval (l.take i) * P)) q2) (h3 : RLm w' w'.heap.size (lim pv) q3) => by
              have := add_any (lim (dval (l.take i) * P)) (lim pv) q2 q3 w' h1 h3 (lim_lim _) (lim_lim _)
              unfold sumV sumE at this
              rw [vm1, vP, vl_lim, vl_lim, Bool.and_self, if_pos rfl, if_pos rfl] at this
              exact this)
            have HO2 := Lib.hid (fun w' => of_any pv w' (by omega) (by omega))
            rw [Int.toNat_natCast] at HO2
            have hst : Hid (dval (l.take (i + (kk + 1))) = dval (l.take i) * P + pv) := Lib.hid (by rw [hstep.out, ← hP.out])
            obtain ⟨m2, hm2⟩ : ∃ m2, lim (dval (l.take i) * P) = m2 := ⟨_, rfl⟩
            obtain ⟨V2, hV2⟩ : ∃ V2, dval (l.take i) * P + pv = V2 := ⟨_, rfl⟩
            rw [hm2] at HM HA
            rw [hV2] at HA hle2 hst
            clear e1 e2 vm1 vP hm2 big hV2 hle1
            by_cases big : 128 < (lim V2).length
            · have bn := len_mono hle2 big
              have e1 : cutV V2 = [] := if_pos big
              have e2 : cutE V2 = 3 := if_pos big
              have e3 : Hid (cutV (dval l) = []) := Lib.hid (if_pos bn)
              have e4 : Hid (cutE (dval l) = 3) := Lib.hid (if_pos bn)
              rw [e1, e2] at HA
              clear e1 e2 bn big hle2
              go_wp2
              go_region_law (first
                | (go_simp; go_at_call 48; refine (HO.out _).mono ?_; rintro e w6 ⟨_, rfl, q6, rfl, hr6, hf6, hb6⟩; have S6 := Lib.hid (natRes S.out hr6 hf6 hb6); clear hr6 hf6 hb6; clear zO fO yO zR fR yR; obtain ⟨⟨zO, fO, yO, -⟩, ⟨zR, fR, yR, -⟩, -⟩ := S6.out.facts)
                | (go_simp; go_at_call 52; refine (HM.out _ _ S6.out.r1 S6.out.r0).mono ?_; rintro e w7 ⟨_, rfl, q7, rfl, hr7, hf7, hb7⟩; have S7 := Lib.hid (natRes S6.out hr7 hf7 hb7); clear hr7 hf7 hb7; clear zO fO yO zR fR yR; obtain ⟨⟨zO, fO, yO, -⟩, ⟨zR, fR, yR, -⟩, -⟩ := S7.out.facts))
              all_goals
                replace S := Lib.hid ((S7.out.set 0 rfl 0 (.slice q7.a m2.length q7.c)).drop _ [rowRd m2 q7] (List.Sublist.refl _) (.cons_cons _ (List.nil_sublist _))).drew
                clear S6 S7
                go_wp2
                go_region_law (first
                  | (go_simp; go_at_call 48; refine (HO2.out _).mono ?_; rintro e w8 ⟨_, rfl, q8, rfl, hr8, hf8, hb8⟩; have S8 := Lib.hid (natRes S.out hr8 hf8 hb8); clear hr8 hf8 hb8; clear zO fO yO zR fR yR; obtain ⟨⟨zO, fO, yO, -⟩, ⟨zR, fR, yR, -⟩, -⟩ := S8.out.facts)
                  | (go_simp; go_at_call 51; refine (HA.out _ _ _ S8.out.r1 S8.out.r0).mono ?_; rintro e w9 ⟨_, rfl, q9, rfl, hr9, hf9, hb9⟩; have S9 := Lib.hid (natRes S8.out hr9 hf9 hb9); have hFr9 := Lib.hid (hf9.le S8.out.size); clear hr9 hf9 hb9; clear zO fO yO zR fR yR; obtain ⟨⟨zO, fO, yO, -⟩, ⟨zR, fR, yR, -⟩, -⟩ := S9.out.facts))
                all_goals
                  have hF := Lib.hid ((S9.out.set 0 rfl 0 (.slice q9.a 0 q9.c)).set 1 rfl 0 (.slice none 0 0))
                  go_wp2
                  refine bodyPost_ret (v := .tuple #[.agg #[.slice none 0 0], .int .i64 3]) (by simp [results, Tryz.results67, go_sem, yR]) rfl ?_
                  rw [e3.out, e4.out]
                  exact Ret.mk (NRes2.none_ hF.out.bel)
            · have e1 : cutV V2 = lim V2 := if_neg big
              have e2 : cutE V2 = 0 := if_neg big
              rw [e1, e2] at HA
              obtain ⟨m3, hm3⟩ : ∃ m3, lim V2 = m3 := ⟨_, rfl⟩
              rw [hm3] at HA big
              have hfin : Hid (∀ wr q9, Fm w wr [⟨w1.heap.size, 24, [.slice q9.a m3.length q9.c]⟩, ⟨w.heap.size, 24, [.slice none 0 0]⟩] [rowRd m3 q9] → Fr w.heap.size q9 → PsI l w1.heap.size w (i + (kk + 1)) m3 q9 wr) := Lib.hid fun wr q9 hf hfr =>
                ⟨by omega, Or.inr (by rw [← Nat.add_assoc]; exact hgr'), by rw [hst.out, hm3], by omega, hf, hfr⟩
              clear e1 e2 hm3 big hle2
              go_wp2
              go_region_law (first
                | (go_simp; go_at_call 48; refine (HO.out _).mono ?_; rintro e w6 ⟨_, rfl, q6, rfl, hr6, hf6, hb6⟩; have S6 := Lib.hid (natRes S.out hr6 hf6 hb6); clear hr6 hf6 hb6; clear zO fO yO zR fR yR; obtain ⟨⟨zO, fO, yO, -⟩, ⟨zR, fR, yR, -⟩, -⟩ := S6.out.facts)
                | (go_simp; go_at_call 52; refine (HM.out _ _ S6.out.r1 S6.out.r0).mono ?_; rintro e w7 ⟨_, rfl, q7, rfl, hr7, hf7, hb7⟩; have S7 := Lib.hid (natRes S6.out hr7 hf7 hb7); clear hr7 hf7 hb7; clear zO fO yO zR fR yR; obtain ⟨⟨zO, fO, yO, -⟩, ⟨zR, fR, yR, -⟩, -⟩ := S7.out.facts))
              all_goals
                replace S := Lib.hid ((S7.out.set 0 rfl 0 (.slice q7.a m2.length q7.c)).drop _ [rowRd m2 q7] (List.Sublist.refl _) (.cons_cons _ (List.nil_sublist _))).drew
                clear S6 S7
                go_wp2
                go_region_law (first
                  | (go_simp; go_at_call 48; refine (HO2.out _).mono ?_; rintro e w8 ⟨_, rfl, q8, rfl, hr8, hf8, hb8⟩; have S8 := Lib.hid (natRes S.out hr8 hf8 hb8); clear hr8 hf8 hb8; clear zO fO yO zR fR yR; obtain ⟨⟨zO, fO, yO, -⟩, ⟨zR, fR, yR, -⟩, -⟩ := S8.out.facts)
                  | (go_simp; go_at_call 51; refine (HA.out _ _ _ S8.out.r1 S8.out.r0).mono ?_; rintro e w9 ⟨_, rfl, q9, rfl, hr9, hf9, hb9⟩; have S9 := Lib.hid (natRes S8.out hr9 hf9 hb9); have hFr9 := Lib.hid (hf9.le S8.out.size); clear hr9 hf9 hb9; clear zO fO yO zR fR yR; obtain ⟨⟨zO, fO, yO, -⟩, ⟨zR, fR, yR, -⟩, -⟩ := S9.out.facts))
                all_goals
                  have hF := Lib.hid ((S9.out.set 0 rfl 0 (.slice q9.a m3.length q9.c)).drop _ [rowRd m3 q9] (List.Sublist.refl _) (.cons_cons _ (List.nil_sublist _)))
                  go_wp2
                  go_roundw
                  case rel => exact ⟨i + (kk + 1), m3, q9, by go_num, hfin.out _ _ hF.out hFr9.out⟩
                  case measure => simp [intOf]; omega
    · obtain rfl : i = l.length := by omega
      rw [List.take_length] at hm
      have hV : Hid (cutV (dval l) = m) := Lib.hid (by unfold cutV; rw [← hm, if_neg (by omega)])
      have hE : Hid (cutE (dval l) = 0) := Lib.hid (by unfold cutE; rw [← hm, if_neg (by omega)])
      obtain ⟨⟨zO, fO, yO, -⟩, ⟨zR, fR, yR, -⟩, -⟩ := S.out.facts
      have hF := Lib.hid (S.out.set 1 rfl 0 (.slice q1 m.length c1'))
      have hfr := Lib.hid I.fr
      clear I hm hlt
      go_wp2
      refine bodyPost_ret (v := .tuple #[natV m ⟨q1, c1'⟩, .int .i64 0]) (by simp [results, Tryz.results67, go_sem, yR]) rfl ?_
      rw [hV.out, hE.out]
      exact Ret.mk (fm_nres2 hF.out (by simp) hfr.out)
theorem parse_any (l : List UInt8) (w : World) (hs : l.length ≤ 100000) : Calls Tryz.prog 67 #[.string (bS l)] w (Ret (NRes2 w (prsV l) (prsE l))) := by
  unfold prsV prsE
  cases h : txtOk l with
  | false => exact parse_bad l w hs h
  | true =>
    by_cases c : 1 < l.length
    · exact parse_go1 l w hs h c
    · exact parse_go2 l w hs h c
end Go.Proofs.YtoiokopmpcogbaaGreatDoor
