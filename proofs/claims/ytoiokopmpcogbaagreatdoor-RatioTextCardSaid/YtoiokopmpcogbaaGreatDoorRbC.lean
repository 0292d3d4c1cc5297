/-
  CONTRACTS of the laws RatioParse, RatioText.
  Conditions: those that each theorem names.
-/
import Derived.Test.YtoiokopmpcogbaaGreatDoorRaN
namespace Go.Proofs.YtoiokopmpcogbaaGreatDoor
open Go.RowKit Go.Sv
theorem vN_dec2 {l : List Int} (ha : Lim l) (hv : vN l = true) : (Lib.decDigits (vl l)).length ≤ 5000 := by
  have h3 := (lim_len_le (N := vl l) (k := 128)).1 (vN_len ha hv)
  rw [Bp_two] at h3
  rw [Lib.decDigits_length]
  have := nDig_le (32 * 128) (vl l) (Int.ofNat_lt.1 h3)
  omega
theorem dec_no47 (n : Nat) : ∀ x ∈ Lib.decDigits n, x ≠ 47 := fun x hx e => by
  have := dec_dig n x hx
  rw [e] at this
  revert this
  decide
theorem prs_dec {l : List Int} (ha : Lim l) (hv : vN l = true) : prsE (Lib.decDigits (vl l)) = 0 ∧ prsV (Lib.decDigits (vl l)) = l := by
  obtain ⟨na, ca⟩ := vN_can hv
  have e := lim_vl ha ca
  unfold prsE prsV
  rw [if_pos (dec_txt _), if_pos (dec_txt _), dval_dec]
  unfold cutE cutV
  rw [← e, if_neg (by omega), if_neg (by omega)]
  exact ⟨rfl, rfl⟩
theorem p1_fmt {l : List UInt8} (h : prsE l = 0) : rfV (p1N l) (p1D l) = bS l ∧ rfE (p1N l) (p1D l) = 0 := by
  obtain ⟨ht, hv, h128⟩ := prs_ok h
  rw [(p1_ok h).1, (p1_ok h).2, hv]
  have v : vR (lim (dval l)) (lim 1) = true := vR_lim h128 (sm_s (by decide)) (by decide) (Nat.gcd_one_right _)
  unfold rfV rfE
  rw [if_pos v, if_pos v, vl_lim, vl_lim, if_pos rfl]
  exact ⟨show bS (Lib.decDigits (dval l)) = bS l by rw [dec_dval ht], rfl⟩
theorem p2_fmt {a b : List UInt8} (h : p2E a b = 0) : rfV (p2N a b) (p2D a b) = bS (a ++ 47 :: b) ∧ rfE (p2N a b) (p2D a b) = 0 := by
  by_cases ha : prsE a = 0
  · by_cases hb : prsE b = 0
    · cases hc : (decide (vl (prsV b) = 1) || !vR (prsV a) (prsV b)) with
      | true => exact absurd h (by rw [(p2_c ha hb rfl rfl hc).2.2]; decide)
      | false =>
        obtain ⟨e1, e2, -⟩ := p2_d ha hb rfl rfl hc
        rw [Bool.or_eq_false_iff] at hc
        obtain ⟨c1, c2⟩ := hc
        have v : vR (prsV a) (prsV b) = true := by simpa using c2
        have n1 : ¬ vl (prsV b) = 1 := of_decide_eq_false c1
        rw [e1, e2]
        unfold rfV rfE
        rw [if_pos v, if_pos v, if_neg n1, (prs_ok ha).2.1, (prs_ok hb).2.1, vl_lim, vl_lim]
        refine ⟨?_, rfl⟩
        show bS (Lib.decDigits (dval a)) ++ bS [47] ++ bS (Lib.decDigits (dval b)) = _
        rw [dec_dval (prs_ok ha).1, dec_dval (prs_ok hb).1, bS_append, bS_append]
        simp
    · exact absurd h (by rw [(p2_b ha hb).2.2]; exact hb)
  · exact absurd h (by rw [(p2_a ha).2.2]; exact ha)
theorem p1_lim (l : List UInt8) : Lim (p1N l) ∧ Lim (p1D l) := by
  unfold p1N p1D
  constructor <;> split
  · exact prs_lim _
  · exact Lim.nil
  · exact lim_lim _
  · exact Lim.nil
theorem p2_lim (a b : List UInt8) : Lim (p2N a b) ∧ Lim (p2D a b) := by
  unfold p2N p2D
  constructor <;> split
  · exact prs_lim _
  · exact Lim.nil
  · exact prs_lim _
  · exact Lim.nil
/-- what both texts of Parse return -/
theorem parse_key (l : List UInt8) (hs : l.length ≤ 100000) : ∃ (N D : List Int) (E : Int), (∀ w, MaxL w → Calls Tryz.prog 35 #[.string (bS l)] w (Ret (RRes2 w N D E))) ∧
    (∀ w, Calls Tryz.prog 36 #[.string (bS l)] w (Ret (RRes2 w N D E))) ∧ (E = 0 → rfV N D = bS l ∧ rfE N D = 0) ∧ Lim N ∧ Lim D := by
  rcases slash_split l with h | ⟨a, b, rfl, h⟩
  · exact ⟨_, _, _, fun w hm => xparse1 l w hs hm h, fun w => xrparse1 l w hs h, p1_fmt, (p1_lim l).1, (p1_lim l).2⟩
  · exact ⟨_, _, _, fun w hm => xparse2 a b w hs hm h, fun w => xrparse2 a b w hs h, p2_fmt, (p2_lim a b).1, (p2_lim a b).2⟩
theorem text_key {n d : List Int} (ln : Lim n) (ld : Lim d) (hv : vR n d = true) (w : World) (hm : MaxL w) : Calls Tryz.prog 35 #[.string (rfV n d)] w (Ret (RRes2 w n d 0)) := by
  obtain ⟨vn, vd, -, -⟩ := vR_pos hv
  obtain ⟨pn, qn⟩ := prs_dec ln vn
  obtain ⟨pd, qd⟩ := prs_dec ld vd
  have b1 := vN_dec2 ln vn
  have b2 := vN_dec2 ld vd
  by_cases c : vl d = 1
  · have e : rfV n d = bS (Lib.decDigits (vl n)) := (if_pos hv).trans (if_pos c)
    have := xparse1 (Lib.decDigits (vl n)) w (by omega) hm (dec_no47 _)
    rw [(p1_ok pn).1, (p1_ok pn).2, pn, qn, ← (lim_one_iff ld (vN_can vd).2).2 c] at this
    rw [e]
    exact this
  · have e : rfV n d = bS (Lib.decDigits (vl n) ++ 47 :: Lib.decDigits (vl d)) := by
      refine (if_pos hv).trans ((if_neg c).trans ?_)
      show bS (Lib.decDigits (vl n)) ++ bS [47] ++ bS (Lib.decDigits (vl d)) = _
      rw [bS_append, bS_append]
      simp
    have := xparse2 (Lib.decDigits (vl n)) (Lib.decDigits (vl d)) w (by rw [List.length_append, List.length_cons]; omega) hm (dec_no47 _)
    obtain ⟨e1, e2, e3⟩ := p2_d (c := false) (v := true) pn pd (by rw [qd]; exact decide_eq_false c) (by rw [qn, qd]; exact hv) rfl
    rw [e1, e2, e3, qn, qd] at this
    rw [e]
    exact this
set_option maxHeartbeats 2000000 in
set_option maxRecDepth 100000 in
theorem law_parse (w : World) (l : List UInt8) (ht : Tab w) (hm : MaxL w) :
    Calls Tryz.prog 10 #[.string (bS l)] w fun e w' => e = .returned (.bool true) ∧ Below w.heap.size w w' := by
  have S := Lib.hid (Fm.init w)
  have ht' := Lib.hid (fun w' (hb : Below w.heap.size w w') => ht.to hb)
  have hm' := Lib.hid (fun w' (hb : Below w.heap.size w w') => hm.to hb)
  have HAw := Lib.hid (fun w' (h : Below w.heap.size w w') => awake_c w' (ht'.out _ h) (hm'.out _ h))
  have HS := Lib.hid (fun n d q r q2 r2 w' (h1 : RLm w' w'.heap.size n q) (h2 : RLm w' w'.heap.size d r) (h3 : RLm w' w'.heap.size n q2) (h4 : RLm w' w'.heap.size d r2) => xsame_t w' n d q r q2 r2 h1 h2 h3 h4)
  obtain ⟨b80, hb80⟩ : ∃ b, decide ((80 : Int) < (l.length : Int)) = b := ⟨_, rfl⟩
  have hkey := Lib.hid (fun (h : decide ((80 : Int) < (l.length : Int)) = false) => parse_key l (by have := of_decide_eq_false h; omega))
  rw [hb80] at hkey
  have hsz := Lib.hid (bS_size l)
  clear ht hm
  cases b80
  · obtain ⟨N, D, E, HP, HR, hF, lN, lD⟩ := hkey.out rfl
    replace HP := Lib.hid HP
    replace HR := Lib.hid HR
    have HX := Lib.hid (fun (c : E = 0) q r w' (h1 : RLm w' w'.heap.size N q) (h2 : RLm w' w'.heap.size D r) (ht : Tab w') => by
      have := xformat_any w' N q h1 lN D r h2 lD ht
      rw [(hF c).1, (hF c).2] at this
      exact this)
    clear hF lN lD hkey
    go_enter Tryz.func10, Tryz.ntmps10
    go_wp2_with fail
    refine (HAw.out _ S.out.bel).mono ?_
    rintro e w1 ⟨rfl, hb⟩
    replace S := Lib.hid (S.out.call hb)
    clear hb
    go_wp2_with fail
    refine (HP.out _ (hm'.out _ S.out.bel)).mono ?_
    rintro e w2 ⟨_, rfl, q1, r1, rfl, hr, hr2, hf, hf2, hb⟩
    replace S := Lib.hid (natRes2 S.out hr hr2 hf hf2 hb)
    clear hr hr2 hf hf2 hb
    replace S := Lib.hid (S.out.box 28 [.slice q1.a (N).length q1.c, .slice r1.a (D).length r1.c])
    go_wp2_with fail
    refine (HR.out _).mono ?_
    rintro e w3 ⟨_, rfl, q2, r2, rfl, hr, hr2, hf, hf2, hb⟩
    replace S := Lib.hid (natRes2 S.out hr hr2 hf hf2 hb)
    clear hr hr2 hf hf2 hb
    obtain ⟨⟨z0, f0, y0, y0a, -⟩, -⟩ := S.out.facts
    replace S := Lib.hid (S.out.box 28 [.slice q2.a (N).length q2.c, .slice r2.a (D).length r2.c])
    go_wp2_with fail
    refine (HS.out _ _ _ _ _ _ _ S.out.r3 S.out.r2 S.out.r1 S.out.r0).mono ?_
    rintro e w4 ⟨rfl, hb⟩
    replace S := Lib.hid (S.out.call hb)
    clear hb z0 f0 y0 y0a
    obtain ⟨⟨z1, f1, y1, y1a, -⟩, ⟨z0, f0, y0, y0a, -⟩, -⟩ := S.out.facts
    by_cases c : E = 0
    · subst c
      go_wp2_with fail
      refine (HX.out (by first | rfl | trivial) _ _ _ S.out.r3 S.out.r2 (ht'.out _ S.out.bel)).mono ?_
      rintro e w5 ⟨rfl, hb⟩
      replace S := Lib.hid (S.out.call hb)
      clear hb z0 f0 y0 y0a z1 f1 y1 y1a
      obtain ⟨⟨z1, f1, y1, y1a, -⟩, ⟨z0, f0, y0, y0a, -⟩, -⟩ := S.out.facts
      go_wp2
      go_ret
      exact ⟨rfl, S.out.bel⟩
    · have dE : (E != 0) = true := bne_iff_ne.2 c
      clear c
      go_wp2_with fail
      refine (HS.out _ _ _ _ _ _ _ S.out.r3 S.out.r2 S.out.r1 S.out.r0).mono ?_
      rintro e w5 ⟨rfl, hb⟩
      replace S := Lib.hid (S.out.call hb)
      clear hb z0 f0 y0 y0a z1 f1 y1 y1a
      obtain ⟨⟨z1, f1, y1, y1a, -⟩, ⟨z0, f0, y0, y0a, -⟩, -⟩ := S.out.facts
      go_wp2
      go_ret
      exact ⟨rfl, S.out.bel⟩
  · go_enter Tryz.func10, Tryz.ntmps10
    go_wp2_with fail
    refine (HAw.out _ S.out.bel).mono ?_
    rintro e w1 ⟨rfl, hb⟩
    replace S := Lib.hid (S.out.call hb)
    clear hb
    go_wp2_with fail
    refine (HAw.out _ S.out.bel).mono ?_
    rintro e w2 ⟨rfl, hb⟩
    replace S := Lib.hid (S.out.call hb)
    clear hb
    go_wp2
    go_ret
    exact ⟨rfl, S.out.bel⟩
set_option maxHeartbeats 2000000 in
set_option maxRecDepth 100000 in
theorem law_text (w : World) (rn : List Int) (qrn : LmP) (hrn : RLm w w.heap.size rn qrn) (lrn : Lim rn) (rd : List Int) (qrd : LmP) (hrd : RLm w w.heap.size rd qrd) (lrd : Lim rd) (ht : Tab w) (hm : MaxL w) :
    Calls Tryz.prog 11 #[ratV rn qrn rd qrd] w fun e w' => e = .returned (.bool true) ∧ Below w.heap.size w w' := by
  have S := Lib.hid (natArg (natArg (Fm.init w) hrd) hrn)
  have ht' := Lib.hid (fun w' (hb : Below w.heap.size w w') => ht.to hb)
  have hm' := Lib.hid (fun w' (hb : Below w.heap.size w w') => hm.to hb)
  have HAw := Lib.hid (fun w' (h : Below w.heap.size w w') => awake_c w' (ht'.out _ h) (hm'.out _ h))
  have HS := Lib.hid (fun n d q r q2 r2 w' (h1 : RLm w' w'.heap.size n q) (h2 : RLm w' w'.heap.size d r) (h3 : RLm w' w'.heap.size n q2) (h4 : RLm w' w'.heap.size d r2) => xsame_t w' n d q r q2 r2 h1 h2 h3 h4)
  have HV := Lib.hid (fun q r w' (h1 : RLm w' w'.heap.size rn q) (h2 : RLm w' w'.heap.size rd r) => rvalidR_any w' rn q h1 lrn rd r h2 lrd)
  have HX := Lib.hid (fun (c : vR rn rd = true) q r w' (h1 : RLm w' w'.heap.size rn q) (h2 : RLm w' w'.heap.size rd r) (ht : Tab w') => by
    have := xformat_any w' rn q h1 lrn rd r h2 lrd ht
    rw [show rfE rn rd = 0 from if_pos c] at this
    exact this)
  have HP := Lib.hid (fun (c : vR rn rd = true) w' (h : MaxL w') => text_key lrn lrd c w' h)
  obtain ⟨X, hX⟩ : ∃ V, rfV rn rd = V := ⟨_, rfl⟩
  rw [hX] at HX HP
  obtain ⟨v, hv⟩ : ∃ V, vR rn rd = V := ⟨_, rfl⟩
  rw [hv] at HV HX HP
  obtain ⟨b8, hb8⟩ : ∃ b, decide ((8 : Int) < (rn.length : Int)) = b := ⟨_, rfl⟩
  clear hv hX
  have HFr := Lib.hid (fun q r w' => xfew_any w' rn rd q r)
  obtain ⟨Fr, hFr⟩ : ∃ b, fewB rn rd = b := ⟨_, rfl⟩
  rw [hFr] at HFr
  clear hFr
  clear ht hm
  obtain ⟨qrna, qrnc⟩ := qrn
  obtain ⟨qrda, qrdc⟩ := qrd
  replace S := Lib.hid (S.out.box 28 [.slice qrna rn.length qrnc, .slice qrda rd.length qrdc])
  clear hrn hrd
  go_enter Tryz.func11, Tryz.ntmps11
  go_wp2_with fail
  refine (HAw.out _ S.out.bel).mono ?_
  rintro e w1 ⟨rfl, hb⟩
  replace S := Lib.hid (S.out.call hb)
  clear hb
  obtain ⟨⟨z0, f0, y0, y0a, -⟩, -⟩ := S.out.facts
  go_wp2_with fail
  refine (HFr.out ⟨qrna, qrnc⟩ ⟨qrda, qrdc⟩ _).mono ?_
  rintro e w2 ⟨rfl, hb⟩
  replace S := Lib.hid (S.out.call hb)
  clear hb z0 f0 y0 y0a
  obtain ⟨⟨z0, f0, y0, y0a, -⟩, -⟩ := S.out.facts
  cases Fr
  · go_wp2_with fail
    refine (HAw.out _ S.out.bel).mono ?_
    rintro e w3 ⟨rfl, hb⟩
    replace S := Lib.hid (S.out.call hb)
    clear hb z0 f0 y0 y0a
    obtain ⟨⟨z0, f0, y0, y0a, -⟩, -⟩ := S.out.facts
    go_wp2
    go_ret
    exact ⟨rfl, S.out.bel⟩
  · cases b8
    · go_wp2_with fail
      refine (HV.out _ _ _ S.out.r0 S.out.r1).mono ?_
      rintro e w3 ⟨rfl, hb⟩
      replace S := Lib.hid (S.out.call hb)
      clear hb z0 f0 y0 y0a
      obtain ⟨⟨z0, f0, y0, y0a, -⟩, -⟩ := S.out.facts
      cases v
      · go_wp2_with fail
        refine (HAw.out _ S.out.bel).mono ?_
        rintro e w4 ⟨rfl, hb⟩
        replace S := Lib.hid (S.out.call hb)
        clear hb z0 f0 y0 y0a
        obtain ⟨⟨z0, f0, y0, y0a, -⟩, -⟩ := S.out.facts
        go_wp2
        go_ret
        exact ⟨rfl, S.out.bel⟩
      · go_wp2_with fail
        refine (HX.out (by first | rfl | trivial) _ _ _ S.out.r0 S.out.r1 (ht'.out _ S.out.bel)).mono ?_
        rintro e w4 ⟨rfl, hb⟩
        replace S := Lib.hid (S.out.call hb)
        clear hb z0 f0 y0 y0a
        obtain ⟨⟨z0, f0, y0, y0a, -⟩, -⟩ := S.out.facts
        go_wp2_with fail
        refine (HP.out (by first | rfl | trivial) _ (hm'.out _ S.out.bel)).mono ?_
        rintro e w5 ⟨_, rfl, q2, r2, rfl, hr, hr2, hf, hf2, hb⟩
        replace S := Lib.hid (natRes2 S.out hr hr2 hf hf2 hb)
        clear hr hr2 hf hf2 hb z0 f0 y0 y0a
        obtain ⟨⟨z0, f0, y0, y0a, -⟩, -⟩ := S.out.facts
        replace S := Lib.hid (S.out.box 28 [.slice q2.a (rn).length q2.c, .slice r2.a (rd).length r2.c])
        go_wp2_with fail
        refine (HS.out _ _ _ _ _ _ _ S.out.r2 S.out.r3 S.out.r1 S.out.r0).mono ?_
        rintro e w6 ⟨rfl, hb⟩
        replace S := Lib.hid (S.out.call hb)
        clear hb z0 f0 y0 y0a
        obtain ⟨⟨z1, f1, y1, y1a, -⟩, ⟨z0, f0, y0, y0a, -⟩, -⟩ := S.out.facts
        go_wp2
        go_ret
        exact ⟨rfl, S.out.bel⟩
    · go_wp2_with fail
      refine (HAw.out _ S.out.bel).mono ?_
      rintro e w3 ⟨rfl, hb⟩
      replace S := Lib.hid (S.out.call hb)
      clear hb z0 f0 y0 y0a
      obtain ⟨⟨z0, f0, y0, y0a, -⟩, -⟩ := S.out.facts
      go_wp2
      go_ret
      exact ⟨rfl, S.out.bel⟩
end Go.Proofs.YtoiokopmpcogbaaGreatDoor
