/-
  CONTRACTS of Valid, of both texts.
  Conditions: those that each theorem names.
-/
import Derived.Test.YtoiokopmpcogbaaGreatDoorRaA
namespace Go.Proofs.YtoiokopmpcogbaaGreatDoor
open Go.RowKit Go.Sv
set_option maxHeartbeats 2000000 in
set_option maxRecDepth 100000 in
theorem rvalidR_a (w : World) (rn : List Int) (qrn : LmP) (hrn : RLm w w.heap.size rn qrn) (_lrn : Lim rn) (rd : List Int) (qrd : LmP) (hrd : RLm w w.heap.size rd qrd) (_lrd : Lim rd) (hn : vN rn = false) :
    Calls Tryz.prog 32 #[ratV rn qrn rd qrd] w (fun e w' => e = .returned (.bool (false)) ∧ Below w.heap.size w w') := by
  have S := Lib.hid (natArg (natArg (Fm.init w) hrd) hrn)
  have HN := Lib.hid (fun q0 w' (h0 : RLm w' w'.heap.size (rn) q0) => by
    have := rvalid_any (rn) q0 w' h0 
    rw [hn] at this
    exact this)
  clear hn
  obtain ⟨qrna, qrnc⟩ := qrn
  obtain ⟨qrda, qrdc⟩ := qrd
  replace S := Lib.hid (S.out.box 28 [.slice qrna rn.length qrnc, .slice qrda rd.length qrdc])
  clear hrn hrd
  go_enter Tryz.func32, Tryz.ntmps32
  go_wp2_with fail
  refine (HN.out _ _ S.out.r0).mono ?_
  rintro e w1 ⟨rfl, hb⟩
  replace S := Lib.hid (S.out.call hb)
  clear hb
  obtain ⟨⟨z0, f0, y0, y0a, -⟩, -⟩ := S.out.facts
  go_wp2
  go_ret
  exact ⟨rfl, S.out.bel⟩
set_option maxHeartbeats 2000000 in
set_option maxRecDepth 100000 in
theorem rvalidR_b (w : World) (rn : List Int) (qrn : LmP) (hrn : RLm w w.heap.size rn qrn) (_lrn : Lim rn) (rd : List Int) (qrd : LmP) (hrd : RLm w w.heap.size rd qrd) (_lrd : Lim rd) (hn : vN rn = true) (hd : vN rd = false) :
    Calls Tryz.prog 32 #[ratV rn qrn rd qrd] w (fun e w' => e = .returned (.bool (false)) ∧ Below w.heap.size w w') := by
  have S := Lib.hid (natArg (natArg (Fm.init w) hrd) hrn)
  have HN := Lib.hid (fun q0 w' (h0 : RLm w' w'.heap.size (rn) q0) => by
    have := rvalid_any (rn) q0 w' h0 
    rw [hn] at this
    exact this)
  have HD := Lib.hid (fun q0 w' (h0 : RLm w' w'.heap.size (rd) q0) => by
    have := rvalid_any (rd) q0 w' h0 
    rw [hd] at this
    exact this)
  clear hn hd
  obtain ⟨qrna, qrnc⟩ := qrn
  obtain ⟨qrda, qrdc⟩ := qrd
  replace S := Lib.hid (S.out.box 28 [.slice qrna rn.length qrnc, .slice qrda rd.length qrdc])
  clear hrn hrd
  go_enter Tryz.func32, Tryz.ntmps32
  go_wp2_with fail
  refine (HN.out _ _ S.out.r0).mono ?_
  rintro e w1 ⟨rfl, hb⟩
  replace S := Lib.hid (S.out.call hb)
  clear hb
  obtain ⟨⟨z0, f0, y0, y0a, -⟩, -⟩ := S.out.facts
  go_wp2_with fail
  refine (HD.out _ _ S.out.r1).mono ?_
  rintro e w2 ⟨rfl, hb⟩
  replace S := Lib.hid (S.out.call hb)
  clear hb z0 f0 y0 y0a
  obtain ⟨⟨z0, f0, y0, y0a, -⟩, -⟩ := S.out.facts
  go_wp2
  go_ret
  exact ⟨rfl, S.out.bel⟩
set_option maxHeartbeats 2000000 in
set_option maxRecDepth 100000 in
theorem rvalidR_c (w : World) (rn : List Int) (qrn : LmP) (hrn : RLm w w.heap.size rn qrn) (_lrn : Lim rn) (rd : List Int) (qrd : LmP) (hrd : RLm w w.heap.size rd qrd) (lrd : Lim rd) (hn : vN rn = true) (hd : vN rd = true) (hz : vl rd = 0) :
    Calls Tryz.prog 32 #[ratV rn qrn rd qrd] w (fun e w' => e = .returned (.bool (false)) ∧ Below w.heap.size w w') := by
  have S := Lib.hid (natArg (natArg (Fm.init w) hrd) hrn)
  have HN := Lib.hid (fun q0 w' (h0 : RLm w' w'.heap.size (rn) q0) => by
    have := rvalid_any (rn) q0 w' h0 
    rw [hn] at this
    exact this)
  have HD := Lib.hid (fun q0 w' (h0 : RLm w' w'.heap.size (rd) q0) => by
    have := rvalid_any (rd) q0 w' h0 
    rw [hd] at this
    exact this)
  have dz : ((rd.length : Int) == 0) = true := beq_iff_eq.2 (by have := (vl_len lrd hd).1 hz; omega)
  clear hn hd hz
  obtain ⟨qrna, qrnc⟩ := qrn
  obtain ⟨qrda, qrdc⟩ := qrd
  replace S := Lib.hid (S.out.box 28 [.slice qrna rn.length qrnc, .slice qrda rd.length qrdc])
  clear hrn hrd
  go_enter Tryz.func32, Tryz.ntmps32
  go_wp2_with fail
  refine (HN.out _ _ S.out.r0).mono ?_
  rintro e w1 ⟨rfl, hb⟩
  replace S := Lib.hid (S.out.call hb)
  clear hb
  obtain ⟨⟨z0, f0, y0, y0a, -⟩, -⟩ := S.out.facts
  go_wp2_with fail
  refine (HD.out _ _ S.out.r1).mono ?_
  rintro e w2 ⟨rfl, hb⟩
  replace S := Lib.hid (S.out.call hb)
  clear hb z0 f0 y0 y0a
  obtain ⟨⟨z0, f0, y0, y0a, -⟩, -⟩ := S.out.facts
  go_wp2
  go_ret
  exact ⟨rfl, S.out.bel⟩
set_option maxHeartbeats 2000000 in
set_option maxRecDepth 100000 in
theorem rvalidR_d (w : World) (rn : List Int) (qrn : LmP) (hrn : RLm w w.heap.size rn qrn) (lrn : Lim rn) (rd : List Int) (qrd : LmP) (hrd : RLm w w.heap.size rd qrd) (lrd : Lim rd) (hn : vN rn = true) (hd : vN rd = true) (hz : vl rd ≠ 0) :
    Calls Tryz.prog 32 #[ratV rn qrn rd qrd] w (fun e w' => e = .returned (.bool (decide (Nat.gcd (vl rn) (vl rd) = 1))) ∧ Below w.heap.size w w') := by
  have S := Lib.hid (natArg (natArg (Fm.init w) hrd) hrn)
  have HN := Lib.hid (fun q0 w' (h0 : RLm w' w'.heap.size (rn) q0) => by
    have := rvalid_any (rn) q0 w' h0 
    rw [hn] at this
    exact this)
  have HD := Lib.hid (fun q0 w' (h0 : RLm w' w'.heap.size (rd) q0) => by
    have := rvalid_any (rd) q0 w' h0 
    rw [hd] at this
    exact this)
  have dz : ((rd.length : Int) == 0) = false := beq_eq_false_iff_ne.2 (fun e => hz ((vl_len lrd hd).2 (by omega)))
  have HG := Lib.hid (fun q0 q1 w' (h0 : RLm w' w'.heap.size (rn) q0) (h1 : RLm w' w'.heap.size (rd) q1) => by
    have := rgcd_ok (rn) (rd) q0 q1 w' h0 h1 (lrn) (lrd) (hn) (hd)
    exact this)
  have HO := Lib.hid (fun q w' (h1 : RLm w' w'.heap.size (lim (Nat.gcd (vl rn) (vl rd))) q) => rone_any w' (lim (Nat.gcd (vl rn) (vl rd))) q h1 (lim_lim _))
  have eG : Hid (decide (lim (Nat.gcd (vl rn) (vl rd)) = lim 1) = decide (Nat.gcd (vl rn) (vl rd) = 1)) := Lib.hid (by rw [Bool.eq_iff_iff, decide_eq_true_iff, decide_eq_true_iff]; exact ⟨lim_inj, fun h => by rw [h]⟩)
  obtain ⟨b, hb'⟩ : ∃ b, decide (lim (Nat.gcd (vl rn) (vl rd)) = lim 1) = b := ⟨_, rfl⟩
  rw [hb'] at HO eG
  clear hb'
  obtain ⟨G, hG⟩ : ∃ G, lim (Nat.gcd (vl rn) (vl rd)) = G := ⟨_, rfl⟩
  rw [hG] at HG HO
  clear hG
  clear hn hd hz
  obtain ⟨qrna, qrnc⟩ := qrn
  obtain ⟨qrda, qrdc⟩ := qrd
  replace S := Lib.hid (S.out.box 28 [.slice qrna rn.length qrnc, .slice qrda rd.length qrdc])
  clear hrn hrd
  go_enter Tryz.func32, Tryz.ntmps32
  go_wp2_with fail
  refine (HN.out _ _ S.out.r0).mono ?_
  rintro e w1 ⟨rfl, hb⟩
  replace S := Lib.hid (S.out.call hb)
  clear hb
  obtain ⟨⟨z0, f0, y0, y0a, -⟩, -⟩ := S.out.facts
  go_wp2_with fail
  refine (HD.out _ _ S.out.r1).mono ?_
  rintro e w2 ⟨rfl, hb⟩
  replace S := Lib.hid (S.out.call hb)
  clear hb z0 f0 y0 y0a
  obtain ⟨⟨z0, f0, y0, y0a, -⟩, -⟩ := S.out.facts
  go_wp2_with fail
  refine (HG.out _ _ _ S.out.r0 S.out.r1).mono ?_
  rintro e w3 ⟨_, rfl, q1, rfl, hr, hf, hb⟩
  replace S := Lib.hid (natRes S.out hr hf hb)
  clear hr hf hb z0 f0 y0 y0a
  obtain ⟨⟨z0, f0, y0, y0a, -⟩, -⟩ := S.out.facts
  replace S := Lib.hid (S.out.box 24 [.slice q1.a (G).length q1.c])
  go_wp2_with fail
  refine (HO.out _ _ S.out.r0).mono ?_
  rintro e w4 ⟨rfl, hb⟩
  replace S := Lib.hid (S.out.call hb)
  clear hb z0 f0 y0 y0a
  obtain ⟨⟨z1, f1, y1, -⟩, ⟨z0, f0, y0, y0a, -⟩, -⟩ := S.out.facts
  go_wp2
  go_ret
  exact ⟨ret_b eG.out, S.out.bel⟩
set_option maxHeartbeats 2000000 in
set_option maxRecDepth 100000 in
theorem rvalidR_any (w : World) (rn : List Int) (qrn : LmP) (hrn : RLm w w.heap.size rn qrn) (lrn : Lim rn) (rd : List Int) (qrd : LmP) (hrd : RLm w w.heap.size rd qrd) (lrd : Lim rd) :
    Calls Tryz.prog 32 #[ratV rn qrn rd qrd] w (fun e w' => e = .returned (.bool (vR rn rd)) ∧ Below w.heap.size w w') := by
  cases hn : vN rn with
  | false =>
    have e : vR rn rd = false := by unfold vR; rw [hn]; rfl
    rw [e]; exact rvalidR_a w rn qrn hrn lrn rd qrd hrd lrd hn
  | true =>
    cases hd : vN rd with
    | false =>
      have e : vR rn rd = false := by unfold vR; rw [hn, hd]; rfl
      rw [e]; exact rvalidR_b w rn qrn hrn lrn rd qrd hrd lrd hn hd
    | true =>
      by_cases hz : vl rd = 0
      · have e : vR rn rd = false := by unfold vR; rw [hn, hd, hz]; rfl
        rw [e]; exact rvalidR_c w rn qrn hrn lrn rd qrd hrd lrd hn hd hz
      · have e : vR rn rd = decide (Nat.gcd (vl rn) (vl rd) = 1) := by unfold vR; rw [hn, hd, decide_eq_true hz]; rfl
        rw [e]; exact rvalidR_d w rn qrn hrn lrn rd qrd hrd lrd hn hd hz
set_option maxHeartbeats 2000000 in
set_option maxRecDepth 100000 in
theorem validR_a (w : World) (rn : List Int) (qrn : LmP) (hrn : RLm w w.heap.size rn qrn) (_lrn : Lim rn) (rd : List Int) (qrd : LmP) (hrd : RLm w w.heap.size rd qrd) (_lrd : Lim rd) (hn : vN rn = false) :
    Calls Tryz.prog 18 #[ratV rn qrn rd qrd] w (fun e w' => e = .returned (.bool (false)) ∧ Below w.heap.size w w') := by
  have S := Lib.hid (natArg (natArg (Fm.init w) hrd) hrn)
  have HN := Lib.hid (fun q0 w' (h0 : RLm w' w'.heap.size (rn) q0) => by
    have := valid_any (rn) q0 w' h0 
    rw [hn] at this
    exact this)
  clear hn
  obtain ⟨qrna, qrnc⟩ := qrn
  obtain ⟨qrda, qrdc⟩ := qrd
  replace S := Lib.hid (S.out.box 28 [.slice qrna rn.length qrnc, .slice qrda rd.length qrdc])
  clear hrn hrd
  go_enter Tryz.func18, Tryz.ntmps18
  go_wp2_with fail
  refine (HN.out _ _ S.out.r0).mono ?_
  rintro e w1 ⟨rfl, hb⟩
  replace S := Lib.hid (S.out.call hb)
  clear hb
  obtain ⟨⟨z0, f0, y0, y0a, -⟩, -⟩ := S.out.facts
  go_wp2
  go_ret
  exact ⟨rfl, S.out.bel⟩
set_option maxHeartbeats 2000000 in
set_option maxRecDepth 100000 in
theorem validR_b (w : World) (rn : List Int) (qrn : LmP) (hrn : RLm w w.heap.size rn qrn) (_lrn : Lim rn) (rd : List Int) (qrd : LmP) (hrd : RLm w w.heap.size rd qrd) (_lrd : Lim rd) (hn : vN rn = true) (hd : vN rd = false) :
    Calls Tryz.prog 18 #[ratV rn qrn rd qrd] w (fun e w' => e = .returned (.bool (false)) ∧ Below w.heap.size w w') := by
  have S := Lib.hid (natArg (natArg (Fm.init w) hrd) hrn)
  have HN := Lib.hid (fun q0 w' (h0 : RLm w' w'.heap.size (rn) q0) => by
    have := valid_any (rn) q0 w' h0 
    rw [hn] at this
    exact this)
  have HD := Lib.hid (fun q0 w' (h0 : RLm w' w'.heap.size (rd) q0) => by
    have := valid_any (rd) q0 w' h0 
    rw [hd] at this
    exact this)
  clear hn hd
  obtain ⟨qrna, qrnc⟩ := qrn
  obtain ⟨qrda, qrdc⟩ := qrd
  replace S := Lib.hid (S.out.box 28 [.slice qrna rn.length qrnc, .slice qrda rd.length qrdc])
  clear hrn hrd
  go_enter Tryz.func18, Tryz.ntmps18
  go_wp2_with fail
  refine (HN.out _ _ S.out.r0).mono ?_
  rintro e w1 ⟨rfl, hb⟩
  replace S := Lib.hid (S.out.call hb)
  clear hb
  obtain ⟨⟨z0, f0, y0, y0a, -⟩, -⟩ := S.out.facts
  go_wp2_with fail
  refine (HD.out _ _ S.out.r1).mono ?_
  rintro e w2 ⟨rfl, hb⟩
  replace S := Lib.hid (S.out.call hb)
  clear hb z0 f0 y0 y0a
  obtain ⟨⟨z0, f0, y0, y0a, -⟩, -⟩ := S.out.facts
  go_wp2
  go_ret
  exact ⟨rfl, S.out.bel⟩
set_option maxHeartbeats 2000000 in
set_option maxRecDepth 100000 in
theorem validR_c (w : World) (rn : List Int) (qrn : LmP) (hrn : RLm w w.heap.size rn qrn) (_lrn : Lim rn) (rd : List Int) (qrd : LmP) (hrd : RLm w w.heap.size rd qrd) (lrd : Lim rd) (hn : vN rn = true) (hd : vN rd = true) (hz : vl rd = 0) :
    Calls Tryz.prog 18 #[ratV rn qrn rd qrd] w (fun e w' => e = .returned (.bool (false)) ∧ Below w.heap.size w w') := by
  have S := Lib.hid (natArg (natArg (Fm.init w) hrd) hrn)
  have HN := Lib.hid (fun q0 w' (h0 : RLm w' w'.heap.size (rn) q0) => by
    have := valid_any (rn) q0 w' h0 
    rw [hn] at this
    exact this)
  have HD := Lib.hid (fun q0 w' (h0 : RLm w' w'.heap.size (rd) q0) => by
    have := valid_any (rd) q0 w' h0 
    rw [hd] at this
    exact this)
  have HB := Lib.hid (fun q w' (h1 : RLm w' w'.heap.size rd q) => bits_any rd q w' h1 lrd (vN_can hd).2 (by have := (vN_can hd).1; omega))
  have dz : ((nbits (vl rd) : Int) == 0) = true := by rw [hz]; rfl
  obtain ⟨B, hB⟩ : ∃ B, nbits (vl rd) = B := ⟨_, rfl⟩
  rw [hB] at HB dz
  clear hB
  clear hn hd hz
  obtain ⟨qrna, qrnc⟩ := qrn
  obtain ⟨qrda, qrdc⟩ := qrd
  replace S := Lib.hid (S.out.box 28 [.slice qrna rn.length qrnc, .slice qrda rd.length qrdc])
  clear hrn hrd
  go_enter Tryz.func18, Tryz.ntmps18
  go_wp2_with fail
  refine (HN.out _ _ S.out.r0).mono ?_
  rintro e w1 ⟨rfl, hb⟩
  replace S := Lib.hid (S.out.call hb)
  clear hb
  obtain ⟨⟨z0, f0, y0, y0a, -⟩, -⟩ := S.out.facts
  go_wp2_with fail
  refine (HD.out _ _ S.out.r1).mono ?_
  rintro e w2 ⟨rfl, hb⟩
  replace S := Lib.hid (S.out.call hb)
  clear hb z0 f0 y0 y0a
  obtain ⟨⟨z0, f0, y0, y0a, -⟩, -⟩ := S.out.facts
  go_wp2_with fail
  refine (HB.out _ _ S.out.r1).mono ?_
  rintro e w3 ⟨rfl, hb⟩
  replace S := Lib.hid (S.out.call hb)
  clear hb z0 f0 y0 y0a
  obtain ⟨⟨z0, f0, y0, y0a, -⟩, -⟩ := S.out.facts
  go_wp2
  go_ret
  exact ⟨rfl, S.out.bel⟩
set_option maxHeartbeats 2000000 in
set_option maxRecDepth 100000 in
theorem validR_d (w : World) (rn : List Int) (qrn : LmP) (hrn : RLm w w.heap.size rn qrn) (lrn : Lim rn) (rd : List Int) (qrd : LmP) (hrd : RLm w w.heap.size rd qrd) (lrd : Lim rd) (hn : vN rn = true) (hd : vN rd = true) (hz : vl rd ≠ 0) :
    Calls Tryz.prog 18 #[ratV rn qrn rd qrd] w (fun e w' => e = .returned (.bool (decide (Nat.gcd (vl rn) (vl rd) = 1))) ∧ Below w.heap.size w w') := by
  have S := Lib.hid (natArg (natArg (Fm.init w) hrd) hrn)
  have HN := Lib.hid (fun q0 w' (h0 : RLm w' w'.heap.size (rn) q0) => by
    have := valid_any (rn) q0 w' h0 
    rw [hn] at this
    exact this)
  have HD := Lib.hid (fun q0 w' (h0 : RLm w' w'.heap.size (rd) q0) => by
    have := valid_any (rd) q0 w' h0 
    rw [hd] at this
    exact this)
  have HB := Lib.hid (fun q w' (h1 : RLm w' w'.heap.size rd q) => bits_any rd q w' h1 lrd (vN_can hd).2 (by have := (vN_can hd).1; omega))
  have dz : ((nbits (vl rd) : Int) == 0) = false := beq_eq_false_iff_ne.2 (fun e => hz (by have := nbits_le.1 (show nbits (vl rd) ≤ 0 by omega); omega))
  obtain ⟨B, hB⟩ : ∃ B, nbits (vl rd) = B := ⟨_, rfl⟩
  rw [hB] at HB dz
  clear hB
  have HG := Lib.hid (fun q0 q1 w' (h0 : RLm w' w'.heap.size (rn) q0) (h1 : RLm w' w'.heap.size (rd) q1) => by
    have := gcd_ok (rn) (rd) q0 q1 w' h0 h1 (lrn) (lrd) (by rw [hn, hd]; rfl)
    exact this)
  have HO := Lib.hid (fun w' => of_any 1 w' (by decide) (by decide))
  simp only [show (1 : Int).toNat = 1 from rfl] at HO
  have HC := Lib.hid (fun q r w' (h1 : RLm w' w'.heap.size (lim (Nat.gcd (vl rn) (vl rd))) q) (h2 : RLm w' w'.heap.size (lim 1) r) => cmp_any (lim (Nat.gcd (vl rn) (vl rd))) (lim 1) q r w' h1 h2 (lim_lim _) (lim_lim 1) (lim_can _) (lim_can 1))
  have eG : Hid ((cmpL (lim (Nat.gcd (vl rn) (vl rd))) (lim 1) == 0) = decide (Nat.gcd (vl rn) (vl rd) = 1)) := Lib.hid (by rw [cmp_one (lim_lim _), vl_lim])
  obtain ⟨C, hC⟩ : ∃ C, cmpL (lim (Nat.gcd (vl rn) (vl rd))) (lim 1) = C := ⟨_, rfl⟩
  rw [hC] at HC eG
  clear hC
  obtain ⟨G, hG⟩ : ∃ G, lim (Nat.gcd (vl rn) (vl rd)) = G := ⟨_, rfl⟩
  rw [hG] at HG HC
  clear hG
  clear hn hd hz
  obtain ⟨qrna, qrnc⟩ := qrn
  obtain ⟨qrda, qrdc⟩ := qrd
  replace S := Lib.hid (S.out.box 28 [.slice qrna rn.length qrnc, .slice qrda rd.length qrdc])
  clear hrn hrd
  go_enter Tryz.func18, Tryz.ntmps18
  go_wp2_with fail
  refine (HN.out _ _ S.out.r0).mono ?_
  rintro e w1 ⟨rfl, hb⟩
  replace S := Lib.hid (S.out.call hb)
  clear hb
  obtain ⟨⟨z0, f0, y0, y0a, -⟩, -⟩ := S.out.facts
  go_wp2_with fail
  refine (HD.out _ _ S.out.r1).mono ?_
  rintro e w2 ⟨rfl, hb⟩
  replace S := Lib.hid (S.out.call hb)
  clear hb z0 f0 y0 y0a
  obtain ⟨⟨z0, f0, y0, y0a, -⟩, -⟩ := S.out.facts
  go_wp2_with fail
  refine (HB.out _ _ S.out.r1).mono ?_
  rintro e w3 ⟨rfl, hb⟩
  replace S := Lib.hid (S.out.call hb)
  clear hb z0 f0 y0 y0a
  obtain ⟨⟨z0, f0, y0, y0a, -⟩, -⟩ := S.out.facts
  go_wp2_with fail
  refine (HG.out _ _ _ S.out.r0 S.out.r1).mono ?_
  rintro e w4 ⟨_, rfl, q1, rfl, hr, hf, hb⟩
  replace S := Lib.hid (natRes S.out hr hf hb)
  clear hr hf hb z0 f0 y0 y0a
  obtain ⟨⟨z0, f0, y0, y0a, -⟩, -⟩ := S.out.facts
  replace S := Lib.hid (S.out.box 24 [.slice q1.a (G).length q1.c])
  clear z0 f0 y0 y0a
  replace S := Lib.hid S.out.drew
  have y9 := True.intro
  clear y9; obtain ⟨⟨-, -, y9, -⟩, -⟩ := S.out.facts
  go_wp2_with fail
  go_region_held3 (fun w' => w'.cell? ⟨w4.heap.size, 0, none⟩ = some (.slice q1.a G.length q1.c)) (go_keep)
    (first
      | ((with_reducible refine (HO.out _).mono ?_); rintro e wx ⟨_, rfl, qx, rfl, hr, hf, hb⟩; replace S := Lib.hid (natRes S.out hr hf hb); clear hr hf hb; clear y9; obtain ⟨⟨-, -, y9, -⟩, -⟩ := S.out.facts)
      | ((with_reducible refine (HC.out _ _ _ (natOld S.out (by simp)) (natOld S.out (by simp))).mono ?_); rintro e wx ⟨rfl, hb⟩; replace S := Lib.hid (S.out.call hb); clear hb; clear y9; obtain ⟨⟨-, -, y9, -⟩, -⟩ := S.out.facts))
  all_goals
    go_wp2
    go_ret
    exact ⟨ret_b eG.out, S.out.bel⟩
set_option maxHeartbeats 2000000 in
set_option maxRecDepth 100000 in
theorem validR_any (w : World) (rn : List Int) (qrn : LmP) (hrn : RLm w w.heap.size rn qrn) (lrn : Lim rn) (rd : List Int) (qrd : LmP) (hrd : RLm w w.heap.size rd qrd) (lrd : Lim rd) :
    Calls Tryz.prog 18 #[ratV rn qrn rd qrd] w (fun e w' => e = .returned (.bool (vR rn rd)) ∧ Below w.heap.size w w') := by
  cases hn : vN rn with
  | false =>
    have e : vR rn rd = false := by unfold vR; rw [hn]; rfl
    rw [e]; exact validR_a w rn qrn hrn lrn rd qrd hrd lrd hn
  | true =>
    cases hd : vN rd with
    | false =>
      have e : vR rn rd = false := by unfold vR; rw [hn, hd]; rfl
      rw [e]; exact validR_b w rn qrn hrn lrn rd qrd hrd lrd hn hd
    | true =>
      by_cases hz : vl rd = 0
      · have e : vR rn rd = false := by unfold vR; rw [hn, hd, hz]; rfl
        rw [e]; exact validR_c w rn qrn hrn lrn rd qrd hrd lrd hn hd hz
      · have e : vR rn rd = decide (Nat.gcd (vl rn) (vl rd) = 1) := by unfold vR; rw [hn, hd, decide_eq_true hz]; rfl
        rw [e]; exact validR_d w rn qrn hrn lrn rd qrd hrd lrd hn hd hz
end Go.Proofs.YtoiokopmpcogbaaGreatDoor
