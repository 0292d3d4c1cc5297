/-
  CONTRACTS of one, isOne.
  Conditions: those that each theorem names.
-/
import Derived.Test.YtpoddmkimhkmoaaGreatNt9
import Derived.Deep.RegionHeld3
import Derived.RegionTactic
namespace Go.Proofs.YtpoddmkimhkmoaaGreat
open Go.RowKit Go.Sv
/-- a fraction -/
abbrev ratV (n : List Int) (q : LmP) (d : List Int) (r : LmP) : Value := .agg #[.slice q.a n.length q.c, .slice r.a d.length r.c]
/-- a call's fraction and its error -/
def RRes2 (w : World) (n d : List Int) (E : Int) (v : Value) (w' : World) : Prop :=
  ∃ q r : LmP, v = .tuple #[ratV n q d r, .int .i64 E] ∧ RLm w' w'.heap.size n q ∧ RLm w' w'.heap.size d r ∧ Fr w.heap.size q ∧ Fr w.heap.size r ∧ Below w.heap.size w w'
/-- a call's fraction -/
def RRes (w : World) (n d : List Int) (v : Value) (w' : World) : Prop :=
  ∃ q r : LmP, v = ratV n q d r ∧ RLm w' w'.heap.size n q ∧ RLm w' w'.heap.size d r ∧ Fr w.heap.size q ∧ Fr w.heap.size r ∧ Below w.heap.size w w'
/-- a valid fraction -/
def vR (n d : List Int) : Bool := vN n && vN d && decide (vl d ≠ 0) && decide (Nat.gcd (vl n) (vl d) = 1)
theorem vl_len {d : List Int} (ld : Lim d) (vd : vN d = true) : vl d = 0 ↔ d.length = 0 := by
  have e := lim_vl ld (vN_can vd).2
  rw [← lim_len_zero, ← e]
theorem lim_one_iff {l : List Int} (ll : Lim l) (cl : Sv.Can l) : l = lim 1 ↔ vl l = 1 := by
  constructor
  · intro h; rw [h, vl_lim]
  · intro h; rw [lim_vl ll cl, h]
theorem cmp_one {l : List Int} (ll : Lim l) : (cmpL l (lim 1) == 0) = decide (vl l = 1) := by
  unfold cmpL
  rw [vl_vt ll, vl_vt (lim_lim 1), vl_lim, Bool.eq_iff_iff, decide_eq_true_iff, beq_iff_eq]
  unfold cmpV
  split
  · constructor <;> intro h <;> omega
  · split
    · constructor <;> intro h <;> omega
    · constructor <;> intro h <;> omega
theorem lim1_ok : vN (lim 1) = true := vN_lim (lim_len_le.2 (by
  have := Bp_mono (show 1 ≤ 128 by omega)
  have e : Bp 1 = 4294967296 := by decide
  omega))
set_option maxHeartbeats 2000000 in
set_option maxRecDepth 100000 in
theorem rone_any (w : World) (a : List Int) (qa : LmP) (ha : RLm w w.heap.size a qa) (_la : Lim a) :
    Calls Tryz.prog 55 #[natV a qa] w (fun e w' => e = .returned (.bool (decide (a = lim 1))) ∧ Below w.heap.size w w') := by
  have S := Lib.hid (natArg (Fm.init w) ha)
  have HO := Lib.hid (fun w' => rof_any 1 w' (by decide) (by decide))
  simp only [show (1 : Int).toNat = 1 from rfl] at HO
  have HS := Lib.hid (fun q r w' (h1 : RLm w' w'.heap.size a q) (h2 : RLm w' w'.heap.size (lim 1) r) => same_any a (lim 1) q r w' h1 h2)
  obtain ⟨qaa, qac⟩ := qa
  replace S := Lib.hid (S.out.box 24 [.slice qaa a.length qac])
  clear ha
  go_enter Tryz.func55, Tryz.ntmps55
  go_wp2_with fail
  have y0 : w.drew.cell? ⟨w.heap.size, 0, none⟩ = w.drew.cell? ⟨w.heap.size, 0, none⟩ := rfl
  replace S := Lib.hid S.out.drew
  clear y0
  obtain ⟨⟨-, -, y0, -⟩, -⟩ := S.out.facts
  go_region_held3 (fun w' => w'.cell? ⟨w.heap.size, 0, none⟩ = some (.slice qaa a.length qac)) (go_keep)
    (first
      | ((with_reducible refine (HO.out _).mono ?_); rintro e wx ⟨_, rfl, qx, rfl, hr, hf, hb⟩; replace S := Lib.hid (natRes S.out hr hf hb); clear hr hf hb; clear y0; obtain ⟨⟨-, -, y0, -⟩, -⟩ := S.out.facts)
      | ((with_reducible refine (HS.out ⟨qaa, qac⟩ _ _ (natOld S.out (by simp)) (natOld S.out (by simp))).mono ?_); rintro e wx ⟨rfl, hb⟩; replace S := Lib.hid (S.out.call hb); clear hb; clear y0; obtain ⟨⟨-, -, y0, -⟩, -⟩ := S.out.facts))
  all_goals
    go_wp2
    go_ret
    exact ⟨rfl, S.out.bel⟩
end Go.Proofs.YtpoddmkimhkmoaaGreat
namespace Go.Proofs.YtpoddmkimhkmoaaGreat
open Go.RowKit Go.Sv
set_option maxHeartbeats 2000000 in
set_option maxRecDepth 100000 in
theorem rvalidR_a (w : World) (rn : List Int) (qrn : LmP) (hrn : RLm w w.heap.size rn qrn) (_lrn : Lim rn) (rd : List Int) (qrd : LmP) (hrd : RLm w w.heap.size rd qrd) (_lrd : Lim rd) (hn : vN rn = false) :
    Calls Tryz.prog 32 #[ratV rn qrn rd qrd] w (fun e w' => e = .returned (.bool (false)) ∧ Below w.heap.size w w') := by
  have S := Lib.hid (natArg (natArg (Fm.init w) hrd) hrn)
  have HN := Lib.hid (fun q0 w' (h0 : RLm w' w'.heap.size (rn) q0) => by
    have := rvalid_any (rn) q0 w' h0 
    rw [hn] at this
    exact this)
  clear hn
  obtain ⟨qrna, qrnc⟩ := qrn
  obtain ⟨qrda, qrdc⟩ := qrd
  replace S := Lib.hid (S.out.box 26 [.slice qrna rn.length qrnc, .slice qrda rd.length qrdc])
  clear hrn hrd
  go_enter Tryz.func32, Tryz.ntmps32
  go_wp2_with fail
  refine (HN.out _ _ S.out.r0).mono ?_
  rintro e w1 ⟨rfl, hb⟩
  replace S := Lib.hid (S.out.call hb)
  clear hb
  obtain ⟨⟨z0, f0, y0, y0a, -⟩, -⟩ := S.out.facts
  go_wp2
  go_ret
  exact ⟨rfl, S.out.bel⟩
set_option maxHeartbeats 2000000 in
set_option maxRecDepth 100000 in
theorem rvalidR_b (w : World) (rn : List Int) (qrn : LmP) (hrn : RLm w w.heap.size rn qrn) (_lrn : Lim rn) (rd : List Int) (qrd : LmP) (hrd : RLm w w.heap.size rd qrd) (_lrd : Lim rd) (hn : vN rn = true) (hd : vN rd = false) :
    Calls Tryz.prog 32 #[ratV rn qrn rd qrd] w (fun e w' => e = .returned (.bool (false)) ∧ Below w.heap.size w w') := by
  have S := Lib.hid (natArg (natArg (Fm.init w) hrd) hrn)
  have HN := Lib.hid (fun q0 w' (h0 : RLm w' w'.heap.size (rn) q0) => by
    have := rvalid_any (rn) q0 w' h0 
    rw [hn] at this
    exact this)
  have HD := Lib.hid (fun q0 w' (h0 : RLm w' w'.heap.size (rd) q0) => by
    have := rvalid_any (rd) q0 w' h0 
    rw [hd] at this
    exact this)
  clear hn hd
  obtain ⟨qrna, qrnc⟩ := qrn
  obtain ⟨qrda, qrdc⟩ := qrd
  replace S := Lib.hid (S.out.box 26 [.slice qrna rn.length qrnc, .slice qrda rd.length qrdc])
  clear hrn hrd
  go_enter Tryz.func32, Tryz.ntmps32
  go_wp2_with fail
  refine (HN.out _ _ S.out.r0).mono ?_
  rintro e w1 ⟨rfl, hb⟩
  replace S := Lib.hid (S.out.call hb)
  clear hb
  obtain ⟨⟨z0, f0, y0, y0a, -⟩, -⟩ := S.out.facts
  go_wp2_with fail
  refine (HD.out _ _ S.out.r1).mono ?_
  rintro e w2 ⟨rfl, hb⟩
  replace S := Lib.hid (S.out.call hb)
  clear hb z0 f0 y0 y0a
  obtain ⟨⟨z0, f0, y0, y0a, -⟩, -⟩ := S.out.facts
  go_wp2
  go_ret
  exact ⟨rfl, S.out.bel⟩
set_option maxHeartbeats 2000000 in
set_option maxRecDepth 100000 in
theorem rvalidR_c (w : World) (rn : List Int) (qrn : LmP) (hrn : RLm w w.heap.size rn qrn) (_lrn : Lim rn) (rd : List Int) (qrd : LmP) (hrd : RLm w w.heap.size rd qrd) (lrd : Lim rd) (hn : vN rn = true) (hd : vN rd = true) (hz : vl rd = 0) :
    Calls Tryz.prog 32 #[ratV rn qrn rd qrd] w (fun e w' => e = .returned (.bool (false)) ∧ Below w.heap.size w w') := by
  have S := Lib.hid (natArg (natArg (Fm.init w) hrd) hrn)
  have HN := Lib.hid (fun q0 w' (h0 : RLm w' w'.heap.size (rn) q0) => by
    have := rvalid_any (rn) q0 w' h0 
    rw [hn] at this
    exact this)
  have HD := Lib.hid (fun q0 w' (h0 : RLm w' w'.heap.size (rd) q0) => by
    have := rvalid_any (rd) q0 w' h0 
    rw [hd] at this
    exact this)
  have dz : ((rd.length : Int) == 0) = true := beq_iff_eq.2 (by have := (vl_len lrd hd).1 hz; omega)
  clear hn hd hz
  obtain ⟨qrna, qrnc⟩ := qrn
  obtain ⟨qrda, qrdc⟩ := qrd
  replace S := Lib.hid (S.out.box 26 [.slice qrna rn.length qrnc, .slice qrda rd.length qrdc])
  clear hrn hrd
  go_enter Tryz.func32, Tryz.ntmps32
  go_wp2_with fail
  refine (HN.out _ _ S.out.r0).mono ?_
  rintro e w1 ⟨rfl, hb⟩
  replace S := Lib.hid (S.out.call hb)
  clear hb
  obtain ⟨⟨z0, f0, y0, y0a, -⟩, -⟩ := S.out.facts
  go_wp2_with fail
  refine (HD.out _ _ S.out.r1).mono ?_
  rintro e w2 ⟨rfl, hb⟩
  replace S := Lib.hid (S.out.call hb)
  clear hb z0 f0 y0 y0a
  obtain ⟨⟨z0, f0, y0, y0a, -⟩, -⟩ := S.out.facts
  go_wp2
  go_ret
  exact ⟨rfl, S.out.bel⟩
set_option maxHeartbeats 2000000 in
set_option maxRecDepth 100000 in
theorem rvalidR_d (w : World) (rn : List Int) (qrn : LmP) (hrn : RLm w w.heap.size rn qrn) (lrn : Lim rn) (rd : List Int) (qrd : LmP) (hrd : RLm w w.heap.size rd qrd) (lrd : Lim rd) (hn : vN rn = true) (hd : vN rd = true) (hz : vl rd ≠ 0) :
    Calls Tryz.prog 32 #[ratV rn qrn rd qrd] w (fun e w' => e = .returned (.bool (decide (Nat.gcd (vl rn) (vl rd) = 1))) ∧ Below w.heap.size w w') := by
  have S := Lib.hid (natArg (natArg (Fm.init w) hrd) hrn)
  have HN := Lib.hid (fun q0 w' (h0 : RLm w' w'.heap.size (rn) q0) => by
    have := rvalid_any (rn) q0 w' h0 
    rw [hn] at this
    exact this)
  have HD := Lib.hid (fun q0 w' (h0 : RLm w' w'.heap.size (rd) q0) => by
    have := rvalid_any (rd) q0 w' h0 
    rw [hd] at this
    exact this)
  have dz : ((rd.length : Int) == 0) = false := beq_eq_false_iff_ne.2 (fun e => hz ((vl_len lrd hd).2 (by omega)))
  have HG := Lib.hid (fun q0 q1 w' (h0 : RLm w' w'.heap.size (rn) q0) (h1 : RLm w' w'.heap.size (rd) q1) => by
    have := rgcd_ok (rn) (rd) q0 q1 w' h0 h1 (lrn) (lrd) (hn) (hd)
    exact this)
  have HO := Lib.hid (fun q w' (h1 : RLm w' w'.heap.size (lim (Nat.gcd (vl rn) (vl rd))) q) => rone_any w' (lim (Nat.gcd (vl rn) (vl rd))) q h1 (lim_lim _))
  have eG : Hid (decide (lim (Nat.gcd (vl rn) (vl rd)) = lim 1) = decide (Nat.gcd (vl rn) (vl rd) = 1)) := Lib.hid (by rw [Bool.eq_iff_iff, decide_eq_true_iff, decide_eq_true_iff]; exact ⟨lim_inj, fun h => by rw [h]⟩)
  obtain ⟨b, hb'⟩ : ∃ b, decide (lim (Nat.gcd (vl rn) (vl rd)) = lim 1) = b := ⟨_, rfl⟩
  rw [hb'] at HO eG
  clear hb'
  obtain ⟨G, hG⟩ : ∃ G, lim (Nat.gcd (vl rn) (vl rd)) = G := ⟨_, rfl⟩
  rw [hG] at HG HO
  clear hG
  clear hn hd hz
  obtain ⟨qrna, qrnc⟩ := qrn
  obtain ⟨qrda, qrdc⟩ := qrd
  replace S := Lib.hid (S.out.box 26 [.slice qrna rn.length qrnc, .slice qrda rd.length qrdc])
  clear hrn hrd
  go_enter Tryz.func32, Tryz.ntmps32
  go_wp2_with fail
  refine (HN.out _ _ S.out.r0).mono ?_
  rintro e w1 ⟨rfl, hb⟩
  replace S := Lib.hid (S.out.call hb)
  clear hb
  obtain ⟨⟨z0, f0, y0, y0a, -⟩, -⟩ := S.out.facts
  go_wp2_with fail
  refine (HD.out _ _ S.out.r1).mono ?_
  rintro e w2 ⟨rfl, hb⟩
  replace S := Lib.hid (S.out.call hb)
  clear hb z0 f0 y0 y0a
  obtain ⟨⟨z0, f0, y0, y0a, -⟩, -⟩ := S.out.facts
  go_wp2_with fail
  refine (HG.out _ _ _ S.out.r0 S.out.r1).mono ?_
  rintro e w3 ⟨_, rfl, q1, rfl, hr, hf, hb⟩
  replace S := Lib.hid (natRes S.out hr hf hb)
  clear hr hf hb z0 f0 y0 y0a
  obtain ⟨⟨z0, f0, y0, y0a, -⟩, -⟩ := S.out.facts
  replace S := Lib.hid (S.out.box 24 [.slice q1.a (G).length q1.c])
  go_wp2_with fail
  refine (HO.out _ _ S.out.r0).mono ?_
  rintro e w4 ⟨rfl, hb⟩
  replace S := Lib.hid (S.out.call hb)
  clear hb z0 f0 y0 y0a
  obtain ⟨⟨z1, f1, y1, -⟩, ⟨z0, f0, y0, y0a, -⟩, -⟩ := S.out.facts
  go_wp2
  go_ret
  exact ⟨ret_b eG.out, S.out.bel⟩
set_option maxHeartbeats 2000000 in
set_option maxRecDepth 100000 in
theorem rvalidR_any (w : World) (rn : List Int) (qrn : LmP) (hrn : RLm w w.heap.size rn qrn) (lrn : Lim rn) (rd : List Int) (qrd : LmP) (hrd : RLm w w.heap.size rd qrd) (lrd : Lim rd) :
    Calls Tryz.prog 32 #[ratV rn qrn rd qrd] w (fun e w' => e = .returned (.bool (vR rn rd)) ∧ Below w.heap.size w w') := by
  cases hn : vN rn with
  | false =>
    have e : vR rn rd = false := by unfold vR; rw [hn]; rfl
    rw [e]; exact rvalidR_a w rn qrn hrn lrn rd qrd hrd lrd hn
  | true =>
    cases hd : vN rd with
    | false =>
      have e : vR rn rd = false := by unfold vR; rw [hn, hd]; rfl
      rw [e]; exact rvalidR_b w rn qrn hrn lrn rd qrd hrd lrd hn hd
    | true =>
      by_cases hz : vl rd = 0
      · have e : vR rn rd = false := by unfold vR; rw [hn, hd, hz]; rfl
        rw [e]; exact rvalidR_c w rn qrn hrn lrn rd qrd hrd lrd hn hd hz
      · have e : vR rn rd = decide (Nat.gcd (vl rn) (vl rd) = 1) := by unfold vR; rw [hn, hd, decide_eq_true hz]; rfl
        rw [e]; exact rvalidR_d w rn qrn hrn lrn rd qrd hrd lrd hn hd hz
set_option maxHeartbeats 2000000 in
set_option maxRecDepth 100000 in
theorem validR_a (w : World) (rn : List Int) (qrn : LmP) (hrn : RLm w w.heap.size rn qrn) (_lrn : Lim rn) (rd : List Int) (qrd : LmP) (hrd : RLm w w.heap.size rd qrd) (_lrd : Lim rd) (hn : vN rn = false) :
    Calls Tryz.prog 65 #[ratV rn qrn rd qrd] w (fun e w' => e = .returned (.bool (false)) ∧ Below w.heap.size w w') := by
  have S := Lib.hid (natArg (natArg (Fm.init w) hrd) hrn)
  have HN := Lib.hid (fun q0 w' (h0 : RLm w' w'.heap.size (rn) q0) => by
    have := valid_any (rn) q0 w' h0 
    rw [hn] at this
    exact this)
  clear hn
  obtain ⟨qrna, qrnc⟩ := qrn
  obtain ⟨qrda, qrdc⟩ := qrd
  replace S := Lib.hid (S.out.box 26 [.slice qrna rn.length qrnc, .slice qrda rd.length qrdc])
  clear hrn hrd
  go_enter Tryz.func65, Tryz.ntmps65
  go_wp2_with fail
  refine (HN.out _ _ S.out.r0).mono ?_
  rintro e w1 ⟨rfl, hb⟩
  replace S := Lib.hid (S.out.call hb)
  clear hb
  obtain ⟨⟨z0, f0, y0, y0a, -⟩, -⟩ := S.out.facts
  go_wp2
  go_ret
  exact ⟨rfl, S.out.bel⟩
set_option maxHeartbeats 2000000 in
set_option maxRecDepth 100000 in
theorem validR_b (w : World) (rn : List Int) (qrn : LmP) (hrn : RLm w w.heap.size rn qrn) (_lrn : Lim rn) (rd : List Int) (qrd : LmP) (hrd : RLm w w.heap.size rd qrd) (_lrd : Lim rd) (hn : vN rn = true) (hd : vN rd = false) :
    Calls Tryz.prog 65 #[ratV rn qrn rd qrd] w (fun e w' => e = .returned (.bool (false)) ∧ Below w.heap.size w w') := by
  have S := Lib.hid (natArg (natArg (Fm.init w) hrd) hrn)
  have HN := Lib.hid (fun q0 w' (h0 : RLm w' w'.heap.size (rn) q0) => by
    have := valid_any (rn) q0 w' h0 
    rw [hn] at this
    exact this)
  have HD := Lib.hid (fun q0 w' (h0 : RLm w' w'.heap.size (rd) q0) => by
    have := valid_any (rd) q0 w' h0 
    rw [hd] at this
    exact this)
  clear hn hd
  obtain ⟨qrna, qrnc⟩ := qrn
  obtain ⟨qrda, qrdc⟩ := qrd
  replace S := Lib.hid (S.out.box 26 [.slice qrna rn.length qrnc, .slice qrda rd.length qrdc])
  clear hrn hrd
  go_enter Tryz.func65, Tryz.ntmps65
  go_wp2_with fail
  refine (HN.out _ _ S.out.r0).mono ?_
  rintro e w1 ⟨rfl, hb⟩
  replace S := Lib.hid (S.out.call hb)
  clear hb
  obtain ⟨⟨z0, f0, y0, y0a, -⟩, -⟩ := S.out.facts
  go_wp2_with fail
  refine (HD.out _ _ S.out.r1).mono ?_
  rintro e w2 ⟨rfl, hb⟩
  replace S := Lib.hid (S.out.call hb)
  clear hb z0 f0 y0 y0a
  obtain ⟨⟨z0, f0, y0, y0a, -⟩, -⟩ := S.out.facts
  go_wp2
  go_ret
  exact ⟨rfl, S.out.bel⟩
set_option maxHeartbeats 2000000 in
set_option maxRecDepth 100000 in
theorem validR_c (w : World) (rn : List Int) (qrn : LmP) (hrn : RLm w w.heap.size rn qrn) (_lrn : Lim rn) (rd : List Int) (qrd : LmP) (hrd : RLm w w.heap.size rd qrd) (lrd : Lim rd) (hn : vN rn = true) (hd : vN rd = true) (hz : vl rd = 0) :
    Calls Tryz.prog 65 #[ratV rn qrn rd qrd] w (fun e w' => e = .returned (.bool (false)) ∧ Below w.heap.size w w') := by
  have S := Lib.hid (natArg (natArg (Fm.init w) hrd) hrn)
  have HN := Lib.hid (fun q0 w' (h0 : RLm w' w'.heap.size (rn) q0) => by
    have := valid_any (rn) q0 w' h0 
    rw [hn] at this
    exact this)
  have HD := Lib.hid (fun q0 w' (h0 : RLm w' w'.heap.size (rd) q0) => by
    have := valid_any (rd) q0 w' h0 
    rw [hd] at this
    exact this)
  have HB := Lib.hid (fun q w' (h1 : RLm w' w'.heap.size rd q) => bits_any rd q w' h1 lrd (vN_can hd).2 (by have := (vN_can hd).1; omega))
  have dz : ((nbits (vl rd) : Int) == 0) = true := by rw [hz]; rfl
  obtain ⟨B, hB⟩ : ∃ B, nbits (vl rd) = B := ⟨_, rfl⟩
  rw [hB] at HB dz
  clear hB
  clear hn hd hz
  obtain ⟨qrna, qrnc⟩ := qrn
  obtain ⟨qrda, qrdc⟩ := qrd
  replace S := Lib.hid (S.out.box 26 [.slice qrna rn.length qrnc, .slice qrda rd.length qrdc])
  clear hrn hrd
  go_enter Tryz.func65, Tryz.ntmps65
  go_wp2_with fail
  refine (HN.out _ _ S.out.r0).mono ?_
  rintro e w1 ⟨rfl, hb⟩
  replace S := Lib.hid (S.out.call hb)
  clear hb
  obtain ⟨⟨z0, f0, y0, y0a, -⟩, -⟩ := S.out.facts
  go_wp2_with fail
  refine (HD.out _ _ S.out.r1).mono ?_
  rintro e w2 ⟨rfl, hb⟩
  replace S := Lib.hid (S.out.call hb)
  clear hb z0 f0 y0 y0a
  obtain ⟨⟨z0, f0, y0, y0a, -⟩, -⟩ := S.out.facts
  go_wp2_with fail
  refine (HB.out _ _ S.out.r1).mono ?_
  rintro e w3 ⟨rfl, hb⟩
  replace S := Lib.hid (S.out.call hb)
  clear hb z0 f0 y0 y0a
  obtain ⟨⟨z0, f0, y0, y0a, -⟩, -⟩ := S.out.facts
  go_wp2
  go_ret
  exact ⟨rfl, S.out.bel⟩
set_option maxHeartbeats 2000000 in
set_option maxRecDepth 100000 in
theorem validR_d (w : World) (rn : List Int) (qrn : LmP) (hrn : RLm w w.heap.size rn qrn) (lrn : Lim rn) (rd : List Int) (qrd : LmP) (hrd : RLm w w.heap.size rd qrd) (lrd : Lim rd) (hn : vN rn = true) (hd : vN rd = true) (hz : vl rd ≠ 0) :
    Calls Tryz.prog 65 #[ratV rn qrn rd qrd] w (fun e w' => e = .returned (.bool (decide (Nat.gcd (vl rn) (vl rd) = 1))) ∧ Below w.heap.size w w') := by
  have S := Lib.hid (natArg (natArg (Fm.init w) hrd) hrn)
  have HN := Lib.hid (fun q0 w' (h0 : RLm w' w'.heap.size (rn) q0) => by
    have := valid_any (rn) q0 w' h0 
    rw [hn] at this
    exact this)
  have HD := Lib.hid (fun q0 w' (h0 : RLm w' w'.heap.size (rd) q0) => by
    have := valid_any (rd) q0 w' h0 
    rw [hd] at this
    exact this)
  have HB := Lib.hid (fun q w' (h1 : RLm w' w'.heap.size rd q) => bits_any rd q w' h1 lrd (vN_can hd).2 (by have := (vN_can hd).1; omega))
  have dz : ((nbits (vl rd) : Int) == 0) = false := beq_eq_false_iff_ne.2 (fun e => hz (by have := nbits_le.1 (show nbits (vl rd) ≤ 0 by omega); omega))
  obtain ⟨B, hB⟩ : ∃ B, nbits (vl rd) = B := ⟨_, rfl⟩
  rw [hB] at HB dz
  clear hB
  have HG := Lib.hid (fun q0 q1 w' (h0 : RLm w' w'.heap.size (rn) q0) (h1 : RLm w' w'.heap.size (rd) q1) => by
    have := gcd_ok (rn) (rd) q0 q1 w' h0 h1 (lrn) (lrd) (by rw [hn, hd]; rfl)
    exact this)
  have HO := Lib.hid (fun w' => of_any 1 w' (by decide) (by decide))
  simp only [show (1 : Int).toNat = 1 from rfl] at HO
  have HC := Lib.hid (fun q r w' (h1 : RLm w' w'.heap.size (lim (Nat.gcd (vl rn) (vl rd))) q) (h2 : RLm w' w'.heap.size (lim 1) r) => cmp_any (lim (Nat.gcd (vl rn) (vl rd))) (lim 1) q r w' h1 h2 (lim_lim _) (lim_lim 1) (lim_can _) (lim_can 1))
  have eG : Hid ((cmpL (lim (Nat.gcd (vl rn) (vl rd))) (lim 1) == 0) = decide (Nat.gcd (vl rn) (vl rd) = 1)) := Lib.hid (by rw [cmp_one (lim_lim _), vl_lim])
  obtain ⟨C, hC⟩ : ∃ C, cmpL (lim (Nat.gcd (vl rn) (vl rd))) (lim 1) = C := ⟨_, rfl⟩
  rw [hC] at HC eG
  clear hC
  obtain ⟨G, hG⟩ : ∃ G, lim (Nat.gcd (vl rn) (vl rd)) = G := ⟨_, rfl⟩
  rw [hG] at HG HC
  clear hG
  clear hn hd hz
  obtain ⟨qrna, qrnc⟩ := qrn
  obtain ⟨qrda, qrdc⟩ := qrd
  replace S := Lib.hid (S.out.box 26 [.slice qrna rn.length qrnc, .slice qrda rd.length qrdc])
  clear hrn hrd
  go_enter Tryz.func65, Tryz.ntmps65
  go_wp2_with fail
  refine (HN.out _ _ S.out.r0).mono ?_
  rintro e w1 ⟨rfl, hb⟩
  replace S := Lib.hid (S.out.call hb)
  clear hb
  obtain ⟨⟨z0, f0, y0, y0a, -⟩, -⟩ := S.out.facts
  go_wp2_with fail
  refine (HD.out _ _ S.out.r1).mono ?_
  rintro e w2 ⟨rfl, hb⟩
  replace S := Lib.hid (S.out.call hb)
  clear hb z0 f0 y0 y0a
  obtain ⟨⟨z0, f0, y0, y0a, -⟩, -⟩ := S.out.facts
  go_wp2_with fail
  refine (HB.out _ _ S.out.r1).mono ?_
  rintro e w3 ⟨rfl, hb⟩
  replace S := Lib.hid (S.out.call hb)
  clear hb z0 f0 y0 y0a
  obtain ⟨⟨z0, f0, y0, y0a, -⟩, -⟩ := S.out.facts
  go_wp2_with fail
  refine (HG.out _ _ _ S.out.r0 S.out.r1).mono ?_
  rintro e w4 ⟨_, rfl, q1, rfl, hr, hf, hb⟩
  replace S := Lib.hid (natRes S.out hr hf hb)
  clear hr hf hb z0 f0 y0 y0a
  obtain ⟨⟨z0, f0, y0, y0a, -⟩, -⟩ := S.out.facts
  replace S := Lib.hid (S.out.box 24 [.slice q1.a (G).length q1.c])
  clear z0 f0 y0 y0a
  replace S := Lib.hid S.out.drew
  have y9 := True.intro
  clear y9; obtain ⟨⟨-, -, y9, -⟩, -⟩ := S.out.facts
  go_wp2_with fail
  go_region_held3 (fun w' => w'.cell? ⟨w4.heap.size, 0, none⟩ = some (.slice q1.a G.length q1.c)) (go_keep)
    (first
      | ((with_reducible refine (HO.out _).mono ?_); rintro e wx ⟨_, rfl, qx, rfl, hr, hf, hb⟩; replace S := Lib.hid (natRes S.out hr hf hb); clear hr hf hb; clear y9; obtain ⟨⟨-, -, y9, -⟩, -⟩ := S.out.facts)
      | ((with_reducible refine (HC.out _ _ _ (natOld S.out (by simp)) (natOld S.out (by simp))).mono ?_); rintro e wx ⟨rfl, hb⟩; replace S := Lib.hid (S.out.call hb); clear hb; clear y9; obtain ⟨⟨-, -, y9, -⟩, -⟩ := S.out.facts))
  all_goals
    go_wp2
    go_ret
    exact ⟨ret_b eG.out, S.out.bel⟩
set_option maxHeartbeats 2000000 in
set_option maxRecDepth 100000 in
theorem validR_any (w : World) (rn : List Int) (qrn : LmP) (hrn : RLm w w.heap.size rn qrn) (lrn : Lim rn) (rd : List Int) (qrd : LmP) (hrd : RLm w w.heap.size rd qrd) (lrd : Lim rd) :
    Calls Tryz.prog 65 #[ratV rn qrn rd qrd] w (fun e w' => e = .returned (.bool (vR rn rd)) ∧ Below w.heap.size w w') := by
  cases hn : vN rn with
  | false =>
    have e : vR rn rd = false := by unfold vR; rw [hn]; rfl
    rw [e]; exact validR_a w rn qrn hrn lrn rd qrd hrd lrd hn
  | true =>
    cases hd : vN rd with
    | false =>
      have e : vR rn rd = false := by unfold vR; rw [hn, hd]; rfl
      rw [e]; exact validR_b w rn qrn hrn lrn rd qrd hrd lrd hn hd
    | true =>
      by_cases hz : vl rd = 0
      · have e : vR rn rd = false := by unfold vR; rw [hn, hd, hz]; rfl
        rw [e]; exact validR_c w rn qrn hrn lrn rd qrd hrd lrd hn hd hz
      · have e : vR rn rd = decide (Nat.gcd (vl rn) (vl rd) = 1) := by unfold vR; rw [hn, hd, decide_eq_true hz]; rfl
        rw [e]; exact validR_d w rn qrn hrn lrn rd qrd hrd lrd hn hd hz
end Go.Proofs.YtpoddmkimhkmoaaGreat
namespace Go.Proofs.YtpoddmkimhkmoaaGreat
open Go.RowKit Go.Sv
def rdN (N D : Nat) : List Int := lim (N / Nat.gcd N D)
def rdD (N D : Nat) : List Int := lim (D / Nat.gcd N D)
def makE (n d : List Int) : Int := if (vN n && vN d) = true then (if vl d = 0 then 8 else 0) else 1
def makN (n d : List Int) : List Int := if (vN n && vN d) = true ∧ vl d ≠ 0 then rdN (vl n) (vl d) else []
def makD (n d : List Int) : List Int := if (vN n && vN d) = true ∧ vl d ≠ 0 then rdD (vl n) (vl d) else []
section
variable {w W : World} {bs : List Bx} {rs : List Rd} {n d : List Int} {q r : LmP}
theorem fm_rres (S : Fm w W bs rs) (hn : rowRd n q ∈ rs) (hd : rowRd d r ∈ rs) (fq : Fr w.heap.size q) (fr : Fr w.heap.size r) : RRes w n d (ratV n q d r) W := ⟨q, r, rfl, natOld S hn, natOld S hd, fq, fr, S.bel⟩
theorem fm_rres2 {E : Int} (S : Fm w W bs rs) (hn : rowRd n q ∈ rs) (hd : rowRd d r ∈ rs) (fq : Fr w.heap.size q) (fr : Fr w.heap.size r) : RRes2 w n d E (.tuple #[ratV n q d r, .int .i64 E]) W := ⟨q, r, rfl, natOld S hn, natOld S hd, fq, fr, S.bel⟩
theorem fm_rres0 {E : Int} (S : Fm w W bs rs) : RRes2 w [] [] E (.tuple #[.agg #[.slice none 0 0, .slice none 0 0], .int .i64 E]) W := ⟨⟨none, 0⟩, ⟨none, 0⟩, rfl, RLm.none_ _ _, RLm.none_ _ _, Fr.none_ _, Fr.none_ _, S.bel⟩
end
set_option maxHeartbeats 2000000 in
set_option maxRecDepth 100000 in
theorem reduced_any (w : World) (a : List Int) (qa : LmP) (ha : RLm w w.heap.size a qa) (la : Lim a) (b : List Int) (qb : LmP) (hb : RLm w w.heap.size b qb) (lb : Lim b) (va : vN a = true) (vb : vN b = true) (hz : vl b ≠ 0) :
    Calls Tryz.prog 63 #[natV a qa, natV b qb] w (Ret (RRes w (rdN (vl a) (vl b)) (rdD (vl a) (vl b)))) := by
  have S := Lib.hid (natArg (natArg (Fm.init w) hb) ha)
  have hg0 : 0 < Nat.gcd (vl a) (vl b) := Nat.gcd_pos_of_pos_right _ (by omega)
  have hg128 : (lim (Nat.gcd (vl a) (vl b))).length ≤ 128 := by
    have h1 : Nat.gcd (vl a) (vl b) ≤ vl b := Nat.gcd_le_right _ (by omega)
    obtain ⟨nb, cb⟩ := vN_can vb
    rcases Nat.lt_or_ge 128 (lim (Nat.gcd (vl a) (vl b))).length with c | c
    · have := len_mono h1 c
      rw [← lim_vl lb cb] at this
      omega
    · exact c
  have HG := Lib.hid (fun q0 q1 w' (h0 : RLm w' w'.heap.size (a) q0) (h1 : RLm w' w'.heap.size (b) q1) => by
    have := gcd_ok (a) (b) q0 q1 w' h0 h1 (la) (lb) (by rw [va, vb]; rfl)
    exact this)
  have HA := Lib.hid (fun q0 q1 w' (h0 : RLm w' w'.heap.size (a) q0) (h1 : RLm w' w'.heap.size (lim (Nat.gcd (vl a) (vl b))) q1) => by
    have := div_ok (a) (lim (Nat.gcd (vl a) (vl b))) q0 q1 w' h0 h1 (la) (lim_lim _) (by rw [va, vN_lim hg128]; rfl) (by rw [vl_lim]; exact hg0)
    rw [vl_lim] at this
    exact this)
  have HB := Lib.hid (fun q0 q1 w' (h0 : RLm w' w'.heap.size (b) q0) (h1 : RLm w' w'.heap.size (lim (Nat.gcd (vl a) (vl b))) q1) => by
    have := div_ok (b) (lim (Nat.gcd (vl a) (vl b))) q0 q1 w' h0 h1 (lb) (lim_lim _) (by rw [vb, vN_lim hg128]; rfl) (by rw [vl_lim]; exact hg0)
    rw [vl_lim] at this
    exact this)
  have eQ : Hid (rdN (vl a) (vl b) = lim (vl a / Nat.gcd (vl a) (vl b))) := Lib.hid rfl
  have eP : Hid (rdD (vl a) (vl b) = lim (vl b / Nat.gcd (vl a) (vl b))) := Lib.hid rfl
  obtain ⟨Q, hQ⟩ : ∃ V, lim (vl a / Nat.gcd (vl a) (vl b)) = V := ⟨_, rfl⟩
  obtain ⟨P, hP⟩ : ∃ V, lim (vl b / Nat.gcd (vl a) (vl b)) = V := ⟨_, rfl⟩
  obtain ⟨R, hR⟩ : ∃ V, lim (vl a % Nat.gcd (vl a) (vl b)) = V := ⟨_, rfl⟩
  obtain ⟨T, hT⟩ : ∃ V, lim (vl b % Nat.gcd (vl a) (vl b)) = V := ⟨_, rfl⟩
  rw [hQ, hR] at HA
  rw [hP, hT] at HB
  rw [hQ] at eQ
  rw [hP] at eP
  obtain ⟨G, hG⟩ : ∃ V, lim (Nat.gcd (vl a) (vl b)) = V := ⟨_, rfl⟩
  rw [hG] at HG HA HB
  clear hQ hP hR hT hG hg0 hg128
  clear va vb hz
  obtain ⟨qaa, qac⟩ := qa
  obtain ⟨qba, qbc⟩ := qb
  replace S := Lib.hid (S.out.box 24 [.slice qaa a.length qac])
  replace S := Lib.hid (S.out.box' 24 [.slice qba b.length qbc] (K := w.heap.size + 1) (by simp))
  replace S := Lib.hid (S.out.box' 26 [.slice none 0 0, .slice none 0 0] (K := w.heap.size + 1 + 1) (by simp))
  clear ha hb
  go_enter Tryz.func63, Tryz.ntmps63
  go_wp2_with fail
  refine (HG.out _ _ _ S.out.r0 S.out.r1).mono ?_
  rintro e w1 ⟨_, rfl, q1, rfl, hr, hf, hb⟩
  replace S := Lib.hid (natRes S.out hr hf hb)
  clear hr hf hb
  obtain ⟨⟨z2, f2, y2, y2a, -⟩, ⟨z1, f1, y1, -⟩, ⟨z0, f0, y0, -⟩, -⟩ := S.out.facts
  replace S := Lib.hid (S.out.box 24 [.slice q1.a (G).length q1.c])
  go_wp2_with fail
  refine (HA.out _ _ _ S.out.r1 S.out.r0).mono ?_
  rintro e w2 ⟨_, rfl, q2, q3, rfl, hr, hr2, hf, hf2, hb⟩
  have fr2 := Lib.hid (hf.le S.out.size)
  replace S := Lib.hid (natRes2 S.out hr hr2 hf hf2 hb)
  clear hr hr2 hf hf2 hb z0 f0 y0 z1 f1 y1 z2 f2 y2 y2a
  obtain ⟨⟨z3, f3, y3, -⟩, ⟨z2, f2, y2, y2a, -⟩, ⟨z1, f1, y1, -⟩, ⟨z0, f0, y0, -⟩, -⟩ := S.out.facts
  replace S := Lib.hid (S.out.box 24 [.slice q2.a (Q).length q2.c])
  replace S := Lib.hid (S.out.box' 24 [.slice q3.a (R).length q3.c] (K := w2.heap.size + 1) (by simp))
  go_wp2_with fail
  refine (HB.out _ _ _ S.out.r4 S.out.r2).mono ?_
  rintro e w3 ⟨_, rfl, q4, q5, rfl, hr, hr2, hf, hf2, hb⟩
  have fr4 := Lib.hid (hf.le S.out.size)
  replace S := Lib.hid (natRes2 S.out hr hr2 hf hf2 hb)
  clear hr hr2 hf hf2 hb z0 f0 y0 z1 f1 y1 z2 f2 y2 y2a z3 f3 y3
  obtain ⟨⟨z5, f5, y5, -⟩, ⟨z4, f4, y4, -⟩, ⟨z3, f3, y3, -⟩, ⟨z2, f2, y2, y2a, -⟩, ⟨z1, f1, y1, -⟩, ⟨z0, f0, y0, -⟩, -⟩ := S.out.facts
  replace S := Lib.hid (S.out.set 3 rfl 0 (.slice q2.a Q.length q2.c))
  replace S := Lib.hid (S.out.set 3 rfl 1 (.slice q4.a P.length q4.c))
  replace S := Lib.hid (S.out.box' 24 [.slice q4.a (P).length q4.c] (K := w3.heap.size) (by simp))
  replace S := Lib.hid (S.out.box' 24 [.slice q5.a (T).length q5.c] (K := w3.heap.size + 1) (by simp))
  go_wp2
  refine bodyPost_ret (v := ratV Q q2 P q4) (by simp [results, Tryz.results63, go_sem, y2, y2a, z2, Nat.lt_succ_of_lt z2]) rfl ?_
  rw [eQ.out, eP.out]
  exact Ret.mk (fm_rres S.out (by simp) (by simp) fr2.out fr4.out)
set_option maxHeartbeats 2000000 in
set_option maxRecDepth 100000 in
theorem rmake_a (w : World) (a : List Int) (qa : LmP) (ha : RLm w w.heap.size a qa) (_la : Lim a) (b : List Int) (qb : LmP) (hb : RLm w w.heap.size b qb) (_lb : Lim b) (va : vN a = false) :
    Calls Tryz.prog 64 #[natV a qa, natV b qb] w (Ret (RRes2 w [] [] 1)) := by
  have S := Lib.hid (natArg (natArg (Fm.init w) hb) ha)
  have HN := Lib.hid (fun q0 w' (h0 : RLm w' w'.heap.size (a) q0) => by
    have := rvalid_any (a) q0 w' h0 
    rw [va] at this
    exact this)
  clear va
  obtain ⟨qaa, qac⟩ := qa
  obtain ⟨qba, qbc⟩ := qb
  replace S := Lib.hid (S.out.box 24 [.slice qaa a.length qac])
  replace S := Lib.hid (S.out.box' 24 [.slice qba b.length qbc] (K := w.heap.size + 1) (by simp))
  replace S := Lib.hid (S.out.box' 26 [.slice none 0 0, .slice none 0 0] (K := w.heap.size + 1 + 1) (by simp))
  clear ha hb
  go_enter Tryz.func64, Tryz.ntmps64
  go_wp2_with fail
  refine (HN.out _ _ S.out.r0).mono ?_
  rintro e w1 ⟨rfl, hb⟩
  replace S := Lib.hid (S.out.call hb)
  clear hb
  obtain ⟨⟨z2, f2, y2, y2a, -⟩, ⟨z1, f1, y1, -⟩, ⟨z0, f0, y0, -⟩, -⟩ := S.out.facts
  replace S := Lib.hid (S.out.set 0 rfl 0 (.slice none 0 0))
  replace S := Lib.hid (S.out.set 0 rfl 1 (.slice none 0 0))
  go_wp2
  refine bodyPost_ret (v := .tuple #[.agg #[.slice none 0 0, .slice none 0 0], .int .i64 1]) (by simp [results, Tryz.results64, go_sem, y2, y2a]) rfl ?_
  exact Ret.mk (fm_rres0 S.out)
set_option maxHeartbeats 2000000 in
set_option maxRecDepth 100000 in
theorem rmake_b (w : World) (a : List Int) (qa : LmP) (ha : RLm w w.heap.size a qa) (_la : Lim a) (b : List Int) (qb : LmP) (hb : RLm w w.heap.size b qb) (_lb : Lim b) (va : vN a = true) (vb : vN b = false) :
    Calls Tryz.prog 64 #[natV a qa, natV b qb] w (Ret (RRes2 w [] [] 1)) := by
  have S := Lib.hid (natArg (natArg (Fm.init w) hb) ha)
  have HN := Lib.hid (fun q0 w' (h0 : RLm w' w'.heap.size (a) q0) => by
    have := rvalid_any (a) q0 w' h0 
    rw [va] at this
    exact this)
  have HD := Lib.hid (fun q0 w' (h0 : RLm w' w'.heap.size (b) q0) => by
    have := rvalid_any (b) q0 w' h0 
    rw [vb] at this
    exact this)
  clear va vb
  obtain ⟨qaa, qac⟩ := qa
  obtain ⟨qba, qbc⟩ := qb
  replace S := Lib.hid (S.out.box 24 [.slice qaa a.length qac])
  replace S := Lib.hid (S.out.box' 24 [.slice qba b.length qbc] (K := w.heap.size + 1) (by simp))
  replace S := Lib.hid (S.out.box' 26 [.slice none 0 0, .slice none 0 0] (K := w.heap.size + 1 + 1) (by simp))
  clear ha hb
  go_enter Tryz.func64, Tryz.ntmps64
  go_wp2_with fail
  refine (HN.out _ _ S.out.r0).mono ?_
  rintro e w1 ⟨rfl, hb⟩
  replace S := Lib.hid (S.out.call hb)
  clear hb
  obtain ⟨⟨z2, f2, y2, y2a, -⟩, ⟨z1, f1, y1, -⟩, ⟨z0, f0, y0, -⟩, -⟩ := S.out.facts
  go_wp2_with fail
  refine (HD.out _ _ S.out.r1).mono ?_
  rintro e w2 ⟨rfl, hb⟩
  replace S := Lib.hid (S.out.call hb)
  clear hb z0 f0 y0 z1 f1 y1 z2 f2 y2 y2a
  obtain ⟨⟨z2, f2, y2, y2a, -⟩, ⟨z1, f1, y1, -⟩, ⟨z0, f0, y0, -⟩, -⟩ := S.out.facts
  replace S := Lib.hid (S.out.set 0 rfl 0 (.slice none 0 0))
  replace S := Lib.hid (S.out.set 0 rfl 1 (.slice none 0 0))
  go_wp2
  refine bodyPost_ret (v := .tuple #[.agg #[.slice none 0 0, .slice none 0 0], .int .i64 1]) (by simp [results, Tryz.results64, go_sem, y2, y2a]) rfl ?_
  exact Ret.mk (fm_rres0 S.out)
set_option maxHeartbeats 2000000 in
set_option maxRecDepth 100000 in
theorem rmake_c (w : World) (a : List Int) (qa : LmP) (ha : RLm w w.heap.size a qa) (_la : Lim a) (b : List Int) (qb : LmP) (hb : RLm w w.heap.size b qb) (lb : Lim b) (va : vN a = true) (vb : vN b = true) (hz : vl b = 0) :
    Calls Tryz.prog 64 #[natV a qa, natV b qb] w (Ret (RRes2 w [] [] 8)) := by
  have S := Lib.hid (natArg (natArg (Fm.init w) hb) ha)
  have HN := Lib.hid (fun q0 w' (h0 : RLm w' w'.heap.size (a) q0) => by
    have := rvalid_any (a) q0 w' h0 
    rw [va] at this
    exact this)
  have HD := Lib.hid (fun q0 w' (h0 : RLm w' w'.heap.size (b) q0) => by
    have := rvalid_any (b) q0 w' h0 
    rw [vb] at this
    exact this)
  have dz : ((b.length : Int) == 0) = true := beq_iff_eq.2 (by have := (vl_len lb vb).1 hz; omega)
  clear va vb hz
  obtain ⟨qaa, qac⟩ := qa
  obtain ⟨qba, qbc⟩ := qb
  replace S := Lib.hid (S.out.box 24 [.slice qaa a.length qac])
  replace S := Lib.hid (S.out.box' 24 [.slice qba b.length qbc] (K := w.heap.size + 1) (by simp))
  replace S := Lib.hid (S.out.box' 26 [.slice none 0 0, .slice none 0 0] (K := w.heap.size + 1 + 1) (by simp))
  clear ha hb
  go_enter Tryz.func64, Tryz.ntmps64
  go_wp2_with fail
  refine (HN.out _ _ S.out.r0).mono ?_
  rintro e w1 ⟨rfl, hb⟩
  replace S := Lib.hid (S.out.call hb)
  clear hb
  obtain ⟨⟨z2, f2, y2, y2a, -⟩, ⟨z1, f1, y1, -⟩, ⟨z0, f0, y0, -⟩, -⟩ := S.out.facts
  go_wp2_with fail
  refine (HD.out _ _ S.out.r1).mono ?_
  rintro e w2 ⟨rfl, hb⟩
  replace S := Lib.hid (S.out.call hb)
  clear hb z0 f0 y0 z1 f1 y1 z2 f2 y2 y2a
  obtain ⟨⟨z2, f2, y2, y2a, -⟩, ⟨z1, f1, y1, -⟩, ⟨z0, f0, y0, -⟩, -⟩ := S.out.facts
  replace S := Lib.hid (S.out.set 0 rfl 0 (.slice none 0 0))
  replace S := Lib.hid (S.out.set 0 rfl 1 (.slice none 0 0))
  go_wp2
  refine bodyPost_ret (v := .tuple #[.agg #[.slice none 0 0, .slice none 0 0], .int .i64 8]) (by simp [results, Tryz.results64, go_sem, y2, y2a]) rfl ?_
  exact Ret.mk (fm_rres0 S.out)
set_option maxHeartbeats 2000000 in
set_option maxRecDepth 100000 in
theorem rmake_d (w : World) (a : List Int) (qa : LmP) (ha : RLm w w.heap.size a qa) (la : Lim a) (b : List Int) (qb : LmP) (hb : RLm w w.heap.size b qb) (lb : Lim b) (va : vN a = true) (vb : vN b = true) (hz : vl b ≠ 0) :
    Calls Tryz.prog 64 #[natV a qa, natV b qb] w (Ret (RRes2 w (rdN (vl a) (vl b)) (rdD (vl a) (vl b)) 0)) := by
  have S := Lib.hid (natArg (natArg (Fm.init w) hb) ha)
  have HN := Lib.hid (fun q0 w' (h0 : RLm w' w'.heap.size (a) q0) => by
    have := rvalid_any (a) q0 w' h0 
    rw [va] at this
    exact this)
  have HD := Lib.hid (fun q0 w' (h0 : RLm w' w'.heap.size (b) q0) => by
    have := rvalid_any (b) q0 w' h0 
    rw [vb] at this
    exact this)
  have dz : ((b.length : Int) == 0) = false := beq_eq_false_iff_ne.2 (fun e => hz ((vl_len lb vb).2 (by omega)))
  have hg0 : 0 < Nat.gcd (vl a) (vl b) := Nat.gcd_pos_of_pos_right _ (by omega)
  have hg128 : (lim (Nat.gcd (vl a) (vl b))).length ≤ 128 := by
    have h1 : Nat.gcd (vl a) (vl b) ≤ vl b := Nat.gcd_le_right _ (by omega)
    obtain ⟨nb, cb⟩ := vN_can vb
    rcases Nat.lt_or_ge 128 (lim (Nat.gcd (vl a) (vl b))).length with c | c
    · have := len_mono h1 c
      rw [← lim_vl lb cb] at this
      omega
    · exact c
  have HG := Lib.hid (fun q0 q1 w' (h0 : RLm w' w'.heap.size (a) q0) (h1 : RLm w' w'.heap.size (b) q1) => by
    have := rgcd_ok (a) (b) q0 q1 w' h0 h1 (la) (lb) (va) (vb)
    exact this)
  have HA := Lib.hid (fun q0 q1 w' (h0 : RLm w' w'.heap.size (a) q0) (h1 : RLm w' w'.heap.size (lim (Nat.gcd (vl a) (vl b))) q1) => by
    have := rdiv_any (a) (lim (Nat.gcd (vl a) (vl b))) q0 q1 w' h0 h1 (la) (lim_lim _)
    have hvv : (vN a && vN (lim (Nat.gcd (vl a) (vl b)))) = true := by rw [va, vN_lim hg128]; rfl
    have hnz : vl (lim (Nat.gcd (vl a) (vl b))) ≠ 0 := by rw [vl_lim]; omega
    rw [show quoV a (lim (Nat.gcd (vl a) (vl b))) = lim (vl a / vl (lim (Nat.gcd (vl a) (vl b)))) from if_pos ⟨hvv, hnz⟩, show remV a (lim (Nat.gcd (vl a) (vl b))) = lim (vl a % vl (lim (Nat.gcd (vl a) (vl b)))) from if_pos ⟨hvv, hnz⟩, show divE a (lim (Nat.gcd (vl a) (vl b))) = 0 from by unfold divE; rw [if_pos hvv, if_neg hnz], vl_lim] at this
    exact this)
  have HB := Lib.hid (fun q0 q1 w' (h0 : RLm w' w'.heap.size (b) q0) (h1 : RLm w' w'.heap.size (lim (Nat.gcd (vl a) (vl b))) q1) => by
    have := rdiv_any (b) (lim (Nat.gcd (vl a) (vl b))) q0 q1 w' h0 h1 (lb) (lim_lim _)
    have hvv : (vN b && vN (lim (Nat.gcd (vl a) (vl b)))) = true := by rw [vb, vN_lim hg128]; rfl
    have hnz : vl (lim (Nat.gcd (vl a) (vl b))) ≠ 0 := by rw [vl_lim]; omega
    rw [show quoV b (lim (Nat.gcd (vl a) (vl b))) = lim (vl b / vl (lim (Nat.gcd (vl a) (vl b)))) from if_pos ⟨hvv, hnz⟩, show remV b (lim (Nat.gcd (vl a) (vl b))) = lim (vl b % vl (lim (Nat.gcd (vl a) (vl b)))) from if_pos ⟨hvv, hnz⟩, show divE b (lim (Nat.gcd (vl a) (vl b))) = 0 from by unfold divE; rw [if_pos hvv, if_neg hnz], vl_lim] at this
    exact this)
  have eQ : Hid (rdN (vl a) (vl b) = lim (vl a / Nat.gcd (vl a) (vl b))) := Lib.hid rfl
  have eP : Hid (rdD (vl a) (vl b) = lim (vl b / Nat.gcd (vl a) (vl b))) := Lib.hid rfl
  obtain ⟨Q, hQ⟩ : ∃ V, lim (vl a / Nat.gcd (vl a) (vl b)) = V := ⟨_, rfl⟩
  obtain ⟨P, hP⟩ : ∃ V, lim (vl b / Nat.gcd (vl a) (vl b)) = V := ⟨_, rfl⟩
  obtain ⟨R, hR⟩ : ∃ V, lim (vl a % Nat.gcd (vl a) (vl b)) = V := ⟨_, rfl⟩
  obtain ⟨T, hT⟩ : ∃ V, lim (vl b % Nat.gcd (vl a) (vl b)) = V := ⟨_, rfl⟩
  rw [hQ, hR] at HA
  rw [hP, hT] at HB
  rw [hQ] at eQ
  rw [hP] at eP
  obtain ⟨G, hG⟩ : ∃ V, lim (Nat.gcd (vl a) (vl b)) = V := ⟨_, rfl⟩
  rw [hG] at HG HA HB
  clear hQ hP hR hT hG hg0 hg128
  clear va vb hz
  obtain ⟨qaa, qac⟩ := qa
  obtain ⟨qba, qbc⟩ := qb
  replace S := Lib.hid (S.out.box 24 [.slice qaa a.length qac])
  replace S := Lib.hid (S.out.box' 24 [.slice qba b.length qbc] (K := w.heap.size + 1) (by simp))
  replace S := Lib.hid (S.out.box' 26 [.slice none 0 0, .slice none 0 0] (K := w.heap.size + 1 + 1) (by simp))
  clear ha hb
  go_enter Tryz.func64, Tryz.ntmps64
  go_wp2_with fail
  refine (HN.out _ _ S.out.r0).mono ?_
  rintro e w1 ⟨rfl, hb⟩
  replace S := Lib.hid (S.out.call hb)
  clear hb
  obtain ⟨⟨z2, f2, y2, y2a, -⟩, ⟨z1, f1, y1, -⟩, ⟨z0, f0, y0, -⟩, -⟩ := S.out.facts
  go_wp2_with fail
  refine (HD.out _ _ S.out.r1).mono ?_
  rintro e w2 ⟨rfl, hb⟩
  replace S := Lib.hid (S.out.call hb)
  clear hb z0 f0 y0 z1 f1 y1 z2 f2 y2 y2a
  obtain ⟨⟨z2, f2, y2, y2a, -⟩, ⟨z1, f1, y1, -⟩, ⟨z0, f0, y0, -⟩, -⟩ := S.out.facts
  go_wp2_with fail
  refine (HG.out _ _ _ S.out.r0 S.out.r1).mono ?_
  rintro e w3 ⟨_, rfl, q1, rfl, hr, hf, hb⟩
  replace S := Lib.hid (natRes S.out hr hf hb)
  clear hr hf hb z0 f0 y0 z1 f1 y1 z2 f2 y2 y2a
  obtain ⟨⟨z2, f2, y2, y2a, -⟩, ⟨z1, f1, y1, -⟩, ⟨z0, f0, y0, -⟩, -⟩ := S.out.facts
  replace S := Lib.hid (S.out.box 24 [.slice q1.a (G).length q1.c])
  go_wp2_with fail
  refine (HA.out _ _ _ S.out.r1 S.out.r0).mono ?_
  rintro e w4 ⟨_, rfl, q2, q3, rfl, hr, hr2, hf, hf2, hb⟩
  have fr2 := Lib.hid (hf.le S.out.size)
  replace S := Lib.hid (natRes2 S.out hr hr2 hf hf2 hb)
  clear hr hr2 hf hf2 hb z0 f0 y0 z1 f1 y1 z2 f2 y2 y2a
  obtain ⟨⟨z3, f3, y3, -⟩, ⟨z2, f2, y2, y2a, -⟩, ⟨z1, f1, y1, -⟩, ⟨z0, f0, y0, -⟩, -⟩ := S.out.facts
  replace S := Lib.hid (S.out.box 24 [.slice q2.a (Q).length q2.c])
  replace S := Lib.hid (S.out.box' 24 [.slice q3.a (R).length q3.c] (K := w4.heap.size + 1) (by simp))
  go_wp2_with fail
  refine (HB.out _ _ _ S.out.r4 S.out.r2).mono ?_
  rintro e w5 ⟨_, rfl, q4, q5, rfl, hr, hr2, hf, hf2, hb⟩
  have fr4 := Lib.hid (hf.le S.out.size)
  replace S := Lib.hid (natRes2 S.out hr hr2 hf hf2 hb)
  clear hr hr2 hf hf2 hb z0 f0 y0 z1 f1 y1 z2 f2 y2 y2a z3 f3 y3
  obtain ⟨⟨z5, f5, y5, -⟩, ⟨z4, f4, y4, -⟩, ⟨z3, f3, y3, -⟩, ⟨z2, f2, y2, y2a, -⟩, ⟨z1, f1, y1, -⟩, ⟨z0, f0, y0, -⟩, -⟩ := S.out.facts
  replace S := Lib.hid (S.out.set 3 rfl 0 (.slice q2.a Q.length q2.c))
  replace S := Lib.hid (S.out.set 3 rfl 1 (.slice q4.a P.length q4.c))
  replace S := Lib.hid (S.out.box' 24 [.slice q4.a (P).length q4.c] (K := w5.heap.size) (by simp))
  replace S := Lib.hid (S.out.box' 24 [.slice q5.a (T).length q5.c] (K := w5.heap.size + 1) (by simp))
  go_wp2
  refine bodyPost_ret (v := .tuple #[ratV Q q2 P q4, .int .i64 0]) (by simp [results, Tryz.results64, go_sem, y2, y2a, z2, Nat.lt_succ_of_lt z2]) rfl ?_
  rw [eQ.out, eP.out]
  exact Ret.mk (fm_rres2 S.out (by simp) (by simp) fr2.out fr4.out)
set_option maxHeartbeats 2000000 in
set_option maxRecDepth 100000 in
theorem rmake_any (w : World) (a : List Int) (qa : LmP) (ha : RLm w w.heap.size a qa) (la : Lim a) (b : List Int) (qb : LmP) (hb : RLm w w.heap.size b qb) (lb : Lim b) :
    Calls Tryz.prog 64 #[natV a qa, natV b qb] w (Ret (RRes2 w (makN a b) (makD a b) (makE a b))) := by
  cases va : vN a with
  | false =>
    have e : makN a b = [] ∧ makD a b = [] ∧ makE a b = 1 := by unfold makN makD makE; rw [va]; exact ⟨rfl, rfl, rfl⟩
    rw [e.1, e.2.1, e.2.2]; exact rmake_a w a qa ha la b qb hb lb va
  | true =>
    cases vb : vN b with
    | false =>
      have e : makN a b = [] ∧ makD a b = [] ∧ makE a b = 1 := by unfold makN makD makE; rw [va, vb]; exact ⟨rfl, rfl, rfl⟩
      rw [e.1, e.2.1, e.2.2]; exact rmake_b w a qa ha la b qb hb lb va vb
    | true =>
      have hv : (vN a && vN b) = true := by rw [va, vb]; rfl
      by_cases hz : vl b = 0
      · have e : makN a b = [] ∧ makD a b = [] ∧ makE a b = 8 := ⟨if_neg (fun h => h.2 hz), if_neg (fun h => h.2 hz), by unfold makE; rw [if_pos hv, if_pos hz]⟩
        rw [e.1, e.2.1, e.2.2]; exact rmake_c w a qa ha la b qb hb lb va vb hz
      · have e : makN a b = rdN (vl a) (vl b) ∧ makD a b = rdD (vl a) (vl b) ∧ makE a b = 0 := ⟨if_pos ⟨hv, hz⟩, if_pos ⟨hv, hz⟩, by unfold makE; rw [if_pos hv, if_neg hz]⟩
        rw [e.1, e.2.1, e.2.2]; exact rmake_d w a qa ha la b qb hb lb va vb hz
set_option maxHeartbeats 2000000 in
set_option maxRecDepth 100000 in
theorem make_a (w : World) (a : List Int) (qa : LmP) (ha : RLm w w.heap.size a qa) (_la : Lim a) (b : List Int) (qb : LmP) (hb : RLm w w.heap.size b qb) (_lb : Lim b) (va : vN a = false) :
    Calls Tryz.prog 41 #[natV a qa, natV b qb] w (Ret (RRes2 w [] [] 1)) := by
  have S := Lib.hid (natArg (natArg (Fm.init w) hb) ha)
  have HN := Lib.hid (fun q0 w' (h0 : RLm w' w'.heap.size (a) q0) => by
    have := valid_any (a) q0 w' h0 
    rw [va] at this
    exact this)
  clear va
  obtain ⟨qaa, qac⟩ := qa
  obtain ⟨qba, qbc⟩ := qb
  replace S := Lib.hid (S.out.box 24 [.slice qaa a.length qac])
  replace S := Lib.hid (S.out.box' 24 [.slice qba b.length qbc] (K := w.heap.size + 1) (by simp))
  replace S := Lib.hid (S.out.box' 26 [.slice none 0 0, .slice none 0 0] (K := w.heap.size + 1 + 1) (by simp))
  clear ha hb
  go_enter Tryz.func41, Tryz.ntmps41
  go_wp2_with fail
  refine (HN.out _ _ S.out.r0).mono ?_
  rintro e w1 ⟨rfl, hb⟩
  replace S := Lib.hid (S.out.call hb)
  clear hb
  obtain ⟨⟨z2, f2, y2, y2a, -⟩, ⟨z1, f1, y1, -⟩, ⟨z0, f0, y0, -⟩, -⟩ := S.out.facts
  replace S := Lib.hid (S.out.set 0 rfl 0 (.slice none 0 0))
  replace S := Lib.hid (S.out.set 0 rfl 1 (.slice none 0 0))
  go_wp2
  refine bodyPost_ret (v := .tuple #[.agg #[.slice none 0 0, .slice none 0 0], .int .i64 1]) (by simp [results, Tryz.results41, go_sem, y2, y2a]) rfl ?_
  exact Ret.mk (fm_rres0 S.out)
set_option maxHeartbeats 2000000 in
set_option maxRecDepth 100000 in
theorem make_b (w : World) (a : List Int) (qa : LmP) (ha : RLm w w.heap.size a qa) (_la : Lim a) (b : List Int) (qb : LmP) (hb : RLm w w.heap.size b qb) (_lb : Lim b) (va : vN a = true) (vb : vN b = false) :
    Calls Tryz.prog 41 #[natV a qa, natV b qb] w (Ret (RRes2 w [] [] 1)) := by
  have S := Lib.hid (natArg (natArg (Fm.init w) hb) ha)
  have HN := Lib.hid (fun q0 w' (h0 : RLm w' w'.heap.size (a) q0) => by
    have := valid_any (a) q0 w' h0 
    rw [va] at this
    exact this)
  have HD := Lib.hid (fun q0 w' (h0 : RLm w' w'.heap.size (b) q0) => by
    have := valid_any (b) q0 w' h0 
    rw [vb] at this
    exact this)
  clear va vb
  obtain ⟨qaa, qac⟩ := qa
  obtain ⟨qba, qbc⟩ := qb
  replace S := Lib.hid (S.out.box 24 [.slice qaa a.length qac])
  replace S := Lib.hid (S.out.box' 24 [.slice qba b.length qbc] (K := w.heap.size + 1) (by simp))
  replace S := Lib.hid (S.out.box' 26 [.slice none 0 0, .slice none 0 0] (K := w.heap.size + 1 + 1) (by simp))
  clear ha hb
  go_enter Tryz.func41, Tryz.ntmps41
  go_wp2_with fail
  refine (HN.out _ _ S.out.r0).mono ?_
  rintro e w1 ⟨rfl, hb⟩
  replace S := Lib.hid (S.out.call hb)
  clear hb
  obtain ⟨⟨z2, f2, y2, y2a, -⟩, ⟨z1, f1, y1, -⟩, ⟨z0, f0, y0, -⟩, -⟩ := S.out.facts
  go_wp2_with fail
  refine (HD.out _ _ S.out.r1).mono ?_
  rintro e w2 ⟨rfl, hb⟩
  replace S := Lib.hid (S.out.call hb)
  clear hb z0 f0 y0 z1 f1 y1 z2 f2 y2 y2a
  obtain ⟨⟨z2, f2, y2, y2a, -⟩, ⟨z1, f1, y1, -⟩, ⟨z0, f0, y0, -⟩, -⟩ := S.out.facts
  replace S := Lib.hid (S.out.set 0 rfl 0 (.slice none 0 0))
  replace S := Lib.hid (S.out.set 0 rfl 1 (.slice none 0 0))
  go_wp2
  refine bodyPost_ret (v := .tuple #[.agg #[.slice none 0 0, .slice none 0 0], .int .i64 1]) (by simp [results, Tryz.results41, go_sem, y2, y2a]) rfl ?_
  exact Ret.mk (fm_rres0 S.out)
set_option maxHeartbeats 2000000 in
set_option maxRecDepth 100000 in
theorem make_c (w : World) (a : List Int) (qa : LmP) (ha : RLm w w.heap.size a qa) (_la : Lim a) (b : List Int) (qb : LmP) (hb : RLm w w.heap.size b qb) (lb : Lim b) (va : vN a = true) (vb : vN b = true) (hz : vl b = 0) :
    Calls Tryz.prog 41 #[natV a qa, natV b qb] w (Ret (RRes2 w [] [] 8)) := by
  have S := Lib.hid (natArg (natArg (Fm.init w) hb) ha)
  have HN := Lib.hid (fun q0 w' (h0 : RLm w' w'.heap.size (a) q0) => by
    have := valid_any (a) q0 w' h0 
    rw [va] at this
    exact this)
  have HD := Lib.hid (fun q0 w' (h0 : RLm w' w'.heap.size (b) q0) => by
    have := valid_any (b) q0 w' h0 
    rw [vb] at this
    exact this)
  have HB0 := Lib.hid (fun q w' (h1 : RLm w' w'.heap.size b q) => bits_any b q w' h1 lb (vN_can vb).2 (by have := (vN_can vb).1; omega))
  have dz : ((nbits (vl b) : Int) == 0) = true := by rw [hz]; rfl
  obtain ⟨B, hB⟩ : ∃ B, nbits (vl b) = B := ⟨_, rfl⟩
  rw [hB] at HB0 dz
  clear hB
  clear va vb hz
  obtain ⟨qaa, qac⟩ := qa
  obtain ⟨qba, qbc⟩ := qb
  replace S := Lib.hid (S.out.box 24 [.slice qaa a.length qac])
  replace S := Lib.hid (S.out.box' 24 [.slice qba b.length qbc] (K := w.heap.size + 1) (by simp))
  replace S := Lib.hid (S.out.box' 26 [.slice none 0 0, .slice none 0 0] (K := w.heap.size + 1 + 1) (by simp))
  clear ha hb
  go_enter Tryz.func41, Tryz.ntmps41
  go_wp2_with fail
  refine (HN.out _ _ S.out.r0).mono ?_
  rintro e w1 ⟨rfl, hb⟩
  replace S := Lib.hid (S.out.call hb)
  clear hb
  obtain ⟨⟨z2, f2, y2, y2a, -⟩, ⟨z1, f1, y1, -⟩, ⟨z0, f0, y0, -⟩, -⟩ := S.out.facts
  go_wp2_with fail
  refine (HD.out _ _ S.out.r1).mono ?_
  rintro e w2 ⟨rfl, hb⟩
  replace S := Lib.hid (S.out.call hb)
  clear hb z0 f0 y0 z1 f1 y1 z2 f2 y2 y2a
  obtain ⟨⟨z2, f2, y2, y2a, -⟩, ⟨z1, f1, y1, -⟩, ⟨z0, f0, y0, -⟩, -⟩ := S.out.facts
  go_wp2_with fail
  refine (HB0.out _ _ S.out.r1).mono ?_
  rintro e w3 ⟨rfl, hb⟩
  replace S := Lib.hid (S.out.call hb)
  clear hb z0 f0 y0 z1 f1 y1 z2 f2 y2 y2a
  obtain ⟨⟨z2, f2, y2, y2a, -⟩, ⟨z1, f1, y1, -⟩, ⟨z0, f0, y0, -⟩, -⟩ := S.out.facts
  replace S := Lib.hid (S.out.set 0 rfl 0 (.slice none 0 0))
  replace S := Lib.hid (S.out.set 0 rfl 1 (.slice none 0 0))
  go_wp2
  refine bodyPost_ret (v := .tuple #[.agg #[.slice none 0 0, .slice none 0 0], .int .i64 8]) (by simp [results, Tryz.results41, go_sem, y2, y2a]) rfl ?_
  exact Ret.mk (fm_rres0 S.out)
set_option maxHeartbeats 2000000 in
set_option maxRecDepth 100000 in
theorem make_d (w : World) (a : List Int) (qa : LmP) (ha : RLm w w.heap.size a qa) (la : Lim a) (b : List Int) (qb : LmP) (hb : RLm w w.heap.size b qb) (lb : Lim b) (va : vN a = true) (vb : vN b = true) (hz : vl b ≠ 0) :
    Calls Tryz.prog 41 #[natV a qa, natV b qb] w (Ret (RRes2 w (rdN (vl a) (vl b)) (rdD (vl a) (vl b)) 0)) := by
  have S := Lib.hid (natArg (natArg (Fm.init w) hb) ha)
  have HN := Lib.hid (fun q0 w' (h0 : RLm w' w'.heap.size (a) q0) => by
    have := valid_any (a) q0 w' h0 
    rw [va] at this
    exact this)
  have HD := Lib.hid (fun q0 w' (h0 : RLm w' w'.heap.size (b) q0) => by
    have := valid_any (b) q0 w' h0 
    rw [vb] at this
    exact this)
  have HB0 := Lib.hid (fun q w' (h1 : RLm w' w'.heap.size b q) => bits_any b q w' h1 lb (vN_can vb).2 (by have := (vN_can vb).1; omega))
  have dz : ((nbits (vl b) : Int) == 0) = false := beq_eq_false_iff_ne.2 (fun e => hz (by have := nbits_le.1 (show nbits (vl b) ≤ 0 by omega); omega))
  obtain ⟨B, hB⟩ : ∃ B, nbits (vl b) = B := ⟨_, rfl⟩
  rw [hB] at HB0 dz
  clear hB
  have HX := Lib.hid (fun q r w' (h1 : RLm w' w'.heap.size a q) (h2 : RLm w' w'.heap.size b r) => reduced_any w' a q h1 la b r h2 lb va vb hz)
  obtain ⟨Q, hQ⟩ : ∃ V, rdN (vl a) (vl b) = V := ⟨_, rfl⟩
  obtain ⟨P, hP⟩ : ∃ V, rdD (vl a) (vl b) = V := ⟨_, rfl⟩
  rw [hQ, hP] at HX
  rw [hQ, hP]
  clear hQ hP
  clear va vb hz
  obtain ⟨qaa, qac⟩ := qa
  obtain ⟨qba, qbc⟩ := qb
  replace S := Lib.hid (S.out.box 24 [.slice qaa a.length qac])
  replace S := Lib.hid (S.out.box' 24 [.slice qba b.length qbc] (K := w.heap.size + 1) (by simp))
  replace S := Lib.hid (S.out.box' 26 [.slice none 0 0, .slice none 0 0] (K := w.heap.size + 1 + 1) (by simp))
  clear ha hb
  go_enter Tryz.func41, Tryz.ntmps41
  go_wp2_with fail
  refine (HN.out _ _ S.out.r0).mono ?_
  rintro e w1 ⟨rfl, hb⟩
  replace S := Lib.hid (S.out.call hb)
  clear hb
  obtain ⟨⟨z2, f2, y2, y2a, -⟩, ⟨z1, f1, y1, -⟩, ⟨z0, f0, y0, -⟩, -⟩ := S.out.facts
  go_wp2_with fail
  refine (HD.out _ _ S.out.r1).mono ?_
  rintro e w2 ⟨rfl, hb⟩
  replace S := Lib.hid (S.out.call hb)
  clear hb z0 f0 y0 z1 f1 y1 z2 f2 y2 y2a
  obtain ⟨⟨z2, f2, y2, y2a, -⟩, ⟨z1, f1, y1, -⟩, ⟨z0, f0, y0, -⟩, -⟩ := S.out.facts
  go_wp2_with fail
  refine (HB0.out _ _ S.out.r1).mono ?_
  rintro e w3 ⟨rfl, hb⟩
  replace S := Lib.hid (S.out.call hb)
  clear hb z0 f0 y0 z1 f1 y1 z2 f2 y2 y2a
  obtain ⟨⟨z2, f2, y2, y2a, -⟩, ⟨z1, f1, y1, -⟩, ⟨z0, f0, y0, -⟩, -⟩ := S.out.facts
  go_wp2_with fail
  refine (HX.out _ _ _ S.out.r0 S.out.r1).mono ?_
  rintro e w4 ⟨_, rfl, q2, q4, rfl, hr, hr2, hf, hf2, hb⟩
  have fr2 := Lib.hid (hf.le S.out.size)
  have fr4 := Lib.hid (hf2.le S.out.size)
  replace S := Lib.hid (natRes2 S.out hr hr2 hf hf2 hb)
  clear hr hr2 hf hf2 hb z0 f0 y0 z1 f1 y1 z2 f2 y2 y2a
  obtain ⟨⟨z2, f2, y2, y2a, -⟩, ⟨z1, f1, y1, -⟩, ⟨z0, f0, y0, -⟩, -⟩ := S.out.facts
  replace S := Lib.hid (S.out.set 0 rfl 0 (.slice q2.a Q.length q2.c))
  replace S := Lib.hid (S.out.set 0 rfl 1 (.slice q4.a P.length q4.c))
  go_wp2
  refine bodyPost_ret (v := .tuple #[ratV Q q2 P q4, .int .i64 0]) (by simp [results, Tryz.results41, go_sem, y2, y2a]) rfl ?_
  exact Ret.mk (fm_rres2 S.out (by simp) (by simp) fr2.out fr4.out)
set_option maxHeartbeats 2000000 in
set_option maxRecDepth 100000 in
theorem make_any (w : World) (a : List Int) (qa : LmP) (ha : RLm w w.heap.size a qa) (la : Lim a) (b : List Int) (qb : LmP) (hb : RLm w w.heap.size b qb) (lb : Lim b) :
    Calls Tryz.prog 41 #[natV a qa, natV b qb] w (Ret (RRes2 w (makN a b) (makD a b) (makE a b))) := by
  cases va : vN a with
  | false =>
    have e : makN a b = [] ∧ makD a b = [] ∧ makE a b = 1 := by unfold makN makD makE; rw [va]; exact ⟨rfl, rfl, rfl⟩
    rw [e.1, e.2.1, e.2.2]; exact make_a w a qa ha la b qb hb lb va
  | true =>
    cases vb : vN b with
    | false =>
      have e : makN a b = [] ∧ makD a b = [] ∧ makE a b = 1 := by unfold makN makD makE; rw [va, vb]; exact ⟨rfl, rfl, rfl⟩
      rw [e.1, e.2.1, e.2.2]; exact make_b w a qa ha la b qb hb lb va vb
    | true =>
      have hv : (vN a && vN b) = true := by rw [va, vb]; rfl
      by_cases hz : vl b = 0
      · have e : makN a b = [] ∧ makD a b = [] ∧ makE a b = 8 := ⟨if_neg (fun h => h.2 hz), if_neg (fun h => h.2 hz), by unfold makE; rw [if_pos hv, if_pos hz]⟩
        rw [e.1, e.2.1, e.2.2]; exact make_c w a qa ha la b qb hb lb va vb hz
      · have e : makN a b = rdN (vl a) (vl b) ∧ makD a b = rdD (vl a) (vl b) ∧ makE a b = 0 := ⟨if_pos ⟨hv, hz⟩, if_pos ⟨hv, hz⟩, by unfold makE; rw [if_pos hv, if_neg hz]⟩
        rw [e.1, e.2.1, e.2.2]; exact make_d w a qa ha la b qb hb lb va vb hz
end Go.Proofs.YtpoddmkimhkmoaaGreat
namespace Go.Proofs.YtpoddmkimhkmoaaGreat
open Go.RowKit Go.Sv
def crOk (an ad bn bd : List Int) : Bool := vR an ad && vR bn bd && decide (mulE an bd = 0)
def crE (an ad bn bd : List Int) : Int := if (vR an ad && vR bn bd) = true then (if mulE an bd = 0 then mulE bn ad else mulE an bd) else 1
def crX (an ad bn bd : List Int) : List Int := if crOk an ad bn bd = true then mulV an bd else []
def crY (an ad bn bd : List Int) : List Int := if crOk an ad bn bd = true then mulV bn ad else []
theorem cr_no {an ad bn bd : List Int} (h : (vR an ad && vR bn bd) = false) : crX an ad bn bd = [] ∧ crY an ad bn bd = [] ∧ crE an ad bn bd = 1 := by
  unfold crX crY crE crOk
  rw [h]
  exact ⟨rfl, rfl, rfl⟩
theorem cr_big {an ad bn bd : List Int} (h : (vR an ad && vR bn bd) = true) (h1 : mulE an bd ≠ 0) : crX an ad bn bd = [] ∧ crY an ad bn bd = [] ∧ crE an ad bn bd = mulE an bd := by
  unfold crX crY crE crOk
  rw [h, decide_eq_false h1, if_pos rfl, if_neg h1]
  exact ⟨rfl, rfl, rfl⟩
theorem cr_ok {an ad bn bd : List Int} (h : (vR an ad && vR bn bd) = true) (h1 : mulE an bd = 0) : crX an ad bn bd = mulV an bd ∧ crY an ad bn bd = mulV bn ad ∧ crE an ad bn bd = mulE bn ad := by
  unfold crX crY crE crOk
  rw [h, decide_eq_true h1, if_pos rfl, if_pos h1]
  exact ⟨rfl, rfl, rfl⟩
set_option maxHeartbeats 2000000 in
set_option maxRecDepth 100000 in
theorem cross_any (w : World) (an : List Int) (qan : LmP) (han : RLm w w.heap.size an qan) (lan : Lim an) (ad : List Int) (qad : LmP) (had : RLm w w.heap.size ad qad) (lad : Lim ad) (bn : List Int) (qbn : LmP) (hbn : RLm w w.heap.size bn qbn) (lbn : Lim bn) (bd : List Int) (qbd : LmP) (hbd : RLm w w.heap.size bd qbd) (lbd : Lim bd) :
    Calls Tryz.prog 67 #[ratV an qan ad qad, ratV bn qbn bd qbd] w (Ret (DRes w (crX an ad bn bd) (crY an ad bn bd) (crE an ad bn bd))) := by
  have S := Lib.hid (natArg (natArg (natArg (natArg (Fm.init w) hbd) hbn) had) han)
  have HVa := Lib.hid (fun q r w' (h1 : RLm w' w'.heap.size an q) (h2 : RLm w' w'.heap.size ad r) => validR_any w' an q h1 lan ad r h2 lad)
  have HVb := Lib.hid (fun q r w' (h1 : RLm w' w'.heap.size bn q) (h2 : RLm w' w'.heap.size bd r) => validR_any w' bn q h1 lbn bd r h2 lbd)
  have HM := Lib.hid (fun q0 q1 w' (h0 : RLm w' w'.heap.size (an) q0) (h1 : RLm w' w'.heap.size (bd) q1) => by
    have := mul_any (an) (bd) q0 q1 w' h0 h1 (lan) (lbd)
    exact this)
  have HN := Lib.hid (fun q0 q1 w' (h0 : RLm w' w'.heap.size (bn) q0) (h1 : RLm w' w'.heap.size (ad) q1) => by
    have := mul_any (bn) (ad) q0 q1 w' h0 h1 (lbn) (lad)
    exact this)
  have eNo := Lib.hid (cr_no (an := an) (ad := ad) (bn := bn) (bd := bd))
  have eBig := Lib.hid (cr_big (an := an) (ad := ad) (bn := bn) (bd := bd))
  have eOk := Lib.hid (cr_ok (an := an) (ad := ad) (bn := bn) (bd := bd))
  obtain ⟨va, hva⟩ : ∃ v, vR an ad = v := ⟨_, rfl⟩
  obtain ⟨vb, hvb⟩ : ∃ v, vR bn bd = v := ⟨_, rfl⟩
  obtain ⟨X, hX⟩ : ∃ V, mulV an bd = V := ⟨_, rfl⟩
  obtain ⟨Y, hY⟩ : ∃ V, mulV bn ad = V := ⟨_, rfl⟩
  obtain ⟨E, hE⟩ : ∃ V, mulE an bd = V := ⟨_, rfl⟩
  obtain ⟨F, hF⟩ : ∃ V, mulE bn ad = V := ⟨_, rfl⟩
  rw [hva] at HVa eNo eBig eOk
  rw [hvb] at HVb eNo eBig eOk
  rw [hX, hE] at HM
  rw [hY, hF] at HN
  rw [hE] at eBig
  rw [hX, hY, hE, hF] at eOk
  clear hva hvb hX hY hE hF
  obtain ⟨qana, qanc⟩ := qan
  obtain ⟨qada, qadc⟩ := qad
  obtain ⟨qbna, qbnc⟩ := qbn
  obtain ⟨qbda, qbdc⟩ := qbd
  replace S := Lib.hid (S.out.box 26 [.slice qana an.length qanc, .slice qada ad.length qadc])
  replace S := Lib.hid (S.out.box' 26 [.slice qbna bn.length qbnc, .slice qbda bd.length qbdc] (K := w.heap.size + 1) (by simp))
  replace S := Lib.hid (S.out.box' 24 [.slice none 0 0] (K := w.heap.size + 1 + 1) (by simp))
  replace S := Lib.hid (S.out.box' 24 [.slice none 0 0] (K := w.heap.size + 1 + 1 + 1) (by simp))
  clear han had hbn hbd
  go_enter Tryz.func67, Tryz.ntmps67
  go_wp2_with fail
  refine (HVa.out _ _ _ S.out.r0 S.out.r1).mono ?_
  rintro e w1 ⟨rfl, hb⟩
  replace S := Lib.hid (S.out.call hb)
  clear hb
  obtain ⟨⟨z3, f3, y3, -⟩, ⟨z2, f2, y2, -⟩, ⟨z1, f1, y1, y1a, -⟩, ⟨z0, f0, y0, y0a, -⟩, -⟩ := S.out.facts
  clear HVa
  cases va
  · replace S := Lib.hid (S.out.set 1 rfl 0 (.slice none 0 0))
    replace S := Lib.hid (S.out.set 0 rfl 0 (.slice none 0 0))
    have u := Lib.hid (eNo.out rfl)
    go_wp2
    refine bodyPost_ret (v := .tuple #[.agg #[.slice none 0 0], .agg #[.slice none 0 0], .int .i64 1]) (by simp [results, Tryz.results67, go_sem, y2, y3]) rfl ?_
    rw [u.out.1, u.out.2.1, u.out.2.2]
    exact Ret.mk (DRes.none_ S.out.bel)
  · go_wp2_with fail
    refine (HVb.out _ _ _ S.out.r2 S.out.r3).mono ?_
    rintro e w2 ⟨rfl, hb⟩
    replace S := Lib.hid (S.out.call hb)
    clear hb z0 f0 y0 y0a z1 f1 y1 y1a z2 f2 y2 z3 f3 y3
    obtain ⟨⟨z3, f3, y3, -⟩, ⟨z2, f2, y2, -⟩, ⟨z1, f1, y1, y1a, -⟩, ⟨z0, f0, y0, y0a, -⟩, -⟩ := S.out.facts
    clear HVb
    cases vb
    · replace S := Lib.hid (S.out.set 1 rfl 0 (.slice none 0 0))
      replace S := Lib.hid (S.out.set 0 rfl 0 (.slice none 0 0))
      have u := Lib.hid (eNo.out rfl)
      go_wp2
      refine bodyPost_ret (v := .tuple #[.agg #[.slice none 0 0], .agg #[.slice none 0 0], .int .i64 1]) (by simp [results, Tryz.results67, go_sem, y2, y3]) rfl ?_
      rw [u.out.1, u.out.2.1, u.out.2.2]
      exact Ret.mk (DRes.none_ S.out.bel)
    · clear eNo
      go_wp2_with fail
      refine (HM.out _ _ _ S.out.r0 S.out.r3).mono ?_
      rintro e w3 ⟨_, rfl, q1, rfl, hr, hf, hb⟩
      have fr1 := Lib.hid (hf.le S.out.size)
      replace S := Lib.hid (natRes S.out hr hf hb)
      clear hr hf hb z0 f0 y0 y0a z1 f1 y1 y1a z2 f2 y2 z3 f3 y3
      obtain ⟨⟨z3, f3, y3, -⟩, ⟨z2, f2, y2, -⟩, ⟨z1, f1, y1, y1a, -⟩, ⟨z0, f0, y0, y0a, -⟩, -⟩ := S.out.facts
      by_cases c : E = 0
      · have u := Lib.hid (eOk.out rfl c)
        clear eOk eBig
        subst c
        replace S := Lib.hid (S.out.box 24 [.slice q1.a (X).length q1.c])
        go_wp2_with fail
        refine (HN.out _ _ _ S.out.r3 S.out.r2).mono ?_
        rintro e w4 ⟨_, rfl, q2, rfl, hr, hf, hb⟩
        have fr2 := Lib.hid (hf.le S.out.size)
        replace S := Lib.hid (natRes S.out hr hf hb)
        clear hr hf hb z0 f0 y0 y0a z1 f1 y1 y1a z2 f2 y2 z3 f3 y3
        obtain ⟨⟨z4, f4, y4, -⟩, ⟨z3, f3, y3, -⟩, ⟨z2, f2, y2, -⟩, ⟨z1, f1, y1, y1a, -⟩, ⟨z0, f0, y0, y0a, -⟩, -⟩ := S.out.facts
        replace S := Lib.hid (S.out.set 2 rfl 0 (.slice q1.a X.length q1.c))
        replace S := Lib.hid (S.out.set 1 rfl 0 (.slice q2.a Y.length q2.c))
        replace S := Lib.hid (S.out.box' 24 [.slice q2.a (Y).length q2.c] (K := w4.heap.size) (by simp))
        replace S := Lib.hid S.out.drew
        go_wp2
        go_region
        all_goals
          go_wp2
          refine bodyPost_ret (v := .tuple #[natV X q1, natV Y q2, .int .i64 F]) (by simp [results, Tryz.results67, go_sem, y2, y3, z2, z3]) rfl ?_
          rw [u.out.1, u.out.2.1, u.out.2.2]
          exact Ret.mk ⟨q1, q2, rfl, natOld S.out (by simp), natOld S.out (by simp), fr1.out, fr2.out, S.out.bel⟩
      · have u := Lib.hid (eBig.out rfl c)
        clear eOk eBig
        have dE : (E != 0) = true := bne_iff_ne.2 c
        clear c
        replace S := Lib.hid (S.out.set 1 rfl 0 (.slice none 0 0))
        replace S := Lib.hid (S.out.set 0 rfl 0 (.slice none 0 0))
        replace S := Lib.hid (S.out.box' 24 [.slice q1.a (X).length q1.c] (K := w3.heap.size) (by simp))
        go_wp2
        refine bodyPost_ret (v := .tuple #[.agg #[.slice none 0 0], .agg #[.slice none 0 0], .int .i64 E]) (by simp [results, Tryz.results67, go_sem, y2, y3, z2, z3]) rfl ?_
        rw [u.out.1, u.out.2.1, u.out.2.2]
        exact Ret.mk (DRes.none_ S.out.bel)
end Go.Proofs.YtpoddmkimhkmoaaGreat
namespace Go.Proofs.YtpoddmkimhkmoaaGreat
open Go.RowKit Go.Sv
set_option maxHeartbeats 2000000 in
set_option maxRecDepth 100000 in
theorem xrof_any (a b : Int) (w : World) (a0 : 0 ≤ a) (a1 : a < 18446744073709551616) (b0 : 0 ≤ b) (b1 : b < 18446744073709551616) :
    Calls Tryz.prog 42 #[.int .u64 a, .int .u64 b] w (Ret (RRes2 w (makN (lim a.toNat) (lim b.toNat)) (makD (lim a.toNat) (lim b.toNat)) (makE (lim a.toNat) (lim b.toNat)))) := by
  have S := Lib.hid (Fm.init w)
  have HA := Lib.hid (fun w' => rof_any a w' a0 a1)
  have HB := Lib.hid (fun w' => rof_any b w' b0 b1)
  obtain ⟨X, hX⟩ : ∃ V, lim a.toNat = V := ⟨_, rfl⟩
  obtain ⟨Y, hY⟩ : ∃ V, lim b.toNat = V := ⟨_, rfl⟩
  have lX : Lim X := hX ▸ lim_lim _
  have lY : Lim Y := hY ▸ lim_lim _
  rw [hX] at HA
  rw [hY] at HB
  rw [hX, hY]
  clear hX hY a0 a1 b0 b1
  have HM := Lib.hid (fun q r w' (h1 : RLm w' w'.heap.size X q) (h2 : RLm w' w'.heap.size Y r) => rmake_any w' X q h1 lX Y r h2 lY)
  obtain ⟨N, hN⟩ : ∃ V, makN X Y = V := ⟨_, rfl⟩
  obtain ⟨D, hD⟩ : ∃ V, makD X Y = V := ⟨_, rfl⟩
  obtain ⟨E, hE⟩ : ∃ V, makE X Y = V := ⟨_, rfl⟩
  rw [hN, hD, hE] at HM
  rw [hN, hD, hE]
  clear hN hD hE lX lY
  replace S := Lib.hid (S.out.box 26 [.slice none 0 0, .slice none 0 0])
  go_enter Tryz.func42, Tryz.ntmps42
  go_wp2_with fail
  refine (HA.out _).mono ?_
  rintro e w1 ⟨_, rfl, q1, rfl, hr, hf, hb⟩
  replace S := Lib.hid (natRes S.out hr hf hb)
  clear hr hf hb
  obtain ⟨⟨z0, f0, y0, y0a, -⟩, -⟩ := S.out.facts
  go_wp2_with fail
  refine (HB.out _).mono ?_
  rintro e w2 ⟨_, rfl, q2, rfl, hr, hf, hb⟩
  replace S := Lib.hid (natRes S.out hr hf hb)
  clear hr hf hb z0 f0 y0 y0a
  obtain ⟨⟨z0, f0, y0, y0a, -⟩, -⟩ := S.out.facts
  go_wp2_with fail
  refine (HM.out _ _ _ S.out.r1 S.out.r0).mono ?_
  rintro e w3 ⟨_, rfl, q3, q4, rfl, hr, hr2, hf, hf2, hb⟩
  have fr3 := Lib.hid (hf.le S.out.size)
  have fr4 := Lib.hid (hf2.le S.out.size)
  replace S := Lib.hid (natRes2 S.out hr hr2 hf hf2 hb)
  clear hr hr2 hf hf2 hb z0 f0 y0 y0a
  obtain ⟨⟨z0, f0, y0, y0a, -⟩, -⟩ := S.out.facts
  replace S := Lib.hid (S.out.set 0 rfl 0 (.slice q3.a N.length q3.c))
  replace S := Lib.hid (S.out.set 0 rfl 1 (.slice q4.a D.length q4.c))
  go_wp2
  refine bodyPost_ret (v := .tuple #[ratV N q3 D q4, .int .i64 E]) (by simp [results, Tryz.results42, go_sem, y0, y0a]) rfl ?_
  exact Ret.mk (fm_rres2 S.out (by simp) (by simp) fr3.out fr4.out)
end Go.Proofs.YtpoddmkimhkmoaaGreat
namespace Go.Proofs.YtpoddmkimhkmoaaGreat
open Go.RowKit Go.Sv
theorem mulV_lim (a b : List Int) : Lim (mulV a b) ∧ Sv.Can (mulV a b) := by
  unfold mulV cutV
  split
  · split
    · exact ⟨Lim.nil, vN_can (l := []) rfl |>.2⟩
    · exact ⟨lim_lim _, lim_can _⟩
  · exact ⟨Lim.nil, vN_can (l := []) rfl |>.2⟩
theorem cr_lim (an ad bn bd : List Int) : (Lim (crX an ad bn bd) ∧ Sv.Can (crX an ad bn bd)) ∧ (Lim (crY an ad bn bd) ∧ Sv.Can (crY an ad bn bd)) := by
  unfold crX crY
  split
  · exact ⟨mulV_lim _ _, mulV_lim _ _⟩
  · exact ⟨⟨Lim.nil, vN_can (l := []) rfl |>.2⟩, ⟨Lim.nil, vN_can (l := []) rfl |>.2⟩⟩
def rcV (an ad bn bd : List Int) : Int := if crE an ad bn bd = 0 then cmpL (crX an ad bn bd) (crY an ad bn bd) else 0
set_option maxHeartbeats 2000000 in
set_option maxRecDepth 100000 in
theorem xcmp_any (w : World) (an : List Int) (qan : LmP) (han : RLm w w.heap.size an qan) (lan : Lim an) (ad : List Int) (qad : LmP) (had : RLm w w.heap.size ad qad) (lad : Lim ad) (bn : List Int) (qbn : LmP) (hbn : RLm w w.heap.size bn qbn) (lbn : Lim bn) (bd : List Int) (qbd : LmP) (hbd : RLm w w.heap.size bd qbd) (lbd : Lim bd) :
    Calls Tryz.prog 45 #[ratV an qan ad qad, ratV bn qbn bd qbd] w (fun e w' => e = .returned (.tuple #[.int .i64 (rcV an ad bn bd), .int .i64 (crE an ad bn bd)]) ∧ Below w.heap.size w w') := by
  have S := Lib.hid (natArg (natArg (natArg (natArg (Fm.init w) hbd) hbn) had) han)
  have HX := Lib.hid (fun q0 q1 q2 q3 w' (h0 : RLm w' w'.heap.size an q0) (h1 : RLm w' w'.heap.size ad q1) (h2 : RLm w' w'.heap.size bn q2) (h3 : RLm w' w'.heap.size bd q3) => cross_any w' an q0 h0 lan ad q1 h1 lad bn q2 h2 lbn bd q3 h3 lbd)
  obtain ⟨⟨lX, cX⟩, lY, cY⟩ := cr_lim an ad bn bd
  have e0 := Lib.hid (show crE an ad bn bd = 0 → rcV an ad bn bd = cmpL (crX an ad bn bd) (crY an ad bn bd) from fun h => if_pos h)
  have e1 := Lib.hid (show ¬ crE an ad bn bd = 0 → rcV an ad bn bd = 0 from fun h => if_neg h)
  obtain ⟨X, hX⟩ : ∃ V, crX an ad bn bd = V := ⟨_, rfl⟩
  obtain ⟨Y, hY⟩ : ∃ V, crY an ad bn bd = V := ⟨_, rfl⟩
  obtain ⟨E, hE⟩ : ∃ V, crE an ad bn bd = V := ⟨_, rfl⟩
  obtain ⟨Z, hZ⟩ : ∃ V, rcV an ad bn bd = V := ⟨_, rfl⟩
  rw [hX, hY, hE] at HX
  rw [hX] at lX cX
  rw [hY] at lY cY
  rw [hX, hY, hE, hZ] at e0
  rw [hE, hZ] at e1
  rw [hZ, hE]
  have HC := Lib.hid (fun q r w' (h1 : RLm w' w'.heap.size X q) (h2 : RLm w' w'.heap.size Y r) => cmp_any X Y q r w' h1 h2 lX lY cX cY)
  clear hX hY hE hZ lX cX lY cY
  obtain ⟨qana, qanc⟩ := qan
  obtain ⟨qada, qadc⟩ := qad
  obtain ⟨qbna, qbnc⟩ := qbn
  obtain ⟨qbda, qbdc⟩ := qbd
  replace S := Lib.hid (S.out.box 26 [.slice qana an.length qanc, .slice qada ad.length qadc])
  replace S := Lib.hid (S.out.box' 26 [.slice qbna bn.length qbnc, .slice qbda bd.length qbdc] (K := w.heap.size + 1) (by simp))
  clear han had hbn hbd
  go_enter Tryz.func45, Tryz.ntmps45
  go_wp2_with fail
  refine (HX.out _ _ _ _ _ S.out.r0 S.out.r1 S.out.r2 S.out.r3).mono ?_
  rintro e w1 ⟨_, rfl, q1, q2, rfl, hr, hr2, hf, hf2, hb⟩
  replace S := Lib.hid (natRes2 S.out hr hr2 hf hf2 hb)
  clear hr hr2 hf hf2 hb
  obtain ⟨⟨z1, f1, y1, y1a, -⟩, ⟨z0, f0, y0, y0a, -⟩, -⟩ := S.out.facts
  replace S := Lib.hid (S.out.box 24 [.slice q1.a (X).length q1.c])
  replace S := Lib.hid (S.out.box' 24 [.slice q2.a (Y).length q2.c] (K := w1.heap.size + 1) (by simp))
  by_cases c : E = 0
  · have u := Lib.hid (e0.out c)
    clear e0 e1
    subst c
    go_wp2_with fail
    refine (HC.out _ _ _ S.out.r1 S.out.r0).mono ?_
    rintro e w2 ⟨rfl, hb⟩
    replace S := Lib.hid (S.out.call hb)
    clear hb z0 f0 y0 y0a z1 f1 y1 y1a
    obtain ⟨⟨z3, f3, y3, -⟩, ⟨z2, f2, y2, -⟩, ⟨z1, f1, y1, y1a, -⟩, ⟨z0, f0, y0, y0a, -⟩, -⟩ := S.out.facts
    go_wp2
    refine bodyPost_ret (v := .tuple #[.int .i64 (cmpL X Y), .int .i64 0]) (by simp [results, Tryz.results45, go_sem]) rfl ?_
    rw [u.out]
    exact ⟨rfl, S.out.bel⟩
  · have u := Lib.hid (e1.out c)
    clear e0 e1
    have dE : (E != 0) = true := bne_iff_ne.2 c
    clear c
    go_wp2
    refine bodyPost_ret (v := .tuple #[.int .i64 0, .int .i64 E]) (by simp [results, Tryz.results45, go_sem]) rfl ?_
    rw [u.out]
    exact ⟨rfl, S.out.bel⟩
end Go.Proofs.YtpoddmkimhkmoaaGreat
namespace Go.Proofs.YtpoddmkimhkmoaaGreat
open Go.RowKit Go.Sv
theorem cut_good {N : Nat} (h : cutE N = 0) : Lim (cutV N) ∧ vN (cutV N) = true ∧ vl (cutV N) = N := by
  unfold cutE at h
  unfold cutV
  split at h
  · exact absurd h (by decide)
  · rename_i c
    rw [if_neg c]
    exact ⟨lim_lim _, vN_lim (by omega), vl_lim _⟩
theorem mul_good {a b : List Int} (h : mulE a b = 0) : Lim (mulV a b) ∧ vN (mulV a b) = true ∧ vl (mulV a b) = vl a * vl b := by
  unfold mulE at h
  unfold mulV
  split at h
  · rename_i c
    rw [if_pos c]
    exact cut_good h
  · exact absurd h (by decide)
theorem sum_good {a b : List Int} (h : sumE a b = 0) : Lim (sumV a b) ∧ vN (sumV a b) = true ∧ vl (sumV a b) = vl a + vl b := by
  unfold sumE at h
  unfold sumV
  split at h
  · rename_i c
    rw [if_pos c]
    exact cut_good h
  · exact absurd h (by decide)
theorem dif_good {a b : List Int} (la : Lim a) (h : difE a b = 0) : Lim (difV a b) ∧ vN (difV a b) = true ∧ vl (difV a b) = vl a - vl b ∧ vl b ≤ vl a := by
  unfold difE at h
  unfold difV
  split at h
  · rename_i c
    split at h
    · rename_i k
      rw [if_pos ⟨c, k⟩]
      rw [Bool.and_eq_true] at c
      refine ⟨lim_lim _, vN_lim ?_, vl_lim _, k⟩
      have e := lim_vl la (vN_can c.1).2
      rcases Nat.lt_or_ge 128 (lim (vl a - vl b)).length with j | j
      · have := len_mono (show vl a - vl b ≤ vl a by omega) j
        rw [← e] at this
        have := (vN_can c.1).1
        omega
      · exact j
    · exact absurd h (by decide)
  · exact absurd h (by decide)
theorem vR_pos {n d : List Int} (h : vR n d = true) : vN n = true ∧ vN d = true ∧ vl d ≠ 0 ∧ Nat.gcd (vl n) (vl d) = 1 := by
  unfold vR at h
  rw [Bool.and_eq_true, Bool.and_eq_true, Bool.and_eq_true, decide_eq_true_iff, decide_eq_true_iff] at h
  exact ⟨h.1.1.1, h.1.1.2, h.1.2, h.2⟩
theorem cr_good {an ad bn bd : List Int} (h : crE an ad bn bd = 0) : vR an ad = true ∧ vR bn bd = true := by
  unfold crE at h
  split at h
  · rename_i c
    rwa [Bool.and_eq_true] at c
  · exact absurd h (by decide)
def vE (an ad bn bd : List Int) : Int := if (vR an ad && vR bn bd) = true then 0 else 1
theorem vE_good {an ad bn bd : List Int} (h : vE an ad bn bd = 0) : vR an ad = true ∧ vR bn bd = true := by
  unfold vE at h
  split at h
  · rename_i c
    rwa [Bool.and_eq_true] at c
  · exact absurd h (by decide)
theorem vE_no {an ad bn bd : List Int} (h : (vR an ad && vR bn bd) = false) : vE an ad bn bd = 1 := by unfold vE; rw [h]; rfl
theorem vE_ok {an ad bn bd : List Int} (h : (vR an ad && vR bn bd) = true) : vE an ad bn bd = 0 := by unfold vE; rw [h]; rfl
/-- the first error of three -/
def e3 (p q r : Int) : Int := if p = 0 then (if q = 0 then r else q) else p
def gN (E : Int) (x y : List Int) : List Int := if E = 0 then rdN (vl x) (vl y) else []
def gD (E : Int) (x y : List Int) : List Int := if E = 0 then rdD (vl x) (vl y) else []
theorem e3_no {E K : Int} {x y : List Int} (e : E = K) (h : K ≠ 0) : gN E x y = [] ∧ gD E x y = [] ∧ E = K := ⟨if_neg (e ▸ h), if_neg (e ▸ h), e⟩
theorem e3_a (p q r : Int) (x y : List Int) (h : ¬ p = 0) : gN (e3 p q r) x y = [] ∧ gD (e3 p q r) x y = [] ∧ e3 p q r = p := e3_no (if_neg h) h
theorem e3_b (q r : Int) (x y : List Int) (h : ¬ q = 0) : gN (e3 0 q r) x y = [] ∧ gD (e3 0 q r) x y = [] ∧ e3 0 q r = q := e3_no ((if_pos rfl).trans (if_neg h)) h
theorem e3_c (r : Int) (x y : List Int) (h : ¬ r = 0) : gN (e3 0 0 r) x y = [] ∧ gD (e3 0 0 r) x y = [] ∧ e3 0 0 r = r := e3_no rfl h
theorem e3_d (x y : List Int) : gN (e3 0 0 0) x y = rdN (vl x) (vl y) ∧ gD (e3 0 0 0) x y = rdD (vl x) (vl y) ∧ e3 0 0 0 = 0 := ⟨rfl, rfl, rfl⟩
end Go.Proofs.YtpoddmkimhkmoaaGreat
