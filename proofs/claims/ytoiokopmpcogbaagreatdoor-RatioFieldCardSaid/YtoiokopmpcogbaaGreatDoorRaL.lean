/-
  CONTRACTS of Decimal of ratio.
  Conditions: those that each theorem names.
-/
import Derived.Test.YtoiokopmpcogbaaGreatDoorRaK
import Derived.IntWalk
namespace Go.Proofs.YtoiokopmpcogbaaGreatDoor
open Go.RowKit Go.Sv
/-- the text of a fraction's decimals: digits, zeros in front, the point -/
def padS (s : List UInt8) (d : Nat) : List UInt8 := List.replicate (d + 1 - s.length) 48 ++ s
def dotS (s : List UInt8) (d : Nat) : List UInt8 := if d = 0 then s else s.take (s.length - d) ++ 46 :: s.drop (s.length - d)
def dcL (N D d : Nat) : List UInt8 := dotS (padS (Lib.decDigits (N * 10 ^ d / D)) d) d
def dcE (n dn : List Int) (k : Int) : Int := if vR n dn = true then (if 0 ≤ k ∧ k ≤ 30 then (if 128 < (lim (vl n * 10 ^ k.toNat)).length then 3 else 0) else 7) else 1
def dcV (n dn : List Int) (k : Int) : ByteArray := if dcE n dn k = 0 then bS (dcL (vl n) (vl dn) k.toNat) else ⟨#[]⟩
theorem dc_no {n dn : List Int} {k : Int} {E : Int} (h : dcE n dn k = E) (h0 : ¬ E = 0) : dcV n dn k = ⟨#[]⟩ ∧ dcE n dn k = E := ⟨if_neg (h ▸ h0), h⟩
theorem dc_a {n dn : List Int} {k : Int} (h : vR n dn = false) : dcV n dn k = ⟨#[]⟩ ∧ dcE n dn k = 1 := dc_no (by unfold dcE; rw [h]; rfl) (by decide)
theorem dc_b {n dn : List Int} {k : Int} (h : vR n dn = true) (hk : ¬ (0 ≤ k ∧ k ≤ 30)) : dcV n dn k = ⟨#[]⟩ ∧ dcE n dn k = 7 := dc_no (by unfold dcE; rw [if_pos h, if_neg hk]) (by decide)
theorem dc_c {n dn : List Int} {d : Nat} (h : vR n dn = true) (hk : d ≤ 30) (hl : 128 < (lim (vl n * 10 ^ d)).length) : dcV n dn d = ⟨#[]⟩ ∧ dcE n dn d = 3 :=
  dc_no (by unfold dcE; rw [if_pos h, if_pos (by omega), Int.toNat_natCast, if_pos hl]) (by decide)
theorem dc_d {n dn : List Int} {d : Nat} (h : vR n dn = true) (hk : d ≤ 30) (hl : ¬ 128 < (lim (vl n * 10 ^ d)).length) : dcV n dn d = bS (dcL (vl n) (vl dn) d) ∧ dcE n dn d = 0 := by
  have e : dcE n dn d = 0 := by unfold dcE; rw [if_pos h, if_pos (by omega), Int.toNat_natCast, if_neg hl]
  exact ⟨(if_pos e).trans (by rw [Int.toNat_natCast]), e⟩
theorem len10 {d : Nat} (h : d ≤ 30) : (lim (10 ^ d)).length ≤ 128 := lim_len_le.2 (by
  have h1 : (10 : Nat) ^ d ≤ 1000000000000000000000000000000 := Nat.le_trans (Nat.pow_le_pow_right (by decide) h) (by decide)
  have h2 := Bp_mono (show 4 ≤ 128 by omega)
  have e : Bp 4 = 340282366920938463463374607431768211456 := by decide
  generalize 10 ^ d = x at h1 ⊢
  omega)
theorem vN_ten : vN (lim 10) = true := vN_lim (lim_len_le.2 (by
  have := Bp_mono (show 1 ≤ 128 by omega)
  have e : Bp 1 = 4294967296 := by decide
  omega))
theorem pow10 {d : Nat} (h : d ≤ 30) : powV (lim 10) (d : Int) = lim (10 ^ d) ∧ powE (lim 10) (d : Int) = 0 := by
  have hl := len10 h
  unfold powV powE
  rw [if_pos ⟨vN_ten, by omega⟩, if_pos vN_ten, if_pos (by omega), vl_lim, Int.toNat_natCast]
  exact ⟨if_neg (by omega), if_neg (by omega)⟩
theorem mul10 {a : List Int} {d : Nat} (h : d ≤ 30) (va : vN a = true) : mulV a (lim (10 ^ d)) = cutV (vl a * 10 ^ d) ∧ mulE a (lim (10 ^ d)) = cutE (vl a * 10 ^ d) := by
  unfold mulV mulE
  rw [va, vN_lim (len10 h), vl_lim, Bool.and_self, if_pos rfl, if_pos rfl]
  exact ⟨rfl, rfl⟩
theorem padS_len {s : List UInt8} {d : Nat} : (padS s d).length = max (d + 1) s.length := by unfold padS; simp; omega
theorem rep48 : ∀ n : Nat, Lib.repeatL [48] n = List.replicate n (48 : UInt8)
  | 0 => rfl
  | n + 1 => by
    rw [List.replicate_succ, ← rep48 n]; rfl
theorem rep_pad {s : List UInt8} {d : Nat} (_h : s.length ≤ d) : Lib.repeatL [48] (d + 1 - s.length) ++ s = padS s d := by
  unfold padS; rw [rep48]
theorem pad_id {s : List UInt8} {d : Nat} (h : d < s.length) : padS s d = s := by
  unfold padS; rw [show d + 1 - s.length = 0 by omega]; rfl
theorem dot_z (s : List UInt8) {d : Nat} (h : d = 0) : dotS s d = s := if_pos h
theorem dot_p (s : List UInt8) {d : Nat} (h : ¬ d = 0) : (bS s).extract 0 (s.length - d) ++ ⟨#[46]⟩ ++ (bS s).extract (s.length - d) s.length = bS (dotS s d) := by
  rw [bS_extract, bS_extract, show (⟨#[46]⟩ : ByteArray) = bS [46] from rfl, bS_append, bS_append]
  unfold dotS
  rw [if_neg h]
  congr 1
  simp
  exact List.take_of_length_le (by simp)
set_option maxHeartbeats 2000000 in
set_option maxRecDepth 100000 in
theorem xdec_a (w : World) (rn : List Int) (qrn : LmP) (hrn : RLm w w.heap.size rn qrn) (lrn : Lim rn) (rd : List Int) (qrd : LmP) (hrd : RLm w w.heap.size rd qrd) (lrd : Lim rd) (k : Int) (hv : vR rn rd = false) :
    Calls Tryz.prog 26 #[ratV rn qrn rd qrd, .int .i64 k] w (fun e w' => e = .returned (.tuple #[.string (dcV rn rd k), .int .i64 (dcE rn rd k)]) ∧ Below w.heap.size w w') := by
  have S := Lib.hid (natArg (natArg (Fm.init w) hrd) hrn)
  have HV := Lib.hid (fun q r w' (h1 : RLm w' w'.heap.size rn q) (h2 : RLm w' w'.heap.size rd r) => by
    have := validR_any w' rn q h1 lrn rd r h2 lrd
    rw [hv] at this
    exact this)
  have u := Lib.hid (dc_a hv : dcV rn rd k = _ ∧ _)
  clear hv
  obtain ⟨qrna, qrnc⟩ := qrn
  obtain ⟨qrda, qrdc⟩ := qrd
  replace S := Lib.hid (S.out.box 28 [.slice qrna rn.length qrnc, .slice qrda rd.length qrdc])
  clear hrn hrd
  go_enter Tryz.func26, Tryz.ntmps26
  go_wp2_with fail
  refine (HV.out _ _ _ S.out.r0 S.out.r1).mono ?_
  rintro e w1 ⟨rfl, hb⟩
  replace S := Lib.hid (S.out.call hb)
  clear hb
  obtain ⟨⟨z0, f0, y0, y0a, -⟩, -⟩ := S.out.facts
  go_wp2
  refine bodyPost_ret (v := .tuple #[.string (⟨#[]⟩), .int .i64 1]) (by simp [results, Tryz.results26, go_sem]) rfl ?_
  rw [u.out.1, u.out.2]
  exact ⟨rfl, S.out.bel⟩
set_option maxHeartbeats 2000000 in
set_option maxRecDepth 100000 in
theorem xdec_b (w : World) (rn : List Int) (qrn : LmP) (hrn : RLm w w.heap.size rn qrn) (lrn : Lim rn) (rd : List Int) (qrd : LmP) (hrd : RLm w w.heap.size rd qrd) (lrd : Lim rd) (k : Int) (hv : vR rn rd = true) (hk : k < 0) :
    Calls Tryz.prog 26 #[ratV rn qrn rd qrd, .int .i64 k] w (fun e w' => e = .returned (.tuple #[.string (dcV rn rd k), .int .i64 (dcE rn rd k)]) ∧ Below w.heap.size w w') := by
  have S := Lib.hid (natArg (natArg (Fm.init w) hrd) hrn)
  have HV := Lib.hid (fun q r w' (h1 : RLm w' w'.heap.size rn q) (h2 : RLm w' w'.heap.size rd r) => by
    have := validR_any w' rn q h1 lrn rd r h2 lrd
    rw [hv] at this
    exact this)
  have u := Lib.hid (dc_b hv (by omega) : dcV rn rd k = _ ∧ _)
  have d0 : decide (k < 0) = true := decide_eq_true hk
  clear hv hk
  obtain ⟨qrna, qrnc⟩ := qrn
  obtain ⟨qrda, qrdc⟩ := qrd
  replace S := Lib.hid (S.out.box 28 [.slice qrna rn.length qrnc, .slice qrda rd.length qrdc])
  clear hrn hrd
  go_enter Tryz.func26, Tryz.ntmps26
  go_wp2_with fail
  refine (HV.out _ _ _ S.out.r0 S.out.r1).mono ?_
  rintro e w1 ⟨rfl, hb⟩
  replace S := Lib.hid (S.out.call hb)
  clear hb
  obtain ⟨⟨z0, f0, y0, y0a, -⟩, -⟩ := S.out.facts
  go_wp2
  refine bodyPost_ret (v := .tuple #[.string (⟨#[]⟩), .int .i64 7]) (by simp [results, Tryz.results26, go_sem]) rfl ?_
  rw [u.out.1, u.out.2]
  exact ⟨rfl, S.out.bel⟩
set_option maxHeartbeats 2000000 in
set_option maxRecDepth 100000 in
theorem xdec_c (w : World) (rn : List Int) (qrn : LmP) (hrn : RLm w w.heap.size rn qrn) (lrn : Lim rn) (rd : List Int) (qrd : LmP) (hrd : RLm w w.heap.size rd qrd) (lrd : Lim rd) (k : Int) (hv : vR rn rd = true) (hk : 30 < k) :
    Calls Tryz.prog 26 #[ratV rn qrn rd qrd, .int .i64 k] w (fun e w' => e = .returned (.tuple #[.string (dcV rn rd k), .int .i64 (dcE rn rd k)]) ∧ Below w.heap.size w w') := by
  have S := Lib.hid (natArg (natArg (Fm.init w) hrd) hrn)
  have HV := Lib.hid (fun q r w' (h1 : RLm w' w'.heap.size rn q) (h2 : RLm w' w'.heap.size rd r) => by
    have := validR_any w' rn q h1 lrn rd r h2 lrd
    rw [hv] at this
    exact this)
  have u := Lib.hid (dc_b hv (by omega) : dcV rn rd k = _ ∧ _)
  have d0 : decide (k < 0) = false := decide_eq_false (by omega)
  have d1 : decide (30 < k) = true := decide_eq_true hk
  clear hv hk
  obtain ⟨qrna, qrnc⟩ := qrn
  obtain ⟨qrda, qrdc⟩ := qrd
  replace S := Lib.hid (S.out.box 28 [.slice qrna rn.length qrnc, .slice qrda rd.length qrdc])
  clear hrn hrd
  go_enter Tryz.func26, Tryz.ntmps26
  go_wp2_with fail
  refine (HV.out _ _ _ S.out.r0 S.out.r1).mono ?_
  rintro e w1 ⟨rfl, hb⟩
  replace S := Lib.hid (S.out.call hb)
  clear hb
  obtain ⟨⟨z0, f0, y0, y0a, -⟩, -⟩ := S.out.facts
  go_wp2
  refine bodyPost_ret (v := .tuple #[.string (⟨#[]⟩), .int .i64 7]) (by simp [results, Tryz.results26, go_sem]) rfl ?_
  rw [u.out.1, u.out.2]
  exact ⟨rfl, S.out.bel⟩
set_option maxHeartbeats 2000000 in
set_option maxRecDepth 100000 in
theorem xdec_d (w : World) (rn : List Int) (qrn : LmP) (hrn : RLm w w.heap.size rn qrn) (lrn : Lim rn) (rd : List Int) (qrd : LmP) (hrd : RLm w w.heap.size rd qrd) (lrd : Lim rd) (d : Nat) (hv : vR rn rd = true) (hd : d ≤ 30) (hl : 128 < (lim (vl rn * 10 ^ d)).length) (_ht : Tab w) :
    Calls Tryz.prog 26 #[ratV rn qrn rd qrd, .int .i64 d] w (fun e w' => e = .returned (.tuple #[.string (dcV rn rd d), .int .i64 (dcE rn rd d)]) ∧ Below w.heap.size w w') := by
  have S := Lib.hid (natArg (natArg (Fm.init w) hrd) hrn)
  have HV := Lib.hid (fun q r w' (h1 : RLm w' w'.heap.size rn q) (h2 : RLm w' w'.heap.size rd r) => by
    have := validR_any w' rn q h1 lrn rd r h2 lrd
    rw [hv] at this
    exact this)
  have d0 : decide ((d : Int) < 0) = false := decide_eq_false (by omega)
  have d1 : decide (30 < (d : Int)) = false := decide_eq_false (by omega)
  have d2 : decide (30 < d) = false := decide_eq_false (by omega)
  obtain ⟨vn, vd, zd, -⟩ := vR_pos hv
  have HO := Lib.hid (fun w' => of_any 10 w' (by decide) (by decide))
  simp only [show (10 : Int).toNat = 10 from rfl] at HO
  have HP := Lib.hid (fun q w' (h1 : RLm w' w'.heap.size (lim 10) q) => by
    have := pow_any (lim 10) q d w' h1 (lim_lim _)
    rw [(pow10 hd).1, (pow10 hd).2] at this
    exact this)
  have HM := Lib.hid (fun q r w' (h1 : RLm w' w'.heap.size rn q) (h2 : RLm w' w'.heap.size (lim (10 ^ d)) r) => by
    have := mul_any rn (lim (10 ^ d)) q r w' h1 h2 lrn (lim_lim _)
    rw [(mul10 hd vn).1, (mul10 hd vn).2, show cutV (vl rn * 10 ^ d) = [] from if_pos hl, show cutE (vl rn * 10 ^ d) = 3 from if_pos hl] at this
    exact this)
  obtain ⟨T, hT⟩ : ∃ V, lim 10 = V := ⟨_, rfl⟩
  rw [hT] at HO HP
  obtain ⟨U, hU⟩ : ∃ V, lim (10 ^ d) = V := ⟨_, rfl⟩
  rw [hU] at HP HM
  clear hT hU
  have u := Lib.hid (dc_c hv hd hl)
  clear hv hd hl vn vd zd _ht
  obtain ⟨qrna, qrnc⟩ := qrn
  obtain ⟨qrda, qrdc⟩ := qrd
  replace S := Lib.hid (S.out.box 28 [.slice qrna rn.length qrnc, .slice qrda rd.length qrdc])
  clear hrn hrd
  go_enter Tryz.func26, Tryz.ntmps26
  go_wp2_with fail
  refine (HV.out _ _ _ S.out.r0 S.out.r1).mono ?_
  rintro e w1 ⟨rfl, hb⟩
  replace S := Lib.hid (S.out.call hb)
  clear hb
  obtain ⟨⟨z0, f0, y0, y0a, -⟩, -⟩ := S.out.facts
  go_wp2_with fail
  refine (HO.out _).mono ?_
  rintro e w2 ⟨_, rfl, q1, rfl, hr, hf, hb⟩
  replace S := Lib.hid (natRes S.out hr hf hb)
  clear hr hf hb z0 f0 y0 y0a
  obtain ⟨⟨z0, f0, y0, y0a, -⟩, -⟩ := S.out.facts
  go_wp2_with fail
  refine (HP.out _ _ S.out.r0).mono ?_
  rintro e w3 ⟨_, rfl, q2, rfl, hr, hb⟩
  replace S := Lib.hid (natOf S.out hr hb (by simp))
  clear hr hb z0 f0 y0 y0a
  obtain ⟨⟨z0, f0, y0, y0a, -⟩, -⟩ := S.out.facts
  replace S := Lib.hid (S.out.box 24 [.slice q2.a (U).length q2.c])
  go_wp2_with fail
  refine (HM.out _ _ _ S.out.r2 S.out.r0).mono ?_
  rintro e w4 ⟨_, rfl, q3, rfl, hr, hf, hb⟩
  replace S := Lib.hid (natRes S.out hr hf hb)
  clear hr hf hb z0 f0 y0 y0a
  obtain ⟨⟨z1, f1, y1, -⟩, ⟨z0, f0, y0, y0a, -⟩, -⟩ := S.out.facts
  replace S := Lib.hid (S.out.box 24 [.slice q3.a 0 q3.c])
  go_wp2
  refine bodyPost_ret (v := .tuple #[.string (⟨#[]⟩), .int .i64 3]) (by simp [results, Tryz.results26, go_sem]) rfl ?_
  rw [u.out.1, u.out.2]
  exact ⟨rfl, S.out.bel⟩
set_option maxHeartbeats 2000000 in
set_option maxRecDepth 100000 in
theorem xdec_e (w : World) (rn : List Int) (qrn : LmP) (hrn : RLm w w.heap.size rn qrn) (lrn : Lim rn) (rd : List Int) (qrd : LmP) (hrd : RLm w w.heap.size rd qrd) (lrd : Lim rd) (d : Nat) (hv : vR rn rd = true) (hd : d ≤ 30) (hl : ¬ 128 < (lim (vl rn * 10 ^ d)).length) (ht : Tab w) (hz : d = 0) :
    Calls Tryz.prog 26 #[ratV rn qrn rd qrd, .int .i64 d] w (fun e w' => e = .returned (.tuple #[.string (dcV rn rd d), .int .i64 (dcE rn rd d)]) ∧ Below w.heap.size w w') := by
  have S := Lib.hid (natArg (natArg (Fm.init w) hrd) hrn)
  have HV := Lib.hid (fun q r w' (h1 : RLm w' w'.heap.size rn q) (h2 : RLm w' w'.heap.size rd r) => by
    have := validR_any w' rn q h1 lrn rd r h2 lrd
    rw [hv] at this
    exact this)
  have d0 : decide ((d : Int) < 0) = false := decide_eq_false (by omega)
  have d1 : decide (30 < (d : Int)) = false := decide_eq_false (by omega)
  have d2 : decide (30 < d) = false := decide_eq_false (by omega)
  obtain ⟨vn, vd, zd, -⟩ := vR_pos hv
  have HO := Lib.hid (fun w' => of_any 10 w' (by decide) (by decide))
  simp only [show (10 : Int).toNat = 10 from rfl] at HO
  have HP := Lib.hid (fun q w' (h1 : RLm w' w'.heap.size (lim 10) q) => by
    have := pow_any (lim 10) q d w' h1 (lim_lim _)
    rw [(pow10 hd).1, (pow10 hd).2] at this
    exact this)
  have HM := Lib.hid (fun q r w' (h1 : RLm w' w'.heap.size rn q) (h2 : RLm w' w'.heap.size (lim (10 ^ d)) r) => by
    have := mul_any rn (lim (10 ^ d)) q r w' h1 h2 lrn (lim_lim _)
    rw [(mul10 hd vn).1, (mul10 hd vn).2, show cutV (vl rn * 10 ^ d) = lim (vl rn * 10 ^ d) from if_neg hl, show cutE (vl rn * 10 ^ d) = 0 from if_neg hl] at this
    exact this)
  obtain ⟨T, hT⟩ : ∃ V, lim 10 = V := ⟨_, rfl⟩
  rw [hT] at HO HP
  obtain ⟨U, hU⟩ : ∃ V, lim (10 ^ d) = V := ⟨_, rfl⟩
  rw [hU] at HP HM
  clear hT hU
  have u := Lib.hid (dc_d hv hd hl)
  obtain ⟨M, hM⟩ : ∃ M, vl rn * 10 ^ d / vl rd = M := ⟨_, rfl⟩
  have hMl : (lim M).length ≤ 128 := by
    rcases Nat.lt_or_ge 128 (lim M).length with c | c
    · exact absurd (len_mono (by rw [← hM]; exact Nat.div_le_self _ _) c) hl
    · exact c
  have vM : vN (lim M) = true := vN_lim hMl
  have bM := decS_bd (lim_lim M) vM
  rw [vl_lim] at bM
  have hds0 := List.length_pos_iff.2 (dec_ne M)
  have HD := Lib.hid (fun q r w' (h1 : RLm w' w'.heap.size (lim (vl rn * 10 ^ d)) q) (h2 : RLm w' w'.heap.size rd r) => by
    have := div_ok (lim (vl rn * 10 ^ d)) rd q r w' h1 h2 (lim_lim _) lrd (by rw [vN_lim (by omega), vd]; rfl) (by omega)
    rw [vl_lim, hM] at this
    exact this)
  have HF := Lib.hid (fun q w' (h1 : RLm w' w'.heap.size (lim M) q) (ht : Tab w') => by
    have := format_any (lim M) q w' h1 (lim_lim _) ht
    rw [show fmtV (lim M) = decS (vl (lim M)) from if_pos vM, show fmtE (lim M) = 0 from if_pos vM, vl_lim] at this
    exact this)
  have ht' := Lib.hid (fun w' (hb : Below w.heap.size w w') => ht.to hb)
  have hL : Hid (dcL (vl rn) (vl rd) d = dotS (padS (Lib.decDigits M) d) d) := Lib.hid (by unfold dcL; rw [hM])
  obtain ⟨ds, hds⟩ : ∃ ds, Lib.decDigits M = ds := ⟨_, rfl⟩
  obtain ⟨X, hX⟩ : ∃ X, decS M = X := ⟨_, rfl⟩
  have hXs : X = bS ds := by rw [← hX, ← hds]
  have hXl : X.size = ds.length := by rw [hXs, bS_size]
  rw [hX] at HF bM
  rw [hds] at hL hds0
  obtain ⟨Q, hQ⟩ : ∃ V, lim M = V := ⟨_, rfl⟩
  obtain ⟨RR, hR⟩ : ∃ V, lim (vl rn * 10 ^ d % vl rd) = V := ⟨_, rfl⟩
  obtain ⟨V1, hV1⟩ : ∃ V, lim (vl rn * 10 ^ d) = V := ⟨_, rfl⟩
  rw [hQ, hR, hV1] at HD
  rw [hV1] at HM
  rw [hQ] at HF
  have dz : ((d : Int) == 0) = true := beq_iff_eq.2 (by omega)
  have dz' : (d == 0) = true := beq_iff_eq.2 hz
  have hF : Hid (bS (dcL (vl rn) (vl rd) d) = X) := Lib.hid (by rw [hL.out, dot_z _ hz, pad_id (by omega), hXs])
  have u2 := Lib.hid (hF.out)
  rw [u2.out] at u
  clear hz hv hl vn vd zd ht hM hMl vM bM hds hX hXs hXl hQ hR hV1 hL hF u2 hds0
  obtain ⟨qrna, qrnc⟩ := qrn
  obtain ⟨qrda, qrdc⟩ := qrd
  replace S := Lib.hid (S.out.box 28 [.slice qrna rn.length qrnc, .slice qrda rd.length qrdc])
  clear hrn hrd
  go_enter Tryz.func26, Tryz.ntmps26
  go_wp2_with fail
  refine (HV.out _ _ _ S.out.r0 S.out.r1).mono ?_
  rintro e w1 ⟨rfl, hb⟩
  replace S := Lib.hid (S.out.call hb)
  clear hb
  obtain ⟨⟨z0, f0, y0, y0a, -⟩, -⟩ := S.out.facts
  go_wp2_with fail
  refine (HO.out _).mono ?_
  rintro e w2 ⟨_, rfl, q1, rfl, hr, hf, hb⟩
  replace S := Lib.hid (natRes S.out hr hf hb)
  clear hr hf hb z0 f0 y0 y0a
  obtain ⟨⟨z0, f0, y0, y0a, -⟩, -⟩ := S.out.facts
  go_wp2_with fail
  refine (HP.out _ _ S.out.r0).mono ?_
  rintro e w3 ⟨_, rfl, q2, rfl, hr, hb⟩
  replace S := Lib.hid (natOf S.out hr hb (by simp))
  clear hr hb z0 f0 y0 y0a
  obtain ⟨⟨z0, f0, y0, y0a, -⟩, -⟩ := S.out.facts
  replace S := Lib.hid (S.out.box 24 [.slice q2.a (U).length q2.c])
  go_wp2_with fail
  refine (HM.out _ _ _ S.out.r2 S.out.r0).mono ?_
  rintro e w4 ⟨_, rfl, q3, rfl, hr, hf, hb⟩
  replace S := Lib.hid (natRes S.out hr hf hb)
  clear hr hf hb z0 f0 y0 y0a
  obtain ⟨⟨z1, f1, y1, -⟩, ⟨z0, f0, y0, y0a, -⟩, -⟩ := S.out.facts
  replace S := Lib.hid (S.out.box 24 [.slice q3.a (V1).length q3.c])
  go_wp2_with fail
  refine (HD.out _ _ _ S.out.r0 S.out.r4).mono ?_
  rintro e w5 ⟨_, rfl, q4, q5, rfl, hr, hr2, hf, hf2, hb⟩
  replace S := Lib.hid (natRes2 S.out hr hr2 hf hf2 hb)
  clear hr hr2 hf hf2 hb z0 f0 y0 y0a z1 f1 y1
  obtain ⟨⟨z2, f2, y2, -⟩, ⟨z1, f1, y1, -⟩, ⟨z0, f0, y0, y0a, -⟩, -⟩ := S.out.facts
  replace S := Lib.hid (S.out.box 24 [.slice q4.a (Q).length q4.c])
  replace S := Lib.hid (S.out.box' 24 [.slice q5.a (RR).length q5.c] (K := w5.heap.size + 1) (by simp))
  go_wp2_with fail
  refine (HF.out _ _ S.out.r1 (ht'.out _ S.out.bel)).mono ?_
  rintro e w6 ⟨rfl, hb⟩
  replace S := Lib.hid (S.out.call hb)
  clear hb z0 f0 y0 y0a z1 f1 y1 z2 f2 y2
  obtain ⟨⟨z4, f4, y4, -⟩, ⟨z3, f3, y3, -⟩, ⟨z2, f2, y2, -⟩, ⟨z1, f1, y1, -⟩, ⟨z0, f0, y0, y0a, -⟩, -⟩ := S.out.facts
  go_wp2
  refine bodyPost_ret (v := .tuple #[.string (X), .int .i64 0]) (by simp [results, Tryz.results26, go_sem]) rfl ?_
  rw [u.out.1, u.out.2]
  exact ⟨rfl, S.out.bel⟩
set_option maxHeartbeats 2000000 in
set_option maxRecDepth 100000 in
theorem xdec_f (w : World) (rn : List Int) (qrn : LmP) (hrn : RLm w w.heap.size rn qrn) (lrn : Lim rn) (rd : List Int) (qrd : LmP) (hrd : RLm w w.heap.size rd qrd) (lrd : Lim rd) (d : Nat) (hv : vR rn rd = true) (hd : d ≤ 30) (hl : ¬ 128 < (lim (vl rn * 10 ^ d)).length) (ht : Tab w) (hz : ¬ d = 0) (hs : (Lib.decDigits (vl rn * 10 ^ d / vl rd)).length ≤ d) :
    Calls Tryz.prog 26 #[ratV rn qrn rd qrd, .int .i64 d] w (fun e w' => e = .returned (.tuple #[.string (dcV rn rd d), .int .i64 (dcE rn rd d)]) ∧ Below w.heap.size w w') := by
  have S := Lib.hid (natArg (natArg (Fm.init w) hrd) hrn)
  have HV := Lib.hid (fun q r w' (h1 : RLm w' w'.heap.size rn q) (h2 : RLm w' w'.heap.size rd r) => by
    have := validR_any w' rn q h1 lrn rd r h2 lrd
    rw [hv] at this
    exact this)
  have d0 : decide ((d : Int) < 0) = false := decide_eq_false (by omega)
  have d1 : decide (30 < (d : Int)) = false := decide_eq_false (by omega)
  have d2 : decide (30 < d) = false := decide_eq_false (by omega)
  obtain ⟨vn, vd, zd, -⟩ := vR_pos hv
  have HO := Lib.hid (fun w' => of_any 10 w' (by decide) (by decide))
  simp only [show (10 : Int).toNat = 10 from rfl] at HO
  have HP := Lib.hid (fun q w' (h1 : RLm w' w'.heap.size (lim 10) q) => by
    have := pow_any (lim 10) q d w' h1 (lim_lim _)
    rw [(pow10 hd).1, (pow10 hd).2] at this
    exact this)
  have HM := Lib.hid (fun q r w' (h1 : RLm w' w'.heap.size rn q) (h2 : RLm w' w'.heap.size (lim (10 ^ d)) r) => by
    have := mul_any rn (lim (10 ^ d)) q r w' h1 h2 lrn (lim_lim _)
    rw [(mul10 hd vn).1, (mul10 hd vn).2, show cutV (vl rn * 10 ^ d) = lim (vl rn * 10 ^ d) from if_neg hl, show cutE (vl rn * 10 ^ d) = 0 from if_neg hl] at this
    exact this)
  obtain ⟨T, hT⟩ : ∃ V, lim 10 = V := ⟨_, rfl⟩
  rw [hT] at HO HP
  obtain ⟨U, hU⟩ : ∃ V, lim (10 ^ d) = V := ⟨_, rfl⟩
  rw [hU] at HP HM
  clear hT hU
  have u := Lib.hid (dc_d hv hd hl)
  obtain ⟨M, hM⟩ : ∃ M, vl rn * 10 ^ d / vl rd = M := ⟨_, rfl⟩
  have hMl : (lim M).length ≤ 128 := by
    rcases Nat.lt_or_ge 128 (lim M).length with c | c
    · exact absurd (len_mono (by rw [← hM]; exact Nat.div_le_self _ _) c) hl
    · exact c
  have vM : vN (lim M) = true := vN_lim hMl
  have bM := decS_bd (lim_lim M) vM
  rw [vl_lim] at bM
  have hds0 := List.length_pos_iff.2 (dec_ne M)
  rw [hM] at hs
  have HD := Lib.hid (fun q r w' (h1 : RLm w' w'.heap.size (lim (vl rn * 10 ^ d)) q) (h2 : RLm w' w'.heap.size rd r) => by
    have := div_ok (lim (vl rn * 10 ^ d)) rd q r w' h1 h2 (lim_lim _) lrd (by rw [vN_lim (by omega), vd]; rfl) (by omega)
    rw [vl_lim, hM] at this
    exact this)
  have HF := Lib.hid (fun q w' (h1 : RLm w' w'.heap.size (lim M) q) (ht : Tab w') => by
    have := format_any (lim M) q w' h1 (lim_lim _) ht
    rw [show fmtV (lim M) = decS (vl (lim M)) from if_pos vM, show fmtE (lim M) = 0 from if_pos vM, vl_lim] at this
    exact this)
  have ht' := Lib.hid (fun w' (hb : Below w.heap.size w w') => ht.to hb)
  have hL : Hid (dcL (vl rn) (vl rd) d = dotS (padS (Lib.decDigits M) d) d) := Lib.hid (by unfold dcL; rw [hM])
  obtain ⟨ds, hds⟩ : ∃ ds, Lib.decDigits M = ds := ⟨_, rfl⟩
  obtain ⟨X, hX⟩ : ∃ X, decS M = X := ⟨_, rfl⟩
  have hXs : X = bS ds := by rw [← hX, ← hds]
  have hXl : X.size = ds.length := by rw [hXs, bS_size]
  rw [hX] at HF bM
  rw [hds] at hL hds0 hs
  obtain ⟨Q, hQ⟩ : ∃ V, lim M = V := ⟨_, rfl⟩
  obtain ⟨RR, hR⟩ : ∃ V, lim (vl rn * 10 ^ d % vl rd) = V := ⟨_, rfl⟩
  obtain ⟨V1, hV1⟩ : ∃ V, lim (vl rn * 10 ^ d) = V := ⟨_, rfl⟩
  rw [hQ, hR, hV1] at HD
  rw [hV1] at HM
  rw [hQ] at HF
  have dz : ((d : Int) == 0) = false := beq_eq_false_iff_ne.2 (by omega)
  have dz' : (d == 0) = false := beq_eq_false_iff_ne.2 hz
  have t1 : decide ((X.size : Int) ≤ (d : Int)) = true := decide_eq_true (by omega)
  have t2 : decide (X.size ≤ d) = true := decide_eq_true (by omega)
  have HR := Lib.hid (fun w' => by
    have := Tryz.strings_Repeat ⟨#[48]⟩ (d + 1 - ds.length) w' (by omega) (by show 1 * (d + 1 - ds.length) ≤ _; omega)
    rw [show (((d + 1 - ds.length : Nat)) : Int) = (d : Int) + 1 - (X.size : Int) by rw [hXl]; omega, show (⟨#[48]⟩ : ByteArray).data.toList = [48] from rfl] at this
    exact this)
  obtain ⟨Z, hZ⟩ : ∃ Z : ByteArray, ⟨(Lib.repeatL [48] (d + 1 - ds.length)).toArray⟩ = Z := ⟨_, rfl⟩
  rw [hZ] at HR
  have hZs : Z.size + X.size = d + 1 := by
    have : (padS ds d).length = (Lib.repeatL [48] (d + 1 - ds.length)).length + ds.length := by rw [← rep_pad hs, List.length_append]
    rw [padS_len] at this
    rw [← hZ, hXl]
    show (Lib.repeatL [48] (d + 1 - ds.length)).toArray.size + _ = _
    rw [List.size_toArray]
    omega
  have c1 : ¬ 9223372036854775807 < Z.size + X.size := by omega
  obtain ⟨Y, hY⟩ : ∃ Y, Z ++ X = Y := ⟨_, rfl⟩
  have hYs : Y = bS (padS ds d) := by rw [← hY, ← hZ, hXs, ← rep_pad hs, ← bS_append]
  have hYl : Y.size = max (d + 1) ds.length := by rw [hYs, bS_size, padS_len]
  have hF : Hid (bS (dcL (vl rn) (vl rd) d) = Y.extract 0 (Y.size - d) ++ ⟨#[46]⟩ ++ Y.extract (Y.size - d) Y.size) := Lib.hid (by
    rw [hL.out, hYs, bS_size, dot_p _ hz])
  have k1 : IntKind.i64.wrap ((Y.size : Int) - (d : Int)) = (Y.size : Int) - (d : Int) := IntWalk.i64_in _ (by omega)
  have k2 : (0 : Int) ≤ (Y.size : Int) - (d : Int) := by omega
  have k3 : (Y.size : Int) - (d : Int) ≤ (Y.size : Int) := by omega
  have k4 : ((Y.size : Int) - (d : Int)).toNat = Y.size - d := by omega
  have x1 : (Y.extract 0 (Y.size - d)).size + 1 + (Y.extract (Y.size - d) Y.size).size ≤ 200000 := by simp [ByteArray.size_extract]; omega
  obtain ⟨A, kA⟩ : ∃ A, Y.extract 0 (Y.size - d) = A := ⟨_, rfl⟩
  obtain ⟨B, kB⟩ : ∃ B, Y.extract (Y.size - d) Y.size = B := ⟨_, rfl⟩
  rw [kA, kB] at x1 hF
  have x2 : ¬ 9223372036854775807 < A.size + 1 := by omega
  have x3 : ¬ 9223372036854775807 < A.size + 1 + B.size := by omega
  replace kA := Lib.hid kA
  replace kB := Lib.hid kB
  replace k1 := Lib.hid k1
  replace k4 := Lib.hid k4
  clear hYs hYl x1 hZs hZ
  have u2 := Lib.hid (hF.out)
  rw [u2.out] at u
  clear hz hv hl vn vd zd ht hM hMl vM bM hds hX hXs hXl hQ hR hV1 hL hF u2 hds0 hs
  obtain ⟨qrna, qrnc⟩ := qrn
  obtain ⟨qrda, qrdc⟩ := qrd
  replace S := Lib.hid (S.out.box 28 [.slice qrna rn.length qrnc, .slice qrda rd.length qrdc])
  clear hrn hrd
  go_enter Tryz.func26, Tryz.ntmps26
  go_wp2_with fail
  refine (HV.out _ _ _ S.out.r0 S.out.r1).mono ?_
  rintro e w1 ⟨rfl, hb⟩
  replace S := Lib.hid (S.out.call hb)
  clear hb
  obtain ⟨⟨z0, f0, y0, y0a, -⟩, -⟩ := S.out.facts
  go_wp2_with fail
  refine (HO.out _).mono ?_
  rintro e w2 ⟨_, rfl, q1, rfl, hr, hf, hb⟩
  replace S := Lib.hid (natRes S.out hr hf hb)
  clear hr hf hb z0 f0 y0 y0a
  obtain ⟨⟨z0, f0, y0, y0a, -⟩, -⟩ := S.out.facts
  go_wp2_with fail
  refine (HP.out _ _ S.out.r0).mono ?_
  rintro e w3 ⟨_, rfl, q2, rfl, hr, hb⟩
  replace S := Lib.hid (natOf S.out hr hb (by simp))
  clear hr hb z0 f0 y0 y0a
  obtain ⟨⟨z0, f0, y0, y0a, -⟩, -⟩ := S.out.facts
  replace S := Lib.hid (S.out.box 24 [.slice q2.a (U).length q2.c])
  go_wp2_with fail
  refine (HM.out _ _ _ S.out.r2 S.out.r0).mono ?_
  rintro e w4 ⟨_, rfl, q3, rfl, hr, hf, hb⟩
  replace S := Lib.hid (natRes S.out hr hf hb)
  clear hr hf hb z0 f0 y0 y0a
  obtain ⟨⟨z1, f1, y1, -⟩, ⟨z0, f0, y0, y0a, -⟩, -⟩ := S.out.facts
  replace S := Lib.hid (S.out.box 24 [.slice q3.a (V1).length q3.c])
  go_wp2_with fail
  refine (HD.out _ _ _ S.out.r0 S.out.r4).mono ?_
  rintro e w5 ⟨_, rfl, q4, q5, rfl, hr, hr2, hf, hf2, hb⟩
  replace S := Lib.hid (natRes2 S.out hr hr2 hf hf2 hb)
  clear hr hr2 hf hf2 hb z0 f0 y0 y0a z1 f1 y1
  obtain ⟨⟨z2, f2, y2, -⟩, ⟨z1, f1, y1, -⟩, ⟨z0, f0, y0, y0a, -⟩, -⟩ := S.out.facts
  replace S := Lib.hid (S.out.box 24 [.slice q4.a (Q).length q4.c])
  replace S := Lib.hid (S.out.box' 24 [.slice q5.a (RR).length q5.c] (K := w5.heap.size + 1) (by simp))
  go_wp2_with fail
  refine (HF.out _ _ S.out.r1 (ht'.out _ S.out.bel)).mono ?_
  rintro e w6 ⟨rfl, hb⟩
  replace S := Lib.hid (S.out.call hb)
  clear hb z0 f0 y0 y0a z1 f1 y1 z2 f2 y2
  obtain ⟨⟨z4, f4, y4, -⟩, ⟨z3, f3, y3, -⟩, ⟨z2, f2, y2, -⟩, ⟨z1, f1, y1, -⟩, ⟨z0, f0, y0, y0a, -⟩, -⟩ := S.out.facts
  go_wp2_with fail
  refine (HR.out _).mono ?_
  rintro e w7 ⟨rfl, hb⟩
  replace S := Lib.hid (S.out.call hb)
  clear hb z0 f0 y0 y0a z1 f1 y1 z2 f2 y2 z3 f3 y3 z4 f4 y4
  obtain ⟨⟨z4, f4, y4, -⟩, ⟨z3, f3, y3, -⟩, ⟨z2, f2, y2, -⟩, ⟨z1, f1, y1, -⟩, ⟨z0, f0, y0, y0a, -⟩, -⟩ := S.out.facts
  go_wp2_with fail
  clear hY
  replace k1 := k1.out
  replace k4 := k4.out
  replace kA := kA.out
  replace kB := kB.out
  refine wp_region_quiet_lit (by kernel_rfl) (by kernel_rfl) ?_
  repeat (go_big_quiet_step (fail))
  refine wpQuiet_nil ?_
  intro w9 hw9
  have hd9 : Drawn _ w9 := hw9
  replace S := Lib.hid (S.out.drawn hd9)
  clear hd9 hw9 k1 k4 kA kB
  go_wp2
  refine bodyPost_ret (v := .tuple #[.string (A ++ ⟨#[46]⟩ ++ B), .int .i64 0]) (by simp [results, Tryz.results26, go_sem]) rfl ?_
  rw [u.out.1, u.out.2]
  exact ⟨rfl, S.out.bel⟩
set_option maxHeartbeats 2000000 in
set_option maxRecDepth 100000 in
theorem xdec_g (w : World) (rn : List Int) (qrn : LmP) (hrn : RLm w w.heap.size rn qrn) (lrn : Lim rn) (rd : List Int) (qrd : LmP) (hrd : RLm w w.heap.size rd qrd) (lrd : Lim rd) (d : Nat) (hv : vR rn rd = true) (hd : d ≤ 30) (hl : ¬ 128 < (lim (vl rn * 10 ^ d)).length) (ht : Tab w) (hz : ¬ d = 0) (hs : d < (Lib.decDigits (vl rn * 10 ^ d / vl rd)).length) :
    Calls Tryz.prog 26 #[ratV rn qrn rd qrd, .int .i64 d] w (fun e w' => e = .returned (.tuple #[.string (dcV rn rd d), .int .i64 (dcE rn rd d)]) ∧ Below w.heap.size w w') := by
  have S := Lib.hid (natArg (natArg (Fm.init w) hrd) hrn)
  have HV := Lib.hid (fun q r w' (h1 : RLm w' w'.heap.size rn q) (h2 : RLm w' w'.heap.size rd r) => by
    have := validR_any w' rn q h1 lrn rd r h2 lrd
    rw [hv] at this
    exact this)
  have d0 : decide ((d : Int) < 0) = false := decide_eq_false (by omega)
  have d1 : decide (30 < (d : Int)) = false := decide_eq_false (by omega)
  have d2 : decide (30 < d) = false := decide_eq_false (by omega)
  obtain ⟨vn, vd, zd, -⟩ := vR_pos hv
  have HO := Lib.hid (fun w' => of_any 10 w' (by decide) (by decide))
  simp only [show (10 : Int).toNat = 10 from rfl] at HO
  have HP := Lib.hid (fun q w' (h1 : RLm w' w'.heap.size (lim 10) q) => by
    have := pow_any (lim 10) q d w' h1 (lim_lim _)
    rw [(pow10 hd).1, (pow10 hd).2] at this
    exact this)
  have HM := Lib.hid (fun q r w' (h1 : RLm w' w'.heap.size rn q) (h2 : RLm w' w'.heap.size (lim (10 ^ d)) r) => by
    have := mul_any rn (lim (10 ^ d)) q r w' h1 h2 lrn (lim_lim _)
    rw [(mul10 hd vn).1, (mul10 hd vn).2, show cutV (vl rn * 10 ^ d) = lim (vl rn * 10 ^ d) from if_neg hl, show cutE (vl rn * 10 ^ d) = 0 from if_neg hl] at this
    exact this)
  obtain ⟨T, hT⟩ : ∃ V, lim 10 = V := ⟨_, rfl⟩
  rw [hT] at HO HP
  obtain ⟨U, hU⟩ : ∃ V, lim (10 ^ d) = V := ⟨_, rfl⟩
  rw [hU] at HP HM
  clear hT hU
  have u := Lib.hid (dc_d hv hd hl)
  obtain ⟨M, hM⟩ : ∃ M, vl rn * 10 ^ d / vl rd = M := ⟨_, rfl⟩
  have hMl : (lim M).length ≤ 128 := by
    rcases Nat.lt_or_ge 128 (lim M).length with c | c
    · exact absurd (len_mono (by rw [← hM]; exact Nat.div_le_self _ _) c) hl
    · exact c
  have vM : vN (lim M) = true := vN_lim hMl
  have bM := decS_bd (lim_lim M) vM
  rw [vl_lim] at bM
  have hds0 := List.length_pos_iff.2 (dec_ne M)
  rw [hM] at hs
  have HD := Lib.hid (fun q r w' (h1 : RLm w' w'.heap.size (lim (vl rn * 10 ^ d)) q) (h2 : RLm w' w'.heap.size rd r) => by
    have := div_ok (lim (vl rn * 10 ^ d)) rd q r w' h1 h2 (lim_lim _) lrd (by rw [vN_lim (by omega), vd]; rfl) (by omega)
    rw [vl_lim, hM] at this
    exact this)
  have HF := Lib.hid (fun q w' (h1 : RLm w' w'.heap.size (lim M) q) (ht : Tab w') => by
    have := format_any (lim M) q w' h1 (lim_lim _) ht
    rw [show fmtV (lim M) = decS (vl (lim M)) from if_pos vM, show fmtE (lim M) = 0 from if_pos vM, vl_lim] at this
    exact this)
  have ht' := Lib.hid (fun w' (hb : Below w.heap.size w w') => ht.to hb)
  have hL : Hid (dcL (vl rn) (vl rd) d = dotS (padS (Lib.decDigits M) d) d) := Lib.hid (by unfold dcL; rw [hM])
  obtain ⟨ds, hds⟩ : ∃ ds, Lib.decDigits M = ds := ⟨_, rfl⟩
  obtain ⟨X, hX⟩ : ∃ X, decS M = X := ⟨_, rfl⟩
  have hXs : X = bS ds := by rw [← hX, ← hds]
  have hXl : X.size = ds.length := by rw [hXs, bS_size]
  rw [hX] at HF bM
  rw [hds] at hL hds0 hs
  obtain ⟨Q, hQ⟩ : ∃ V, lim M = V := ⟨_, rfl⟩
  obtain ⟨RR, hR⟩ : ∃ V, lim (vl rn * 10 ^ d % vl rd) = V := ⟨_, rfl⟩
  obtain ⟨V1, hV1⟩ : ∃ V, lim (vl rn * 10 ^ d) = V := ⟨_, rfl⟩
  rw [hQ, hR, hV1] at HD
  rw [hV1] at HM
  rw [hQ] at HF
  have dz : ((d : Int) == 0) = false := beq_eq_false_iff_ne.2 (by omega)
  have dz' : (d == 0) = false := beq_eq_false_iff_ne.2 hz
  have t1 : decide ((X.size : Int) ≤ (d : Int)) = false := decide_eq_false (by omega)
  have t2 : decide (X.size ≤ d) = false := decide_eq_false (by omega)
  obtain ⟨Y, hY⟩ : ∃ Y, X = Y := ⟨_, rfl⟩
  have hYs : Y = bS (padS ds d) := by rw [← hY, hXs, pad_id hs]
  have hYl : Y.size = max (d + 1) ds.length := by rw [hYs, bS_size, padS_len]
  have hF : Hid (bS (dcL (vl rn) (vl rd) d) = Y.extract 0 (Y.size - d) ++ ⟨#[46]⟩ ++ Y.extract (Y.size - d) Y.size) := Lib.hid (by
    rw [hL.out, hYs, bS_size, dot_p _ hz])
  have k1 : IntKind.i64.wrap ((Y.size : Int) - (d : Int)) = (Y.size : Int) - (d : Int) := IntWalk.i64_in _ (by omega)
  have k2 : (0 : Int) ≤ (Y.size : Int) - (d : Int) := by omega
  have k3 : (Y.size : Int) - (d : Int) ≤ (Y.size : Int) := by omega
  have k4 : ((Y.size : Int) - (d : Int)).toNat = Y.size - d := by omega
  have x1 : (Y.extract 0 (Y.size - d)).size + 1 + (Y.extract (Y.size - d) Y.size).size ≤ 200000 := by simp [ByteArray.size_extract]; omega
  obtain ⟨A, kA⟩ : ∃ A, Y.extract 0 (Y.size - d) = A := ⟨_, rfl⟩
  obtain ⟨B, kB⟩ : ∃ B, Y.extract (Y.size - d) Y.size = B := ⟨_, rfl⟩
  rw [kA, kB] at x1 hF
  have x2 : ¬ 9223372036854775807 < A.size + 1 := by omega
  have x3 : ¬ 9223372036854775807 < A.size + 1 + B.size := by omega
  replace kA := Lib.hid kA
  replace kB := Lib.hid kB
  replace k1 := Lib.hid k1
  replace k4 := Lib.hid k4
  subst hY
  clear hYs hYl x1
  have u2 := Lib.hid (hF.out)
  rw [u2.out] at u
  clear hz hv hl vn vd zd ht hM hMl vM bM hds hX hXs hXl hQ hR hV1 hL hF u2 hds0 hs
  obtain ⟨qrna, qrnc⟩ := qrn
  obtain ⟨qrda, qrdc⟩ := qrd
  replace S := Lib.hid (S.out.box 28 [.slice qrna rn.length qrnc, .slice qrda rd.length qrdc])
  clear hrn hrd
  go_enter Tryz.func26, Tryz.ntmps26
  go_wp2_with fail
  refine (HV.out _ _ _ S.out.r0 S.out.r1).mono ?_
  rintro e w1 ⟨rfl, hb⟩
  replace S := Lib.hid (S.out.call hb)
  clear hb
  obtain ⟨⟨z0, f0, y0, y0a, -⟩, -⟩ := S.out.facts
  go_wp2_with fail
  refine (HO.out _).mono ?_
  rintro e w2 ⟨_, rfl, q1, rfl, hr, hf, hb⟩
  replace S := Lib.hid (natRes S.out hr hf hb)
  clear hr hf hb z0 f0 y0 y0a
  obtain ⟨⟨z0, f0, y0, y0a, -⟩, -⟩ := S.out.facts
  go_wp2_with fail
  refine (HP.out _ _ S.out.r0).mono ?_
  rintro e w3 ⟨_, rfl, q2, rfl, hr, hb⟩
  replace S := Lib.hid (natOf S.out hr hb (by simp))
  clear hr hb z0 f0 y0 y0a
  obtain ⟨⟨z0, f0, y0, y0a, -⟩, -⟩ := S.out.facts
  replace S := Lib.hid (S.out.box 24 [.slice q2.a (U).length q2.c])
  go_wp2_with fail
  refine (HM.out _ _ _ S.out.r2 S.out.r0).mono ?_
  rintro e w4 ⟨_, rfl, q3, rfl, hr, hf, hb⟩
  replace S := Lib.hid (natRes S.out hr hf hb)
  clear hr hf hb z0 f0 y0 y0a
  obtain ⟨⟨z1, f1, y1, -⟩, ⟨z0, f0, y0, y0a, -⟩, -⟩ := S.out.facts
  replace S := Lib.hid (S.out.box 24 [.slice q3.a (V1).length q3.c])
  go_wp2_with fail
  refine (HD.out _ _ _ S.out.r0 S.out.r4).mono ?_
  rintro e w5 ⟨_, rfl, q4, q5, rfl, hr, hr2, hf, hf2, hb⟩
  replace S := Lib.hid (natRes2 S.out hr hr2 hf hf2 hb)
  clear hr hr2 hf hf2 hb z0 f0 y0 y0a z1 f1 y1
  obtain ⟨⟨z2, f2, y2, -⟩, ⟨z1, f1, y1, -⟩, ⟨z0, f0, y0, y0a, -⟩, -⟩ := S.out.facts
  replace S := Lib.hid (S.out.box 24 [.slice q4.a (Q).length q4.c])
  replace S := Lib.hid (S.out.box' 24 [.slice q5.a (RR).length q5.c] (K := w5.heap.size + 1) (by simp))
  go_wp2_with fail
  refine (HF.out _ _ S.out.r1 (ht'.out _ S.out.bel)).mono ?_
  rintro e w6 ⟨rfl, hb⟩
  replace S := Lib.hid (S.out.call hb)
  clear hb z0 f0 y0 y0a z1 f1 y1 z2 f2 y2
  obtain ⟨⟨z4, f4, y4, -⟩, ⟨z3, f3, y3, -⟩, ⟨z2, f2, y2, -⟩, ⟨z1, f1, y1, -⟩, ⟨z0, f0, y0, y0a, -⟩, -⟩ := S.out.facts
  go_wp2_with fail
  replace k1 := k1.out
  replace k4 := k4.out
  replace kA := kA.out
  replace kB := kB.out
  refine wp_region_quiet_lit (by kernel_rfl) (by kernel_rfl) ?_
  repeat (go_big_quiet_step (fail))
  refine wpQuiet_nil ?_
  intro w9 hw9
  have hd9 : Drawn _ w9 := hw9
  replace S := Lib.hid (S.out.drawn hd9)
  clear hd9 hw9 k1 k4 kA kB
  go_wp2
  refine bodyPost_ret (v := .tuple #[.string (A ++ ⟨#[46]⟩ ++ B), .int .i64 0]) (by simp [results, Tryz.results26, go_sem]) rfl ?_
  rw [u.out.1, u.out.2]
  exact ⟨rfl, S.out.bel⟩
end Go.Proofs.YtoiokopmpcogbaaGreatDoor
