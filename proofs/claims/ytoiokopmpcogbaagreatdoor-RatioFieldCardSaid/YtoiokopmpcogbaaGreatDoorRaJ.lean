/-
  CONTRACTS of Format, of both texts.
  Conditions: those that each theorem names.
-/
import Derived.Test.YtoiokopmpcogbaaGreatDoorRaI
import Derived.Test.YtoiokopmpcogbaaGreatDoorNt10
namespace Go.Proofs.YtoiokopmpcogbaaGreatDoor
open Go.RowKit Go.Sv
theorem vN_len {l : List Int} (ha : Lim l) (hv : vN l = true) : (lim (vl l)).length ≤ 128 := by
  obtain ⟨na, ca⟩ := vN_can hv
  rw [← lim_vl ha ca]; exact na
theorem nDig_le : ∀ (M N : Nat), N < 2 ^ M → Lib.nDigits N ≤ M + 1
  | 0, N, h => by
    have : N = 0 := by simpa using h
    subst this
    rw [Lib.nDigits_small (by decide)]
    exact Nat.le_refl _
  | M + 1, N, h => by
    by_cases c : N < 10
    · rw [Lib.nDigits_small c]; omega
    · rw [Lib.nDigits_big c]
      have := nDig_le M (N / 10) (by rw [Nat.pow_succ] at h; omega)
      omega
theorem vN_dec {l : List Int} (ha : Lim l) (hv : vN l = true) : (Lib.decDigits (vl l)).length ≤ 100000 := by
  have h3 := (lim_len_le (N := vl l) (k := 128)).1 (vN_len ha hv)
  rw [Bp_two] at h3
  rw [Lib.decDigits_length]
  have := nDig_le (32 * 128) (vl l) (Int.ofNat_lt.1 h3)
  omega
theorem decS_bd {l : List Int} (ha : Lim l) (hv : vN l = true) : (decS (vl l)).size ≤ 100000 := vN_dec ha hv
def rfV (n d : List Int) : ByteArray := if vR n d = true then (if vl d = 1 then decS (vl n) else decS (vl n) ++ ⟨#[47]⟩ ++ decS (vl d)) else ⟨#[]⟩
def rfE (n d : List Int) : Int := if vR n d = true then 0 else 1
set_option maxHeartbeats 2000000 in
set_option maxRecDepth 100000 in
theorem xformat_no (w : World) (rn : List Int) (qrn : LmP) (hrn : RLm w w.heap.size rn qrn) (lrn : Lim rn) (rd : List Int) (qrd : LmP) (hrd : RLm w w.heap.size rd qrd) (lrd : Lim rd) (hv : vR rn rd = false) :
    Calls Tryz.prog 30 #[ratV rn qrn rd qrd] w (fun e w' => e = .returned (.tuple #[.string (rfV rn rd), .int .i64 (rfE rn rd)]) ∧ Below w.heap.size w w') := by
  have S := Lib.hid (natArg (natArg (Fm.init w) hrd) hrn)
  have HV := Lib.hid (fun q r w' (h1 : RLm w' w'.heap.size rn q) (h2 : RLm w' w'.heap.size rd r) => by
    have := validR_any w' rn q h1 lrn rd r h2 lrd
    rw [hv] at this
    exact this)
  have u := Lib.hid (show rfV rn rd = ⟨#[]⟩ ∧ rfE rn rd = 1 by unfold rfV rfE; rw [hv]; exact ⟨rfl, rfl⟩)
  clear hv
  obtain ⟨qrna, qrnc⟩ := qrn
  obtain ⟨qrda, qrdc⟩ := qrd
  replace S := Lib.hid (S.out.box 28 [.slice qrna rn.length qrnc, .slice qrda rd.length qrdc])
  clear hrn hrd
  go_enter Tryz.func30, Tryz.ntmps30
  go_wp2_with fail
  refine (HV.out _ _ _ S.out.r0 S.out.r1).mono ?_
  rintro e w1 ⟨rfl, hb⟩
  replace S := Lib.hid (S.out.call hb)
  clear hb
  obtain ⟨⟨z0, f0, y0, y0a, -⟩, -⟩ := S.out.facts
  go_wp2
  refine bodyPost_ret (v := .tuple #[.string (⟨#[]⟩), .int .i64 1]) (by simp [results, Tryz.results30, go_sem]) rfl ?_
  rw [u.out.1, u.out.2]
  exact ⟨rfl, S.out.bel⟩
set_option maxHeartbeats 2000000 in
set_option maxRecDepth 100000 in
theorem xformat_ok (w : World) (rn : List Int) (qrn : LmP) (hrn : RLm w w.heap.size rn qrn) (lrn : Lim rn) (rd : List Int) (qrd : LmP) (hrd : RLm w w.heap.size rd qrd) (lrd : Lim rd) (hv : vR rn rd = true) (ht : Tab w) :
    Calls Tryz.prog 30 #[ratV rn qrn rd qrd] w (fun e w' => e = .returned (.tuple #[.string (rfV rn rd), .int .i64 (rfE rn rd)]) ∧ Below w.heap.size w w') := by
  have S := Lib.hid (natArg (natArg (Fm.init w) hrd) hrn)
  have HV := Lib.hid (fun q r w' (h1 : RLm w' w'.heap.size rn q) (h2 : RLm w' w'.heap.size rd r) => by
    have := validR_any w' rn q h1 lrn rd r h2 lrd
    rw [hv] at this
    exact this)
  obtain ⟨vn, vd, -, -⟩ := vR_pos hv
  have HN := Lib.hid (fun q w' (h1 : RLm w' w'.heap.size rn q) (ht : Tab w') => by
    have := format_any rn q w' h1 lrn ht
    rw [show fmtV rn = decS (vl rn) from if_pos vn, show fmtE rn = 0 from if_pos vn] at this
    exact this)
  have HD := Lib.hid (fun q w' (h1 : RLm w' w'.heap.size rd q) (ht : Tab w') => by
    have := format_any rd q w' h1 lrd ht
    rw [show fmtV rd = decS (vl rd) from if_pos vd, show fmtE rd = 0 from if_pos vd] at this
    exact this)
  have bX := decS_bd lrn vn
  have bY := decS_bd lrd vd
  have HO := Lib.hid (fun q w' (h1 : RLm w' w'.heap.size rd q) => by
    have := isOne_any w' rd q h1 lrd (vN_can vd).2
    exact this)
  have ht' := Lib.hid (fun w' (hb : Below w.heap.size w w') => ht.to hb)
  have e1 := Lib.hid (show decide (vl rd = 1) = true → rfV rn rd = decS (vl rn) ∧ rfE rn rd = 0 from fun h => ⟨(if_pos hv).trans (if_pos (of_decide_eq_true h)), if_pos hv⟩)
  have e2 := Lib.hid (show decide (vl rd = 1) = false → rfV rn rd = decS (vl rn) ++ ⟨#[47]⟩ ++ decS (vl rd) ∧ rfE rn rd = 0 from fun h => ⟨(if_pos hv).trans (if_neg (of_decide_eq_false h)), if_pos hv⟩)
  obtain ⟨X, hX⟩ : ∃ V, decS (vl rn) = V := ⟨_, rfl⟩
  obtain ⟨Y, hY⟩ : ∃ V, decS (vl rd) = V := ⟨_, rfl⟩
  obtain ⟨o, ho⟩ : ∃ V, decide (vl rd = 1) = V := ⟨_, rfl⟩
  rw [hX] at HN e1 e2 bX
  rw [hY] at HD e2 bY
  have b1 : ¬ 9223372036854775807 < X.size + 1 := by omega
  have b2 : ¬ 9223372036854775807 < X.size + 1 + Y.size := by omega
  clear bX bY
  rw [ho] at HO e1 e2
  clear hX hY ho vn vd hv ht
  obtain ⟨qrna, qrnc⟩ := qrn
  obtain ⟨qrda, qrdc⟩ := qrd
  replace S := Lib.hid (S.out.box 28 [.slice qrna rn.length qrnc, .slice qrda rd.length qrdc])
  clear hrn hrd
  go_enter Tryz.func30, Tryz.ntmps30
  go_wp2_with fail
  refine (HV.out _ _ _ S.out.r0 S.out.r1).mono ?_
  rintro e w1 ⟨rfl, hb⟩
  replace S := Lib.hid (S.out.call hb)
  clear hb
  obtain ⟨⟨z0, f0, y0, y0a, -⟩, -⟩ := S.out.facts
  go_wp2_with fail
  refine (HN.out _ _ S.out.r0 (ht'.out _ S.out.bel)).mono ?_
  rintro e w2 ⟨rfl, hb⟩
  replace S := Lib.hid (S.out.call hb)
  clear hb z0 f0 y0 y0a
  obtain ⟨⟨z0, f0, y0, y0a, -⟩, -⟩ := S.out.facts
  go_wp2_with fail
  refine (HO.out _ _ S.out.r1).mono ?_
  rintro e w3 ⟨rfl, hb⟩
  replace S := Lib.hid (S.out.call hb)
  clear hb z0 f0 y0 y0a
  obtain ⟨⟨z0, f0, y0, y0a, -⟩, -⟩ := S.out.facts
  cases o
  · have u := Lib.hid (e2.out rfl)
    clear e1 e2
    go_wp2_with fail
    refine (HD.out _ _ S.out.r1 (ht'.out _ S.out.bel)).mono ?_
    rintro e w4 ⟨rfl, hb⟩
    replace S := Lib.hid (S.out.call hb)
    clear hb z0 f0 y0 y0a
    obtain ⟨⟨z0, f0, y0, y0a, -⟩, -⟩ := S.out.facts
    go_wp2
    refine bodyPost_ret (v := .tuple #[.string (X ++ ⟨#[47]⟩ ++ Y), .int .i64 0]) (by simp [results, Tryz.results30, go_sem]) rfl ?_
    rw [u.out.1, u.out.2]
    exact ⟨rfl, S.out.bel⟩
  · have u := Lib.hid (e1.out rfl)
    clear e1 e2
    go_wp2
    refine bodyPost_ret (v := .tuple #[.string (X), .int .i64 0]) (by simp [results, Tryz.results30, go_sem]) rfl ?_
    rw [u.out.1, u.out.2]
    exact ⟨rfl, S.out.bel⟩
set_option maxHeartbeats 2000000 in
set_option maxRecDepth 100000 in
theorem xformat_any (w : World) (rn : List Int) (qrn : LmP) (hrn : RLm w w.heap.size rn qrn) (lrn : Lim rn) (rd : List Int) (qrd : LmP) (hrd : RLm w w.heap.size rd qrd) (lrd : Lim rd) (ht : Tab w) :
    Calls Tryz.prog 30 #[ratV rn qrn rd qrd] w (fun e w' => e = .returned (.tuple #[.string (rfV rn rd), .int .i64 (rfE rn rd)]) ∧ Below w.heap.size w w') := by
  cases hv : vR rn rd with
  | false => exact xformat_no w rn qrn hrn lrn rd qrd hrd lrd hv
  | true => exact xformat_ok w rn qrn hrn lrn rd qrd hrd lrd hv ht
set_option maxHeartbeats 2000000 in
set_option maxRecDepth 100000 in
theorem xrformat_no (w : World) (rn : List Int) (qrn : LmP) (hrn : RLm w w.heap.size rn qrn) (lrn : Lim rn) (rd : List Int) (qrd : LmP) (hrd : RLm w w.heap.size rd qrd) (lrd : Lim rd) (hv : vR rn rd = false) :
    Calls Tryz.prog 31 #[ratV rn qrn rd qrd] w (fun e w' => e = .returned (.tuple #[.string (rfV rn rd), .int .i64 (rfE rn rd)]) ∧ Below w.heap.size w w') := by
  have S := Lib.hid (natArg (natArg (Fm.init w) hrd) hrn)
  have HV := Lib.hid (fun q r w' (h1 : RLm w' w'.heap.size rn q) (h2 : RLm w' w'.heap.size rd r) => by
    have := rvalidR_any w' rn q h1 lrn rd r h2 lrd
    rw [hv] at this
    exact this)
  have u := Lib.hid (show rfV rn rd = ⟨#[]⟩ ∧ rfE rn rd = 1 by unfold rfV rfE; rw [hv]; exact ⟨rfl, rfl⟩)
  clear hv
  obtain ⟨qrna, qrnc⟩ := qrn
  obtain ⟨qrda, qrdc⟩ := qrd
  replace S := Lib.hid (S.out.box 28 [.slice qrna rn.length qrnc, .slice qrda rd.length qrdc])
  clear hrn hrd
  go_enter Tryz.func31, Tryz.ntmps31
  go_wp2_with fail
  refine (HV.out _ _ _ S.out.r0 S.out.r1).mono ?_
  rintro e w1 ⟨rfl, hb⟩
  replace S := Lib.hid (S.out.call hb)
  clear hb
  obtain ⟨⟨z0, f0, y0, y0a, -⟩, -⟩ := S.out.facts
  go_wp2
  refine bodyPost_ret (v := .tuple #[.string (⟨#[]⟩), .int .i64 1]) (by simp [results, Tryz.results31, go_sem]) rfl ?_
  rw [u.out.1, u.out.2]
  exact ⟨rfl, S.out.bel⟩
set_option maxHeartbeats 2000000 in
set_option maxRecDepth 100000 in
theorem xrformat_ok (w : World) (rn : List Int) (qrn : LmP) (hrn : RLm w w.heap.size rn qrn) (lrn : Lim rn) (rd : List Int) (qrd : LmP) (hrd : RLm w w.heap.size rd qrd) (lrd : Lim rd) (hv : vR rn rd = true) :
    Calls Tryz.prog 31 #[ratV rn qrn rd qrd] w (fun e w' => e = .returned (.tuple #[.string (rfV rn rd), .int .i64 (rfE rn rd)]) ∧ Below w.heap.size w w') := by
  have S := Lib.hid (natArg (natArg (Fm.init w) hrd) hrn)
  have HV := Lib.hid (fun q r w' (h1 : RLm w' w'.heap.size rn q) (h2 : RLm w' w'.heap.size rd r) => by
    have := rvalidR_any w' rn q h1 lrn rd r h2 lrd
    rw [hv] at this
    exact this)
  obtain ⟨vn, vd, -, -⟩ := vR_pos hv
  have HN := Lib.hid (fun q w' (h1 : RLm w' w'.heap.size rn q) => by
    have := rformat_any rn q w' h1 lrn
    rw [show fmtV rn = decS (vl rn) from if_pos vn, show fmtE rn = 0 from if_pos vn] at this
    exact this)
  have HD := Lib.hid (fun q w' (h1 : RLm w' w'.heap.size rd q) => by
    have := rformat_any rd q w' h1 lrd
    rw [show fmtV rd = decS (vl rd) from if_pos vd, show fmtE rd = 0 from if_pos vd] at this
    exact this)
  have bX := decS_bd lrn vn
  have bY := decS_bd lrd vd
  have HO := Lib.hid (fun q w' (h1 : RLm w' w'.heap.size rd q) => by
    have := rone_any w' rd q h1 lrd
    rw [show decide (rd = lim 1) = decide (vl rd = 1) from decide_eq_decide.2 (lim_one_iff lrd (vN_can vd).2)] at this
    exact this)
  have e1 := Lib.hid (show decide (vl rd = 1) = true → rfV rn rd = decS (vl rn) ∧ rfE rn rd = 0 from fun h => ⟨(if_pos hv).trans (if_pos (of_decide_eq_true h)), if_pos hv⟩)
  have e2 := Lib.hid (show decide (vl rd = 1) = false → rfV rn rd = decS (vl rn) ++ ⟨#[47]⟩ ++ decS (vl rd) ∧ rfE rn rd = 0 from fun h => ⟨(if_pos hv).trans (if_neg (of_decide_eq_false h)), if_pos hv⟩)
  obtain ⟨X, hX⟩ : ∃ V, decS (vl rn) = V := ⟨_, rfl⟩
  obtain ⟨Y, hY⟩ : ∃ V, decS (vl rd) = V := ⟨_, rfl⟩
  obtain ⟨o, ho⟩ : ∃ V, decide (vl rd = 1) = V := ⟨_, rfl⟩
  rw [hX] at HN e1 e2 bX
  rw [hY] at HD e2 bY
  have b1 : ¬ 9223372036854775807 < X.size + 1 := by omega
  have b2 : ¬ 9223372036854775807 < X.size + 1 + Y.size := by omega
  clear bX bY
  rw [ho] at HO e1 e2
  clear hX hY ho vn vd hv
  obtain ⟨qrna, qrnc⟩ := qrn
  obtain ⟨qrda, qrdc⟩ := qrd
  replace S := Lib.hid (S.out.box 28 [.slice qrna rn.length qrnc, .slice qrda rd.length qrdc])
  clear hrn hrd
  go_enter Tryz.func31, Tryz.ntmps31
  go_wp2_with fail
  refine (HV.out _ _ _ S.out.r0 S.out.r1).mono ?_
  rintro e w1 ⟨rfl, hb⟩
  replace S := Lib.hid (S.out.call hb)
  clear hb
  obtain ⟨⟨z0, f0, y0, y0a, -⟩, -⟩ := S.out.facts
  go_wp2_with fail
  refine (HN.out _ _ S.out.r0).mono ?_
  rintro e w2 ⟨rfl, hb⟩
  replace S := Lib.hid (S.out.call hb)
  clear hb z0 f0 y0 y0a
  obtain ⟨⟨z0, f0, y0, y0a, -⟩, -⟩ := S.out.facts
  go_wp2_with fail
  refine (HO.out _ _ S.out.r1).mono ?_
  rintro e w3 ⟨rfl, hb⟩
  replace S := Lib.hid (S.out.call hb)
  clear hb z0 f0 y0 y0a
  obtain ⟨⟨z0, f0, y0, y0a, -⟩, -⟩ := S.out.facts
  cases o
  · have u := Lib.hid (e2.out rfl)
    clear e1 e2
    go_wp2_with fail
    refine (HD.out _ _ S.out.r1).mono ?_
    rintro e w4 ⟨rfl, hb⟩
    replace S := Lib.hid (S.out.call hb)
    clear hb z0 f0 y0 y0a
    obtain ⟨⟨z0, f0, y0, y0a, -⟩, -⟩ := S.out.facts
    go_wp2
    refine bodyPost_ret (v := .tuple #[.string (X ++ ⟨#[47]⟩ ++ Y), .int .i64 0]) (by simp [results, Tryz.results31, go_sem]) rfl ?_
    rw [u.out.1, u.out.2]
    exact ⟨rfl, S.out.bel⟩
  · have u := Lib.hid (e1.out rfl)
    clear e1 e2
    go_wp2
    refine bodyPost_ret (v := .tuple #[.string (X), .int .i64 0]) (by simp [results, Tryz.results31, go_sem]) rfl ?_
    rw [u.out.1, u.out.2]
    exact ⟨rfl, S.out.bel⟩
set_option maxHeartbeats 2000000 in
set_option maxRecDepth 100000 in
theorem xrformat_any (w : World) (rn : List Int) (qrn : LmP) (hrn : RLm w w.heap.size rn qrn) (lrn : Lim rn) (rd : List Int) (qrd : LmP) (hrd : RLm w w.heap.size rd qrd) (lrd : Lim rd) :
    Calls Tryz.prog 31 #[ratV rn qrn rd qrd] w (fun e w' => e = .returned (.tuple #[.string (rfV rn rd), .int .i64 (rfE rn rd)]) ∧ Below w.heap.size w w') := by
  cases hv : vR rn rd with
  | false => exact xrformat_no w rn qrn hrn lrn rd qrd hrd lrd hv
  | true => exact xrformat_ok w rn qrn hrn lrn rd qrd hrd lrd hv
end Go.Proofs.YtoiokopmpcogbaaGreatDoor
