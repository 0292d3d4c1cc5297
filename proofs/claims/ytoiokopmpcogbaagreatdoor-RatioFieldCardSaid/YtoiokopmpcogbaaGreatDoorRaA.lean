/-
  CONTRACTS of one, isOne.
  Conditions: those that each theorem names.
-/
import Derived.Test.YtoiokopmpcogbaaGreatDoorNt9
import Derived.Deep.RegionHeld3
namespace Go.Proofs.YtoiokopmpcogbaaGreatDoor
open Go.RowKit Go.Sv
/-- a fraction -/
abbrev ratV (n : List Int) (q : LmP) (d : List Int) (r : LmP) : Value := .agg #[.slice q.a n.length q.c, .slice r.a d.length r.c]
/-- a call's fraction and its error -/
def RRes2 (w : World) (n d : List Int) (E : Int) (v : Value) (w' : World) : Prop :=
  ∃ q r : LmP, v = .tuple #[ratV n q d r, .int .i64 E] ∧ RLm w' w'.heap.size n q ∧ RLm w' w'.heap.size d r ∧ Fr w.heap.size q ∧ Fr w.heap.size r ∧ Below w.heap.size w w'
/-- a call's fraction -/
def RRes (w : World) (n d : List Int) (v : Value) (w' : World) : Prop :=
  ∃ q r : LmP, v = ratV n q d r ∧ RLm w' w'.heap.size n q ∧ RLm w' w'.heap.size d r ∧ Fr w.heap.size q ∧ Fr w.heap.size r ∧ Below w.heap.size w w'
/-- a valid fraction -/
def vR (n d : List Int) : Bool := vN n && vN d && decide (vl d ≠ 0) && decide (Nat.gcd (vl n) (vl d) = 1)
theorem vl_len {d : List Int} (ld : Lim d) (vd : vN d = true) : vl d = 0 ↔ d.length = 0 := by
  have e := lim_vl ld (vN_can vd).2
  rw [← lim_len_zero, ← e]
theorem lim_one_iff {l : List Int} (ll : Lim l) (cl : Sv.Can l) : l = lim 1 ↔ vl l = 1 := by
  constructor
  · intro h; rw [h, vl_lim]
  · intro h; rw [lim_vl ll cl, h]
theorem cmp_one {l : List Int} (ll : Lim l) : (cmpL l (lim 1) == 0) = decide (vl l = 1) := by
  unfold cmpL
  rw [vl_vt ll, vl_vt (lim_lim 1), vl_lim, Bool.eq_iff_iff, decide_eq_true_iff, beq_iff_eq]
  unfold cmpV
  split
  · constructor <;> intro h <;> omega
  · split
    · constructor <;> intro h <;> omega
    · constructor <;> intro h <;> omega
theorem lim1_ok : vN (lim 1) = true := vN_lim (lim_len_le.2 (by
  have := Bp_mono (show 1 ≤ 128 by omega)
  have e : Bp 1 = 4294967296 := by decide
  omega))
set_option maxHeartbeats 2000000 in
set_option maxRecDepth 100000 in
theorem rone_any (w : World) (a : List Int) (qa : LmP) (ha : RLm w w.heap.size a qa) (_la : Lim a) :
    Calls Tryz.prog 65 #[natV a qa] w (fun e w' => e = .returned (.bool (decide (a = lim 1))) ∧ Below w.heap.size w w') := by
  have S := Lib.hid (natArg (Fm.init w) ha)
  have HO := Lib.hid (fun w' => rof_any 1 w' (by decide) (by decide))
  simp only [show (1 : Int).toNat = 1 from rfl] at HO
  have HS := Lib.hid (fun q r w' (h1 : RLm w' w'.heap.size a q) (h2 : RLm w' w'.heap.size (lim 1) r) => same_any a (lim 1) q r w' h1 h2)
  obtain ⟨qaa, qac⟩ := qa
  replace S := Lib.hid (S.out.box 24 [.slice qaa a.length qac])
  clear ha
  go_enter Tryz.func65, Tryz.ntmps65
  go_wp2_with fail
  have y0 : w.drew.cell? ⟨w.heap.size, 0, none⟩ = w.drew.cell? ⟨w.heap.size, 0, none⟩ := rfl
  replace S := Lib.hid S.out.drew
  clear y0
  obtain ⟨⟨-, -, y0, -⟩, -⟩ := S.out.facts
  go_region_held3 (fun w' => w'.cell? ⟨w.heap.size, 0, none⟩ = some (.slice qaa a.length qac)) (go_keep)
    (first
      | ((with_reducible refine (HO.out _).mono ?_); rintro e wx ⟨_, rfl, qx, rfl, hr, hf, hb⟩; replace S := Lib.hid (natRes S.out hr hf hb); clear hr hf hb; clear y0; obtain ⟨⟨-, -, y0, -⟩, -⟩ := S.out.facts)
      | ((with_reducible refine (HS.out ⟨qaa, qac⟩ _ _ (natOld S.out (by simp)) (natOld S.out (by simp))).mono ?_); rintro e wx ⟨rfl, hb⟩; replace S := Lib.hid (S.out.call hb); clear hb; clear y0; obtain ⟨⟨-, -, y0, -⟩, -⟩ := S.out.facts))
  all_goals
    go_wp2
    go_ret
    exact ⟨rfl, S.out.bel⟩
set_option maxHeartbeats 2000000 in
set_option maxRecDepth 100000 in
theorem isOne_any (w : World) (a : List Int) (qa : LmP) (ha : RLm w w.heap.size a qa) (la : Lim a) (ca : Sv.Can a) :
    Calls Tryz.prog 64 #[natV a qa] w (fun e w' => e = .returned (.bool (decide (vl a = 1))) ∧ Below w.heap.size w w') := by
  have S := Lib.hid (natArg (Fm.init w) ha)
  have HO := Lib.hid (fun w' => of_any 1 w' (by decide) (by decide))
  simp only [show (1 : Int).toNat = 1 from rfl] at HO
  have HS := Lib.hid (fun q r w' (h1 : RLm w' w'.heap.size a q) (h2 : RLm w' w'.heap.size (lim 1) r) => cmp_any a (lim 1) q r w' h1 h2 la (lim_lim 1) ca (lim_can 1))
  have eC := Lib.hid (cmp_one la)
  obtain ⟨C, hC⟩ : ∃ C, cmpL a (lim 1) = C := ⟨_, rfl⟩
  rw [hC] at HS eC
  clear hC ca
  obtain ⟨qaa, qac⟩ := qa
  replace S := Lib.hid (S.out.box 24 [.slice qaa a.length qac])
  clear ha
  go_enter Tryz.func64, Tryz.ntmps64
  go_wp2_with fail
  have y0 : w.drew.cell? ⟨w.heap.size, 0, none⟩ = w.drew.cell? ⟨w.heap.size, 0, none⟩ := rfl
  replace S := Lib.hid S.out.drew
  clear y0
  obtain ⟨⟨-, -, y0, -⟩, -⟩ := S.out.facts
  go_region_held3 (fun w' => w'.cell? ⟨w.heap.size, 0, none⟩ = some (.slice qaa a.length qac)) (go_keep)
    (first
      | ((with_reducible refine (HO.out _).mono ?_); rintro e wx ⟨_, rfl, qx, rfl, hr, hf, hb⟩; replace S := Lib.hid (natRes S.out hr hf hb); clear hr hf hb; clear y0; obtain ⟨⟨-, -, y0, -⟩, -⟩ := S.out.facts)
      | ((with_reducible refine (HS.out ⟨qaa, qac⟩ _ _ (natOld S.out (by simp)) (natOld S.out (by simp))).mono ?_); rintro e wx ⟨rfl, hb⟩; replace S := Lib.hid (S.out.call hb); clear hb; clear y0; obtain ⟨⟨-, -, y0, -⟩, -⟩ := S.out.facts))
  all_goals
    go_wp2
    go_ret
    exact ⟨ret_b eC.out, S.out.bel⟩
end Go.Proofs.YtoiokopmpcogbaaGreatDoor
