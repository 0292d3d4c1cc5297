/-
  CONTRACT of the reference's Pow.
  Conditions: those that each theorem names.
-/
import Derived.Test.YtpoddmkimhkmoaaGreatNt8
import Derived.Test.YtpoddmkimhkmoaaGreatFm
namespace Go.Proofs.YtpoddmkimhkmoaaGreat
open Go.RowKit Go.Sv
/-- a number and an error; the number may be the caller's own -/
def NRes3 (w : World) (l : List Int) (E : Int) (v : Value) (w' : World) : Prop := ∃ q : LmP, v = .tuple #[natV l q, .int .i64 E] ∧ RLm w' w'.heap.size l q ∧ Below w.heap.size w w'
theorem NRes3.none_ {w w' : World} {E : Int} (h : Below w.heap.size w w') : NRes3 w [] E (.tuple #[.agg #[.slice none 0 0], .int .i64 E]) w' := ⟨⟨none, 0⟩, rfl, RLm.none_ _ _, h⟩



theorem cmpL_le {a b : List Int} (ha : Lim a) (hb : Lim b) : decide (cmpL a b ≤ 0) = decide (vl a ≤ vl b) := by
  unfold cmpL
  rw [vl_vt ha, vl_vt hb, Bool.eq_iff_iff, decide_eq_true_iff, decide_eq_true_iff]
  unfold cmpV
  split
  · constructor <;> intro h <;> omega
  · split
    · constructor <;> intro h <;> omega
    · constructor <;> intro h <;> omega
theorem nres3_put {w w' : World} {b : Nat} {l : List Int} {q : LmP} {E : Int} (hs : w.heap.size ≤ b) (hr : RLm w' w'.heap.size l q) (hf : 0 < l.length → ∀ g, q.a = some g → g.block ≠ b) (hbel : Below w.heap.size w w') :
    NRes3 w l E (.tuple #[natV l q, .int .i64 E]) (w'.setCell ⟨b, 0, none⟩ (rowV l q)) := ⟨q, rfl, rlm_set hr hf _, hbel.setCell hs _⟩


end Go.Proofs.YtpoddmkimhkmoaaGreat

namespace Go.Proofs.YtpoddmkimhkmoaaGreat
open Go.RowKit Go.Sv
structure PwI (w : World) (x B g6 : Nat) (va : Value) (i : Nat) (l : List Int) (q : LmP) (wr : World) : Prop where
  is : l = lim (x ^ i)
  le : l.length ≤ 128
  b0 : ResB wr w.heap.size va
  bR : ResB wr B (.slice none 0 0)
  b6 : ResB wr g6 (rowV l q)
  rl : RLm wr wr.heap.size l q
  ne : 0 < l.length → ∀ g, q.a = some g → g.block ≠ g6 ∧ g.block ≠ B
  bel : Below w.heap.size w wr
theorem PwI.step {w wr w5 w6 : World} {x B g6 i : Nat} {va : Value} {l : List Int} {q q' : LmP} (h : PwI w x B g6 va i l q wr) (_hB : w.heap.size ≠ B) (h6 : w.heap.size ≠ g6) (hB6 : B ≠ g6) (hle : w.heap.size ≤ g6)
    (h5 : Below wr.heap.size wr w5) (hr : RLm w5 w5.heap.size (lim (x ^ (i + 1))) q') (hf : Fr wr.heap.size q') (hl : (lim (x ^ (i + 1))).length ≤ 128) (hw : Below w5.heap.size w5 w6) :
    PwI w x B g6 va (i + 1) (lim (x ^ (i + 1))) q' (w6.setCell ⟨g6, 0, none⟩ (rowV (lim (x ^ (i + 1))) q')) := by
  have b56 := h5.trans (hw.mono h5.size)
  have z6 := h.b6.z
  have zR := h.bR.z
  have n1 : ∀ g, q'.a = some g → g.block ≠ g6 ∧ g.block ≠ B := fun g hg => by have := hf g hg; omega
  exact ⟨rfl, hl, (h.b0.to b56).off h6, (h.bR.to b56).off hB6, (h.b6.to b56).put, rlm_set (hr.to hw) (fun _ g hg => (n1 g hg).1) _, fun _ => n1, (below_of h.bel h.bel.size b56).setCell hle _⟩
theorem PwI.to {w wr wr' : World} {x B g6 i : Nat} {va : Value} {l : List Int} {q : LmP} (h : PwI w x B g6 va i l q wr) (hb : Below wr.heap.size wr wr') : PwI w x B g6 va i l q wr' :=
  ⟨h.is, h.le, h.b0.to hb, h.bR.to hb, h.b6.to hb, h.rl.to hb, h.ne, below_of h.bel h.bel.size hb⟩


theorem cut_one : cutV 1 = lim 1 ∧ cutE 1 = 0 := by
  have l1 : (lim 1).length ≤ 128 := lim_len_le.2 (by have := Bp_mono (show 1 ≤ 128 by omega); have e : Bp 1 = 4294967296 := by decide
                                                     omega)
  unfold cutV cutE
  rw [if_neg (by omega), if_neg (by omega)]
  exact ⟨rfl, rfl⟩
theorem cut_self {a : List Int} (ha : Lim a) (hv : vN a = true) : cutV (vl a) = a ∧ cutE (vl a) = 0 := by
  obtain ⟨na, ca⟩ := vN_can hv
  have e := lim_vl ha ca
  unfold cutV cutE
  rw [← e, if_neg (by omega), if_neg (by omega)]
  exact ⟨rfl, rfl⟩
theorem low_pow {x n : Nat} (hx : x ≤ 1) (hn : 0 < n) : x ^ n = x := by
  rcases (by omega : x = 0 ∨ x = 1) with c | c
  · rw [c, Nat.zero_pow hn]
  · rw [c, Nat.one_pow]
end Go.Proofs.YtpoddmkimhkmoaaGreat

namespace Go.Proofs.YtpoddmkimhkmoaaGreat
open Go.RowKit Go.Sv

set_option maxRecDepth 100000 in
theorem pow_no (a : List Int) (q : LmP) (n : Int) (w : World) (h : RLm w w.heap.size a q) (hv : vN a = false) :
    Calls Tryz.prog 49 #[natV a q, .int .i64 n] w (Ret (NRes3 w [] 1)) := by
  have hbx : Hid (∀ o1 o2 : Obj, Below w.heap.size w ((w.alloc o1).alloc o2)) := Lib.hid fun o1 o2 => ((Below.refl _ _).alloc (Nat.le_refl _) o1).alloc (by simp) o2
  have HV := Lib.hid (fun w' (hw : Below w.heap.size w w') => valid_any a q w' (h.to hw))
  obtain ⟨qa, qc⟩ := q
  have hR1 : Hid (ResB ((w.alloc (.cells #[.slice qa a.length qc] 24)).alloc (.cells #[.slice none 0 0] 24)) w.heap.size (.slice qa a.length qc)) := Lib.hid (ResB.new.to ((Below.refl _ _).alloc (Nat.le_refl _) _))
  have hRB : Hid (ResB ((w.alloc (.cells #[.slice qa a.length qc] 24)).alloc (.cells #[.slice none 0 0] 24)) (w.heap.size + 1) (.slice none 0 0)) := Lib.hid (ResB.new' (by simp))
  rw [hv] at HV
  clear h hv
  go_enter Tryz.func49, Tryz.ntmps49
  go_wp2_with fail
  refine (HV.out _ (hbx.out _ _)).mono ?_
  rintro e w1 ⟨rfl, hb1⟩
  have X1 := Lib.hid (hR1.out.to hb1)
  have XR := Lib.hid (hRB.out.to hb1)
  have hbw := Lib.hid (below_of (hbx.out _ _) (hbx.out _ _).size hb1)
  clear hb1
  clear X1
  obtain ⟨s0, s1, s2⟩ := XR.out
  have hb := Lib.hid (hbw.out.setCell (p := ⟨w.heap.size + 1, 0, none⟩) (by show w.heap.size ≤ w.heap.size + 1; omega) (.slice none 0 0))
  go_wp2
  refine bodyPost_ret (v := .tuple #[.agg #[.slice none 0 0], .int .i64 1]) (by simp [results, Tryz.results49, go_sem, s1]) rfl ?_
  exact Ret.mk (NRes3.none_ hb.out)

set_option maxRecDepth 100000 in
theorem pow_neg (a : List Int) (q : LmP) (n : Int) (w : World) (h : RLm w w.heap.size a q) (hv : vN a = true) (hn : n < 0) :
    Calls Tryz.prog 49 #[natV a q, .int .i64 n] w (Ret (NRes3 w [] 7)) := by
  have hbx : Hid (∀ o1 o2 : Obj, Below w.heap.size w ((w.alloc o1).alloc o2)) := Lib.hid fun o1 o2 => ((Below.refl _ _).alloc (Nat.le_refl _) o1).alloc (by simp) o2
  have HV := Lib.hid (fun w' (hw : Below w.heap.size w w') => valid_any a q w' (h.to hw))
  obtain ⟨qa, qc⟩ := q
  have hR1 : Hid (ResB ((w.alloc (.cells #[.slice qa a.length qc] 24)).alloc (.cells #[.slice none 0 0] 24)) w.heap.size (.slice qa a.length qc)) := Lib.hid (ResB.new.to ((Below.refl _ _).alloc (Nat.le_refl _) _))
  have hRB : Hid (ResB ((w.alloc (.cells #[.slice qa a.length qc] 24)).alloc (.cells #[.slice none 0 0] 24)) (w.heap.size + 1) (.slice none 0 0)) := Lib.hid (ResB.new' (by simp))
  rw [hv] at HV
  have d0 : decide (n < 0) = true := decide_eq_true hn
  replace hn := Lib.hid hn
  clear h hv
  go_enter Tryz.func49, Tryz.ntmps49
  go_wp2_with fail
  refine (HV.out _ (hbx.out _ _)).mono ?_
  rintro e w1 ⟨rfl, hb1⟩
  have X1 := Lib.hid (hR1.out.to hb1)
  have XR := Lib.hid (hRB.out.to hb1)
  have hbw := Lib.hid (below_of (hbx.out _ _) (hbx.out _ _).size hb1)
  clear hb1
  clear X1
  obtain ⟨s0, s1, s2⟩ := XR.out
  have hb := Lib.hid (hbw.out.setCell (p := ⟨w.heap.size + 1, 0, none⟩) (by show w.heap.size ≤ w.heap.size + 1; omega) (.slice none 0 0))
  go_wp2
  refine bodyPost_ret (v := .tuple #[.agg #[.slice none 0 0], .int .i64 7]) (by simp [results, Tryz.results49, go_sem, s1]) rfl ?_
  exact Ret.mk (NRes3.none_ hb.out)

set_option maxRecDepth 100000 in
theorem pow_zero (a : List Int) (q : LmP) (n : Int) (w : World) (h : RLm w w.heap.size a q) (hv : vN a = true) (hn : n = 0) :
    Calls Tryz.prog 49 #[natV a q, .int .i64 n] w (Ret (NRes3 w (lim 1) 0)) := by
  have hbx : Hid (∀ o1 o2 : Obj, Below w.heap.size w ((w.alloc o1).alloc o2)) := Lib.hid fun o1 o2 => ((Below.refl _ _).alloc (Nat.le_refl _) o1).alloc (by simp) o2
  have HV := Lib.hid (fun w' (hw : Below w.heap.size w w') => valid_any a q w' (h.to hw))
  have HO := Lib.hid (fun w' => of_any 1 w' (by decide) (by decide))
  simp only [show (1 : Int).toNat = 1 from rfl] at HO
  obtain ⟨qa, qc⟩ := q
  have hR1 : Hid (ResB ((w.alloc (.cells #[.slice qa a.length qc] 24)).alloc (.cells #[.slice none 0 0] 24)) w.heap.size (.slice qa a.length qc)) := Lib.hid (ResB.new.to ((Below.refl _ _).alloc (Nat.le_refl _) _))
  have hRB : Hid (ResB ((w.alloc (.cells #[.slice qa a.length qc] 24)).alloc (.cells #[.slice none 0 0] 24)) (w.heap.size + 1) (.slice none 0 0)) := Lib.hid (ResB.new' (by simp))
  rw [hv] at HV
  subst hn
  clear h hv
  go_enter Tryz.func49, Tryz.ntmps49
  go_wp2_with fail
  refine (HV.out _ (hbx.out _ _)).mono ?_
  rintro e w1 ⟨rfl, hb1⟩
  have X1 := Lib.hid (hR1.out.to hb1)
  have XR := Lib.hid (hRB.out.to hb1)
  have hbw := Lib.hid (below_of (hbx.out _ _) (hbx.out _ _).size hb1)
  clear hb1
  clear X1
  go_wp2_with fail
  refine (HO.out w1).mono ?_
  rintro e w3 ⟨_, rfl, q3, rfl, hr3, hf3, hb3⟩
  obtain ⟨s0, s1, s2⟩ := XR.out.to hb3
  have hF := Lib.hid (nres3_put (w := w) (b := w.heap.size + 1) (E := 0) (by omega) hr3 (fun _ g hg => by have := hf3 g hg; have := XR.out.z; omega) (below_of hbw.out hbw.out.size hb3))
  clear hr3 hf3 hb3
  go_wp2
  refine bodyPost_ret (v := .tuple #[natV (lim 1) q3, .int .i64 0]) (by simp [results, Tryz.results49, go_sem, s1]) rfl ?_
  exact Ret.mk hF.out

set_option maxRecDepth 100000 in
theorem pow_low (a : List Int) (q : LmP) (n : Int) (w : World) (h : RLm w w.heap.size a q) (ha : Lim a) (hv : vN a = true) (hn : 0 < n) (hx : vl a ≤ 1) :
    Calls Tryz.prog 49 #[natV a q, .int .i64 n] w (Ret (NRes3 w a 0)) := by
  obtain ⟨na, ca⟩ := vN_can hv
  have hbx : Hid (∀ o1 o2 : Obj, Below w.heap.size w ((w.alloc o1).alloc o2)) := Lib.hid fun o1 o2 => ((Below.refl _ _).alloc (Nat.le_refl _) o1).alloc (by simp) o2
  have HV := Lib.hid (fun w' (hw : Below w.heap.size w w') => valid_any a q w' (h.to hw))
  have HBt := Lib.hid (fun w' (hw : Below w.heap.size w w') => bits_any a q w' (h.to hw) ha ca (by omega))
  have HT := Lib.hid (fun w' (hw : Below w.heap.size w w') => trim_any a q w' (h.to hw) (by omega))
  rw [show norm a = a from (norm_lim ha (vl_vt ha)).trans (lim_vl ha ca).symm] at HT
  have db : decide ((nbits (vl a) : Int) ≤ 1) = true := decide_eq_true (by have := (nbits_le (N := vl a) (k := 1)).2 (by omega); omega)
  obtain ⟨B, hB⟩ : ∃ B, nbits (vl a) = B := ⟨_, rfl⟩
  rw [hB] at HBt db
  obtain ⟨qa, qc⟩ := q
  have hR1 : Hid (ResB ((w.alloc (.cells #[.slice qa a.length qc] 24)).alloc (.cells #[.slice none 0 0] 24)) w.heap.size (.slice qa a.length qc)) := Lib.hid (ResB.new.to ((Below.refl _ _).alloc (Nat.le_refl _) _))
  have hRB : Hid (ResB ((w.alloc (.cells #[.slice qa a.length qc] 24)).alloc (.cells #[.slice none 0 0] 24)) (w.heap.size + 1) (.slice none 0 0)) := Lib.hid (ResB.new' (by simp))
  dsimp only at HT
  rw [hv] at HV
  have d0 : decide (n < 0) = false := by rw [decide_eq_false_iff_not]; omega
  have d1 : (n == 0) = false := beq_eq_false_iff_ne.2 (by omega)
  replace hn := Lib.hid hn
  clear h hv ha ca hx hB
  go_enter Tryz.func49, Tryz.ntmps49
  go_wp2_with fail
  refine (HV.out _ (hbx.out _ _)).mono ?_
  rintro e w1 ⟨rfl, hb1⟩
  have X1 := Lib.hid (hR1.out.to hb1)
  have XR := Lib.hid (hRB.out.to hb1)
  have hbw := Lib.hid (below_of (hbx.out _ _) (hbx.out _ _).size hb1)
  clear hb1
  have HBt1 := Lib.hid (HBt.out w1 hbw.out)
  obtain ⟨z0, y0, f0⟩ := X1.out
  clear HBt
  go_wp2_with fail
  refine HBt1.out.mono ?_
  rintro e w2 ⟨rfl, hb2⟩
  have hb12 := Lib.hid (below_of hbw.out hbw.out.size hb2)
  have HT1 := Lib.hid (HT.out w2 hb12.out)
  have XR2 := Lib.hid (XR.out.to hb2)
  clear z0 y0 f0
  obtain ⟨z0, y0, f0⟩ := X1.out.to hb2
  clear HT hb2
  go_wp2_with fail
  refine HT1.out.mono ?_
  rintro e w3 ⟨_, rfl, q3, rfl, hr3, hf3, hb3⟩
  obtain ⟨s0, s1, s2⟩ := XR2.out.to hb3
  have hF := Lib.hid (nres3_put (w := w) (b := w.heap.size + 1) (E := 0) (by omega) hr3 (fun _ g hg => by have := hf3 g hg; have := XR2.out.z; omega) (below_of hb12.out hb12.out.size hb3))
  clear hr3 hf3 hb3
  go_wp2
  refine bodyPost_ret (v := .tuple #[natV a q3, .int .i64 0]) (by simp [results, Tryz.results49, go_sem, s1]) rfl ?_
  exact Ret.mk hF.out

set_option maxRecDepth 100000 in
theorem pow_huge (a : List Int) (q : LmP) (n : Int) (w : World) (h : RLm w w.heap.size a q) (ha : Lim a) (hv : vN a = true) (hn : 4096 < n) (hx : 2 ≤ vl a) :
    Calls Tryz.prog 49 #[natV a q, .int .i64 n] w (Ret (NRes3 w [] 3)) := by
  obtain ⟨na, ca⟩ := vN_can hv
  have hbx : Hid (∀ o1 o2 : Obj, Below w.heap.size w ((w.alloc o1).alloc o2)) := Lib.hid fun o1 o2 => ((Below.refl _ _).alloc (Nat.le_refl _) o1).alloc (by simp) o2
  have HV := Lib.hid (fun w' (hw : Below w.heap.size w w') => valid_any a q w' (h.to hw))
  have HBt := Lib.hid (fun w' (hw : Below w.heap.size w w') => bits_any a q w' (h.to hw) ha ca (by omega))
  have db : decide ((nbits (vl a) : Int) ≤ 1) = false := decide_eq_false (fun c => by have := (nbits_le (N := vl a) (k := 1)).1 (by omega); omega)
  have db' : decide (nbits (vl a) ≤ 1) = false := decide_eq_false (fun c => by have := (nbits_le (N := vl a) (k := 1)).1 (by omega); omega)
  have d2 : decide (4096 < n) = true := decide_eq_true hn
  obtain ⟨B, hB⟩ : ∃ B, nbits (vl a) = B := ⟨_, rfl⟩
  rw [hB] at HBt db db'
  obtain ⟨qa, qc⟩ := q
  have hR1 : Hid (ResB ((w.alloc (.cells #[.slice qa a.length qc] 24)).alloc (.cells #[.slice none 0 0] 24)) w.heap.size (.slice qa a.length qc)) := Lib.hid (ResB.new.to ((Below.refl _ _).alloc (Nat.le_refl _) _))
  have hRB : Hid (ResB ((w.alloc (.cells #[.slice qa a.length qc] 24)).alloc (.cells #[.slice none 0 0] 24)) (w.heap.size + 1) (.slice none 0 0)) := Lib.hid (ResB.new' (by simp))
  rw [hv] at HV
  have d0 : decide (n < 0) = false := by rw [decide_eq_false_iff_not]; omega
  have d1 : (n == 0) = false := beq_eq_false_iff_ne.2 (by omega)
  replace hn := Lib.hid hn
  clear h hv ha ca hx hB
  go_enter Tryz.func49, Tryz.ntmps49
  go_wp2_with fail
  refine (HV.out _ (hbx.out _ _)).mono ?_
  rintro e w1 ⟨rfl, hb1⟩
  have X1 := Lib.hid (hR1.out.to hb1)
  have XR := Lib.hid (hRB.out.to hb1)
  have hbw := Lib.hid (below_of (hbx.out _ _) (hbx.out _ _).size hb1)
  clear hb1
  have HBt1 := Lib.hid (HBt.out w1 hbw.out)
  obtain ⟨z0, y0, f0⟩ := X1.out
  clear HBt
  go_wp2_with fail
  refine HBt1.out.mono ?_
  rintro e w2 ⟨rfl, hb2⟩
  have hb12 := Lib.hid (below_of hbw.out hbw.out.size hb2)
  obtain ⟨s0, s1, s2⟩ := XR.out.to hb2
  have hb := Lib.hid (hb12.out.setCell (p := ⟨w.heap.size + 1, 0, none⟩) (by show w.heap.size ≤ w.heap.size + 1; omega) (.slice none 0 0))
  clear z0 y0 f0 hb2
  go_wp2
  refine bodyPost_ret (v := .tuple #[.agg #[.slice none 0 0], .int .i64 3]) (by simp [results, Tryz.results49, go_sem, s1]) rfl ?_
  exact Ret.mk (NRes3.none_ hb.out)
end Go.Proofs.YtpoddmkimhkmoaaGreat

namespace Go.Proofs.YtpoddmkimhkmoaaGreat
open Go.RowKit Go.Sv
def rowRd (l : List Int) (q : LmP) : Rd where
  R := fun w => RLm w w.heap.size l q
  D := fun g => 0 < l.length ∧ ∃ a, q.a = some a ∧ a.block = g
  st := fun {w w'} h hk hs => ⟨fun hn => by
    obtain ⟨b, off, e, hb, hc⟩ := h.arr hn
    exact ⟨b, off, e, by omega, fun k hk' => (hk ⟨b, off + k, none⟩ ⟨hn, _, e, rfl⟩).trans (hc k hk')⟩, h.nil, h.cap, h.cmx⟩
section
variable {w W W' : World} {bs : List Bx} {rs : List Rd} {l m : List Int} {q r : LmP}
theorem rowRd_lt (h : RLm W W.heap.size l q) : ∀ g, (rowRd l q).D g → g < W.heap.size := fun g ⟨hn, a, ha, e⟩ => by
  obtain ⟨b, off, e2, hlt, _⟩ := h.arr hn
  rw [ha] at e2; injection e2 with e2; subst e2; exact e ▸ hlt
theorem natArg (S : Fm w w [] rs) (h : RLm w w.heap.size l q) : Fm w w [] (rowRd l q :: rs) := S.arg (rowRd l q) h (rowRd_lt h)
/-- a call's number -/
theorem natRes (S : Fm w W bs rs) (hr : RLm W' W'.heap.size l q) (hf : Fr W.heap.size q) (hb : Below W.heap.size W W') : Fm w W' bs (rowRd l q :: rs) :=
  S.res (rowRd l q) hb hr (fun g hg => ⟨by obtain ⟨_, a, ha, e⟩ := hg; have := hf a ha; omega, rowRd_lt hr g hg⟩)
/-- a call's two numbers -/
theorem natRes2 (S : Fm w W bs rs) (hr : RLm W' W'.heap.size l q) (hr' : RLm W' W'.heap.size m r) (hf : Fr W.heap.size q) (hf' : Fr W.heap.size r) (hb : Below W.heap.size W W') : Fm w W' bs (rowRd m r :: rowRd l q :: rs) :=
  (natRes S hr hf hb).also (rowRd m r) hr' (fun g hg => ⟨rowRd_lt hr' g hg, fun x hx e => by
    obtain ⟨_, a, ha, e'⟩ := hg
    have := hf' a ha
    have := S.b_lt hx
    omega⟩)
/-- the number is one that was known -/
theorem natOld (S : Fm w W bs rs) (hr : rowRd l q ∈ rs) : RLm W W.heap.size l q := allR_at S.rd _ hr
/-- a number that may be an older one: its block holds limbs, no box does -/
theorem natOf (S : Fm w W bs rs) (hr : RLm W' W'.heap.size l q) (hb : Below W.heap.size W W') (hn : ∀ x ∈ bs, ∀ v ∈ x.cs, ∀ z, v ≠ .int .u32 z) : Fm w W' bs (rowRd l q :: rs) :=
  (S.call hb).also (rowRd l q) hr (fun g hg => ⟨rowRd_lt hr g hg, fun x hx e => by
    obtain ⟨h0, a, ha, e'⟩ := hg
    obtain ⟨b, off, e2, _, hc⟩ := hr.arr h0
    have hw := allB_at (S.call hb).bx x hx
    have h1 := hc 0 h0
    rw [ha] at e2
    injection e2 with e2
    subst e2
    have e3 : x.b = b := e.trans e'.symm
    subst e3
    have h2 := (hw.cell (off + 0)).symm.trans h1
    have h3 : x.cs[off + 0]? = some (u32v l 0) := by simpa using h2
    exact hn x hx _ (List.mem_of_getElem? h3) _ rfl⟩)
theorem fm_nres2 {E : Int} (S : Fm w W bs rs) (hr : rowRd l q ∈ rs) (hf : Fr w.heap.size q) : NRes2 w l E (.tuple #[natV l q, .int .i64 E]) W := ⟨q, rfl, natOld S hr, hf, S.bel⟩
theorem fm_nres3 {E : Int} (S : Fm w W bs rs) (hr : rowRd l q ∈ rs) : NRes3 w l E (.tuple #[natV l q, .int .i64 E]) W := ⟨q, rfl, natOld S hr, S.bel⟩
end
end Go.Proofs.YtpoddmkimhkmoaaGreat

namespace Go.Proofs.YtpoddmkimhkmoaaGreat
open Go.RowKit Go.Sv

theorem i64_and1 (n : Int) : bits .and .i64 n 1 = n % 2 := by
  have h1 : (BitVec.ofInt 64 1).toNat = 2 ^ 1 - 1 := by decide
  have key : (BitVec.ofInt 64 n &&& BitVec.ofInt 64 1).toNat = (n % ((2 ^ 64 : Nat) : Int)).toNat % 2 ^ 1 := by
    rw [BitVec.toNat_and, BitVec.toNat_ofInt, h1, Nat.and_two_pow_sub_one_eq_mod]
  show IntKind.i64.wrap ((BitVec.ofInt 64 n &&& BitVec.ofInt 64 1).toNat : Nat) = n % 2
  rw [key, IntKind.wrap_i64]
  omega
theorem bit_k {n : Int} (h : 0 ≤ n) (k : Nat) : bits .and .i64 (n / 2 ^ k) 1 = ((n.toNat / 2 ^ k % 2 : Nat) : Int) := by
  rw [i64_and1]
  obtain ⟨m, rfl⟩ := Int.eq_ofNat_of_zero_le h
  have e : (m : Int) / 2 ^ k = ((m / 2 ^ k : Nat) : Int) := by rw [Int.natCast_ediv, Int.natCast_pow]; rfl
  rw [e]
  show _ = (((m / 2 ^ k % 2 : Nat)) : Int)
  omega

set_option maxHeartbeats 1000000 in
set_option maxRecDepth 100000 in
theorem pow_loop (a : List Int) (q : LmP) (n : Int) (w : World) (h : RLm w w.heap.size a q) (ha : Lim a) (hv : vN a = true) (hn : 0 < n) (hn2 : n ≤ 4096) (hx : 2 ≤ vl a) :
    Calls Tryz.prog 49 #[natV a q, .int .i64 n] w (Ret (NRes3 w (cutV (vl a ^ n.toNat)) (cutE (vl a ^ n.toNat)))) := by
  obtain ⟨na, ca⟩ := vN_can hv
  have HV := Lib.hid (fun w' => valid_any a q w')
  have HBt := Lib.hid (fun w' (hw : RLm w' w'.heap.size a q) => bits_any a q w' hw ha ca (by omega))
  have db : decide ((nbits (vl a) : Int) ≤ 1) = false := decide_eq_false (fun c => by have := (nbits_le (N := vl a) (k := 1)).1 (by omega); omega)
  have db' : decide (nbits (vl a) ≤ 1) = false := decide_eq_false (fun c => by have := (nbits_le (N := vl a) (k := 1)).1 (by omega); omega)
  have d2 : decide (4096 < n) = false := decide_eq_false (by omega)
  obtain ⟨B, hB⟩ : ∃ B, nbits (vl a) = B := ⟨_, rfl⟩
  rw [hB] at HBt db db'
  have HO := Lib.hid (fun w' => of_any 1 w' (by decide) (by decide))
  simp only [show (1 : Int).toNat = 1 from rfl] at HO
  have HL := Lib.hid (fun w' => Tryz.bits_Len n w' (by omega) (by omega))
  have hLn : n.toNat < 2 ^ (Lib.bitLen n.toNat) := by rw [bitLen_is (by omega)]; exact nbits_le.1 (Nat.le_refl _)
  have hL64 : Lib.bitLen n.toNat ≤ 13 := by rw [bitLen_is (by omega)]; exact nbits_le.2 (by omega)
  obtain ⟨Ln, hLe⟩ : ∃ Ln, Lib.bitLen n.toNat = Ln := ⟨_, rfl⟩
  rw [hLe] at HL hLn hL64
  have HM := Lib.hid (fun l q3 w' (h3 : RLm w' w'.heap.size l q3) (h' : RLm w' w'.heap.size a q) hl => mul_any l a q3 q w' h3 h' hl ha)
  have HQ := Lib.hid (fun l q3 w' (h3 : RLm w' w'.heap.size l q3) hl => mul_any l l q3 q3 w' h3 h3 hl hl)
  have S0 := Lib.hid (natArg (Fm.init w) h)
  obtain ⟨qa, qc⟩ := q
  have S := Lib.hid ((S0.out.box 24 [.slice qa a.length qc]).box' 24 [.slice none 0 0] (K := w.heap.size + 1) (by simp))
  rw [hv] at HV
  have d0 : decide (n < 0) = false := by rw [decide_eq_false_iff_not]; omega
  have d1 : (n == 0) = false := beq_eq_false_iff_ne.2 (by omega)
  replace hv := Lib.hid hv
  replace hx := Lib.hid hx
  clear h ca hB hLe S0
  go_enter Tryz.func49, Tryz.ntmps49
  go_wp2_with fail
  refine (HV.out _ S.out.r0).mono ?_
  rintro e w1 ⟨rfl, hb⟩
  replace S := Lib.hid (S.out.call hb)
  obtain ⟨⟨zR, fR, yR, -⟩, ⟨z0, f0, y0, -⟩, -⟩ := S.out.facts
  clear hb
  go_wp2_with fail
  refine (HBt.out _ S.out.r0).mono ?_
  rintro e w2 ⟨rfl, hb⟩
  replace S := Lib.hid (S.out.call hb)
  clear hb zR fR yR z0 f0 y0
  obtain ⟨⟨zR, fR, yR, -⟩, ⟨z0, f0, y0, -⟩, -⟩ := S.out.facts
  go_wp2_with fail
  refine (HO.out _).mono ?_
  rintro e w3 ⟨_, rfl, q3, rfl, hr, hf, hb⟩
  replace S := Lib.hid (natRes S.out hr hf hb)
  clear hb hr hf zR fR yR z0 f0 y0
  obtain ⟨⟨zR, fR, yR, -⟩, ⟨z0, f0, y0, -⟩, -⟩ := S.out.facts
  replace S := Lib.hid (S.out.box 24 [.slice q3.a (lim 1).length q3.c])
  have zq := zR
  go_wp2_with fail
  refine (HL.out _).mono ?_
  rintro e w4 ⟨rfl, rfl⟩
  have l1 : (lim 1).length ≤ 128 := lim_len_le.2 (by have := Bp_mono (show 1 ≤ 128 by omega); have e : Bp 1 = 4294967296 := by decide
                                                     omega)
  replace l1 := Lib.hid l1
  replace hLn := Lib.hid hLn
  clear HV HBt HO HL zR fR yR z0 f0 y0
  go_wp2
  go_loopw [7, 8, 9] (fun s7 _ _ wr => ∃ (i : Int) (j : Nat) (l : List Int) (q' : LmP), s7 = .int .i64 i ∧ i = (j : Int) - 1 ∧ j ≤ Ln ∧ l = lim (vl a ^ (n.toNat / 2 ^ j)) ∧ l.length ≤ 128 ∧
    Fm w wr [⟨w3.heap.size, 24, [.slice q'.a l.length q'.c]⟩, ⟨w.heap.size + 1, 24, [.slice none 0 0]⟩, ⟨w.heap.size, 24, [.slice qa a.length qc]⟩] [rowRd l q', rowRd a ⟨qa, qc⟩]) (fun s7 _ _ _ => (intOf s7 + 1).toNat)
  case atStart => exact ⟨_, Ln, _, _, rfl, rfl, Nat.le_refl _, by rw [Nat.div_eq_of_lt hLn.out, Nat.pow_zero], l1.out, S.out⟩
  case round =>
    clear S l1
    have n1 : w.heap.size ≠ w3.heap.size := by omega
    have n2 : w3.heap.size ≠ w.heap.size := by omega
    have n3 : w.heap.size + 1 ≠ w3.heap.size := by omega
    have n4 : w3.heap.size ≠ w.heap.size + 1 := by omega
    clear zq
    obtain ⟨i, j, l, ⟨q6, c6⟩, rfl, hi, hj, hl, hle, S⟩ := hrel
    cases j with
    | zero =>
      obtain rfl : i = -1 := by omega
      have eN : lim (vl a ^ n.toNat) = l := by rw [hl, Nat.pow_zero, Nat.div_one]
      have E1 : Hid (cutV (vl a ^ n.toNat) = l) := Lib.hid (by unfold cutV; rw [eN, if_neg (by omega)])
      have E2 : Hid (cutE (vl a ^ n.toNat) = 0) := Lib.hid (by unfold cutE; rw [eN, if_neg (by omega)])
      have hF := Lib.hid (S.set 1 rfl 0 (.slice q6 l.length c6))
      obtain ⟨⟨z6, f6, y6, -⟩, ⟨zR, fR, yR, -⟩, ⟨z0, f0, y0, -⟩, -⟩ := S.facts
      clear S hl eN HM HQ hi
      go_wp2
      refine bodyPost_ret (v := .tuple #[natV l ⟨q6, c6⟩, .int .i64 0]) (by simp [results, Tryz.results49, go_sem, yR]) rfl ?_
      rw [E1.out, E2.out]
      exact Ret.mk (fm_nres3 hF.out (by simp))
    | succ k =>
      obtain rfl : i = (k : Int) := by omega
      have vl1 : vN l = true := by rw [hl]; exact vN_lim (by rw [← hl]; exact hle)
      have ll : vl l = vl a ^ (n.toNat / 2 ^ (k + 1)) := by rw [hl, vl_lim]
      have hL : Lim l := by rw [hl]; exact lim_lim _
      have HQ1 := HQ.out l ⟨q6, c6⟩ wr S.r0 hL
      have eV : mulV l l = cutV (vl a ^ (2 * (n.toNat / 2 ^ (k + 1)))) := by unfold mulV; rw [vl1, ll, pow_sq]; rfl
      have eE : mulE l l = cutE (vl a ^ (2 * (n.toNat / 2 ^ (k + 1)))) := by unfold mulE; rw [vl1, ll, pow_sq]; rfl
      rw [eV, eE] at HQ1
      have h2 := shr_two n.toNat k
      have h3 : n.toNat / 2 ^ k ≤ n.toNat := Nat.div_le_self _ _
      have hx0 : 0 < vl a := by have := hx.out; omega
      by_cases big : 128 < (lim (vl a ^ (2 * (n.toNat / 2 ^ (k + 1))))).length
      · have bn := len_mono (Nat.pow_le_pow_right hx0 (show 2 * (n.toNat / 2 ^ (k + 1)) ≤ n.toNat by omega)) big
        have e1 : cutV (vl a ^ (2 * (n.toNat / 2 ^ (k + 1)))) = [] := if_pos big
        have e2 : cutE (vl a ^ (2 * (n.toNat / 2 ^ (k + 1)))) = 3 := if_pos big
        have e3 : cutV (vl a ^ n.toNat) = [] := if_pos bn
        have e4 : cutE (vl a ^ n.toNat) = 3 := if_pos bn
        rw [e1, e2] at HQ1
        rw [e3, e4]
        replace HQ1 := Lib.hid HQ1
        replace S := Lib.hid S
        obtain ⟨⟨z6, f6, y6, -⟩, ⟨zR, fR, yR, -⟩, ⟨z0, f0, y0, -⟩, -⟩ := S.out.facts
        clear e1 e2 e3 e4 bn big hl hle vl1 ll hL eV eE h2 h3 hx0 HM HQ hi
        go_wp2_with fail
        refine HQ1.out.mono ?_
        rintro e w7 ⟨_, rfl, q7, rfl, hr, hf, hb⟩
        replace S := Lib.hid (natRes S.out hr hf hb)
        clear hr hf hb z6 f6 y6 zR fR yR z0 f0 y0
        obtain ⟨⟨z6, f6, y6, -⟩, ⟨zR, fR, yR, -⟩, ⟨z0, f0, y0, -⟩, -⟩ := S.out.facts
        have hF := Lib.hid ((S.out.set 1 rfl 0 (.slice none 0 0)).box 24 [.slice q7.a 0 q7.c])
        go_wp2
        refine bodyPost_ret (v := .tuple #[.agg #[.slice none 0 0], .int .i64 3]) (by simp [results, Tryz.results49, go_sem, yR, zR]) rfl ?_
        exact Ret.mk (NRes3.none_ hF.out.bel)
      · have e1 : cutV (vl a ^ (2 * (n.toNat / 2 ^ (k + 1)))) = lim (vl a ^ (2 * (n.toNat / 2 ^ (k + 1)))) := if_neg big
        have e2 : cutE (vl a ^ (2 * (n.toNat / 2 ^ (k + 1)))) = 0 := if_neg big
        rw [e1, e2] at HQ1
        obtain ⟨m, hm⟩ : ∃ m, lim (vl a ^ (2 * (n.toNat / 2 ^ (k + 1)))) = m := ⟨_, rfl⟩
        rw [hm] at HQ1 big
        replace HQ1 := Lib.hid HQ1
        replace S := Lib.hid S
        replace hm := Lib.hid hm
        replace hl := Lib.hid hl
        obtain ⟨⟨z6, f6, y6, -⟩, ⟨zR, fR, yR, -⟩, ⟨z0, f0, y0, -⟩, -⟩ := S.out.facts
        clear e1 e2 vl1 ll hL eV eE HQ hi
        go_wp2_with fail
        refine HQ1.out.mono ?_
        rintro e w7 ⟨_, rfl, q7, rfl, hr, hf, hb⟩
        replace S := Lib.hid (natRes S.out hr hf hb)
        clear hr hf hb z6 f6 y6 zR fR yR z0 f0 y0
        obtain ⟨⟨z6, f6, y6, -⟩, ⟨zR, fR, yR, -⟩, ⟨z0, f0, y0, -⟩, -⟩ := S.out.facts
        replace S := Lib.hid ((S.out.set 0 rfl 0 (.slice q7.a m.length q7.c)).box' 24 [.slice q7.a m.length q7.c] (K := w7.heap.size) (by simp))
        have hk13 : k ≤ 12 := by omega
        have hb := bit_k (show 0 ≤ n by omega) k
        by_cases bit : n.toNat / 2 ^ k % 2 = 1
        · have hb' : (bits .and .i64 (n / 2 ^ k) 1 == 1) = true := by rw [hb, bit]; rfl
          have hmL : Lim m := by rw [← hm.out]; exact lim_lim _
          have vl2 : vN m = true := by rw [← hm.out]; exact vN_lim (by rw [hm.out]; omega)
          have hml : vl m = vl a ^ (2 * (n.toNat / 2 ^ (k + 1))) := by rw [← hm.out, vl_lim]
          have hpw : vl m * vl a = vl a ^ (n.toNat / 2 ^ k) := by rw [hml, h2, bit]; exact (Nat.pow_succ ..).symm
          have HM1 := HM.out m q7 _ S.out.r0 S.out.r2 hmL
          have eV : mulV m a = cutV (vl a ^ (n.toNat / 2 ^ k)) := by unfold mulV; rw [vl2, hv.out, hpw]; rfl
          have eE : mulE m a = cutE (vl a ^ (n.toNat / 2 ^ k)) := by unfold mulE; rw [vl2, hv.out, hpw]; rfl
          rw [eV, eE] at HM1
          clear hb bit eV eE hpw hml vl2 hmL
          by_cases big2 : 128 < (lim (vl a ^ (n.toNat / 2 ^ k))).length
          · have bn := len_mono (Nat.pow_le_pow_right hx0 h3) big2
            have e1 : cutV (vl a ^ (n.toNat / 2 ^ k)) = [] := if_pos big2
            have e2 : cutE (vl a ^ (n.toNat / 2 ^ k)) = 3 := if_pos big2
            have e3 : Hid (cutV (vl a ^ n.toNat) = []) := Lib.hid (if_pos bn)
            have e4 : Hid (cutE (vl a ^ n.toNat) = 3) := Lib.hid (if_pos bn)
            rw [e1, e2] at HM1
            replace HM1 := Lib.hid HM1
            clear e1 e2 bn big2 h2 h3 hx0 HM
            go_wp2_with fail
            refine HM1.out.mono ?_
            rintro e w8 ⟨_, rfl, q8, rfl, hr, hf, hb⟩
            replace S := Lib.hid (natRes S.out hr hf hb)
            clear hr hf hb z6 f6 y6 zR fR yR z0 f0 y0
            obtain ⟨-, ⟨z6, f6, y6, -⟩, ⟨zR, fR, yR, -⟩, ⟨z0, f0, y0, -⟩, -⟩ := S.out.facts
            have hF := Lib.hid ((S.out.set 1 rfl 0 (.slice q8.a 0 q8.c)).set 2 rfl 0 (.slice none 0 0))
            go_wp2
            refine bodyPost_ret (v := .tuple #[.agg #[.slice none 0 0], .int .i64 3]) (by simp [results, Tryz.results49, go_sem, yR]) rfl ?_
            rw [e3.out, e4.out]
            exact Ret.mk (NRes3.none_ hF.out.bel)
          · have e1 : cutV (vl a ^ (n.toNat / 2 ^ k)) = lim (vl a ^ (n.toNat / 2 ^ k)) := if_neg big2
            have e2 : cutE (vl a ^ (n.toNat / 2 ^ k)) = 0 := if_neg big2
            rw [e1, e2] at HM1
            obtain ⟨m2, hm2⟩ : ∃ m2, lim (vl a ^ (n.toNat / 2 ^ k)) = m2 := ⟨_, rfl⟩
            rw [hm2] at HM1 big2
            replace HM1 := Lib.hid HM1
            replace hm2 := Lib.hid hm2
            clear e1 e2 h2 h3 hx0 HM
            go_wp2_with fail
            refine HM1.out.mono ?_
            rintro e w8 ⟨_, rfl, q8, rfl, hr, hf, hb⟩
            replace S := Lib.hid (natRes S.out hr hf hb)
            clear hr hf hb z6 f6 y6 zR fR yR z0 f0 y0
            obtain ⟨-, ⟨z6, f6, y6, -⟩, ⟨zR, fR, yR, -⟩, ⟨z0, f0, y0, -⟩, -⟩ := S.out.facts
            have hF := Lib.hid ((S.out.set 1 rfl 0 (.slice q8.a m2.length q8.c)).drop _ [rowRd m2 q8, rowRd a ⟨qa, qc⟩] (List.sublist_cons_self _ _) (.cons_cons _ (.cons _ (List.sublist_cons_self _ _))))
            go_wp2
            go_roundw
            case rel => exact ⟨_, k, m2, q8, by go_num, rfl, by omega, hm2.out.symm, by omega, hF.out⟩
            case measure => simp [intOf]
        · have hb' : (bits .and .i64 (n / 2 ^ k) 1 == 1) = false := by rw [hb]; exact beq_eq_false_iff_ne.2 (by omega)
          have hF := Lib.hid (S.out.drop _ [rowRd m q7, rowRd a ⟨qa, qc⟩] (List.sublist_cons_self _ _) (.cons_cons _ (List.sublist_cons_self _ _)))
          have hmm : Hid (m = lim (vl a ^ (n.toNat / 2 ^ k))) := Lib.hid (by rw [← hm.out]; congr 2; omega)
          clear hb bit h2 h3 hx0 HM
          go_wp2
          go_roundw
          case rel => exact ⟨_, k, m, q7, by go_num, rfl, by omega, hmm.out, by omega, hF.out⟩
          case measure => simp [intOf]
theorem pow_any (a : List Int) (q : LmP) (n : Int) (w : World) (h : RLm w w.heap.size a q) (ha : Lim a) :
    Calls Tryz.prog 49 #[natV a q, .int .i64 n] w (Ret (NRes3 w (powV a n) (powE a n))) := by
  cases hv : vN a with
  | false =>
    have := pow_no a q n w h hv
    unfold powV powE
    rw [hv]
    exact this
  | true =>
    unfold powV powE
    rw [hv]
    by_cases h0 : n < 0
    · rw [if_neg (by omega), if_pos rfl, if_neg (by omega)]
      exact pow_neg a q n w h hv h0
    · rw [if_pos ⟨rfl, by omega⟩, if_pos rfl, if_pos (by omega)]
      by_cases h1 : n = 0
      · have := pow_zero a q n w h hv h1
        subst h1
        have l1 : ¬ 128 < (lim 1).length := Nat.not_lt.2 (lim_len_le.2 (by have := Bp_mono (show 1 ≤ 128 by omega); have e : Bp 1 = 4294967296 := by decide
                                                                           omega))
        rw [show (0 : Int).toNat = 0 from rfl, Nat.pow_zero]
        unfold cutV cutE
        rw [if_neg l1, if_neg l1]
        exact this
      · by_cases hx : vl a ≤ 1
        · have := pow_low a q n w h ha hv (by omega) hx
          have e : vl a ^ n.toNat = vl a := low_pow hx (by omega)
          obtain ⟨na, ca⟩ := vN_can hv
          rw [e]
          unfold cutV cutE
          rw [← lim_vl ha ca, if_neg (by omega), if_neg (by omega)]
          exact this
        · by_cases hb : 4096 < n
          · have := pow_huge a q n w h ha hv hb (by omega)
            have b := pow_big (x := vl a) (n := n.toNat) (by omega) (by omega)
            unfold cutV cutE
            rw [if_pos b, if_pos b]
            exact this
          · exact pow_loop a q n w h ha hv (by omega) (by omega) (by omega)
end Go.Proofs.YtpoddmkimhkmoaaGreat
