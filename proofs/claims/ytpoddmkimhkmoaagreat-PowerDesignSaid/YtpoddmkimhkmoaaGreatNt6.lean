/-
  CONTRACT of the reference's Div at valid numbers.
  Conditions: those that each theorem names.
-/
import Derived.Test.YtpoddmkimhkmoaaGreatNt4
import Derived.Test.YtpoddmkimhkmoaaGreatNt5
import Derived.Deep.RegionLaw
namespace Go.Sv
open Go.RowKit
theorem shl_step2 {l o : List Int} {j : Nat} {c e : Int} (hlen : j < o.length) (h : vt o j + c * Bp j = vt l j * 2 + e) :
    vt (o.set j ((gi l j * 2 + c) % 4294967296)) (j + 1) + (gi l j * 2 + c) / 4294967296 * Bp (j + 1) = vt l (j + 1) * 2 + e := by
  have h1 := carry_eq (gi l j * 2 + c) j
  rw [vt_succ, vt_set_le (Nat.le_refl _), gi_set hlen, vt_succ]
  generalize (gi l j * 2 + c) % 4294967296 = r at h1
  generalize (gi l j * 2 + c) / 4294967296 = q at h1
  grind
theorem or_low {x c : Int} (_ : 0 ≤ x) (_ : x < 4294967296) (c0 : 0 ≤ c) (c1 : c ≤ 1) : bits .or .u32 (x * 2 % 4294967296) c = (x * 2 + c) % 4294967296 ∧ x / 2147483648 = (x * 2 + c) / 4294967296 := by
  refine ⟨?_, by omega⟩
  obtain ⟨X, hX⟩ : ∃ X : Nat, x * 2 % 4294967296 = X := ⟨(x * 2 % 4294967296).toNat, by omega⟩
  obtain ⟨C, rfl⟩ : ∃ C : Nat, c = C := ⟨c.toNat, by omega⟩
  rw [hX, u32_or_nat _ _ (by omega) (by omega), nat_join 1 X C (by omega) (by omega)]
  omega
theorem or_bit32 {x : Int} {m s : Nat} (hx : x = ((m * 2 ^ (s + 1) : Nat) : Int)) (h : m * 2 ^ (s + 1) + 2 ^ s < 2 ^ 32) : bits .or .u32 x ((2 ^ s : Nat) : Int) = x + ((2 ^ s : Nat) : Int) := by
  subst hx
  rw [two32] at h
  have hp := Nat.pow_pos (n := s) (show 0 < 2 by decide)
  have h1 : m * 2 ^ (s + 1) < 4294967296 := by generalize m * 2 ^ (s + 1) = y at *; generalize 2 ^ s = z at *; omega
  have h2 : 2 ^ s < 4294967296 := by generalize m * 2 ^ (s + 1) = y at *; generalize 2 ^ s = z at *; omega
  rw [u32_or_nat (m * 2 ^ (s + 1)) (2 ^ s) h1 h2, nat_join (s + 1) _ _ (Nat.mul_mod_left _ _) (by rw [Nat.pow_succ]; have := Nat.pow_pos (n := s) (show 0 < 2 by decide); omega), Int.natCast_add]
end Go.Sv
namespace Go.Proofs.YtpoddmkimhkmoaaGreat
open Go.RowKit Go.Sv

/-- two numbers and an error -/
def DRes (w : World) (l m : List Int) (E : Int) (v : Value) (w' : World) : Prop :=
  ∃ q r : LmP, v = .tuple #[natV l q, natV m r, .int .i64 E] ∧ RLm w' w'.heap.size l q ∧ RLm w' w'.heap.size m r ∧ Fr w.heap.size q ∧ Fr w.heap.size r ∧ Below w.heap.size w w'
theorem DRes.none_ {w w' : World} {E : Int} (h : Below w.heap.size w w') : DRes w [] [] E (.tuple #[.agg #[.slice none 0 0], .agg #[.slice none 0 0], .int .i64 E]) w' :=
  ⟨⟨none, 0⟩, ⟨none, 0⟩, rfl, RLm.none_ _ _, RLm.none_ _ _, Fr.none_ _, Fr.none_ _, h⟩
theorem dres_put {w w3 w5 w' : World} {b c : Nat} {l m : List Int} {q r : LmP} {E : Int} (h3 : Below w.heap.size w w3) (hs : w.heap.size ≤ b) (hs' : w.heap.size ≤ c) (hb : b < w3.heap.size) (hc : c < w3.heap.size)
    (hr : RLm w5 w5.heap.size l q) (hf : Fr w3.heap.size q) (b5 : Below w3.heap.size w3 w5) (hr' : RLm w' w'.heap.size m r) (hf' : Fr w5.heap.size r) (b6 : Below w5.heap.size w5 w') :
    DRes w l m E (.tuple #[natV l q, natV m r, .int .i64 E]) ((w'.setCell ⟨b, 0, none⟩ (rowV l q)).setCell ⟨c, 0, none⟩ (rowV m r)) :=
  ⟨q, r, rfl, rlm_put (rlm_put (hr.to b6) (hf.le hb) _) (hf.le hc) _, rlm_put (rlm_put hr' ((hf'.le b5.size).le hb) _) ((hf'.le b5.size).le hc) _, hf.le h3.size, (hf'.le b5.size).le h3.size,
    ((below_of h3 h3.size (b5.trans (b6.mono b5.size))).setCell hs _).setCell hs' _⟩
theorem RowAt.low {w w' : World} {g B : Nat} {l : List Int} (h : RowAt w g l) (hb : Below B w w') (hB : g < B) : RowAt w' g l :=
  ⟨Nat.lt_of_lt_of_le h.lt hb.size, fun k hk => (hb.cell hB).trans (h.cell k hk), fun k => (hb.frozen hB).trans (h.free k)⟩
theorem RowAt.only {w w' : World} {g g' : Nat} {l : List Int} (h : RowAt w g l) (ho : OnlyAt g' w w') (hB : g ≠ g') : RowAt w' g l :=
  ⟨by rw [ho.size]; exact h.lt, fun k hk => (ho.cell hB).trans (h.cell k hk), fun k => (ho.frozen hB).trans (h.free k)⟩
structure LdI (a b : List Int) (gq gr : Nat) (w2 : World) (s : Nat) (q r : List Int) (wr : World) : Prop where
  sn : s ≤ 32 * a.length
  lq : q.length = a.length
  qm : Lim q
  qe : vt q a.length = ((vl a / 2 ^ s / vl b * 2 ^ s : Nat) : Int)
  lr : r.length = b.length + 1
  rm : Lim r
  re : vt r (b.length + 1) = ((vl a / 2 ^ s % vl b : Nat) : Int)
  rq : RowAt wr gq q
  rr : RowAt wr gr r
  bel : Below w2.heap.size w2 wr
theorem LdI.to {a b q r : List Int} {gq gr s : Nat} {w2 wr wr' : World} (h : LdI a b gq gr w2 s q r wr) (hb : Below wr.heap.size wr wr') : LdI a b gq gr w2 s q r wr' :=
  ⟨h.sn, h.lq, h.qm, h.qe, h.lr, h.rm, h.re, h.rq.to hb, h.rr.to hb, h.bel.trans (hb.mono h.bel.size)⟩
theorem LdI.start {a b : List Int} {gr : Nat} {w2 w' : World} (ha : Lim a) (_ : 0 < vl b) (h1 : RowAt w' w2.heap.size (zer a.length)) (h2 : RowAt w' gr (zer (b.length + 1))) (hbel : Below w2.heap.size w2 w') : LdI a b w2.heap.size gr w2 (32 * a.length) (zer a.length) (zer (b.length + 1)) w' := by
  have h0 := bit_out ha (vl_vt ha) (Nat.le_refl _)
  refine ⟨Nat.le_refl _, zer_len _, zer_lim _, ?_, zer_len _, zer_lim _, ?_, h1, h2, hbel⟩
  · rw [vt_zer, h0, Nat.zero_div, Nat.zero_mul]; rfl
  · rw [vt_zer, h0, Nat.zero_mod]; rfl
structure SlI (r0 : List Int) (e : Int) (g : Nat) (w : World) (k : Nat) (o : List Int) (c : Int) (wr : World) : Prop where
  kn : k ≤ r0.length
  c0 : 0 ≤ c
  c1 : c ≤ 1
  len : o.length = r0.length
  lo : Lim o
  eq : vt o k + c * Bp k = vt r0 k * 2 + e
  same : ∀ j, k ≤ j → gi o j = gi r0 j
  row : RowAt wr g o
  bel : OnlyAt g w wr
theorem SlI.step {r0 o : List Int} {e c t : Int} {g k : Nat} {w wr : World} (h : SlI r0 e g w k o c wr) (hr : Lim r0) (hk : k < r0.length) (ht : gi r0 k * 2 + c = t) :
    SlI r0 e g w (k + 1) (o.set k (t % 4294967296)) (t / 4294967296) (wr.setCell ⟨g, k, none⟩ (.int .u32 (t % 4294967296))) := by
  subst ht
  have x := hr.at k
  have hl := h.len
  have c0 := h.c0
  have c1 := h.c1
  exact ⟨hk, by omega, by omega, by rw [List.length_set]; exact hl, h.lo.set (by omega) (by omega), shl_step2 (by omega) h.eq, fun j hj => by rw [gi_set_ne (by omega)]; exact h.same j (by omega), h.row.set (by omega) _, h.bel.setCell _ _⟩
/-- nothing runs out at the top -/
theorem SlI.fin {r0 o : List Int} {c : Int} {g n β R B : Nat} {w wr : World} (h : SlI r0 (β : Int) g w (n + 1) o c wr) (_ : r0.length = n + 1) (hR : vt r0 (n + 1) = (R : Int)) (hRB : R < B) (hBn : (B : Int) < Bp n) (hβ : β ≤ 1) : vt o (n + 1) = ((2 * R + β : Nat) : Int) := by
  have e := h.eq
  have hb := vt_bd h.lo (n + 1)
  have c0 := h.c0
  have hp := Bp_succ n
  rw [hR] at e
  rcases (by omega : c = 0 ∨ 1 ≤ c) with d | d
  · subst d; rw [Int.zero_mul] at e; omega
  · exfalso
    have : 1 * Bp (n + 1) ≤ c * Bp (n + 1) := Int.mul_le_mul_of_nonneg_right d (by have := Bp_pos (n + 1); omega)
    omega
theorem LdI.no {a b q r o : List Int} {gq gr i : Nat} {w2 wr wr' : World} (h : LdI a b gq gr w2 (i + 1) q r wr) (hq : RowAt wr' gq q) (hlen : o.length = b.length + 1) (hlim : Lim o) (hrow : RowAt wr' gr o) (hbel : Below w2.heap.size w2 wr')
    (hv : vt o (b.length + 1) = ((2 * (vl a / 2 ^ (i + 1) % vl b) + vl a / 2 ^ i % 2 : Nat) : Int)) (hlt : 2 * (vl a / 2 ^ (i + 1) % vl b) + vl a / 2 ^ i % 2 < vl b) : LdI a b gq gr w2 i q o wr' := by
  obtain ⟨e1, e2⟩ := ld_no hlt
  have hs := h.sn
  exact ⟨by omega, h.lq, h.qm, by rw [h.qe, e2], hlen, hlim, by rw [hv, e1], hq, hrow, hbel⟩
theorem LdI.yes {a b q r o : List Int} {gq gr i : Nat} {x : Int} {w2 wr wr' : World} (h : LdI a b gq gr w2 (i + 1) q r wr) (hb0 : 0 < vl b) (hx : x = gi q (i / 32) + ((2 ^ (i % 32) : Nat) : Int)) (hq : RowAt wr' gq (q.set (i / 32) x)) (hlen : o.length = b.length + 1) (hlim : Lim o) (hrow : RowAt wr' gr o) (hbel : Below w2.heap.size w2 wr')
    (hv : vt o (b.length + 1) = ((2 * (vl a / 2 ^ (i + 1) % vl b) + vl a / 2 ^ i % 2 - vl b : Nat) : Int)) (hge : vl b ≤ 2 * (vl a / 2 ^ (i + 1) % vl b) + vl a / 2 ^ i % 2) : LdI a b gq gr w2 i (q.set (i / 32) x) o wr' := by
  obtain ⟨e1, e2⟩ := ld_yes hb0 hge
  have hs := h.sn
  subst hx
  obtain ⟨m, hm, hlt⟩ := bit_free h.qm h.qe (by omega)
  have hg := h.qm.at (i / 32)
  rw [two32] at hlt
  have hset : 0 ≤ gi q (i / 32) + ((2 ^ (i % 32) : Nat) : Int) ∧ gi q (i / 32) + ((2 ^ (i % 32) : Nat) : Int) < 4294967296 := by
    rw [hm]
    generalize m * 2 ^ (i % 32 + 1) = y at *
    generalize 2 ^ (i % 32) = z at *
    omega
  refine ⟨by omega, by rw [List.length_set]; exact h.lq, h.qm.set hset.1 hset.2, ?_, hlen, hlim, by rw [hv, e1], hq, hrow, hbel⟩
  rw [bit_set h.lq.symm (by omega) h.qe, e2]
theorem cmpL_ge {o b : List Int} {R : Nat} (ho : vt o o.length = (R : Int)) (hb : Lim b) : decide (0 ≤ cmpL o b) = decide (vl b ≤ R) := by
  unfold cmpL
  rw [ho, vl_vt hb, Bool.eq_iff_iff, decide_eq_true_iff, decide_eq_true_iff]
  unfold cmpV
  split
  · constructor <;> intro h <;> omega
  · split
    · constructor <;> intro h <;> omega
    · constructor <;> intro h <;> omega
end Go.Proofs.YtpoddmkimhkmoaaGreat

namespace Go.Proofs.YtpoddmkimhkmoaaGreat
open Go.RowKit Go.Sv

set_option maxHeartbeats 4000000 in
set_option maxRecDepth 100000 in
theorem rdiv_ok (a b : List Int) (q r : LmP) (w : World) (h : RLm w w.heap.size a q) (h' : RLm w w.heap.size b r) (ha : Lim a) (hb : Lim b) (va : vN a = true) (vb : vN b = true) (hb0 : 0 < vl b) :
    Calls Tryz.prog 78 #[natV a q, natV b r] w (Ret (DRes w (lim (vl a / vl b)) (lim (vl a % vl b)) 0)) := by
  obtain ⟨na, ca⟩ := vN_can va
  obtain ⟨nb, cb⟩ := vN_can vb
  have hbx : Hid (∀ o1 o2 o3 o4 : Obj, Below w.heap.size w ((((w.alloc o1).alloc o2).alloc o3).alloc o4)) := Lib.hid fun o1 o2 o3 o4 => ((((Below.refl _ _).alloc (Nat.le_refl _) o1).alloc (by simp) o2).alloc (by simp; omega) o3).alloc (by simp; omega) o4
  have HVa := Lib.hid (fun w' (hw : Below w.heap.size w w') => rvalid_any a q w' (h.to hw))
  have HVb := Lib.hid (fun w' (hw : Below w.heap.size w w') => rvalid_any b r w' (h'.to hw))
  rw [va] at HVa
  rw [vb] at HVb
  have HBit := Lib.hid (fun w' (k : Nat) (hw : Below w.heap.size w w') (hk : k ≤ 1000000) => rbit_any a q k w' (h.to hw) ha hk)
  have HB := Lib.hid (fun w' (k : Nat) (hw : Below w.heap.size w w') => limb_any b r k w' (h'.to hw) hb (by omega))
  simp only [Int.toNat_natCast] at HB
  have HCmp := Lib.hid (fun w' g o (hw : Below w.heap.size w w') (ho : RowAt w' g o) (hol : o.length = b.length + 1) (hlo : Lim o) => rcmp_any o b ⟨some ⟨g, 0, none⟩, b.length + 1⟩ r w' (ho.rlm hol (Nat.le_refl _) (by show b.length + 1 ≤ maxLen; unfold maxLen; omega)) (h'.to hw) hlo hb)
  have hbB : Hid ((vl b : Int) < Bp b.length) := Lib.hid (by rw [← vl_vt hb]; exact (vt_bd hb b.length).2)
  have hbl : b.length ≠ 0 := fun e => by
    have : b = [] := List.eq_nil_of_length_eq_zero e
    subst this
    exact absurd hb0 (by decide)
  obtain ⟨qa, qc⟩ := q
  obtain ⟨ra, rc⟩ := r
  have hB1 : Hid (Box1 ((((w.alloc (.cells #[.slice qa a.length qc] 24)).alloc (.cells #[.slice ra b.length rc] 24)).alloc (.cells #[.slice none 0 0] 24)).alloc (.cells #[.slice none 0 0] 24)) w.heap.size (.slice qa a.length qc)) :=
    Lib.hid (((Box1.new.to ((Below.refl _ _).alloc (Nat.le_refl _) _)).to ((Below.refl _ _).alloc (Nat.le_refl _) _)).to ((Below.refl _ _).alloc (Nat.le_refl _) _))
  have hB2 : Hid (Box1 ((((w.alloc (.cells #[.slice qa a.length qc] 24)).alloc (.cells #[.slice ra b.length rc] 24)).alloc (.cells #[.slice none 0 0] 24)).alloc (.cells #[.slice none 0 0] 24)) (w.heap.size + 1) (.slice ra b.length rc)) :=
    Lib.hid (by have := Box1.new (w := w.alloc (.cells #[.slice qa a.length qc] 24)) (e := 24) (v := .slice ra b.length rc); rw [World.size_alloc] at this; exact (this.to ((Below.refl _ _).alloc (Nat.le_refl _) _)).to ((Below.refl _ _).alloc (Nat.le_refl _) _))
  have hRB : Hid (ResB ((((w.alloc (.cells #[.slice qa a.length qc] 24)).alloc (.cells #[.slice ra b.length rc] 24)).alloc (.cells #[.slice none 0 0] 24)).alloc (.cells #[.slice none 0 0] 24)) (w.heap.size + 1 + 1) (.slice none 0 0)) :=
    Lib.hid ((ResB.new' (by simp)).to ((Below.refl _ _).alloc (Nat.le_refl _) _))
  have hRC : Hid (ResB ((((w.alloc (.cells #[.slice qa a.length qc] 24)).alloc (.cells #[.slice ra b.length rc] 24)).alloc (.cells #[.slice none 0 0] 24)).alloc (.cells #[.slice none 0 0] 24)) (w.heap.size + 1 + 1 + 1) (.slice none 0 0)) :=
    Lib.hid (ResB.new' (by simp))
  obtain ⟨Oq, mkq, BLq⟩ := mk_rowAt a.length (by omega) (x := (a.length : Int)) rfl
  obtain ⟨Or, mkr, BLr⟩ := mk_rowAt (b.length + 1) (by omega) (x := (b.length : Int) + 1) (by omega)
  replace BLq := Lib.hid BLq
  replace BLr := Lib.hid BLr
  have d0 : ((b.length : Int) == 0) = false := beq_eq_false_iff_ne.2 (by omega)
  clear h h' va vb ca cb
  replace hbl := Lib.hid hbl
  go_enter Tryz.func78, Tryz.ntmps78
  go_wp2_with fail
  refine (HVa.out _ (hbx.out _ _ _ _)).mono ?_
  rintro e w0 ⟨rfl, hb0'⟩
  have W1 := Lib.hid (hB1.out.to hb0')
  have W2 := Lib.hid (hB2.out.to hb0')
  have WR := Lib.hid (hRB.out.to hb0')
  have WC := Lib.hid (hRC.out.to hb0')
  have hbw0 := Lib.hid (below_of (hbx.out _ _ _ _) (hbx.out _ _ _ _).size hb0')
  clear hb0'
  obtain ⟨z1, y1⟩ := W2.out
  go_wp2_with fail
  refine (HVb.out _ hbw0.out).mono ?_
  rintro e w2 ⟨rfl, hb1⟩
  have X1 := Lib.hid (W1.out.to hb1)
  have X2 := Lib.hid (W2.out.to hb1)
  have XR := Lib.hid (WR.out.to hb1)
  have XC := Lib.hid (WC.out.to hb1)
  have hbw := Lib.hid (below_of hbw0.out hbw0.out.size hb1)
  have hz := XC.out.z
  clear hb1 z1 y1 W1 W2 WR WC
  obtain ⟨z0, y0⟩ := X1.out
  obtain ⟨z1, y1⟩ := X2.out
  have I0 : Hid (LdI a b w2.heap.size (w2.heap.size + 1) w2 (32 * a.length) (zer a.length) (zer (b.length + 1)) ((w2.alloc Oq).alloc Or)) :=
    Lib.hid (LdI.start ha hb0 ((BLq.out w2).to ((Below.refl _ _).alloc (Nat.le_refl _) _)) (by have := BLr.out (w2.alloc Oq); rw [World.size_alloc] at this; exact this) (((Below.refl _ _).alloc (Nat.le_refl _) _).alloc (by simp) _))
  go_wp2
  go_loopw [9, 10, 11, 12, 13, 14, 15] (fun s9 _ _ _ _ _ _ wr => ∃ (s : Nat) (q r : List Int), s9 = .int .i64 ((s : Int) - 1) ∧ LdI a b w2.heap.size (w2.heap.size + 1) w2 s q r wr) (fun s9 _ _ _ _ _ _ _ => (intOf s9 + 1).toNat)
  case atStart => exact ⟨32 * a.length, zer a.length, zer (b.length + 1), val_i (by omega), I0.out⟩
  case round =>
    clear mkq mkr I0 z0 y0 z1 y1
    obtain ⟨s, q, r, rfl, I⟩ := hrel
    have hbr := Lib.hid (below_of hbw.out hbw.out.size I.bel)
    have hsn := I.sn
    have hlq := I.lq
    have hlr := I.lr
    cases s with
    | zero =>
      have e1 : ((0 : Nat) : Int) - 1 = -1 := by decide
      rw [e1]
      clear e1
      have hvq : vt q q.length = ((vl a / vl b : Nat) : Int) := by rw [hlq, I.qe, Nat.pow_zero, Nat.div_one, Nat.mul_one]
      have hvr : vt r r.length = ((vl a % vl b : Nat) : Int) := by rw [hlr, I.re, Nat.pow_zero, Nat.div_one]
      have nq := norm_lim I.qm hvq
      have nr := norm_lim I.rm hvr
      have HT := Lib.hid (fun w' (hw : Below wr.heap.size wr w') => rtrim_any q ⟨some ⟨w2.heap.size, 0, none⟩, a.length⟩ w' ((I.rq.to hw).rlm hlq (Nat.le_refl _) (by show a.length ≤ maxLen; unfold maxLen; omega)) (by omega))
      have HU := Lib.hid (fun w' (hw : Below wr.heap.size wr w') => rtrim_any r ⟨some ⟨w2.heap.size + 1, 0, none⟩, b.length + 1⟩ w' ((I.rr.to hw).rlm hlr (Nat.le_refl _) (by show b.length + 1 ≤ maxLen; unfold maxLen; omega)) (by omega))
      rw [nq, hlq] at HT
      rw [nr, hlr] at HU
      dsimp only at HT HU
      have R1 := Lib.hid (XR.out.low I.bel (by omega))
      have R2 := Lib.hid (XC.out.low I.bel (by omega))
      have HT1 := Lib.hid (HT.out wr (Below.refl _ _))
      obtain ⟨m, hm⟩ : ∃ m, lim (vl a / vl b) = m := ⟨_, rfl⟩
      obtain ⟨n, hn⟩ : ∃ n, lim (vl a % vl b) = n := ⟨_, rfl⟩
      rw [hm] at HT1
      rw [hn] at HU
      replace hm := Lib.hid hm
      replace hn := Lib.hid hn
      clear nq nr hvq hvr HT I hlq hlr hsn
      go_wp2_with fail
      refine HT1.out.mono ?_
      rintro e w3 ⟨_, rfl, q5, rfl, hr5, hf5, hb5⟩
      have HU1 := Lib.hid (HU.out w3 hb5)
      have hb5' := Lib.hid hb5
      replace hr5 := Lib.hid hr5
      replace hf5 := Lib.hid hf5
      clear hb5
      go_wp2_with fail
      refine HU1.out.mono ?_
      rintro e w5 ⟨_, rfl, q6, rfl, hr6, hf6, hb6⟩
      have hR := Lib.hid (dres_put (E := 0) hbr.out (show w.heap.size ≤ w.heap.size + 1 + 1 by omega) (show w.heap.size ≤ w.heap.size + 1 + 1 + 1 by omega) R1.out.z R2.out.z hr5.out hf5.out hb5'.out hr6 hf6 hb6)
      have b56 := hb5'.out.trans (hb6.mono hb5'.out.size)
      obtain ⟨s0, s1, s2⟩ := R1.out.to b56
      obtain ⟨s3, s4, s5⟩ := R2.out.to b56
      clear hr6 hf6 hb6 b56
      go_wp2
      refine bodyPost_ret (v := .tuple #[natV m q5, natV n q6, .int .i64 0]) (by simp [results, Tryz.results78, go_sem, s1, s4]) rfl ?_
      rw [hm.out, hn.out]
      exact Ret.mk hR.out
    | succ i =>
      have e1 : ((i + 1 : Nat) : Int) - 1 = (i : Int) := by omega
      rw [e1]
      clear e1
      have i0 : (0 : Int) ≤ i := by omega
      obtain ⟨z0, y0⟩ := X1.out.low I.bel (by omega)
      have HB1 := Lib.hid (HBit.out wr i hbr.out (by omega))
      obtain ⟨β, hβ⟩ : ∃ β, vl a / 2 ^ i % 2 = β := ⟨_, rfl⟩
      have β2 : β < 2 := by rw [← hβ]; exact Nat.mod_lt _ (by decide)
      rw [hβ] at HB1
      replace hβ := Lib.hid hβ
      rename World => wo
      go_wp2_with fail
      refine HB1.out.mono ?_
      rintro e w4 ⟨rfl, hb4⟩
      have I4 := Lib.hid (I.to hb4)
      clear I hb4 hbr z0 y0 HB1
      go_upto_if 52 with fail
      go_cut [10] (fun s10 wx => s10 = .int .u32 (β : Int) ∧ w4 = wx)
      case first =>
        rcases (by omega : β = 0 ∨ β = 1) with e | e
        · subst e
          have dd : decide ((0 : Nat) = 1) = false := by decide
          go_wp2_with fail
          go_meet
          exact ⟨rfl, rfl⟩
        · subst e
          have dd : decide ((1 : Nat) = 1) = true := by decide
          go_wp2_with fail
          go_meet
          exact ⟨rfl, rfl⟩
      case rest =>
        obtain ⟨rfl, rfl⟩ := hcut
        go_wp2
        go_loopw [10, 11, 12] (fun s10 s11 _ wi => ∃ (k : Nat) (o : List Int) (c : Int), s11 = .int .i64 k ∧ s10 = .int .u32 c ∧ SlI r (β : Int) (w2.heap.size + 1) w4 k o c wi) (fun _ s11 _ _ => b.length + 1 - (intOf s11).toNat)
        case atStart => exact ⟨0, r, β, rfl, rfl, ⟨Nat.zero_le _, by omega, by omega, rfl, I4.out.rm, by simp [vt, Bp_zero], fun _ _ => rfl, I4.out.rr, OnlyAt.refl _ _⟩⟩
        case round =>
          obtain ⟨k, o, c, rfl, rfl, J⟩ := hrel
          have hlo := J.len
          have hkn := J.kn
          have c0 := J.c0
          have c1 := J.c1
          have hgl := J.row.lt
          by_cases hk : k < b.length + 1
          · have t1 : decide ((k : Int) < (b.length : Int) + 1) = true := decide_eq_true (by omega)
            have t1' : decide (k < b.length + 1) = true := decide_eq_true hk
            have x := I4.out.rm.at k
            have y2 := J.row.cell k (by omega)
            rw [J.same _ (Nat.le_refl _)] at y2
            have f2 := J.row.free k
            obtain ⟨o1, o2⟩ := or_low x.1 x.2 c0 c1
            have S := Lib.hid (J.step I4.out.rm (by omega) rfl)
            have k0 : (0 : Int) ≤ k := by omega
            have ik' : (k : Int) < (b.length : Int) + 1 := by omega
            obtain ⟨x0, x1⟩ := x
            clear J hlo
            go_wp2
            go_roundw
            case rel => exact ⟨k + 1, _, _, by go_num, rfl, S.out⟩
            case measure => simp [intOf]; omega
          · obtain rfl : k = b.length + 1 := by omega
            have t1 : decide ((b.length : Int) < (b.length : Int)) = false := by rw [decide_eq_false_iff_not]; omega
            have hR1 : vl a / 2 ^ (i + 1) % vl b < vl b := Nat.mod_lt _ hb0
            have hv := J.fin hlr I4.out.re hR1 hbB.out (by omega)
            have hbel5 := (I4.out.bel.trans (J.bel.below (by omega)))
            have hbr5 := Lib.hid (below_of hbw.out hbw.out.size hbel5)
            have hrow := J.row
            have hlim := J.lo
            have hCm := HCmp.out wr _ o hbr5.out hrow (by omega) hlim
            have hq5 := I4.out.rq.only J.bel (by omega)
            have ge := cmpL_ge (o := o) (b := b) (R := 2 * (vl a / 2 ^ (i + 1) % vl b) + β) (by rw [hlo, hlr]; exact hv) hb
            obtain ⟨cv, hcv⟩ : ∃ cv, cmpL o b = cv := ⟨_, rfl⟩
            rw [hcv] at hCm ge
            have hol : o.length = b.length + 1 := by omega
            dsimp only [natV] at hCm
            rw [hol] at hCm
            replace hCm := Lib.hid hCm
            replace hol := Lib.hid hol
            obtain ⟨z1, y1⟩ := X2.out.low hbel5 (by omega)
            replace hbel5 := Lib.hid hbel5
            replace hv := Lib.hid hv
            replace hrow := Lib.hid hrow
            replace hq5 := Lib.hid hq5
            clear J hcv hlo hgl
            have hI := Lib.hid (fun wr' (hb6 : Below wr.heap.size wr wr') => (hq5.out.to hb6))
            by_cases hge : vl b ≤ 2 * (vl a / 2 ^ (i + 1) % vl b) + β
            · have d1 : decide (0 ≤ cv) = true := by rw [ge]; exact decide_eq_true hge
              replace hge := Lib.hid hge
              clear ge hR1
              go_wp2_with fail
              refine hCm.out.mono ?_
              rintro e w6 ⟨rfl, hb6⟩
              have hrow6 := Lib.hid (hrow.out.to hb6)
              have hq6 := Lib.hid (hq5.out.to hb6)
              have hbel6 := Lib.hid (hbel5.out.trans (hb6.mono hbel5.out.size))
              have hbr6 := Lib.hid (below_of hbr5.out hbr5.out.size hb6)
              clear hb6 z1 y1
              go_wp2
              go_loopw [13, 14, 15] (fun s13 s14 _ wi => ∃ (k : Nat) (o2 : List Int) (c : Int), s14 = .int .i64 k ∧ s13 = .int .i64 c ∧ SubI o b (w2.heap.size + 1) w6 k o2 c wi) (fun _ s14 _ _ => b.length + 1 - (intOf s14).toNat)
              case atStart => exact ⟨0, o, 0, rfl, rfl, ⟨Nat.zero_le _, Int.le_refl _, by decide, rfl, hlim, by simp [vt], fun _ _ => rfl, hrow6.out, Below.refl _ _⟩⟩
              case round =>
                clear c0 c1 hkn
                obtain ⟨k, o2, c, rfl, rfl, J⟩ := hrel
                have hlj := J.len
                rw [hol.out] at hlj
                have olim := hlim
                have hkn := J.kn
                rw [hol.out] at hkn
                have c0 := J.c0
                have c1 := J.c1
                have hgl := J.row.lt
                have hw6 := hbel6.out.size
                have hbelJ := Lib.hid (hbel6.out.trans (J.bel.mono (by omega)))
                have hbrJ := Lib.hid (hbw.out.trans (hbelJ.out.mono hbw.out.size))
                by_cases hk' : k < b.length + 1
                · have hk : k < o.length := by rw [hol.out]; exact hk'
                  have t1 : decide ((k : Int) < (b.length : Int) + 1) = true := decide_eq_true (by omega)
                  have t1' : decide (k < b.length + 1) = true := decide_eq_true hk'
                  have xo := hlim.at k
                  have xb := hb.at k
                  have y2 := J.row.cell k (by omega)
                  rw [J.same _ (Nat.le_refl _)] at y2
                  obtain ⟨z1, y1⟩ := X2.out.low hbelJ.out (by omega)
                  have k0 : (0 : Int) ≤ k := by omega
                  have ik' : (k : Int) < (b.length : Int) + 1 := by omega
                  have wr1 : IntKind.i64.wrap (gi o k) = gi o k := IntWalk.i64_in _ (by omega)
                  have wr2 : IntKind.i64.wrap (gi b k) = gi b k := IntWalk.i64_in _ (by omega)
                  have wr3 : IntKind.i64.wrap (gi o k - gi b k) = gi o k - gi b k := IntWalk.i64_in _ (by omega)
                  have wr4 : IntKind.i64.wrap (gi o k - gi b k - c) = gi o k - gi b k - c := IntWalk.i64_in _ (by omega)
                  have hG : Hid (∀ x : GrowX wr, Below w.heap.size w (grow wr x)) := Lib.hid fun x => below_of hbrJ.out hbrJ.out.size (grow_is wr x)
                  by_cases gd : gi o k - gi b k - c < 0
                  · have d5 : decide (gi o k - gi b k - c < 0) = true := by first | (rw [decide_eq_false_iff_not]; omega) | (rw [decide_eq_true_iff]; omega)
                    have cE : Hid (bor (gi o k - gi b k - c) = 1) := Lib.hid (by unfold bor; rw [if_pos (by omega)])
                    clear gd
                    go_wp2_with fail
                    refine wp_region_calm (by kernel_rfl) (by kernel_rfl) ?_
                    repeat (go_big_quiet_step (((go_at_call 79; (with_reducible exact calm_b (HB.out _ _ (hG.out _)))))))
                    refine wpQuiet_nil ?_
                    intro w8 hw8
                    have hg := grow_below hw8
                    clear hw8
                    have J8 : SubI o b (w2.heap.size + 1) w6 k o2 c w8 := ⟨J.kn, J.c0, J.c1, J.len, J.lo, J.eq, J.same, J.row.to hg, J.bel.trans (hg.mono (Nat.le_of_lt J.row.lt))⟩
                    have S := J8.step olim hb hk
                    rw [cE.out] at S
                    have y3 := J8.row.cell k (by omega)
                    have f3 := J8.row.free k
                    have hgl3 := J8.row.lt
                    replace S := Lib.hid S
                    clear J J8 hlj hg hG z1 y1 y2 wr1 wr2 wr3 wr4
                    go_wp2
                    go_roundw
                    case rel => exact ⟨k + 1, _, _, by go_num, rfl, S.out⟩
                    case measure => simp [intOf]; omega
                  · have d5 : decide (gi o k - gi b k - c < 0) = false := by first | (rw [decide_eq_false_iff_not]; omega) | (rw [decide_eq_true_iff]; omega)
                    have cE : Hid (bor (gi o k - gi b k - c) = 0) := Lib.hid (by unfold bor; rw [if_neg (by omega)])
                    clear gd
                    go_wp2_with fail
                    refine wp_region_calm (by kernel_rfl) (by kernel_rfl) ?_
                    repeat (go_big_quiet_step (((go_at_call 79; (with_reducible exact calm_b (HB.out _ _ (hG.out _)))))))
                    refine wpQuiet_nil ?_
                    intro w8 hw8
                    have hg := grow_below hw8
                    clear hw8
                    have J8 : SubI o b (w2.heap.size + 1) w6 k o2 c w8 := ⟨J.kn, J.c0, J.c1, J.len, J.lo, J.eq, J.same, J.row.to hg, J.bel.trans (hg.mono (Nat.le_of_lt J.row.lt))⟩
                    have S := J8.step olim hb hk
                    rw [cE.out] at S
                    have y3 := J8.row.cell k (by omega)
                    have f3 := J8.row.free k
                    have hgl3 := J8.row.lt
                    replace S := Lib.hid S
                    clear J J8 hlj hg hG z1 y1 y2 wr1 wr2 wr3 wr4
                    go_wp2
                    go_roundw
                    case rel => exact ⟨k + 1, _, _, by go_num, rfl, S.out⟩
                    case measure => simp [intOf]; omega
                · obtain rfl : k = b.length + 1 := by omega
                  have t1 : decide ((b.length : Int) < (b.length : Int)) = false := by rw [decide_eq_false_iff_not]; omega
                  have hvb : vt b (b.length + 1) = (vl b : Int) := by rw [vt_more (by omega), vl_vt hb]
                  have hle2 : vt b o.length ≤ vt o o.length := by rw [hol.out, hvb, hv.out]; have := hge.out; omega
                  have hJe := J.eq
                  rw [← hol.out] at hJe
                  obtain ⟨rfl, hv2⟩ := sub_end J.lo hle2 c0 c1 hJe
                  rw [hol.out, hvb, hv.out] at hv2
                  have hqJ := hq6.out.low J.bel (by omega)
                  have hig : i / 32 < a.length := by omega
                  have yq := hqJ.cell (i / 32) (by omega)
                  have fq := hqJ.free (i / 32)
                  have hgq := hqJ.lt
                  obtain ⟨m, hm, hmlt⟩ := bit_free I4.out.qm I4.out.qe (by omega : i < 32 * a.length)
                  have eo := Lib.hid (or_bit32 hm hmlt)
                  have pw : Hid ((2 : Int) ^ (i % 32) % 4294967296 = ((2 ^ (i % 32) : Nat) : Int)) := Lib.hid (by
                    rw [two32] at hmlt
                    have e : (2 : Int) ^ (i % 32) = ((2 ^ (i % 32) : Nat) : Int) := by push_cast; rfl
                    rw [e]
                    generalize m * 2 ^ (i % 32 + 1) = y at *
                    generalize 2 ^ (i % 32) = z at *
                    omega)
                  have S := Lib.hid (LdI.yes (x := gi q (i / 32) + ((2 ^ (i % 32) : Nat) : Int)) I4.out hb0 rfl ((hqJ.set (k := i / 32) (by omega) (gi q (i / 32) + ((2 ^ (i % 32) : Nat) : Int))).drawn (Drawn.of 1)) hlj J.lo
                    ((J.row.only ((OnlyAt.refl w2.heap.size wr).setCell (i / 32) (.int .u32 (gi q (i / 32) + ((2 ^ (i % 32) : Nat) : Int)))) (by omega)).drawn (Drawn.of 1)) ((hbelJ.out.setCell (Nat.le_refl _) _).drawn (Drawn.of 1))
                    (by rw [hβ.out, hv2]; have := hge.out; omega) (by rw [hβ.out]; exact hge.out))
                  have wq : IntKind.i64.wrap ((i : Int) / 32) = (i : Int) / 32 := IntWalk.i64_in _ (by omega)
                  have wm : IntKind.i64.wrap ((i : Int) % 32) = (i : Int) % 32 := IntWalk.i64_in _ (by omega)
                  have n1 : ((i : Int) / 32).toNat = i / 32 := by omega
                  have n2 : ((i : Int) % 32).toNat = i % 32 := by omega
                  have n3 : (0 : Int) ≤ (i : Int) / 32 := by omega
                  have n4 : (i : Int) / 32 < (a.length : Int) := by omega
                  have n5 : (0 : Int) ≤ (i : Int) % 32 := by omega
                  have n6 : (i : Int) % 32 ≤ 32 := by omega
                  have tm : (i : Int).tmod 32 = (i : Int) % 32 := Int.tmod_eq_emod_of_nonneg i0
                  clear hJe hv2 hvb hle2 hqJ hm hmlt J
                  go_wp2
                  go_region_law ((fail))
                  go_wp2
                  go_roundw
                  case rel =>
                    refine ⟨i, q.set (i / 32) (gi q (i / 32) + ((2 ^ (i % 32) : Nat) : Int)), o2, rfl, ?_⟩
                    rw [pw.out, eo.out]
                    exact S.out
                  case measure => simp [intOf]
            · have d1 : decide (0 ≤ cv) = false := by rw [ge]; exact decide_eq_false hge
              replace hge := Lib.hid hge
              clear ge hR1
              go_wp2_with fail
              refine hCm.out.mono ?_
              rintro e w6 ⟨rfl, hb6⟩
              have S : Hid (LdI a b w2.heap.size (w2.heap.size + 1) w2 i q o w6) := Lib.hid (LdI.no I4.out (hq5.out.to hb6) hol.out hlim (hrow.out.to hb6) (hbel5.out.trans (hb6.mono hbel5.out.size)) (by rw [hβ.out]; exact hv.out) (by rw [hβ.out]; have := hge.out; omega))
              clear hb6 z1 y1
              go_wp2
              go_roundw
              case rel => exact ⟨i, q, o, rfl, S.out⟩
              case measure => simp [intOf]
end Go.Proofs.YtpoddmkimhkmoaaGreat

namespace Go.Sv
def divE (a b : List Int) : Int := if (Proofs.YtpoddmkimhkmoaaGreat.vN a && Proofs.YtpoddmkimhkmoaaGreat.vN b) = true then (if vl b = 0 then 8 else 0) else 1
def quoV (a b : List Int) : List Int := if (Proofs.YtpoddmkimhkmoaaGreat.vN a && Proofs.YtpoddmkimhkmoaaGreat.vN b) = true ∧ vl b ≠ 0 then lim (vl a / vl b) else []
def remV (a b : List Int) : List Int := if (Proofs.YtpoddmkimhkmoaaGreat.vN a && Proofs.YtpoddmkimhkmoaaGreat.vN b) = true ∧ vl b ≠ 0 then lim (vl a % vl b) else []
end Go.Sv
namespace Go.Proofs.YtpoddmkimhkmoaaGreat
open Go.RowKit Go.Sv

set_option maxRecDepth 100000 in
theorem rdiv_no (a b : List Int) (q r : LmP) (w : World) (h : RLm w w.heap.size a q) (h' : RLm w w.heap.size b r) (hv : (vN a && vN b) = false) :
    Calls Tryz.prog 78 #[natV a q, natV b r] w (Ret (DRes w [] [] 1)) := by
  have hbx : Hid (∀ o1 o2 o3 o4 : Obj, Below w.heap.size w ((((w.alloc o1).alloc o2).alloc o3).alloc o4)) := Lib.hid fun o1 o2 o3 o4 => ((((Below.refl _ _).alloc (Nat.le_refl _) o1).alloc (by simp) o2).alloc (by simp; omega) o3).alloc (by simp; omega) o4
  have HVa := Lib.hid (fun w' (hw : Below w.heap.size w w') => rvalid_any a q w' (h.to hw))
  have HVb := Lib.hid (fun w' (hw : Below w.heap.size w w') => rvalid_any b r w' (h'.to hw))
  obtain ⟨qa, qc⟩ := q
  obtain ⟨ra, rc⟩ := r
  have hB2 : Hid (Box1 ((((w.alloc (.cells #[.slice qa a.length qc] 24)).alloc (.cells #[.slice ra b.length rc] 24)).alloc (.cells #[.slice none 0 0] 24)).alloc (.cells #[.slice none 0 0] 24)) (w.heap.size + 1) (.slice ra b.length rc)) :=
    Lib.hid (by have := Box1.new (w := w.alloc (.cells #[.slice qa a.length qc] 24)) (e := 24) (v := .slice ra b.length rc); rw [World.size_alloc] at this; exact (this.to ((Below.refl _ _).alloc (Nat.le_refl _) _)).to ((Below.refl _ _).alloc (Nat.le_refl _) _))
  have hRB : Hid (ResB ((((w.alloc (.cells #[.slice qa a.length qc] 24)).alloc (.cells #[.slice ra b.length rc] 24)).alloc (.cells #[.slice none 0 0] 24)).alloc (.cells #[.slice none 0 0] 24)) (w.heap.size + 1 + 1) (.slice none 0 0)) :=
    Lib.hid ((ResB.new' (by simp)).to ((Below.refl _ _).alloc (Nat.le_refl _) _))
  have hRC : Hid (ResB ((((w.alloc (.cells #[.slice qa a.length qc] 24)).alloc (.cells #[.slice ra b.length rc] 24)).alloc (.cells #[.slice none 0 0] 24)).alloc (.cells #[.slice none 0 0] 24)) (w.heap.size + 1 + 1 + 1) (.slice none 0 0)) :=
    Lib.hid (ResB.new' (by simp))
  clear h h'
  cases va : vN a
  · rw [va] at HVa
    clear hv va
    go_enter Tryz.func78, Tryz.ntmps78
    go_wp2_with fail
    refine (HVa.out _ (hbx.out _ _ _ _)).mono ?_
    rintro e w1 ⟨rfl, hb1⟩
    have XR := Lib.hid (hRB.out.to hb1)
    have XC := Lib.hid (hRC.out.to hb1)
    have hb3 := Lib.hid (below_of (hbx.out _ _ _ _) (hbx.out _ _ _ _).size hb1)
    clear hb1
    obtain ⟨s0, s1, s2⟩ := XR.out
    obtain ⟨s3, s4, s5⟩ := XC.out
    have hb := Lib.hid ((hb3.out.setCell (p := ⟨w.heap.size + 1 + 1, 0, none⟩) (by show w.heap.size ≤ w.heap.size + 1 + 1; omega) (.slice none 0 0)).setCell (p := ⟨w.heap.size + 1 + 1 + 1, 0, none⟩) (by show w.heap.size ≤ w.heap.size + 1 + 1 + 1; omega) (.slice none 0 0))
    go_wp2
    refine bodyPost_ret (v := .tuple #[.agg #[.slice none 0 0], .agg #[.slice none 0 0], .int .i64 1]) (by simp [results, Tryz.results78, go_sem, s1, s4]) rfl ?_
    exact Ret.mk (DRes.none_ hb.out)
  · have vb : vN b = false := by rw [va] at hv; simpa using hv
    rw [va] at HVa
    rw [vb] at HVb
    clear hv va vb
    go_enter Tryz.func78, Tryz.ntmps78
    go_wp2_with fail
    refine (HVa.out _ (hbx.out _ _ _ _)).mono ?_
    rintro e w1 ⟨rfl, hb1⟩
    obtain ⟨z1, y1⟩ := hB2.out.to hb1
    have YR := Lib.hid (hRB.out.to hb1)
    have YC := Lib.hid (hRC.out.to hb1)
    have hbw := Lib.hid (below_of (hbx.out _ _ _ _) (hbx.out _ _ _ _).size hb1)
    clear hb1
    go_wp2_with fail
    refine (HVb.out _ hbw.out).mono ?_
    rintro e w2 ⟨rfl, hb2⟩
    have XR := Lib.hid (YR.out.to hb2)
    have XC := Lib.hid (YC.out.to hb2)
    have hb3 := Lib.hid (below_of hbw.out hbw.out.size hb2)
    clear hb2 z1 y1
    obtain ⟨s0, s1, s2⟩ := XR.out
    obtain ⟨s3, s4, s5⟩ := XC.out
    have hb := Lib.hid ((hb3.out.setCell (p := ⟨w.heap.size + 1 + 1, 0, none⟩) (by show w.heap.size ≤ w.heap.size + 1 + 1; omega) (.slice none 0 0)).setCell (p := ⟨w.heap.size + 1 + 1 + 1, 0, none⟩) (by show w.heap.size ≤ w.heap.size + 1 + 1 + 1; omega) (.slice none 0 0))
    go_wp2
    refine bodyPost_ret (v := .tuple #[.agg #[.slice none 0 0], .agg #[.slice none 0 0], .int .i64 1]) (by simp [results, Tryz.results78, go_sem, s1, s4]) rfl ?_
    exact Ret.mk (DRes.none_ hb.out)

set_option maxRecDepth 100000 in
theorem rdiv_zero (a b : List Int) (q r : LmP) (w : World) (h : RLm w w.heap.size a q) (h' : RLm w w.heap.size b r) (va : vN a = true) (vb : vN b = true) (hb0 : b.length = 0) :
    Calls Tryz.prog 78 #[natV a q, natV b r] w (Ret (DRes w [] [] 8)) := by
  have hbx : Hid (∀ o1 o2 o3 o4 : Obj, Below w.heap.size w ((((w.alloc o1).alloc o2).alloc o3).alloc o4)) := Lib.hid fun o1 o2 o3 o4 => ((((Below.refl _ _).alloc (Nat.le_refl _) o1).alloc (by simp) o2).alloc (by simp; omega) o3).alloc (by simp; omega) o4
  have HVa := Lib.hid (fun w' (hw : Below w.heap.size w w') => rvalid_any a q w' (h.to hw))
  have HVb := Lib.hid (fun w' (hw : Below w.heap.size w w') => rvalid_any b r w' (h'.to hw))
  rw [va] at HVa
  rw [vb] at HVb
  obtain ⟨qa, qc⟩ := q
  obtain ⟨ra, rc⟩ := r
  have hB2 : Hid (Box1 ((((w.alloc (.cells #[.slice qa a.length qc] 24)).alloc (.cells #[.slice ra b.length rc] 24)).alloc (.cells #[.slice none 0 0] 24)).alloc (.cells #[.slice none 0 0] 24)) (w.heap.size + 1) (.slice ra b.length rc)) :=
    Lib.hid (by have := Box1.new (w := w.alloc (.cells #[.slice qa a.length qc] 24)) (e := 24) (v := .slice ra b.length rc); rw [World.size_alloc] at this; exact (this.to ((Below.refl _ _).alloc (Nat.le_refl _) _)).to ((Below.refl _ _).alloc (Nat.le_refl _) _))
  have hRB : Hid (ResB ((((w.alloc (.cells #[.slice qa a.length qc] 24)).alloc (.cells #[.slice ra b.length rc] 24)).alloc (.cells #[.slice none 0 0] 24)).alloc (.cells #[.slice none 0 0] 24)) (w.heap.size + 1 + 1) (.slice none 0 0)) :=
    Lib.hid ((ResB.new' (by simp)).to ((Below.refl _ _).alloc (Nat.le_refl _) _))
  have hRC : Hid (ResB ((((w.alloc (.cells #[.slice qa a.length qc] 24)).alloc (.cells #[.slice ra b.length rc] 24)).alloc (.cells #[.slice none 0 0] 24)).alloc (.cells #[.slice none 0 0] 24)) (w.heap.size + 1 + 1 + 1) (.slice none 0 0)) :=
    Lib.hid (ResB.new' (by simp))
  have d0 : ((b.length : Int) == 0) = true := by rw [hb0]; rfl
  replace hb0 := Lib.hid hb0
  clear h h' va vb
  go_enter Tryz.func78, Tryz.ntmps78
  go_wp2_with fail
  refine (HVa.out _ (hbx.out _ _ _ _)).mono ?_
  rintro e w1 ⟨rfl, hb1⟩
  obtain ⟨z1, y1⟩ := hB2.out.to hb1
  have YR := Lib.hid (hRB.out.to hb1)
  have YC := Lib.hid (hRC.out.to hb1)
  have hbw := Lib.hid (below_of (hbx.out _ _ _ _) (hbx.out _ _ _ _).size hb1)
  have Y2 := Lib.hid (hB2.out.to hb1)
  clear hb1
  go_wp2_with fail
  refine (HVb.out _ hbw.out).mono ?_
  rintro e w2 ⟨rfl, hb2⟩
  have XR := Lib.hid (YR.out.to hb2)
  have XC := Lib.hid (YC.out.to hb2)
  have hb3 := Lib.hid (below_of hbw.out hbw.out.size hb2)
  clear z1 y1
  obtain ⟨z1, y1⟩ := Y2.out.to hb2
  clear hb2
  obtain ⟨s0, s1, s2⟩ := XR.out
  obtain ⟨s3, s4, s5⟩ := XC.out
  have hb := Lib.hid ((hb3.out.setCell (p := ⟨w.heap.size + 1 + 1, 0, none⟩) (by show w.heap.size ≤ w.heap.size + 1 + 1; omega) (.slice none 0 0)).setCell (p := ⟨w.heap.size + 1 + 1 + 1, 0, none⟩) (by show w.heap.size ≤ w.heap.size + 1 + 1 + 1; omega) (.slice none 0 0))
  go_wp2
  refine bodyPost_ret (v := .tuple #[.agg #[.slice none 0 0], .agg #[.slice none 0 0], .int .i64 8]) (by simp [results, Tryz.results78, go_sem, s1, s4]) rfl ?_
  exact Ret.mk (DRes.none_ hb.out)

theorem rdiv_any (a b : List Int) (q r : LmP) (w : World) (h : RLm w w.heap.size a q) (h' : RLm w w.heap.size b r) (ha : Lim a) (hb : Lim b) :
    Calls Tryz.prog 78 #[natV a q, natV b r] w (Ret (DRes w (quoV a b) (remV a b) (divE a b))) := by
  unfold quoV remV divE
  by_cases hv : (vN a && vN b) = true
  · obtain ⟨va, vb⟩ := (Bool.and_eq_true _ _).mp hv
    rw [if_pos hv]
    by_cases h0 : vl b = 0
    · rw [if_neg (fun h => h.2 h0), if_neg (fun h => h.2 h0), if_pos h0]
      have e := lim_vl hb (vN_can vb).2
      rw [h0, lim_zero] at e
      exact rdiv_zero a b q r w h h' va vb (by rw [e]; rfl)
    · rw [if_pos ⟨hv, h0⟩, if_pos ⟨hv, h0⟩, if_neg h0]
      exact rdiv_ok a b q r w h h' ha hb va vb (by omega)
  · rw [if_neg (fun h => hv h.1), if_neg (fun h => hv h.1), if_neg hv]
    exact rdiv_no a b q r w h h' (by simpa using hv)
end Go.Proofs.YtpoddmkimhkmoaaGreat
