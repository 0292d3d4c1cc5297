/-
  natural.divide, the plain part: Knuth's long division over its digits.
  Conditions: those that each theorem names.
-/
import Derived.Test.YtpoddmkimhkmoaaGreatNt6
import Derived.Test.YtpoddmkimhkmoaaGreatNt5
import Derived.Test.YtpoddmkimhkmoaaGreatNt3
import Derived.Deep.RegionLaw
namespace Go.Sv
open Go.RowKit
/-- the shift that lays the top bit -/
theorem knorm {X : Nat} (h0 : 0 < X) (h1 : X < 4294967296) : ∃ k : Nat, k < 32 ∧ (32 : Int) - (Lib.bitLen X : Int) = k ∧ 2147483648 ≤ X * 2 ^ k ∧ (X + 1) * 2 ^ k ≤ 4294967296 ∧ 2 ^ k ≤ 2147483648 := by
  have e : Lib.bitLen X = nbits X := bitLen_is (Nat.lt_of_lt_of_le h1 (by decide))
  have hm : nbits X ≤ 32 := nbits_le.2 (by rw [two32]; exact h1)
  have hlt := nbits_lt X
  have hm0 : ¬ nbits X ≤ 0 := fun h => by have := nbits_le.1 h; rw [Nat.pow_zero] at this; omega
  obtain ⟨m, hm'⟩ : ∃ m, nbits X = m + 1 := ⟨nbits X - 1, by omega⟩
  have hge : ¬ nbits X ≤ m := by omega
  rw [nbits_le] at hge
  rw [hm'] at hlt hm e
  refine ⟨31 - m, by omega, by rw [e]; omega, ?_, ?_, ?_⟩
  · have h2 : 2 ^ m * 2 ^ (31 - m) = 2147483648 := by rw [← Nat.pow_add, show m + (31 - m) = 31 by omega]
    have h3 : 2 ^ m * 2 ^ (31 - m) ≤ X * 2 ^ (31 - m) := Nat.mul_le_mul_right _ (by omega)
    omega
  · have h2 : 2 ^ (m + 1) * 2 ^ (31 - m) = 4294967296 := by rw [← Nat.pow_add, show m + 1 + (31 - m) = 32 by omega]
    have h3 : (X + 1) * 2 ^ (31 - m) ≤ 2 ^ (m + 1) * 2 ^ (31 - m) := Nat.mul_le_mul_right _ (by omega)
    omega
  · have : (2 : Nat) ^ (31 - m) ≤ 2 ^ 31 := Nat.pow_le_pow_right (by decide) (by omega)
    have e2 : (2 : Nat) ^ 31 = 2147483648 := by decide
    omega
/-- the shifted divisor -/
theorem dv_v {b o : List Int} {n : Nat} {M : Int} (hb : Lim b) (ho : Lim o) (h1 : 2147483648 ≤ gi b n * M) (h2 : (gi b n + 1) * M ≤ 4294967296) (hM : 1 ≤ M) (hv : vt o (n + 2) = vt b (n + 1) * M) :
    2147483648 ≤ gi o n ∧ vt o (n + 1) = vt b (n + 1) * M ∧ vt o (n + 1) ≤ Bp (n + 1) ∧ 2147483648 * Bp n ≤ vt o (n + 1) := by
  have hp := Bp_pos n
  obtain ⟨l0, l1⟩ := vt_bd hb n
  have hs := Bp_succ n
  have e : vt b (n + 1) * M = vt b n * M + gi b n * M * Bp n := by rw [vt_succ]; grind
  have a1 : 2147483648 * Bp n ≤ gi b n * M * Bp n := Int.mul_le_mul_of_nonneg_right h1 (by omega)
  have a2 : 0 ≤ vt b n * M := Int.mul_nonneg l0 (by omega)
  have a3 : vt b n * M < Bp n * M := Int.mul_lt_mul_of_pos_right l1 (by omega)
  have a4 : (gi b n + 1) * M * Bp n ≤ 4294967296 * Bp n := Int.mul_le_mul_of_nonneg_right h2 (by omega)
  have a5 : (gi b n + 1) * M * Bp n = gi b n * M * Bp n + Bp n * M := by grind
  have hlt : vt o (n + 2) < Bp (n + 1) := by rw [hv, e]; omega
  obtain ⟨t1, _⟩ := vt_tail ho (k := n + 1) (T := n + 2) (by omega) hlt
  have hV : vt o (n + 1) = vt b (n + 1) * M := by rw [← t1, hv]
  have hge : 2147483648 * Bp n ≤ vt o (n + 1) := by rw [hV, e]; omega
  refine ⟨?_, hV, by omega, hge⟩
  have b1 := (vt_bd ho n).2
  rw [vt_succ] at hge
  rcases (by omega : 2147483648 ≤ gi o n ∨ gi o n + 1 ≤ 2147483648) with c | c
  · exact c
  · exfalso
    have : (gi o n + 1) * Bp n ≤ 2147483648 * Bp n := Int.mul_le_mul_of_nonneg_right c (by omega)
    have e3 : (gi o n + 1) * Bp n = gi o n * Bp n + Bp n := by grind
    omega
theorem dv_top {a : List Int} {n m : Nat} {M A' V : Int} (ha : Lim a) (hm : n ≤ m) (hM : 1 ≤ M) (hM2 : M ≤ 2147483648) (hA : A' = vt a m * M) (hV : 2147483648 * Bp n ≤ V) : A' < V * Bp (m - n) := by
  have l1 := (vt_bd ha m).2
  have hp := Bp_pos m
  have a1 : vt a m * M < Bp m * M := Int.mul_lt_mul_of_pos_right l1 (by omega)
  have a2 : Bp m * M ≤ Bp m * 2147483648 := Int.mul_le_mul_of_nonneg_left hM2 (by omega)
  have a3 : 2147483648 * Bp n * Bp (m - n) ≤ V * Bp (m - n) := Int.mul_le_mul_of_nonneg_right hV (by have := Bp_pos (m - n); omega)
  have a4 : Bp n * Bp (m - n) = Bp m := by rw [← Bp_add]; congr 1; omega
  have a5 : 2147483648 * Bp n * Bp (m - n) = Bp m * 2147483648 := by rw [Int.mul_assoc, a4, Int.mul_comm]
  omega
/-- what the digits say at the end -/
theorem dv_end {A B : Nat} {M X r V : Int} (hM : 1 ≤ M) (_ : 0 ≤ X) (hV : V = (B : Int) * M) (h : (A : Int) * M = V * X + r) (r0 : 0 ≤ r) (r1 : r < V) : X = ((A / B : Nat) : Int) ∧ r = ((A % B : Nat) : Int) * M := by
  subst hV
  have e : r = (A - B * X) * M := by grind
  obtain ⟨R, hR⟩ : ∃ R : Int, (A : Int) - B * X = R := ⟨_, rfl⟩
  rw [hR] at e
  subst e
  have R1 : R < B := Int.lt_of_mul_lt_mul_right r1 (by omega)
  have R0 : 0 ≤ R := by
    rcases (by omega : 0 ≤ R ∨ R ≤ -1) with c | c
    · exact c
    · exfalso
      have : R * M ≤ -1 * M := Int.mul_le_mul_of_nonneg_right c (by omega)
      omega
  have hB : (0 : Int) < B := by omega
  have e2 : (A : Int) = R + B * X := by omega
  have hq : (A : Int) / B = X := by
    rw [e2, Int.add_mul_ediv_left _ _ (by omega), Int.ediv_eq_zero_of_lt R0 R1]; omega
  have hm : (A : Int) % B = R := by
    rw [e2, Int.add_mul_emod_self_left, Int.emod_eq_of_lt R0 R1]
  exact ⟨by rw [← hq, Int.natCast_ediv], by rw [← hm, Int.natCast_emod]⟩
end Go.Sv
namespace Go.Proofs.YtpoddmkimhkmoaaGreat
open Go.RowKit Go.Sv
theorem RowAt.take {w : World} {g n : Nat} {l : List Int} (h : RowAt w g l) : RowAt w g (l.take n) :=
  ⟨h.lt, fun k hk => by
    rw [List.length_take] at hk
    rw [gi_take (by omega)]; exact h.cell k (by omega), h.free⟩
theorem RowAt.arr {w : World} {g n : Nat} {l : List Int} (h : RowAt w g l) (hn : n ≤ l.length) : Arr w w.heap.size (some ⟨g, 0, none⟩) n (u32v l) :=
  fun _ => ⟨g, 0, rfl, h.lt, fun k hk => by rw [Nat.zero_add]; exact h.cell k (by omega)⟩
/-- two rows -/
def DvR (w : World) (Q R : Nat) (v : Value) (w' : World) : Prop :=
  ∃ (o p : List Int) (q r : LmP), v = .tuple #[rowV o q, rowV p r] ∧ o.length ≤ 1000 ∧ p.length ≤ 1000 ∧ norm o = lim Q ∧ norm p = lim R ∧ RLm w' w'.heap.size o q ∧ RLm w' w'.heap.size p r ∧ Below w.heap.size w w'
structure DvI (A' V : Int) (v : List Int) (n m B gu gv gq : Nat) (w : World) (j : Nat) (q u : List Int) (wr : World) : Prop where
  jn : j ≤ m - n
  lq : q.length = m - n
  qm : Lim q
  ql : ∀ i, i < j → gi q i = 0
  lu : u.length = m + 1
  um : Lim u
  eq : A' = V * vt q (m - n) + vt u (m + 1)
  lt : vt u (m + 1) < V * Bp j
  rq : RowAt wr gq q
  ru : RowAt wr gu u
  rv : RowAt wr gv v
  bel : Below B w wr
theorem DvI.pre {A' V : Int} {v q u : List Int} {n m B gu gv gq j : Nat} {w wr : World} (h : DvI A' V v n m B gu gv gq w (j + 1) q u wr) (hV0 : 0 < V) (hVn : V ≤ Bp (n + 1)) (hnm : n ≤ m) : win u j (n + 1) < V * 4294967296 :=
  (win_pre h.um (by have := h.jn; omega) hV0 hVn h.lt).2.1
theorem DvI.step {A' V x : Int} {v q u u' : List Int} {n m B gu gv gq j : Nat} {w wr w' : World} (h : DvI A' V v n m B gu gv gq w (j + 1) q u wr) (hV0 : 0 < V) (hVn : V ≤ Bp (n + 1)) (hnm : n ≤ m) (huv : gu ≠ gv) (huq : gu ≠ gq) (hvq : gv ≠ gq) (hBu : B ≤ gu) (hBq : B ≤ gq)
    (hx : x = win u j (n + 1) / V) (x0 : 0 ≤ x) (x1 : x < 4294967296) (hl : u'.length = u.length) (um : Lim u') (ru : RowAt w' gu u') (ho : OnlyAt gu wr w') (hlo : ∀ i, i < j → gi u' i = gi u i) (hhi : ∀ i, j + (n + 1) + 1 ≤ i → gi u' i = gi u i) (hw : win u' j (n + 1) = win u j (n + 1) % V) :
    DvI A' V v n m B gu gv gq w j (q.set j x) u' (w'.setCell ⟨gq, j, none⟩ (.int .u32 x)) := by
  have hj := h.jn
  have hlq := h.lq
  obtain ⟨p1, _, p3⟩ := win_pre h.um (n := n + 1) (T := m + 1) (by omega) hV0 hVn h.lt
  obtain ⟨s1, s2⟩ := win_post h.um (n := n + 1) (T := m + 1) (by omega) hV0 p1 p3 hlo hhi hw
  have e := h.eq
  refine ⟨by omega, by rw [List.length_set]; exact hlq, h.qm.set x0 x1, fun i hi => by rw [gi_set_ne (by omega)]; exact h.ql i (by omega), hl.trans h.lu, um, ?_, s2, ?_, ?_, ?_, ?_⟩
  · rw [vt_set (by omega) (by omega), h.ql j (by omega), s1, ← hx]
    grind
  · exact RowAt.set (h.rq.only ho (fun e => huq e.symm)) (by omega) x
  · exact ru.only ((OnlyAt.refl gq w').setCell j (.int .u32 x)) huq
  · exact (h.rv.only ho (fun e => huv e.symm)).only ((OnlyAt.refl gq w').setCell j (.int .u32 x)) hvq
  · exact (h.bel.trans (ho.below hBu)).setCell hBq _
/-- the last remainder -/
theorem DvI.fin {A B0 : Nat} {V M : Int} {v q u : List Int} {n m B gu gv gq : Nat} {w wr : World} (h : DvI ((A : Int) * M) V v n m B gu gv gq w 0 q u wr) (hM : 1 ≤ M) (hV : V = (B0 : Int) * M) (hVn : V ≤ Bp (n + 1)) (hnm : n ≤ m) :
    norm q = lim (A / B0) ∧ vt (u.take (n + 1)) (n + 1) = ((A % B0 : Nat) : Int) * M := by
  have e := h.eq
  have hlt := h.lt
  rw [Bp_zero, Int.mul_one] at hlt
  have u0 := (vt_bd h.um (m + 1)).1
  have q0 := (vt_bd h.qm (m - n)).1
  obtain ⟨e1, e2⟩ := dv_end hM q0 hV e u0 hlt
  refine ⟨norm_lim h.qm (by rw [h.lq]; exact e1), ?_⟩
  rw [vt_take (Nat.le_refl _), ← e2]
  exact ((vt_tail h.um (k := n + 1) (T := m + 1) (by omega) (by omega)).1).symm
end Go.Proofs.YtpoddmkimhkmoaaGreat

namespace Go.Proofs.YtpoddmkimhkmoaaGreat
open Go.RowKit Go.Sv

theorem RowAt.one (w : World) (z : Int) (e : TypeId) : RowAt (w.alloc (.cells #[.int .u32 z] e)) w.heap.size [z] :=
  ⟨by simp, fun k hk => by
    have : k = 0 := by simpa using hk
    subst this
    rw [World.cell?_alloc_new]; rfl, fun k => (Whole.new w e #[.int .u32 z]).frozen k⟩
set_option maxRecDepth 100000 in
theorem divide_lt (a b : List Int) (q r : LmP) (w : World) (h : RLm w w.heap.size a q) (h' : RLm w w.heap.size b r) (ha : Lim a) (hb : Lim b) (ca : Sv.Can a) (cb : Sv.Can b) (hn : a.length ≤ 900) (hlt : vl a < vl b) :
    Calls Tryz.prog 71 #[rowV a q, rowV b r] w (Ret (DvR w (vl a / vl b) (vl a % vl b))) := by
  have HC := Lib.hid (compare_any a b q r w h h' ha hb ca cb)
  have ec : decide (cmpL a b < 0) = true := by rw [cmpL_lt ha hb, decide_eq_true_iff]; omega
  obtain ⟨cv, hcv⟩ : ∃ cv, cmpL a b = cv := ⟨_, rfl⟩
  rw [hcv] at HC ec
  have hR : Hid (∀ w', Drawn w w' → DvR w (vl a / vl b) (vl a % vl b) (.tuple #[.slice none 0 0, rowV a q]) w') := Lib.hid fun w' hd =>
    ⟨[], a, ⟨none, 0⟩, q, rfl, Nat.zero_le _, by omega, by rw [Nat.div_eq_of_lt hlt, lim_zero]; rfl, by rw [Nat.mod_eq_of_lt hlt]; exact norm_lim ha (vl_vt ha), RLm.none_ _ _, h.to hd.below, hd.below⟩
  obtain ⟨qa, qc⟩ := q
  obtain ⟨ra, rc⟩ := r
  clear h h' ha hb ca cb hcv hlt
  dsimp only [rowV] at HC hR ⊢
  go_enter Tryz.func71, Tryz.ntmps71
  go_wp2_with fail
  refine HC.out.mono ?_
  rintro e w1 ⟨rfl, hd⟩
  have hR1 := Lib.hid (hR.out w1 hd)
  clear hd hR
  go_wp2
  go_ret2
  exact Ret.mk hR1.out

set_option maxRecDepth 100000 in
theorem divide_one (a b : List Int) (q r : LmP) (w : World) (h : RLm w w.heap.size a q) (h' : RLm w w.heap.size b r) (ha : Lim a) (hb : Lim b) (ca : Sv.Can a) (cb : Sv.Can b) (hn : a.length ≤ 900) (hlt : vl b ≤ vl a) (h1 : b.length = 1) (hv : 0 < vl b) :
    Calls Tryz.prog 71 #[rowV a q, rowV b r] w (Ret (DvR w (vl a / vl b) (vl a % vl b))) := by
  have HC := Lib.hid (compare_any a b q r w h h' ha hb ca cb)
  have ec : decide (cmpL a b < 0) = false := by rw [cmpL_lt ha hb, decide_eq_false_iff_not]; omega
  obtain ⟨cv, hcv⟩ : ∃ cv, cmpL a b = cv := ⟨_, rfl⟩
  rw [hcv] at HC ec
  have x := hb.at 0
  have hvb : (vl b : Int) = gi b 0 := by rw [← vl_vt hb, h1]; simp [vt, Bp_zero]
  have HY := Lib.hid (fun w' (hw : Below w.heap.size w w') => byLimb_any a q (vl b) w' (h.to hw) ha (by omega) hv (by omega))
  rw [hvb] at HY
  have hvlt : vl a % vl b < 4294967296 := Nat.lt_of_lt_of_le (Nat.mod_lt _ hv) (by omega)
  have HA := Lib.hid (fun w' (hw : Below w.heap.size w w') => (h'.to hw).arr)
  obtain ⟨qa, qc⟩ := q
  obtain ⟨ra, rc⟩ := r
  have hL : Hid (∀ (w' : World) (z : Int) (o : List Int) (q5 : LmP), z = ((vl a % vl b : Nat) : Int) → o.length = a.length → norm o = lim (vl a / vl b) → ∀ g, RLm w' w'.heap.size o q5 → Below w.heap.size w w' → RowAt w' g [z] →
      DvR w (vl a / vl b) (vl a % vl b) (.tuple #[rowV o q5, .slice (some ⟨g, 0, none⟩) 1 1]) w') := Lib.hid fun w' z o q5 hz ho hno g hr hbel hrow => by
    refine ⟨o, [z], q5, ⟨some ⟨g, 0, none⟩, 1⟩, rfl, by omega, by simp, hno, ?_, hr, hrow.rlm rfl (Nat.le_refl _) (by unfold maxLen; omega), hbel⟩
    refine norm_lim (l := [z]) ?_ ?_
    · intro y hy
      have : y = 0 := by simpa using hy
      subst this
      show 0 ≤ z ∧ z < 4294967296
      omega
    · show vt [z] 1 = _
      simp [vt, Bp_zero, gi, hz]
  obtain ⟨bb, ob, rfl, hbb, hbc⟩ := (HA.out w (Below.refl _ _)) (by omega)
  have y := hbc 0 (by omega)
  rw [Nat.add_zero] at y
  unfold u32v at y
  clear h h' ha hb ca cb hcv hlt HA hbc
  dsimp only [rowV] at HC HY hL ⊢
  rw [h1] at HC ⊢
  replace hvb := Lib.hid hvb
  replace hvlt := Lib.hid hvlt
  clear h1 hv
  go_enter Tryz.func71, Tryz.ntmps71
  go_wp2_with fail
  refine HC.out.mono ?_
  rintro e w1 ⟨rfl, hd⟩
  have y1 := (hd.cell _).trans y
  have hb1 := Lib.hid (hd.below : Below w.heap.size w w1)
  have HY1 := Lib.hid (HY.out w1 hb1.out)
  clear hd y HY
  go_wp2_with fail
  refine HY1.out.mono ?_
  rintro e w3 ⟨_, rfl, o, q5, rfl, ho, hlo, hno, hr5, hf5, hb5⟩
  have hb3 := Lib.hid (below_of hb1.out hb1.out.size hb5)
  have hL5 := Lib.hid (fun w' g (hb : Below w.heap.size w w') (hb' : Below w3.heap.size w3 w') => hL.out w' _ o q5 rfl ho hno g (hr5.to hb') hb)
  clear hb5 hr5 hf5 hlo hno hL
  have hN := Lib.hid (hL5.out _ _ (hb3.out.alloc hb3.out.size (.cells #[.int .u32 ((vl a : Int) % (vl b : Int))] 69)) ((Below.refl _ _).alloc (Nat.le_refl _) _) (RowAt.one w3 _ _))
  clear hL5
  go_wp2
  go_ret2
  exact Ret.mk hN.out
end Go.Proofs.YtpoddmkimhkmoaaGreat

namespace Go.Proofs.YtpoddmkimhkmoaaGreat
open Go.RowKit Go.Sv

set_option maxHeartbeats 4000000 in
set_option maxRecDepth 100000 in
theorem divide_many (a b : List Int) (q r : LmP) (w : World) (h : RLm w w.heap.size a q) (h' : RLm w w.heap.size b r) (ha : Lim a) (hb : Lim b) (ca : Sv.Can a) (cb : Sv.Can b) (hn : a.length ≤ 900) (hlt : vl b ≤ vl a) (n : Nat) (hbn : b.length = n + 1) (hn1 : 1 ≤ n) :
    Calls Tryz.prog 71 #[rowV a q, rowV b r] w (Ret (DvR w (vl a / vl b) (vl a % vl b))) := by
  have HC := Lib.hid (compare_any a b q r w h h' ha hb ca cb)
  have ec : decide (cmpL a b < 0) = false := by rw [cmpL_lt ha hb, decide_eq_false_iff_not]; omega
  obtain ⟨cv, hcv⟩ : ∃ cv, cmpL a b = cv := ⟨_, rfl⟩
  rw [hcv] at HC ec
  have x := hb.at n
  have x0 : gi b n ≠ 0 := by
    rcases cb with c | c
    · omega
    · rw [hbn] at c; exact c
  obtain ⟨k, hk, hLZ, k1, k2, k3⟩ := knorm (X := (gi b n).toNat) (by omega) (by omega)
  have HZ := Lib.hid (fun w' => Tryz.bits_LeadingZeros32 (gi b n) w' x.1 (by omega))
  rw [hLZ] at HZ
  have M0 : 0 < 2 ^ k := Nat.pow_pos (by decide)
  have hlen : b.length ≤ a.length := by
    have h1 : (lim (vl a)).length = a.length := by rw [← lim_vl ha ca]
    have h2 : (lim (vl b)).length = b.length := by rw [← lim_vl hb cb]
    have h3 := (lim_len_le (N := vl a) (k := a.length)).1 (by omega)
    have h4 := (lim_len_le (N := vl b) (k := a.length)).2 (by omega)
    omega
  have HA := Lib.hid (fun w' (hw : Below w.heap.size w w') => shift_any a q k w' (h.to hw) ha (by omega) hk)
  have HB := Lib.hid (fun w' (hw : Below w.heap.size w w') => shift_any b r k w' (h'.to hw) hb (by omega) hk)
  have HU := Lib.hid (fun (l : List Int) (q' : LmP) w' (h : RLm w' w'.heap.size l q') (hl : Lim l) (hn : l.length ≤ 1000) => unshift_any l q' k w' h hl hn hk)
  obtain ⟨M, hM⟩ : ∃ M : Nat, 2 ^ k = M := ⟨_, rfl⟩
  rw [hM] at k1 k2 k3 M0 HA HB HU
  have kk1 : Hid (2147483648 ≤ gi b n * (M : Int)) := Lib.hid (by
    have : (((gi b n).toNat * M : Nat) : Int) = gi b n * M := by rw [Int.natCast_mul, Int.toNat_of_nonneg x.1]
    omega)
  have kk2 : Hid ((gi b n + 1) * (M : Int) ≤ 4294967296) := Lib.hid (by
    have : ((((gi b n).toNat + 1) * M : Nat) : Int) = (gi b n + 1) * M := by rw [Int.natCast_mul, Int.natCast_add, Int.toNat_of_nonneg x.1]; rfl
    omega)
  have HR := Lib.hid (fun w' (hw : Below w.heap.size w w') => (h'.to hw).arr)
  obtain ⟨qa, qc⟩ := q
  obtain ⟨ra, rc⟩ := r
  obtain ⟨bb, ob, rfl, hbb, hbc⟩ := (HR.out w (Below.refl _ _)) (by omega)
  have y := hbc n (by omega)
  unfold u32v at y
  obtain ⟨L, hL⟩ : ∃ L, a.length - n = L := ⟨_, rfl⟩
  obtain ⟨Oq, mkq, BLq⟩ := mk_rowAt L (by omega) (x := (L : Int)) rfl
  replace BLq := Lib.hid BLq
  have d1 : ((b.length : Int) == 1) = false := beq_eq_false_iff_ne.2 (by omega)
  have wn : ((b.length : Int) - 1).toNat = n := by omega
  have wb : (0 : Int) ≤ (b.length : Int) - 1 := by omega
  have wl : (b.length : Int) - 1 < (b.length : Int) := by omega
  have wL : (a.length : Int) - (b.length : Int) + 1 = (L : Int) := by omega
  have hbl : b.length ≤ b.length + 1 := by omega
  have hbl' : b.length ≤ a.length + 1 := by omega
  have wc0 : (0 : Int) ≤ (b.length : Int) := by omega
  have wc1 : (b.length : Int) ≤ (b.length : Int) + 1 := by omega
  replace hLZ := Lib.hid hLZ
  replace hM := Lib.hid hM
  replace hcv := Lib.hid hcv
  replace hbn := Lib.hid hbn
  replace hL := Lib.hid hL
  clear h h' k1 k2 HR hbc ca cb
  have hnb : b.length ≤ 900 := by omega
  have hnb1 : 1 ≤ b.length := by have := hbn.out; omega
  replace M0 := Lib.hid M0
  replace k3 := Lib.hid k3
  replace hn1 := Lib.hid hn1
  clear x0 x hk hlt hbb
  dsimp only [rowV] at HC HA HB ⊢
  go_enter Tryz.func71, Tryz.ntmps71
  go_wp2_with fail
  refine HC.out.mono ?_
  rintro e w1 ⟨rfl, hd⟩
  have y1 := (hd.cell _).trans y
  have hb1 := Lib.hid (hd.below : Below w.heap.size w w1)
  clear hd y
  go_wp2_with fail
  refine (HZ.out _).mono ?_
  rintro e w2 ⟨rfl, rfl⟩
  have hb2 : Hid (Below w.heap.size w w2.drew) := Lib.hid (hb1.out.drawn (Drawn.of 1))
  have HA1 := Lib.hid (HA.out _ hb2.out)
  have HB1 := Lib.hid (fun w' (hb3 : Below w2.heap.size w2 w') => HB.out w' (below_of hb1.out hb1.out.size hb3))
  clear HA HB
  go_wp2_with fail
  go_region_held3 (fun _ => True) (go_keep)
    (first
      | ((with_reducible refine HA1.out.mono ?_)
         rintro e w3 ⟨_, rfl, ou, gu, rfl, hlu, lu, vu, ru, hgu, hb3⟩
         have hb3' : Below w2.heap.size w2 w3 := (Below.refl _ _).drew.trans hb3
         have HB2 := Lib.hid (HB1.out w3 hb3'))
      | ((with_reducible refine HB2.out.mono ?_)
         rintro e w4 ⟨_, rfl, ov, gv, rfl, hlv, lv, vv, rv, hgv, hb4⟩))
  all_goals
    have hbw := Lib.hid ((below_of hb1.out hb1.out.size hb3').trans (hb4.mono (Nat.le_trans hb1.out.size hb3'.size)))
    have hgu' : w.heap.size ≤ gu := Nat.le_trans hb1.out.size hgu
    have hgv3 := ru.lt
    have hguv : gu ≠ gv := by omega
    have hgvw : gv < w4.heap.size := rv.lt
    have hguw : gu < w4.heap.size := by have := hb4.size; omega
    have ru4 := ru.to hb4
    have eb : vt b (n + 1) = (vl b : Int) := by rw [← vl_vt hb, hbn.out]
    rw [hbn.out] at vv
    obtain ⟨g1, g2, g3, g4⟩ := dv_v hb lv kk1.out kk2.out (by have := M0.out; omega) vv
    have hV : vt ov (n + 1) = (vl b : Int) * M := by rw [g2, eb]
    have hV0 : 0 < (vl b : Int) * M := by rw [← hV]; have := Bp_pos n; omega
    have htop := dv_top ha (n := n) (m := a.length) (M := M) (by have := hbn.out; omega) (by have := M0.out; omega) (by have := k3.out; omega) rfl g4
    rw [hL.out, hV] at htop
    rw [hV] at g3
    have I0 : Hid (DvI ((vl a : Int) * M) ((vl b : Int) * M) ov n a.length w.heap.size gu gv w4.heap.size w L (zer L) ou (w4.alloc Oq)) :=
      Lib.hid ⟨by rw [hL.out]; exact Nat.le_refl _, by rw [hL.out]; exact zer_len _, zer_lim _, fun i _ => gi_zer _ _, hlu, lu, by rw [hL.out, vt_zer, vu, vl_vt ha, Int.mul_zero, Int.zero_add], by rw [vu]; exact htop,
        BLq.out w4, ru4.to ((Below.refl _ _).alloc (Nat.le_refl _) _), rv.to ((Below.refl _ _).alloc (Nat.le_refl _) _), hbw.out.alloc hbw.out.size _⟩
    replace htop := Lib.hid htop
    replace hV := Lib.hid hV
    replace hV0 := Lib.hid hV0
    replace g1 := Lib.hid g1
    replace g3 := Lib.hid g3
    clear eb g2 g4
    clear HA1 HB1 HB2 vu vv ru rv hb3 hb3' hb4 ru4
    go_wp2
    go_loopw [12] (fun s12 wr => ∃ (j : Nat) (q u : List Int), s12 = .int .i64 ((j : Int) - 1) ∧ DvI ((vl a : Int) * M) ((vl b : Int) * M) ov n a.length w.heap.size gu gv w4.heap.size w j q u wr) (fun s12 _ => (intOf s12 + 1).toNat)
    case atStart => exact ⟨L, zer L, ou, val_i (by omega), I0.out⟩
    case round =>
      clear mkq I0 y1
      obtain ⟨j, q, u, rfl, I⟩ := hrel
      have hlq := I.lq
      have hlu := I.lu
      have hjn := I.jn
      cases j with
      | zero =>
        have e1 : ((0 : Nat) : Int) - 1 = -1 := by decide
        rw [e1]
        clear e1
        have hlt : (u.take b.length).length = b.length := by rw [List.length_take]; omega
        obtain ⟨f1, f2⟩ := I.fin (by have := M0.out; omega) rfl g3.out (by have := hbn.out; omega)
        have ev : vl (u.take b.length) = vl a % vl b * M := by
          have := vl_vt (I.um.take b.length)
          rw [hlt, hbn.out, f2] at this
          rw [hbn.out]
          have e2 : (((vl a % vl b) * M : Nat) : Int) = ((vl a % vl b : Nat) : Int) * M := Int.natCast_mul _ _
          omega
        have HU1 := HU.out (u.take b.length) ⟨some ⟨gu, 0, none⟩, a.length + 1⟩ wr (I.ru.take.rlm hlt hbl' (by show a.length + 1 ≤ maxLen; unfold maxLen; omega)) (I.um.take _) (by omega)
        dsimp only [rowV] at HU1
        rw [hlt, ev, ] at HU1
        replace HU1 := Lib.hid HU1
        have hl' : q.length = L := by rw [hlq, hL.out]
        have hrq := Lib.hid (I.rq.rlm hl' (Nat.le_refl _) (show L ≤ maxLen by unfold maxLen; omega))
        have hbr := Lib.hid I.bel
        replace f1 := Lib.hid f1
        replace hl' := Lib.hid hl'
        clear I f2 ev hlt hlu hlq hjn HU
        go_wp2_with fail
        refine HU1.out.mono ?_
        rintro e w5 ⟨_, rfl, o, q5, rfl, ho, hlo, hno, hr5, hf5, hb5⟩
        have hF : Hid (DvR w (vl a / vl b) (vl a % vl b) (.tuple #[.slice (some ⟨w4.heap.size, 0, none⟩) L L, .slice q5.a b.length q5.c]) w5) := Lib.hid
          ⟨q, o, ⟨some ⟨w4.heap.size, 0, none⟩, L⟩, q5, by simp [rowV, hl'.out, ho], by rw [hl'.out]; omega, by omega, f1.out, by rw [hno, Nat.mul_div_cancel _ M0.out], hrq.out.to hb5, hr5, below_of hbr.out hbr.out.size hb5⟩
        clear ho hlo hno hr5 hf5 hb5
        go_wp2
        go_ret2
        exact Ret.mk hF.out
      | succ j =>
        have e1 : ((j + 1 : Nat) : Int) - 1 = (j : Int) := by omega
        rw [e1]
        clear e1
        have hnm : n ≤ a.length := by have := hbn.out; omega
        have HS := step_any u ov gu (a.length + 1) j (n + 1) (b.length + 1) (some ⟨gv, 0, none⟩) wr I.um lv I.ru (I.rv.arr (by have := hbn.out; omega)) (fun p hp => by injection hp with hp; subst hp; exact fun e => hguv e.symm) (by have := hn1.out; omega) (by have := hbn.out; omega) (by omega) g1.out
          (by rw [hV.out]; exact I.pre hV0.out g3.out hnm)
        rw [← hbn.out, hlu] at HS
        replace HS := Lib.hid HS
        have i0 : (0 : Int) ≤ j := by omega
        have ijn : j < L := by have := hL.out; omega
        have ij : (j : Int) < (L : Int) := by omega
        replace hnm := Lib.hid hnm
        clear hlq hjn
        replace hlu := Lib.hid hlu
        go_wp2_with fail
        refine HS.out.mono ?_
        rintro e w5 ⟨x, u', rfl, hx, x0, x1, hl, um, ru, ho, hlo, hhi, hw⟩
        rw [hbn.out] at hx hhi hw
        rw [hV.out] at hx hw
        have rq5 := I.rq.only ho (by omega)
        have z5 := rq5.lt
        have y5 := rq5.cell j (by have := I.lq; have := hL.out; omega)
        have f5 := rq5.free j
        have S := Lib.hid (I.step hV0.out g3.out hnm.out hguv (by omega) (by omega) hgu' hbw.out.size hx x0 x1 hl um ru ho hlo hhi hw)
        clear hx hl um ru ho hlo hhi hw rq5 I
        go_wp2
        go_roundw
        case rel => exact ⟨j, _, _, rfl, S.out⟩
        case measure => simp [intOf]
end Go.Proofs.YtpoddmkimhkmoaaGreat

namespace Go.Proofs.YtpoddmkimhkmoaaGreat
open Go.RowKit Go.Sv

theorem divide_any (a b : List Int) (q r : LmP) (w : World) (h : RLm w w.heap.size a q) (h' : RLm w w.heap.size b r) (ha : Lim a) (hb : Lim b) (ca : Sv.Can a) (cb : Sv.Can b) (hn : a.length ≤ 900) (hv : 0 < vl b) :
    Calls Tryz.prog 71 #[rowV a q, rowV b r] w (Ret (DvR w (vl a / vl b) (vl a % vl b))) := by
  rcases Nat.lt_or_ge (vl a) (vl b) with c | c
  · exact divide_lt a b q r w h h' ha hb ca cb hn c
  · have hb0 : b.length ≠ 0 := fun e => by
      rw [List.eq_nil_of_length_eq_zero e] at hv
      exact absurd hv (by decide)
    by_cases h1 : b.length = 1
    · exact divide_one a b q r w h h' ha hb ca cb hn c h1 hv
    · exact divide_many a b q r w h h' ha hb ca cb hn c (b.length - 1) (by omega) (by omega)

set_option maxRecDepth 100000 in
theorem div_no (a b : List Int) (q r : LmP) (w : World) (h : RLm w w.heap.size a q) (h' : RLm w w.heap.size b r) (hv : (vN a && vN b) = false) :
    Calls Tryz.prog 48 #[natV a q, natV b r] w (Ret (DRes w [] [] 1)) := by
  have hbx : Hid (∀ o1 o2 o3 o4 : Obj, Below w.heap.size w ((((w.alloc o1).alloc o2).alloc o3).alloc o4)) := Lib.hid fun o1 o2 o3 o4 => ((((Below.refl _ _).alloc (Nat.le_refl _) o1).alloc (by simp) o2).alloc (by simp; omega) o3).alloc (by simp; omega) o4
  have HV := Lib.hid (fun w' (hw : Below w.heap.size w w') => valid2_any a b q r w' (h.to hw) (h'.to hw))
  obtain ⟨qa, qc⟩ := q
  obtain ⟨ra, rc⟩ := r
  have hB1 : Hid (Box1 ((((w.alloc (.cells #[.slice qa a.length qc] 24)).alloc (.cells #[.slice ra b.length rc] 24)).alloc (.cells #[.slice none 0 0] 24)).alloc (.cells #[.slice none 0 0] 24)) w.heap.size (.slice qa a.length qc)) :=
    Lib.hid (((Box1.new.to ((Below.refl _ _).alloc (Nat.le_refl _) _)).to ((Below.refl _ _).alloc (Nat.le_refl _) _)).to ((Below.refl _ _).alloc (Nat.le_refl _) _))
  have hB2 : Hid (Box1 ((((w.alloc (.cells #[.slice qa a.length qc] 24)).alloc (.cells #[.slice ra b.length rc] 24)).alloc (.cells #[.slice none 0 0] 24)).alloc (.cells #[.slice none 0 0] 24)) (w.heap.size + 1) (.slice ra b.length rc)) :=
    Lib.hid (by have := Box1.new (w := w.alloc (.cells #[.slice qa a.length qc] 24)) (e := 24) (v := .slice ra b.length rc); rw [World.size_alloc] at this; exact (this.to ((Below.refl _ _).alloc (Nat.le_refl _) _)).to ((Below.refl _ _).alloc (Nat.le_refl _) _))
  have hRB : Hid (ResB ((((w.alloc (.cells #[.slice qa a.length qc] 24)).alloc (.cells #[.slice ra b.length rc] 24)).alloc (.cells #[.slice none 0 0] 24)).alloc (.cells #[.slice none 0 0] 24)) (w.heap.size + 1 + 1) (.slice none 0 0)) :=
    Lib.hid ((ResB.new' (by simp)).to ((Below.refl _ _).alloc (Nat.le_refl _) _))
  have hRC : Hid (ResB ((((w.alloc (.cells #[.slice qa a.length qc] 24)).alloc (.cells #[.slice ra b.length rc] 24)).alloc (.cells #[.slice none 0 0] 24)).alloc (.cells #[.slice none 0 0] 24)) (w.heap.size + 1 + 1 + 1) (.slice none 0 0)) :=
    Lib.hid (ResB.new' (by simp))
  rw [hv] at HV
  clear h h' hv
  go_enter Tryz.func48, Tryz.ntmps48
  go_wp2_with fail
  refine (HV.out _ (hbx.out _ _ _ _)).mono ?_
  rintro e w1 ⟨rfl, hb1⟩
  have X1 := Lib.hid (hB1.out.to hb1)
  have X2 := Lib.hid (hB2.out.to hb1)
  have XR := Lib.hid (hRB.out.to hb1)
  have XC := Lib.hid (hRC.out.to hb1)
  have hbw := Lib.hid (below_of (hbx.out _ _ _ _) (hbx.out _ _ _ _).size hb1)
  clear hb1
  clear X1 X2
  obtain ⟨s0, s1, s2⟩ := XR.out
  obtain ⟨s3, s4, s5⟩ := XC.out
  have hb := Lib.hid ((hbw.out.setCell (p := ⟨w.heap.size + 1 + 1, 0, none⟩) (by show w.heap.size ≤ w.heap.size + 1 + 1; omega) (.slice none 0 0)).setCell (p := ⟨w.heap.size + 1 + 1 + 1, 0, none⟩) (by show w.heap.size ≤ w.heap.size + 1 + 1 + 1; omega) (.slice none 0 0))
  go_wp2
  refine bodyPost_ret (v := .tuple #[.agg #[.slice none 0 0], .agg #[.slice none 0 0], .int .i64 1]) (by simp [results, Tryz.results48, go_sem, s1, s4]) rfl ?_
  exact Ret.mk (DRes.none_ hb.out)

set_option maxRecDepth 100000 in
theorem div_zero (a b : List Int) (q r : LmP) (w : World) (h : RLm w w.heap.size a q) (h' : RLm w w.heap.size b r) (hv : (vN a && vN b) = true) (hb0 : b.length = 0) :
    Calls Tryz.prog 48 #[natV a q, natV b r] w (Ret (DRes w [] [] 8)) := by
  have hbx : Hid (∀ o1 o2 o3 o4 : Obj, Below w.heap.size w ((((w.alloc o1).alloc o2).alloc o3).alloc o4)) := Lib.hid fun o1 o2 o3 o4 => ((((Below.refl _ _).alloc (Nat.le_refl _) o1).alloc (by simp) o2).alloc (by simp; omega) o3).alloc (by simp; omega) o4
  have HV := Lib.hid (fun w' (hw : Below w.heap.size w w') => valid2_any a b q r w' (h.to hw) (h'.to hw))
  obtain ⟨qa, qc⟩ := q
  obtain ⟨ra, rc⟩ := r
  have hB1 : Hid (Box1 ((((w.alloc (.cells #[.slice qa a.length qc] 24)).alloc (.cells #[.slice ra b.length rc] 24)).alloc (.cells #[.slice none 0 0] 24)).alloc (.cells #[.slice none 0 0] 24)) w.heap.size (.slice qa a.length qc)) :=
    Lib.hid (((Box1.new.to ((Below.refl _ _).alloc (Nat.le_refl _) _)).to ((Below.refl _ _).alloc (Nat.le_refl _) _)).to ((Below.refl _ _).alloc (Nat.le_refl _) _))
  have hB2 : Hid (Box1 ((((w.alloc (.cells #[.slice qa a.length qc] 24)).alloc (.cells #[.slice ra b.length rc] 24)).alloc (.cells #[.slice none 0 0] 24)).alloc (.cells #[.slice none 0 0] 24)) (w.heap.size + 1) (.slice ra b.length rc)) :=
    Lib.hid (by have := Box1.new (w := w.alloc (.cells #[.slice qa a.length qc] 24)) (e := 24) (v := .slice ra b.length rc); rw [World.size_alloc] at this; exact (this.to ((Below.refl _ _).alloc (Nat.le_refl _) _)).to ((Below.refl _ _).alloc (Nat.le_refl _) _))
  have hRB : Hid (ResB ((((w.alloc (.cells #[.slice qa a.length qc] 24)).alloc (.cells #[.slice ra b.length rc] 24)).alloc (.cells #[.slice none 0 0] 24)).alloc (.cells #[.slice none 0 0] 24)) (w.heap.size + 1 + 1) (.slice none 0 0)) :=
    Lib.hid ((ResB.new' (by simp)).to ((Below.refl _ _).alloc (Nat.le_refl _) _))
  have hRC : Hid (ResB ((((w.alloc (.cells #[.slice qa a.length qc] 24)).alloc (.cells #[.slice ra b.length rc] 24)).alloc (.cells #[.slice none 0 0] 24)).alloc (.cells #[.slice none 0 0] 24)) (w.heap.size + 1 + 1 + 1) (.slice none 0 0)) :=
    Lib.hid (ResB.new' (by simp))
  rw [hv] at HV
  have d0 : ((b.length : Int) == 0) = true := by rw [hb0]; rfl
  replace hb0 := Lib.hid hb0
  clear h h' hv
  go_enter Tryz.func48, Tryz.ntmps48
  go_wp2_with fail
  refine (HV.out _ (hbx.out _ _ _ _)).mono ?_
  rintro e w1 ⟨rfl, hb1⟩
  have X1 := Lib.hid (hB1.out.to hb1)
  have X2 := Lib.hid (hB2.out.to hb1)
  have XR := Lib.hid (hRB.out.to hb1)
  have XC := Lib.hid (hRC.out.to hb1)
  have hbw := Lib.hid (below_of (hbx.out _ _ _ _) (hbx.out _ _ _ _).size hb1)
  clear hb1
  obtain ⟨z1, y1⟩ := X2.out
  clear X1
  obtain ⟨s0, s1, s2⟩ := XR.out
  obtain ⟨s3, s4, s5⟩ := XC.out
  have hb := Lib.hid ((hbw.out.setCell (p := ⟨w.heap.size + 1 + 1, 0, none⟩) (by show w.heap.size ≤ w.heap.size + 1 + 1; omega) (.slice none 0 0)).setCell (p := ⟨w.heap.size + 1 + 1 + 1, 0, none⟩) (by show w.heap.size ≤ w.heap.size + 1 + 1 + 1; omega) (.slice none 0 0))
  go_wp2
  refine bodyPost_ret (v := .tuple #[.agg #[.slice none 0 0], .agg #[.slice none 0 0], .int .i64 8]) (by simp [results, Tryz.results48, go_sem, s1, s4]) rfl ?_
  exact Ret.mk (DRes.none_ hb.out)

set_option maxRecDepth 100000 in
theorem div_ok (a b : List Int) (q r : LmP) (w : World) (h : RLm w w.heap.size a q) (h' : RLm w w.heap.size b r) (ha : Lim a) (hb : Lim b) (hv : (vN a && vN b) = true) (hb0 : 0 < vl b) :
    Calls Tryz.prog 48 #[natV a q, natV b r] w (Ret (DRes w (lim (vl a / vl b)) (lim (vl a % vl b)) 0)) := by
  obtain ⟨va, vb⟩ := (Bool.and_eq_true _ _).mp hv
  obtain ⟨na, ca⟩ := vN_can va
  obtain ⟨nb, cb⟩ := vN_can vb
  have hbx : Hid (∀ o1 o2 o3 o4 : Obj, Below w.heap.size w ((((w.alloc o1).alloc o2).alloc o3).alloc o4)) := Lib.hid fun o1 o2 o3 o4 => ((((Below.refl _ _).alloc (Nat.le_refl _) o1).alloc (by simp) o2).alloc (by simp; omega) o3).alloc (by simp; omega) o4
  have HV := Lib.hid (fun w' (hw : Below w.heap.size w w') => valid2_any a b q r w' (h.to hw) (h'.to hw))
  rw [hv] at HV
  have HD := Lib.hid (fun w' (hw : Below w.heap.size w w') => divide_any a b q r w' (h.to hw) (h'.to hw) ha hb ca cb (by omega) hb0)
  have d0 : ((b.length : Int) == 0) = false := beq_eq_false_iff_ne.2 (by
    have : b.length ≠ 0 := fun e => by
      rw [List.eq_nil_of_length_eq_zero e] at hb0
      exact absurd hb0 (by decide)
    omega)
  obtain ⟨qa, qc⟩ := q
  obtain ⟨ra, rc⟩ := r
  have hB1 : Hid (Box1 ((((w.alloc (.cells #[.slice qa a.length qc] 24)).alloc (.cells #[.slice ra b.length rc] 24)).alloc (.cells #[.slice none 0 0] 24)).alloc (.cells #[.slice none 0 0] 24)) w.heap.size (.slice qa a.length qc)) :=
    Lib.hid (((Box1.new.to ((Below.refl _ _).alloc (Nat.le_refl _) _)).to ((Below.refl _ _).alloc (Nat.le_refl _) _)).to ((Below.refl _ _).alloc (Nat.le_refl _) _))
  have hB2 : Hid (Box1 ((((w.alloc (.cells #[.slice qa a.length qc] 24)).alloc (.cells #[.slice ra b.length rc] 24)).alloc (.cells #[.slice none 0 0] 24)).alloc (.cells #[.slice none 0 0] 24)) (w.heap.size + 1) (.slice ra b.length rc)) :=
    Lib.hid (by have := Box1.new (w := w.alloc (.cells #[.slice qa a.length qc] 24)) (e := 24) (v := .slice ra b.length rc); rw [World.size_alloc] at this; exact (this.to ((Below.refl _ _).alloc (Nat.le_refl _) _)).to ((Below.refl _ _).alloc (Nat.le_refl _) _))
  have hRB : Hid (ResB ((((w.alloc (.cells #[.slice qa a.length qc] 24)).alloc (.cells #[.slice ra b.length rc] 24)).alloc (.cells #[.slice none 0 0] 24)).alloc (.cells #[.slice none 0 0] 24)) (w.heap.size + 1 + 1) (.slice none 0 0)) :=
    Lib.hid ((ResB.new' (by simp)).to ((Below.refl _ _).alloc (Nat.le_refl _) _))
  have hRC : Hid (ResB ((((w.alloc (.cells #[.slice qa a.length qc] 24)).alloc (.cells #[.slice ra b.length rc] 24)).alloc (.cells #[.slice none 0 0] 24)).alloc (.cells #[.slice none 0 0] 24)) (w.heap.size + 1 + 1 + 1) (.slice none 0 0)) :=
    Lib.hid (ResB.new' (by simp))
  clear h h' hv ha hb va vb ca cb
  replace hb0 := Lib.hid hb0
  obtain ⟨Q, hQ⟩ : ∃ Q, vl a / vl b = Q := ⟨_, rfl⟩
  obtain ⟨R, hR⟩ : ∃ R, vl a % vl b = R := ⟨_, rfl⟩
  rw [hQ, hR] at HD ⊢
  clear hQ hR hb0
  dsimp only [rowV] at HD
  go_enter Tryz.func48, Tryz.ntmps48
  go_wp2_with fail
  refine (HV.out _ (hbx.out _ _ _ _)).mono ?_
  rintro e w1 ⟨rfl, hb1⟩
  have X1 := Lib.hid (hB1.out.to hb1)
  have X2 := Lib.hid (hB2.out.to hb1)
  have XR := Lib.hid (hRB.out.to hb1)
  have XC := Lib.hid (hRC.out.to hb1)
  have hbw := Lib.hid (below_of (hbx.out _ _ _ _) (hbx.out _ _ _ _).size hb1)
  clear hb1
  have HD1 := Lib.hid (HD.out w1 hbw.out)
  obtain ⟨z0, y0⟩ := X1.out
  obtain ⟨z1, y1⟩ := X2.out
  clear HD X1 X2
  go_wp2_with fail
  refine HD1.out.mono ?_
  rintro e w2 ⟨_, rfl, o, p, q5, r5, rfl, ho, hp, hno, hnp, hr5, hs5, hb2⟩
  have HT := trim_any o q5 w2 hr5 (by omega)
  have HT2 := Lib.hid (fun w' (hw : Below w2.heap.size w2 w') => trim_any p r5 w' (hs5.to hw) (by omega))
  rw [hno] at HT
  rw [hnp] at HT2
  replace HT := Lib.hid HT
  obtain ⟨m, hm⟩ : ∃ m, lim Q = m := ⟨_, rfl⟩
  obtain ⟨n, hn⟩ : ∃ n, lim R = n := ⟨_, rfl⟩
  rw [hm] at HT
  rw [hn] at HT2
  replace hm := Lib.hid hm
  replace hn := Lib.hid hn
  have hbr := Lib.hid (below_of hbw.out hbw.out.size hb2)
  have R1 := Lib.hid (XR.out.to hb2)
  have R2 := Lib.hid (XC.out.to hb2)
  clear z0 y0 z1 y1 hno hnp hr5 hs5 hb2 XR XC hbw hbx ho hp
  go_wp2_with fail
  refine HT.out.mono ?_
  rintro e w3 ⟨_, rfl, q6, rfl, hr6, hf6, hb3⟩
  have HT3 := Lib.hid (HT2.out w3 hb3)
  have hb3' := Lib.hid hb3
  replace hr6 := Lib.hid hr6
  replace hf6 := Lib.hid hf6
  clear hb3 HT2
  go_wp2_with fail
  refine HT3.out.mono ?_
  rintro e w5 ⟨_, rfl, q7, rfl, hr7, hf7, hb7⟩
  have hR := Lib.hid (dres_put (E := 0) hbr.out (show w.heap.size ≤ w.heap.size + 1 + 1 by omega) (show w.heap.size ≤ w.heap.size + 1 + 1 + 1 by omega) R1.out.z R2.out.z hr6.out hf6.out hb3'.out hr7 hf7 hb7)
  have b37 := hb3'.out.trans (hb7.mono hb3'.out.size)
  obtain ⟨s0, s1, s2⟩ := R1.out.to b37
  obtain ⟨s3, s4, s5⟩ := R2.out.to b37
  clear hr7 hf7 hb7 b37
  go_wp2
  refine bodyPost_ret (v := .tuple #[natV m q6, natV n q7, .int .i64 0]) (by simp [results, Tryz.results48, go_sem, s1, s4]) rfl ?_
  rw [hm.out, hn.out]
  exact Ret.mk hR.out

theorem div_any (a b : List Int) (q r : LmP) (w : World) (h : RLm w w.heap.size a q) (h' : RLm w w.heap.size b r) (ha : Lim a) (hb : Lim b) :
    Calls Tryz.prog 48 #[natV a q, natV b r] w (Ret (DRes w (quoV a b) (remV a b) (divE a b))) := by
  unfold quoV remV divE
  by_cases hv : (vN a && vN b) = true
  · obtain ⟨va, vb⟩ := (Bool.and_eq_true _ _).mp hv
    rw [if_pos hv]
    by_cases h0 : vl b = 0
    · rw [if_neg (fun h => h.2 h0), if_neg (fun h => h.2 h0), if_pos h0]
      have e := lim_vl hb (vN_can vb).2
      rw [h0, lim_zero] at e
      exact div_zero a b q r w h h' hv (by rw [e]; rfl)
    · rw [if_pos ⟨hv, h0⟩, if_pos ⟨hv, h0⟩, if_neg h0]
      exact div_ok a b q r w h h' ha hb hv (by omega)
  · rw [if_neg (fun h => hv h.1), if_neg (fun h => hv h.1), if_neg hv]
    exact div_no a b q r w h h' (by simpa using hv)
end Go.Proofs.YtpoddmkimhkmoaaGreat
