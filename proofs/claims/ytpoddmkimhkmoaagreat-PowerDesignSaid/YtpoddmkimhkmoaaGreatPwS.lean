/-
  CONTRACT of power.sums: the sums over a test's points, over the denominator Den^N.
  Conditions: the test is valid, the fraction is a probability (0 <= a <= d, 1 <= d <= 1000).
-/
import Derived.Test.YtpoddmkimhkmoaaGreatPwC
import Derived.Test.YtpoddmkimhkmoaaGreatPb2
import Derived.Deep.RegionHeld3
namespace Go.Proofs.YtpoddmkimhkmoaaGreat
open Go.RowKit Go.Sv Go.Pw
def kF (v : Int) (_ : Nat) : Nat := if v = 2 then 1 else 0
def kP (v : Int) (_ : Nat) : Nat := if v = 1 then 1 else 0
def kE (_ : Int) (n : Nat) : Nat := n
theorem rtst_more {w : World} {B B' : Nat} {t : Tst} {q : TstP} (h : RTst w B t q) (hB : B ≤ B') : RTst w B' t q := ⟨h.r0.more hB, h.r1.more hB⟩
/-- a test as a reading -/
def tstRd (B : Nat) (t : Tst) (q : TstP) : Rd where
  R := fun W => RTst W B t q
  D := fun g => g < B
  st := fun h hc _ => ⟨h.r0.keep fun p hp => hc p hp, h.r1.keep fun p hp => hc p hp⟩
theorem CTab.tab {w : World} {base k : Nat} {v : Value} {L : Nat → Nat → List Int} {G : Nat → Nat} {Q : Nat → Nat → LmP} (h : CTab w base v k L G Q) (hk : 0 < k) :
    ∃ A c, v = .slice A k c ∧ NTab w base w.heap.size A k L (fun i => some ⟨G i, 0, none⟩) (fun i => i + 1) Q := by
  obtain ⟨A, c, e, _, _, hc⟩ := own_form h.own
  obtain ⟨b, e2, hb, hlt, hcell⟩ := hc hk
  refine ⟨A, c, e, fun _ => ⟨b, 0, e2, hb, hlt, fun j hj => ?_⟩, fun i hi => ⟨fun _ => ⟨G i, 0, rfl, h.lo i hi, (h.blk i hi).lt, fun j hj => ?_⟩, fun j hj => h.num i hi j (by omega), fun j hj => h.fr i hi j (by omega)⟩⟩
  · rw [Nat.zero_add, hcell j (by omega), rowsV_get hj]
  · rw [Nat.zero_add]; exact (h.blk i hi).cell hj
theorem NTab.at0 {w : World} {lo hi n : Nat} {A : Option Addr} {L : Nat → Nat → List Int} {G K : Nat → Nat} {Q : Nat → Nat → LmP} (h : NTab w lo hi A n L (fun i => some ⟨G i, 0, none⟩) K Q) {i f : Nat} (hi : i < n) (hf : f ≤ i) :
    w.cell? ⟨G i, f, none⟩ = some (.slice (Q i f).a (L i f).length (Q i f).c) := by
  obtain ⟨b, off, e, _, _, hc⟩ := (h.row i hi).arr (by omega)
  injection e with e
  injection e with e1 e2
  have := hc f (by omega)
  rw [← e1, ← e2, Nat.zero_add] at this
  exact this
theorem NTab.outer {w : World} {lo hi n b0 o0 : Nat} {L : Nat → Nat → List Int} {R : Nat → Option Addr} {K : Nat → Nat} {Q : Nat → Nat → LmP} (h : NTab w lo hi (some ⟨b0, o0, none⟩) n L R K Q) {i : Nat} (hi' : i < n) :
    w.cell? ⟨b0, o0 + i, none⟩ = some (.slice (R i) (i + 1) (K i)) := by
  obtain ⟨b, off, e, _, _, hc⟩ := h.arr (by omega)
  injection e with e
  injection e with e1 e2
  have := hc i hi'
  rw [← e1, ← e2] at this
  exact this
theorem fm_sel {w W : World} {bs : List Bx} {rs : List Rd} (h : Fm w W bs rs) (bs' : List Bx) (rs' : List Rd) (hb : bs'.Sublist bs) (hr : ∀ r ∈ rs', r ∈ rs) : Fm w W bs' rs' :=
  ⟨h.bel, allB_of fun x hx => allB_at h.bx x (hb.subset hx), allR_of fun x hx => allR_at h.rd x (hr x hx), fun x hx => h.lo x (hb.subset hx),
    fun r h1 g hg => ⟨(h.far r (hr r h1) g hg).1, fun x hx => (h.far r (hr r h1) g hg).2 x (hb.subset hx)⟩, h.dis.sublist hb⟩
/-- a number of a table that a frame reads -/
theorem tab_num {w W : World} {bs : List Bx} {rs : List Rd} {lo hi k : Nat} {A : Option Addr} {L : Nat → Nat → List Int} {R : Nat → Option Addr} {K : Nat → Nat} {Q : Nat → Nat → LmP} (S : Fm w W bs rs) (hm : tabRd lo hi A k L R K Q ∈ rs) {n m : Nat} (hn : n < k) (hmn : m ≤ n) : RLm W W.heap.size (L n m) (Q n m) := by
  have hT : NTab W lo hi A k L R K Q := allR_at S.rd _ hm
  have rC := (hT.row n hn).num m (by omega)
  have fr := (hT.row n hn).fr m (by omega)
  refine ⟨fun hl => ?_, rC.nil, rC.cap, rC.cmx⟩
  obtain ⟨b, off, e, hb, hc⟩ := rC.arr hl
  exact ⟨b, off, e, (S.far _ hm b ⟨fr _ e, hb⟩).1, hc⟩
section
variable {V : Nat → Nat → Int} {a b N n m : Nat}
theorem tm_0 (h : n = 0 ∨ V n m = 0) (k : Int → Nat → Nat) : tm V a b N k n m = 0 := if_pos h
theorem tm_v (h0 : n ≠ 0) (h : V n m ≠ 0) (k : Int → Nat → Nat) : tm V a b N k n m = wg V a b N n m * k (V n m) n := if_neg (by simp [h0, h])
theorem tr_succ (k : Int → Nat → Nat) : tpT V a b N k n + rpT V a b N k n (m + 1) = tpT V a b N k n + rpT V a b N k n m + tm V a b N k n m := by rw [rpT_succ, Nat.add_assoc]
theorem tr_zero (k : Int → Nat → Nat) : tpT V a b N k n + rpT V a b N k n 0 = tpT V a b N k n := rfl
theorem tr_end (k : Int → Nat → Nat) : tpT V a b N k n + rpT V a b N k n (n + 1) = tpT V a b N k (n + 1) := (tpT_succ V a b N k n).symm
theorem tt_zero (k : Int → Nat → Nat) : tpT V a b N k 0 = 0 := rfl
end
theorem keep_one {w : World} {p a : Addr} {v u x : Value} (hp : w.cell? p = some x) (h : w.cell? a = some u) (e : p = a → v = u) : (w.setCell p v).cell? a = some u := by
  by_cases c : p = a
  · rw [← c, e c]; exact World.cell?_setCell_same _ _ _ hp
  · exact (World.cell?_setCell_other _ _ _ _ c).trans h
/-- four cells -/
abbrev Four (w : World) (p1 p2 p3 p4 : Addr) (v1 v2 v3 v4 : Value) : Prop := w.cell? p1 = some v1 ∧ w.cell? p2 = some v2 ∧ w.cell? p3 = some v3 ∧ w.cell? p4 = some v4
theorem four_set {w : World} {p p1 p2 p3 p4 : Addr} {v x v1 v2 v3 v4 : Value} (h : Four w p1 p2 p3 p4 v1 v2 v3 v4) (hp : w.cell? p = some x) (e1 : p = p1 → v = v1) (e2 : p = p2 → v = v2) (e3 : p = p3 → v = v3) (e4 : p = p4 → v = v4) : Four (w.setCell p v) p1 p2 p3 p4 v1 v2 v3 v4 :=
  ⟨keep_one hp h.1 e1, keep_one hp h.2.1 e2, keep_one hp h.2.2.1 e3, keep_one hp h.2.2.2 e4⟩
theorem four_all {w : World} {p1 p2 p3 p4 p7 : Addr} {v1 v2 v3 v4 v7 x : Value} (h : Four w p1 p2 p3 p4 v1 v2 v3 v4) (h7 : w.cell? p7 = some x) (n12 : p1 ≠ p2) (n13 : p1 ≠ p3) (n14 : p1 ≠ p4) (n23 : p2 ≠ p3) (n24 : p2 ≠ p4) (n34 : p3 ≠ p4) (n17 : p1 ≠ p7) (n27 : p2 ≠ p7) (n37 : p3 ≠ p7) (n47 : p4 ≠ p7) :
    Four (w.setCell p1 v1) p1 p2 p3 p4 v1 v2 v3 v4 ∧ Four ((w.setCell p1 v1).setCell p2 v2) p1 p2 p3 p4 v1 v2 v3 v4 ∧ Four (((w.setCell p1 v1).setCell p2 v2).setCell p3 v3) p1 p2 p3 p4 v1 v2 v3 v4 ∧ Four ((((w.setCell p1 v1).setCell p2 v2).setCell p3 v3).setCell p7 v7) p1 p2 p3 p4 v1 v2 v3 v4 := by
  have a1 := four_set (p := p1) (v := v1) h h.1 (fun _ => rfl) (fun e => absurd e n12) (fun e => absurd e n13) (fun e => absurd e n14)
  have a2 := four_set (p := p2) (v := v2) a1 a1.2.1 (fun e => absurd e.symm n12) (fun _ => rfl) (fun e => absurd e n23) (fun e => absurd e n24)
  have a3 := four_set (p := p3) (v := v3) a2 a2.2.2.1 (fun e => absurd e.symm n13) (fun e => absurd e.symm n23) (fun _ => rfl) (fun e => absurd e n34)
  have c7 : (((w.setCell p1 v1).setCell p2 v2).setCell p3 v3).cell? p7 = some x := by
    rw [World.cell?_setCell_other _ _ _ _ n37, World.cell?_setCell_other _ _ _ _ n27, World.cell?_setCell_other _ _ _ _ n17]
    exact h7
  exact ⟨a1, a2, a3, four_set a3 c7 (fun e => absurd e.symm n17) (fun e => absurd e.symm n27) (fun e => absurd e.symm n37) (fun e => absurd e.symm n47)⟩
/-- sums' bounds -/
theorem big_pow {x n : Nat} (hx : x ≤ 1000) (hn : n ≤ 64) : x ^ n ≤ 1000 ^ 64 :=
  Nat.le_trans (Nat.pow_le_pow_left hx n) (Nat.pow_le_pow_right (by decide) hn)
theorem sm_b {N : Nat} (h : N ≤ 2 ^ 80 * 1000 ^ 64) : sm N := sm_big (Nat.lt_of_le_of_lt h (by decide +kernel))
/-- what sums leaves -/
def SRes (w : World) (F P E D : Nat) (v : Value) (w' : World) : Prop := ∃ q1 q2 q3 q4 : LmP, v = .tuple #[natV (lim F) q1, natV (lim P) q2, natV (lim E) q3, natV (lim D) q4] ∧ RLm w' w'.heap.size (lim F) q1 ∧ RLm w' w'.heap.size (lim P) q2 ∧ RLm w' w'.heap.size (lim E) q3 ∧ RLm w' w'.heap.size (lim D) q4 ∧ Below w.heap.size w w'
set_option maxHeartbeats 8000000 in
set_option maxRecDepth 100000 in
theorem sums_any (t : Tst) (q : TstP) (a d : Nat) (qn qd : LmP) (w : World) (h : RTst w w.heap.size t q) (hbd : TBd t) (hv : validE t = 0) (hn : RLm w w.heap.size (lim a) qn) (hd : RLm w w.heap.size (lim d) qd) (had : a ≤ d) (hd1 : 1 ≤ d) (hd2 : d ≤ 1000) :
    Calls Tryz.prog 31 #[tstV t q, ratV (lim a) qn (lim d) qd] w (Ret (SRes w (allS (VT t) a (d - a) t.acc.length kF) (allS (VT t) a (d - a) t.acc.length kP) (allS (VT t) a (d - a) t.acc.length kE) (d ^ t.acc.length))) := by
  have n1 := (validE_vld hv).n1
  have hb2 : a + (d - a) = d := by omega
  have aS : sm a := sm_s (by omega)
  have dS : sm d := sm_s (by omega)
  have bS : sm (d - a) := sm_s (by omega)
  have wgS : Hid (∀ n m, n ≤ t.acc.length → m ≤ n → sm (a ^ m) ∧ sm ((d - a) ^ (n - m)) ∧ sm (a ^ m * (d - a) ^ (n - m)) ∧ sm (d ^ (t.acc.length - n)) ∧ sm (a ^ m * (d - a) ^ (n - m) * d ^ (t.acc.length - n)) ∧ sm (C (VT t) n m) ∧ sm (wg (VT t) a (d - a) t.acc.length n m)) := Lib.hid fun n m hn hm => by
    have p0 : ∀ x : Nat, x ≤ 1000 ^ 64 → sm x := fun x hx => sm_b (Nat.le_trans hx (Nat.le_mul_of_pos_left _ (by decide)))
    obtain ⟨q1, q2⟩ := pow_le (a := a) (b := d - a) hm hn
    rw [hb2] at q1 q2
    have q3 := big_pow (x := d) (n := t.acc.length) hd2 n1
    have q4 := big_pow (x := d) (n := n) hd2 (by omega)
    have c1 : C (VT t) n m ≤ 2 ^ 80 := Nat.le_trans (C_le _ _ _) (Nat.pow_le_pow_right (by decide) (by omega))
    refine ⟨p0 _ (big_pow (by omega) (by omega)), p0 _ (big_pow (by omega) (by omega)), p0 _ (Nat.le_trans q1 q4), p0 _ (big_pow hd2 (by omega)), p0 _ (Nat.le_trans q2 q3), sm_b (Nat.le_trans c1 (Nat.le_mul_of_pos_right _ (Nat.pow_pos (by decide)))), sm_b ?_⟩
    unfold wg
    rw [hb2]
    exact Nat.mul_le_mul c1 (Nat.le_trans q2 q3)
  have smT : Hid (∀ (k : Int → Nat → Nat), (∀ v n, n ≤ t.acc.length → k v n ≤ 64) → ∀ n m, n ≤ t.acc.length → m ≤ n + 1 → sm (tpT (VT t) a (d - a) t.acc.length k n + rpT (VT t) a (d - a) t.acc.length k n m)) := Lib.hid fun k hk n m hn hm => by
    have e1 := part_le (V := VT t) (a := a) (b := d - a) (k := k) hn hm
    have e2 := allS_le (V := VT t) (a := a) (b := d - a) hk
    rw [hb2] at e2
    refine sm_b (Nat.le_trans (Nat.le_trans e1 e2) (Nat.mul_le_mul (by decide) (big_pow hd2 n1)))
  have k1 : ∀ v n, n ≤ t.acc.length → kF v n ≤ 64 := fun v n _ => by unfold kF; split <;> omega
  have k2 : ∀ v n, n ≤ t.acc.length → kP v n ≤ 64 := fun v n _ => by unfold kP; split <;> omega
  have k3 : ∀ v n, n ≤ t.acc.length → kE v n ≤ 64 := fun v n h => by unfold kE; omega
  have smF := Lib.hid (smT.out _ k1)
  have smP := Lib.hid (smT.out _ k2)
  have smE := Lib.hid (smT.out _ k3)
  clear smT k1 k2 k3
  obtain ⟨ta, tc, tb, td⟩ := q
  obtain ⟨qna, qnc⟩ := qn
  obtain ⟨qda, qdc⟩ := qd
  have HC := Lib.hid (fun w' (h' : RTst w' w'.heap.size t ⟨ta, tc, tb, td⟩) => counts_any t ⟨ta, tc, tb, td⟩ w' h' hbd hv)
  have HV := Lib.hid (fun (n f : Nat) w' (h' : RTst w' w'.heap.size t ⟨ta, tc, tb, td⟩) (h1 : 1 ≤ n) (h2 : n ≤ t.acc.length) (h3 : f ≤ n) => pverd_any t ⟨ta, tc, tb, td⟩ n f w' h' hbd hv h1 h2 h3)
  have HS := Lib.hid (fun q r w' (h1 : RLm w' w'.heap.size (lim d) q) (h2 : RLm w' w'.heap.size (lim a) r) => psub_lim d a q r w' dS aS had h1 h2)
  have HP := Lib.hid (fun (x n : Nat) q w' (h0 : sm x) (h1 : sm (x ^ n)) (h2 : RLm w' w'.heap.size (lim x) q) => ppow_lim x q w' n h0 h1 h2)
  have HM := Lib.hid (fun (x y : Nat) q r w' (h0 : sm x) (h1 : sm y) (h2 : sm (x * y)) (h3 : RLm w' w'.heap.size (lim x) q) (h4 : RLm w' w'.heap.size (lim y) r) => pmul_lim x y q r w' h0 h1 h2 h3 h4)
  have HD := Lib.hid (fun (x y : Nat) q r w' (h0 : sm x) (h1 : sm y) (h2 : sm (x + y)) (h3 : RLm w' w'.heap.size (lim x) q) (h4 : RLm w' w'.heap.size (lim y) r) => padd_lim x y q r w' h0 h1 h2 h3 h4)
  have S := Lib.hid (((natArg (natArg (Fm.init w) hd) hn).arg (tstRd w.heap.size t ⟨ta, tc, tb, td⟩) h (fun g hg => hg)))
  clear h hbd hv hn hd
  replace aS := Lib.hid aS
  replace dS := Lib.hid dS
  replace bS := Lib.hid bS
  obtain ⟨Av, hA⟩ : ∃ v, lim a = v := ⟨_, rfl⟩
  obtain ⟨Dv, hD⟩ : ∃ v, lim d = v := ⟨_, rfl⟩
  obtain ⟨Bv, hB⟩ : ∃ v, lim (d - a) = v := ⟨_, rfl⟩
  rw [hA, hD] at S
  rw [hA, hD, hB] at HS
  rw [hA, hD]
  replace hA := Lib.hid hA
  replace hD := Lib.hid hD
  replace hB := Lib.hid hB
  replace S := Lib.hid (S.out.box 32 [.slice ta t.acc.length tc, .slice tb t.rej.length td])
  replace S := Lib.hid (S.out.box' 26 [.slice qna Av.length qnc, .slice qda Dv.length qdc] (K := w.heap.size + 1) (by simp))
  replace S := Lib.hid (S.out.box' 24 [.slice none 0 0] (K := w.heap.size + 1 + 1) (by simp))
  replace S := Lib.hid (S.out.box' 24 [.slice none 0 0] (K := w.heap.size + 1 + 1 + 1) (by simp))
  replace S := Lib.hid (S.out.box' 24 [.slice none 0 0] (K := w.heap.size + 1 + 1 + 1 + 1) (by simp))
  replace S := Lib.hid (S.out.box' 24 [.slice none 0 0] (K := w.heap.size + 1 + 1 + 1 + 1 + 1) (by simp))
  go_enter Tryz.func31, Tryz.ntmps31
  go_wp2_with fail
  refine (HS.out ⟨qda, qdc⟩ ⟨qna, qnc⟩ _ S.out.r2 S.out.r1).mono ?_
  rintro e w1 ⟨_, rfl, q9, rfl, hr, hf, hb⟩
  replace S := Lib.hid (natRes S.out hr hf hb)
  clear hr hf hb
  replace S := Lib.hid (S.out.box 24 [.slice q9.a Bv.length q9.c])
  obtain ⟨⟨z6, f6, y6, -⟩, ⟨z5, f5, y5, -⟩, ⟨z4, f4, y4, -⟩, ⟨z3, f3, y3, -⟩, ⟨z2, f2, y2, -⟩, ⟨z1, f1, y1, y1a, -⟩, ⟨z0, f0, y0, y0a, -⟩, -⟩ := S.out.facts
  go_wp2_with fail
  have hT : RTst _ _ t ⟨ta, tc, tb, td⟩ := (allR_at S.out.rd (tstRd w.heap.size t ⟨ta, tc, tb, td⟩) (by simp))
  refine (HC.out _ (rtst_more hT S.out.size)).mono ?_
  clear hT
  rintro e w2 ⟨v, rfl, G, Q, hC, hb⟩
  obtain ⟨Ac, cc, rfl, hT⟩ := hC.tab (Nat.succ_pos _)
  obtain ⟨b0, o0, rfl, -, -, -⟩ := hT.arr (Nat.succ_pos _)
  replace S := Lib.hid (S.out.res (tabRd _ _ (some ⟨b0, o0, none⟩) (t.acc.length + 1) (fun i f => lim (C (VT t) i f)) (fun i => some ⟨G i, 0, none⟩) (fun i => i + 1) Q) hb hT (fun g hg => hg))
  clear hb hC hT
  obtain ⟨lo, hlo⟩ : ∃ x, (w1.alloc (.cells #[.slice q9.a Bv.length q9.c] 24)).heap.size = x := ⟨_, rfl⟩
  obtain ⟨hi, hhi⟩ : ∃ x, w2.heap.size = x := ⟨_, rfl⟩
  rw [hlo, hhi] at S
  clear hlo hhi z6 f6 y6 z5 f5 y5 z4 f4 y4 z3 f3 y3 z2 f2 y2 z1 f1 y1 y1a z0 f0 y0 y0a
  have hS0 : Hid (Fm w w2 [⟨w1.heap.size, 24, [.slice q9.a Bv.length q9.c]⟩, ⟨w.heap.size + 1 + 1 + 1 + 1 + 1, 24, [.slice none 0 0]⟩, ⟨w.heap.size + 1 + 1 + 1 + 1, 24, [.slice (⟨none, 0⟩ : LmP).a (lim (tpT (VT t) a (d - a) t.acc.length kE 0)).length (⟨none, 0⟩ : LmP).c]⟩, ⟨w.heap.size + 1 + 1 + 1, 24, [.slice (⟨none, 0⟩ : LmP).a (lim (tpT (VT t) a (d - a) t.acc.length kP 0)).length (⟨none, 0⟩ : LmP).c]⟩, ⟨w.heap.size + 1 + 1, 24, [.slice (⟨none, 0⟩ : LmP).a (lim (tpT (VT t) a (d - a) t.acc.length kF 0)).length (⟨none, 0⟩ : LmP).c]⟩, ⟨w.heap.size + 1, 26, [.slice qna Av.length qnc, .slice qda Dv.length qdc]⟩, ⟨w.heap.size, 32, [.slice ta t.acc.length tc, .slice tb t.rej.length td]⟩] [rowRd (lim (tpT (VT t) a (d - a) t.acc.length kE 0)) (⟨none, 0⟩ : LmP), rowRd (lim (tpT (VT t) a (d - a) t.acc.length kP 0)) (⟨none, 0⟩ : LmP), rowRd (lim (tpT (VT t) a (d - a) t.acc.length kF 0)) (⟨none, 0⟩ : LmP), tabRd lo hi (some ⟨b0, o0, none⟩) (t.acc.length + 1) (fun i f => lim (C (VT t) i f)) (fun i => some ⟨G i, 0, none⟩) (fun i => i + 1) Q, rowRd Bv q9, tstRd w.heap.size t ⟨ta, tc, tb, td⟩, rowRd Av ⟨qna, qnc⟩, rowRd Dv ⟨qda, qdc⟩]) := Lib.hid (by
    have x := ((S.out.also (rowRd [] ⟨none, 0⟩) (RLm.none_ _ _) (fun g ⟨h, _⟩ => absurd h (by simp))).also (rowRd [] ⟨none, 0⟩) (RLm.none_ _ _) (fun g ⟨h, _⟩ => absurd h (by simp))).also (rowRd [] ⟨none, 0⟩) (RLm.none_ _ _) (fun g ⟨h, _⟩ => absurd h (by simp))
    rw [tt_zero, tt_zero, tt_zero, lim_zero]
    exact x)
  obtain ⟨⟨z6, f6, y6, -⟩, ⟨z5, f5, y5, -⟩, ⟨z4, f4, y4, -⟩, ⟨z3, f3, y3, -⟩, ⟨z2, f2, y2, -⟩, ⟨z1, f1, y1, y1a, -⟩, ⟨z0, f0, y0, y0a, -⟩, -⟩ := S.out.facts
  clear S
  go_wp2_with fail
  go_loopw [26] (fun i wr => ∃ (n : Nat) (qF qP qE : LmP), n ≤ t.acc.length + 1 ∧ i = .int .i64 (n : Int) ∧ Hid (Fm w wr [⟨w1.heap.size, 24, [.slice q9.a Bv.length q9.c]⟩, ⟨w.heap.size + 1 + 1 + 1 + 1 + 1, 24, [.slice none 0 0]⟩, ⟨w.heap.size + 1 + 1 + 1 + 1, 24, [.slice qE.a (lim (tpT (VT t) a (d - a) t.acc.length kE n)).length qE.c]⟩, ⟨w.heap.size + 1 + 1 + 1, 24, [.slice qP.a (lim (tpT (VT t) a (d - a) t.acc.length kP n)).length qP.c]⟩, ⟨w.heap.size + 1 + 1, 24, [.slice qF.a (lim (tpT (VT t) a (d - a) t.acc.length kF n)).length qF.c]⟩, ⟨w.heap.size + 1, 26, [.slice qna Av.length qnc, .slice qda Dv.length qdc]⟩, ⟨w.heap.size, 32, [.slice ta t.acc.length tc, .slice tb t.rej.length td]⟩] [rowRd (lim (tpT (VT t) a (d - a) t.acc.length kE n)) qE, rowRd (lim (tpT (VT t) a (d - a) t.acc.length kP n)) qP, rowRd (lim (tpT (VT t) a (d - a) t.acc.length kF n)) qF, tabRd lo hi (some ⟨b0, o0, none⟩) (t.acc.length + 1) (fun i f => lim (C (VT t) i f)) (fun i => some ⟨G i, 0, none⟩) (fun i => i + 1) Q, rowRd Bv q9, tstRd w.heap.size t ⟨ta, tc, tb, td⟩, rowRd Av ⟨qna, qnc⟩, rowRd Dv ⟨qda, qdc⟩])) (fun i _ => t.acc.length + 1 - (intOf i).toNat)
  case atStart => exact ⟨0, ⟨none, 0⟩, ⟨none, 0⟩, ⟨none, 0⟩, Nat.zero_le _, rfl, hS0⟩
  case round =>
    clear hS0 z6 f6 y6 z5 f5 y5 z4 f4 y4 z3 f3 y3 z2 f2 y2 z1 f1 y1 y1a z0 f0 y0 y0a
    rename World => wo
    obtain ⟨n, qF, qP, qE, hn, rfl, S⟩ := hrel
    obtain ⟨⟨z6, f6, y6, -⟩, ⟨z5, f5, y5, -⟩, ⟨z4, f4, y4, -⟩, ⟨z3, f3, y3, -⟩, ⟨z2, f2, y2, -⟩, ⟨z1, f1, y1, y1a, -⟩, ⟨z0, f0, y0, y0a, -⟩, -⟩ := S.out.facts
    by_cases hlt : n < t.acc.length + 1
    · have hd : decide ((n : Int) < (t.acc.length : Int) + 1) = true := decide_eq_true (by omega)
      have hTb : NTab wo lo hi (some ⟨b0, o0, none⟩) (t.acc.length + 1) (fun i f => lim (C (VT t) i f)) (fun i => some ⟨G i, 0, none⟩) (fun i => i + 1) Q := S.out.r3
      have yr := hTb.outer hlt

      clear hTb
      go_wp2_with fail
      clear z6 f6 y6 z5 f5 y5 z4 f4 y4 z3 f3 y3 z2 f2 y2 z1 f1 y1 y1a z0 f0 y0 y0a yr
      replace S : Hid (Fm w wo [⟨w1.heap.size, 24, [.slice q9.a Bv.length q9.c]⟩, ⟨w.heap.size + 1 + 1 + 1 + 1 + 1, 24, [.slice none 0 0]⟩, ⟨w.heap.size + 1 + 1 + 1 + 1, 24, [.slice qE.a (lim (tpT (VT t) a (d - a) t.acc.length kE n + rpT (VT t) a (d - a) t.acc.length kE n 0)).length qE.c]⟩, ⟨w.heap.size + 1 + 1 + 1, 24, [.slice qP.a (lim (tpT (VT t) a (d - a) t.acc.length kP n + rpT (VT t) a (d - a) t.acc.length kP n 0)).length qP.c]⟩, ⟨w.heap.size + 1 + 1, 24, [.slice qF.a (lim (tpT (VT t) a (d - a) t.acc.length kF n + rpT (VT t) a (d - a) t.acc.length kF n 0)).length qF.c]⟩, ⟨w.heap.size + 1, 26, [.slice qna Av.length qnc, .slice qda Dv.length qdc]⟩, ⟨w.heap.size, 32, [.slice ta t.acc.length tc, .slice tb t.rej.length td]⟩] [rowRd (lim (tpT (VT t) a (d - a) t.acc.length kE n + rpT (VT t) a (d - a) t.acc.length kE n 0)) qE, rowRd (lim (tpT (VT t) a (d - a) t.acc.length kP n + rpT (VT t) a (d - a) t.acc.length kP n 0)) qP, rowRd (lim (tpT (VT t) a (d - a) t.acc.length kF n + rpT (VT t) a (d - a) t.acc.length kF n 0)) qF, tabRd lo hi (some ⟨b0, o0, none⟩) (t.acc.length + 1) (fun i f => lim (C (VT t) i f)) (fun i => some ⟨G i, 0, none⟩) (fun i => i + 1) Q, rowRd Bv q9, tstRd w.heap.size t ⟨ta, tc, tb, td⟩, rowRd Av ⟨qna, qnc⟩, rowRd Dv ⟨qda, qdc⟩]) := S
      go_loopw [33] (fun i wr => ∃ (m : Nat) (qF qP qE : LmP), m ≤ n + 1 ∧ i = .int .i64 (m : Int) ∧ Hid (Fm w wr [⟨w1.heap.size, 24, [.slice q9.a Bv.length q9.c]⟩, ⟨w.heap.size + 1 + 1 + 1 + 1 + 1, 24, [.slice none 0 0]⟩, ⟨w.heap.size + 1 + 1 + 1 + 1, 24, [.slice qE.a (lim (tpT (VT t) a (d - a) t.acc.length kE n + rpT (VT t) a (d - a) t.acc.length kE n m)).length qE.c]⟩, ⟨w.heap.size + 1 + 1 + 1, 24, [.slice qP.a (lim (tpT (VT t) a (d - a) t.acc.length kP n + rpT (VT t) a (d - a) t.acc.length kP n m)).length qP.c]⟩, ⟨w.heap.size + 1 + 1, 24, [.slice qF.a (lim (tpT (VT t) a (d - a) t.acc.length kF n + rpT (VT t) a (d - a) t.acc.length kF n m)).length qF.c]⟩, ⟨w.heap.size + 1, 26, [.slice qna Av.length qnc, .slice qda Dv.length qdc]⟩, ⟨w.heap.size, 32, [.slice ta t.acc.length tc, .slice tb t.rej.length td]⟩] [rowRd (lim (tpT (VT t) a (d - a) t.acc.length kE n + rpT (VT t) a (d - a) t.acc.length kE n m)) qE, rowRd (lim (tpT (VT t) a (d - a) t.acc.length kP n + rpT (VT t) a (d - a) t.acc.length kP n m)) qP, rowRd (lim (tpT (VT t) a (d - a) t.acc.length kF n + rpT (VT t) a (d - a) t.acc.length kF n m)) qF, tabRd lo hi (some ⟨b0, o0, none⟩) (t.acc.length + 1) (fun i f => lim (C (VT t) i f)) (fun i => some ⟨G i, 0, none⟩) (fun i => i + 1) Q, rowRd Bv q9, tstRd w.heap.size t ⟨ta, tc, tb, td⟩, rowRd Av ⟨qna, qnc⟩, rowRd Dv ⟨qda, qdc⟩])) (fun i _ => n + 1 - (intOf i).toNat)
      case atStart => exact ⟨0, qF, qP, qE, Nat.zero_le _, rfl, S⟩
      case round =>
        clear S
        obtain ⟨m, qF, qP, qE, hm, rfl, S⟩ := hrel
        by_cases hlm : m < n + 1
        · have hd2 : decide ((m : Int) < (n : Int) + 1) = true := decide_eq_true (by omega)
          have rC := tab_num S.out (lo := lo) (hi := hi) (A := some ⟨b0, o0, none⟩) (k := t.acc.length + 1) (L := fun i f => lim (C (VT t) i f)) (R := fun i => some ⟨G i, 0, none⟩) (K := fun i => i + 1) (Q := Q) (by simp) hlt (show m ≤ n by omega)
          have hTb : NTab wr lo hi (some ⟨b0, o0, none⟩) (t.acc.length + 1) (fun i f => lim (C (VT t) i f)) (fun i => some ⟨G i, 0, none⟩) (fun i => i + 1) Q := S.out.r3
          have yc := hTb.at0 hlt (show m ≤ n by omega)
          clear hTb
          try dsimp only at yc rC
          obtain ⟨⟨ca, cc⟩, hQ⟩ : ∃ p, Q n m = p := ⟨_, rfl⟩
          obtain ⟨Cv, hCv⟩ : ∃ v, lim (C (VT t) n m) = v := ⟨_, rfl⟩
          rw [hQ, hCv] at yc rC
          replace S := Lib.hid (natOf S.out rC (Below.refl _ _) (by simp))
          clear rC hQ
          obtain ⟨fN, hfN⟩ : ∃ x, tpT (VT t) a (d - a) t.acc.length kF n + rpT (VT t) a (d - a) t.acc.length kF n m = x := ⟨_, rfl⟩
          obtain ⟨pN, hpN⟩ : ∃ x, tpT (VT t) a (d - a) t.acc.length kP n + rpT (VT t) a (d - a) t.acc.length kP n m = x := ⟨_, rfl⟩
          obtain ⟨eN, heN⟩ : ∃ x, tpT (VT t) a (d - a) t.acc.length kE n + rpT (VT t) a (d - a) t.acc.length kE n m = x := ⟨_, rfl⟩
          have sF0 := smF.out n m (by omega) (by omega)
          have sP0 := smP.out n m (by omega) (by omega)
          have sE0 := smE.out n m (by omega) (by omega)
          have sF1 := smF.out n (m + 1) (by omega) (by omega)
          have sP1 := smP.out n (m + 1) (by omega) (by omega)
          have sE1 := smE.out n (m + 1) (by omega) (by omega)
          rw [tr_succ] at sF1 sP1 sE1
          have nF := Lib.hid (tr_succ (V := VT t) (a := a) (b := d - a) (N := t.acc.length) (n := n) (m := m) kF)
          have nP := Lib.hid (tr_succ (V := VT t) (a := a) (b := d - a) (N := t.acc.length) (n := n) (m := m) kP)
          have nE := Lib.hid (tr_succ (V := VT t) (a := a) (b := d - a) (N := t.acc.length) (n := n) (m := m) kE)
          rw [hfN, hpN, heN] at S
          rw [hfN] at nF sF0 sF1
          rw [hpN] at nP sP0 sP1
          rw [heN] at nE sE0 sE1
          replace sF0 := Lib.hid sF0
          replace sP0 := Lib.hid sP0
          replace sE0 := Lib.hid sE0
          replace sF1 := Lib.hid sF1
          replace sP1 := Lib.hid sP1
          replace sE1 := Lib.hid sE1
          clear hfN hpN heN
          replace hCv := Lib.hid hCv
          obtain ⟨⟨z6, f6, y6, -⟩, ⟨z5, f5, y5, -⟩, ⟨z4, f4, y4, -⟩, ⟨z3, f3, y3, -⟩, ⟨z2, f2, y2, -⟩, ⟨z1, f1, y1, y1a, -⟩, ⟨z0, f0, y0, y0a, -⟩, -⟩ := S.out.facts
          by_cases hn0 : n = 0
          · have hx : ((n : Int) == 0) = true := by rw [beq_iff_eq]; omega
            replace nF := Lib.hid (nF.out.trans (by rw [tm_0 (.inl hn0)]))
            replace nP := Lib.hid (nP.out.trans (by rw [tm_0 (.inl hn0)]))
            replace nE := Lib.hid (nE.out.trans (by rw [tm_0 (.inl hn0)]))
            replace hn0 := Lib.hid hn0
            replace S := Lib.hid (S.out.drop _ _ (List.Sublist.refl _) (.cons _ (List.Sublist.refl _)))
            replace S := Lib.hid (S.out.obj (.cells #[.slice ca Cv.length cc] 24))
            go_wp2
            go_roundw
            case rel => exact ⟨m + 1, qF, qP, qE, by omega, by go_num, Lib.hid (by rw [nF.out, nP.out, nE.out]; exact S.out)⟩
            case measure => simp [intOf]; omega
          · have hx : ((n : Int) == 0) = false := by rw [beq_eq_false_iff_ne]; omega
            replace S := Lib.hid (S.out.box 24 [.slice ca Cv.length cc])
            clear z6 f6 y6 z5 f5 y5 z4 f4 y4 z3 f3 y3 z2 f2 y2 z1 f1 y1 y1a z0 f0 y0 y0a
            go_upto_region 10 with fail
            obtain ⟨s1, s2, s3, s4, s5, s6, s7⟩ := wgS.out n m (by omega) (by omega)
            have P1 := Lib.hid (fun q w' h => HP.out a m q w' aS.out s1 h)
            have P2 := Lib.hid (fun q w' h => HP.out (d - a) (n - m) q w' bS.out s2 h)
            have P3 := Lib.hid (fun q w' h => HP.out d (t.acc.length - n) q w' dS.out s4 h)
            have M1 := Lib.hid (fun q r w' h1 h2 => HM.out (a ^ m) ((d - a) ^ (n - m)) q r w' s1 s2 s3 h1 h2)
            have M2 := Lib.hid (fun q r w' h1 h2 => HM.out (a ^ m * (d - a) ^ (n - m)) (d ^ (t.acc.length - n)) q r w' s3 s4 s5 h1 h2)
            have eW : wg (VT t) a (d - a) t.acc.length n m = C (VT t) n m * (a ^ m * (d - a) ^ (n - m) * d ^ (t.acc.length - n)) := by unfold wg; rw [hb2]
            rw [eW] at s7
            have M3 := Lib.hid (fun q r w' h1 h2 => HM.out (C (VT t) n m) (a ^ m * (d - a) ^ (n - m) * d ^ (t.acc.length - n)) q r w' s6 s5 s7 h1 h2)
            rw [← eW] at s7 M3
            replace s7 := Lib.hid s7
            rw [hA.out] at P1
            rw [hB.out, show ((n - m : Nat) : Int) = (n : Int) - (m : Int) by omega] at P2
            rw [hD.out, show ((t.acc.length - n : Nat) : Int) = (t.acc.length : Int) - (n : Int) by omega] at P3
            rw [hCv.out] at M3
            obtain ⟨X1, hX1⟩ : ∃ v, lim (a ^ m) = v := ⟨_, rfl⟩
            obtain ⟨X2, hX2⟩ : ∃ v, lim ((d - a) ^ (n - m)) = v := ⟨_, rfl⟩
            obtain ⟨X3, hX3⟩ : ∃ v, lim (a ^ m * (d - a) ^ (n - m)) = v := ⟨_, rfl⟩
            obtain ⟨X4, hX4⟩ : ∃ v, lim (d ^ (t.acc.length - n)) = v := ⟨_, rfl⟩
            obtain ⟨X5, hX5⟩ : ∃ v, lim (a ^ m * (d - a) ^ (n - m) * d ^ (t.acc.length - n)) = v := ⟨_, rfl⟩
            obtain ⟨wN, hwN⟩ : ∃ v, wg (VT t) a (d - a) t.acc.length n m = v := ⟨_, rfl⟩
            rw [hwN] at M3 s7
            replace hwN := Lib.hid hwN
            obtain ⟨Wv, hWv⟩ : ∃ v, lim wN = v := ⟨_, rfl⟩
            rw [hX1] at P1 M1
            rw [hX2] at P2 M1
            rw [hX4] at P3 M2
            rw [hX3] at M1 M2
            rw [hX5] at M2 M3
            rw [hWv] at M3
            replace hWv := Lib.hid hWv
            clear s1 s2 s3 s4 s5 s6 eW hX1 hX2 hX3 hX4 hX5
            have r1 : IntKind.i64.wrap ((n : Int) - (m : Int)) = (n : Int) - (m : Int) := IntWalk.i64_in _ (by omega)
            have r2 : IntKind.i64.wrap ((t.acc.length : Int) - (n : Int)) = (t.acc.length : Int) - (n : Int) := IntWalk.i64_in _ (by omega)
            go_cut [14] (fun s14 wx => ∃ (B : Nat) (qW : LmP), s14 = .pointer (some ⟨B, 0, none⟩) ∧ Hid (Fm w wx [⟨B, 24, [.slice qW.a Wv.length qW.c]⟩, ⟨wr.heap.size, 24, [.slice ca Cv.length cc]⟩, ⟨w1.heap.size, 24, [.slice q9.a Bv.length q9.c]⟩, ⟨w.heap.size + 1 + 1 + 1 + 1 + 1, 24, [.slice none 0 0]⟩, ⟨w.heap.size + 1 + 1 + 1 + 1, 24, [.slice qE.a (lim eN).length qE.c]⟩, ⟨w.heap.size + 1 + 1 + 1, 24, [.slice qP.a (lim pN).length qP.c]⟩, ⟨w.heap.size + 1 + 1, 24, [.slice qF.a (lim fN).length qF.c]⟩, ⟨w.heap.size + 1, 26, [.slice qna Av.length qnc, .slice qda Dv.length qdc]⟩, ⟨w.heap.size, 32, [.slice ta t.acc.length tc, .slice tb t.rej.length td]⟩] [rowRd Wv qW, rowRd Cv ⟨ca, cc⟩, rowRd (lim eN) qE, rowRd (lim pN) qP, rowRd (lim fN) qF, tabRd lo hi (some ⟨b0, o0, none⟩) (t.acc.length + 1) (fun i f => lim (C (VT t) i f)) (fun i => some ⟨G i, 0, none⟩) (fun i => i + 1) Q, rowRd Bv q9, tstRd w.heap.size t ⟨ta, tc, tb, td⟩, rowRd Av ⟨qna, qnc⟩, rowRd Dv ⟨qda, qdc⟩]))
            case first =>
              generalize wr.alloc (.cells #[.slice ca Cv.length cc] 24) = W3 at S ⊢
              obtain ⟨⟨z7, f7, y7, -⟩, ⟨z6, f6, y6, -⟩, ⟨z5, f5, y5, -⟩, ⟨z4, f4, y4, -⟩, ⟨z3, f3, y3, -⟩, ⟨z2, f2, y2, -⟩, ⟨z1, f1, y1, y1a, -⟩, ⟨z0, f0, y0, y0a, -⟩, -⟩ := S.out.facts
              have nb1 := Nat.ne_of_lt z7
              have nb2 := Nat.ne_of_gt z7
              have nb3 := Nat.ne_of_lt z6
              have nb4 := Nat.ne_of_gt z6
              have nb5 := Nat.ne_of_lt z1
              have nb6 := Nat.ne_of_gt z1
              have zz7 := z7
              have zz6 := z6
              have zz1 := z1
              clear z7 f7 y7 z6 f6 y6 z5 f5 y5 z4 f4 y4 z3 f3 y3 z2 f2 y2 z1 f1 y1 y1a z0 f0 y0 y0a
              have S3 := S
              have hkA : (W3.alloc (.cells #[.slice none 0 0] 24)).drew.cell? ⟨wr.heap.size, 0, none⟩ = some (.slice ca Cv.length cc) ∧ (W3.alloc (.cells #[.slice none 0 0] 24)).drew.cell? ⟨w.heap.size + 1, 0, none⟩ = some (.slice qna Av.length qnc) ∧ (W3.alloc (.cells #[.slice none 0 0] 24)).drew.cell? ⟨w.heap.size + 1, 1, none⟩ = some (.slice qda Dv.length qdc) ∧ (W3.alloc (.cells #[.slice none 0 0] 24)).drew.cell? ⟨w1.heap.size, 0, none⟩ = some (.slice q9.a Bv.length q9.c) := by
                obtain ⟨⟨z8, f8, y8, -⟩, ⟨z7, f7, y7, -⟩, ⟨z6, f6, y6, -⟩, ⟨z5, f5, y5, -⟩, ⟨z4, f4, y4, -⟩, ⟨z3, f3, y3, -⟩, ⟨z2, f2, y2, -⟩, ⟨z1, f1, y1, y1a, -⟩, ⟨z0, f0, y0, y0a, -⟩, -⟩ := (S3.out.box 24 [.slice none 0 0]).drew.facts
                exact ⟨y7, y1, y1a, y6⟩
              replace S := Lib.hid S.out.drew
              obtain ⟨⟨z7, f7, y7, -⟩, ⟨z6, f6, y6, -⟩, ⟨z5, f5, y5, -⟩, ⟨z4, f4, y4, -⟩, ⟨z3, f3, y3, -⟩, ⟨z2, f2, y2, -⟩, ⟨z1, f1, y1, y1a, -⟩, ⟨z0, f0, y0, y0a, -⟩, -⟩ := S.out.facts
              go_region_held3 (fun w' => w'.cell? ⟨wr.heap.size, 0, none⟩ = some (.slice ca Cv.length cc) ∧ w'.cell? ⟨w.heap.size + 1, 0, none⟩ = some (.slice qna Av.length qnc) ∧ w'.cell? ⟨w.heap.size + 1, 1, none⟩ = some (.slice qda Dv.length qdc) ∧ w'.cell? ⟨w1.heap.size, 0, none⟩ = some (.slice q9.a Bv.length q9.c)) (first | with_reducible assumption | go_keep)
                (first
                  | ((with_reducible refine (P1.out ⟨qna, qnc⟩ _ (natOld S.out (by simp))).mono ?_); rintro e wx ⟨_, rfl, qx, rfl, hr, hb⟩; replace S := Lib.hid (natOf S.out hr hb (by simp)); clear hr hb; clear z8 f8 y8 z7 f7 y7 z6 f6 y6 z5 f5 y5 z4 f4 y4 z3 f3 y3 z2 f2 y2 z1 f1 y1 y1a z0 f0 y0 y0a; obtain ⟨⟨z8, f8, y8, -⟩, ⟨z7, f7, y7, -⟩, ⟨z6, f6, y6, -⟩, ⟨z5, f5, y5, -⟩, ⟨z4, f4, y4, -⟩, ⟨z3, f3, y3, -⟩, ⟨z2, f2, y2, -⟩, ⟨z1, f1, y1, y1a, -⟩, ⟨z0, f0, y0, y0a, -⟩, -⟩ := S.out.facts)
                  | ((with_reducible refine (P2.out q9 _ (natOld S.out (by simp))).mono ?_); rintro e wx ⟨_, rfl, qx, rfl, hr, hb⟩; replace S := Lib.hid (natOf S.out hr hb (by simp)); clear hr hb; clear z8 f8 y8 z7 f7 y7 z6 f6 y6 z5 f5 y5 z4 f4 y4 z3 f3 y3 z2 f2 y2 z1 f1 y1 y1a z0 f0 y0 y0a; obtain ⟨⟨z8, f8, y8, -⟩, ⟨z7, f7, y7, -⟩, ⟨z6, f6, y6, -⟩, ⟨z5, f5, y5, -⟩, ⟨z4, f4, y4, -⟩, ⟨z3, f3, y3, -⟩, ⟨z2, f2, y2, -⟩, ⟨z1, f1, y1, y1a, -⟩, ⟨z0, f0, y0, y0a, -⟩, -⟩ := S.out.facts)
                  | ((with_reducible refine (P3.out ⟨qda, qdc⟩ _ (natOld S.out (by simp))).mono ?_); rintro e wx ⟨_, rfl, qx, rfl, hr, hb⟩; replace S := Lib.hid (natOf S.out hr hb (by simp)); clear hr hb; clear z8 f8 y8 z7 f7 y7 z6 f6 y6 z5 f5 y5 z4 f4 y4 z3 f3 y3 z2 f2 y2 z1 f1 y1 y1a z0 f0 y0 y0a; obtain ⟨⟨z8, f8, y8, -⟩, ⟨z7, f7, y7, -⟩, ⟨z6, f6, y6, -⟩, ⟨z5, f5, y5, -⟩, ⟨z4, f4, y4, -⟩, ⟨z3, f3, y3, -⟩, ⟨z2, f2, y2, -⟩, ⟨z1, f1, y1, y1a, -⟩, ⟨z0, f0, y0, y0a, -⟩, -⟩ := S.out.facts)
                  | ((with_reducible refine (M1.out _ _ _ (natOld S.out (by simp)) (natOld S.out (by simp))).mono ?_); rintro e wx ⟨_, rfl, qx, rfl, hr, hf, hb⟩; replace S := Lib.hid (natRes S.out hr hf hb); clear hr hf hb; clear z8 f8 y8 z7 f7 y7 z6 f6 y6 z5 f5 y5 z4 f4 y4 z3 f3 y3 z2 f2 y2 z1 f1 y1 y1a z0 f0 y0 y0a; obtain ⟨⟨z8, f8, y8, -⟩, ⟨z7, f7, y7, -⟩, ⟨z6, f6, y6, -⟩, ⟨z5, f5, y5, -⟩, ⟨z4, f4, y4, -⟩, ⟨z3, f3, y3, -⟩, ⟨z2, f2, y2, -⟩, ⟨z1, f1, y1, y1a, -⟩, ⟨z0, f0, y0, y0a, -⟩, -⟩ := S.out.facts)
                  | ((with_reducible refine (M2.out _ _ _ (natOld S.out (by simp)) (natOld S.out (by simp))).mono ?_); rintro e wx ⟨_, rfl, qx, rfl, hr, hf, hb⟩; replace S := Lib.hid (natRes S.out hr hf hb); clear hr hf hb; clear z8 f8 y8 z7 f7 y7 z6 f6 y6 z5 f5 y5 z4 f4 y4 z3 f3 y3 z2 f2 y2 z1 f1 y1 y1a z0 f0 y0 y0a; obtain ⟨⟨z8, f8, y8, -⟩, ⟨z7, f7, y7, -⟩, ⟨z6, f6, y6, -⟩, ⟨z5, f5, y5, -⟩, ⟨z4, f4, y4, -⟩, ⟨z3, f3, y3, -⟩, ⟨z2, f2, y2, -⟩, ⟨z1, f1, y1, y1a, -⟩, ⟨z0, f0, y0, y0a, -⟩, -⟩ := S.out.facts)
                  | ((with_reducible refine (M3.out ⟨ca, cc⟩ _ _ (natOld S.out (by simp)) (natOld S.out (by simp))).mono ?_); rintro e wx ⟨_, rfl, qx, rfl, hr, hf, hb⟩; replace S := Lib.hid (natRes S.out hr hf hb); clear hr hf hb; clear z8 f8 y8 z7 f7 y7 z6 f6 y6 z5 f5 y5 z4 f4 y4 z3 f3 y3 z2 f2 y2 z1 f1 y1 y1a z0 f0 y0 y0a; obtain ⟨⟨z8, f8, y8, -⟩, ⟨z7, f7, y7, -⟩, ⟨z6, f6, y6, -⟩, ⟨z5, f5, y5, -⟩, ⟨z4, f4, y4, -⟩, ⟨z3, f3, y3, -⟩, ⟨z2, f2, y2, -⟩, ⟨z1, f1, y1, y1a, -⟩, ⟨z0, f0, y0, y0a, -⟩, -⟩ := S.out.facts)
                  | ((with_reducible refine (P1.out ⟨qna, qnc⟩ _ (natOld S.out (by simp))).mono ?_); rintro e wx ⟨_, rfl, qx, rfl, hr, hb⟩; replace S := Lib.hid (natOf S.out hr hb (by simp)); clear hr hb; clear z7 f7 y7 z6 f6 y6 z5 f5 y5 z4 f4 y4 z3 f3 y3 z2 f2 y2 z1 f1 y1 y1a z0 f0 y0 y0a; obtain ⟨⟨z7, f7, y7, -⟩, ⟨z6, f6, y6, -⟩, ⟨z5, f5, y5, -⟩, ⟨z4, f4, y4, -⟩, ⟨z3, f3, y3, -⟩, ⟨z2, f2, y2, -⟩, ⟨z1, f1, y1, y1a, -⟩, ⟨z0, f0, y0, y0a, -⟩, -⟩ := S.out.facts)
                  | ((with_reducible refine (P2.out q9 _ (natOld S.out (by simp))).mono ?_); rintro e wx ⟨_, rfl, qx, rfl, hr, hb⟩; replace S := Lib.hid (natOf S.out hr hb (by simp)); clear hr hb; clear z7 f7 y7 z6 f6 y6 z5 f5 y5 z4 f4 y4 z3 f3 y3 z2 f2 y2 z1 f1 y1 y1a z0 f0 y0 y0a; obtain ⟨⟨z7, f7, y7, -⟩, ⟨z6, f6, y6, -⟩, ⟨z5, f5, y5, -⟩, ⟨z4, f4, y4, -⟩, ⟨z3, f3, y3, -⟩, ⟨z2, f2, y2, -⟩, ⟨z1, f1, y1, y1a, -⟩, ⟨z0, f0, y0, y0a, -⟩, -⟩ := S.out.facts)
                  | ((with_reducible refine (P3.out ⟨qda, qdc⟩ _ (natOld S.out (by simp))).mono ?_); rintro e wx ⟨_, rfl, qx, rfl, hr, hb⟩; replace S := Lib.hid (natOf S.out hr hb (by simp)); clear hr hb; clear z7 f7 y7 z6 f6 y6 z5 f5 y5 z4 f4 y4 z3 f3 y3 z2 f2 y2 z1 f1 y1 y1a z0 f0 y0 y0a; obtain ⟨⟨z7, f7, y7, -⟩, ⟨z6, f6, y6, -⟩, ⟨z5, f5, y5, -⟩, ⟨z4, f4, y4, -⟩, ⟨z3, f3, y3, -⟩, ⟨z2, f2, y2, -⟩, ⟨z1, f1, y1, y1a, -⟩, ⟨z0, f0, y0, y0a, -⟩, -⟩ := S.out.facts)
                  | ((with_reducible refine (M1.out _ _ _ (natOld S.out (by simp)) (natOld S.out (by simp))).mono ?_); rintro e wx ⟨_, rfl, qx, rfl, hr, hf, hb⟩; replace S := Lib.hid (natRes S.out hr hf hb); clear hr hf hb; clear z7 f7 y7 z6 f6 y6 z5 f5 y5 z4 f4 y4 z3 f3 y3 z2 f2 y2 z1 f1 y1 y1a z0 f0 y0 y0a; obtain ⟨⟨z7, f7, y7, -⟩, ⟨z6, f6, y6, -⟩, ⟨z5, f5, y5, -⟩, ⟨z4, f4, y4, -⟩, ⟨z3, f3, y3, -⟩, ⟨z2, f2, y2, -⟩, ⟨z1, f1, y1, y1a, -⟩, ⟨z0, f0, y0, y0a, -⟩, -⟩ := S.out.facts)
                  | ((with_reducible refine (M2.out _ _ _ (natOld S.out (by simp)) (natOld S.out (by simp))).mono ?_); rintro e wx ⟨_, rfl, qx, rfl, hr, hf, hb⟩; replace S := Lib.hid (natRes S.out hr hf hb); clear hr hf hb; clear z7 f7 y7 z6 f6 y6 z5 f5 y5 z4 f4 y4 z3 f3 y3 z2 f2 y2 z1 f1 y1 y1a z0 f0 y0 y0a; obtain ⟨⟨z7, f7, y7, -⟩, ⟨z6, f6, y6, -⟩, ⟨z5, f5, y5, -⟩, ⟨z4, f4, y4, -⟩, ⟨z3, f3, y3, -⟩, ⟨z2, f2, y2, -⟩, ⟨z1, f1, y1, y1a, -⟩, ⟨z0, f0, y0, y0a, -⟩, -⟩ := S.out.facts)
                  | ((with_reducible refine (M3.out ⟨ca, cc⟩ _ _ (natOld S.out (by simp)) (natOld S.out (by simp))).mono ?_); rintro e wx ⟨_, rfl, qx, rfl, hr, hf, hb⟩; replace S := Lib.hid (natRes S.out hr hf hb); clear hr hf hb; clear z7 f7 y7 z6 f6 y6 z5 f5 y5 z4 f4 y4 z3 f3 y3 z2 f2 y2 z1 f1 y1 y1a z0 f0 y0 y0a; obtain ⟨⟨z7, f7, y7, -⟩, ⟨z6, f6, y6, -⟩, ⟨z5, f5, y5, -⟩, ⟨z4, f4, y4, -⟩, ⟨z3, f3, y3, -⟩, ⟨z2, f2, y2, -⟩, ⟨z1, f1, y1, y1a, -⟩, ⟨z0, f0, y0, y0a, -⟩, -⟩ := S.out.facts)
                  | ((with_reducible refine (P1.out ⟨qna, qnc⟩ _ (natOld (S.out.box 24 [.slice none 0 0]) (by simp))).mono ?_); rintro e wx ⟨_, rfl, qx, rfl, hr, hb⟩; replace S := Lib.hid (natOf (S.out.box 24 [.slice none 0 0]) hr hb (by simp)); clear hr hb; have nb1 := Nat.ne_of_lt z7; have nb2 := Nat.ne_of_gt z7; have nb3 := Nat.ne_of_lt z6; have nb4 := Nat.ne_of_gt z6; have nb5 := Nat.ne_of_lt z1; have nb6 := Nat.ne_of_gt z1; clear z7 f7 y7 z6 f6 y6 z5 f5 y5 z4 f4 y4 z3 f3 y3 z2 f2 y2 z1 f1 y1 y1a z0 f0 y0 y0a; obtain ⟨⟨z8, f8, y8, -⟩, ⟨z7, f7, y7, -⟩, ⟨z6, f6, y6, -⟩, ⟨z5, f5, y5, -⟩, ⟨z4, f4, y4, -⟩, ⟨z3, f3, y3, -⟩, ⟨z2, f2, y2, -⟩, ⟨z1, f1, y1, y1a, -⟩, ⟨z0, f0, y0, y0a, -⟩, -⟩ := S.out.facts)
                  | ((with_reducible refine (P2.out q9 _ (natOld (S.out.box 24 [.slice none 0 0]) (by simp))).mono ?_); rintro e wx ⟨_, rfl, qx, rfl, hr, hb⟩; replace S := Lib.hid (natOf (S.out.box 24 [.slice none 0 0]) hr hb (by simp)); clear hr hb; have nb1 := Nat.ne_of_lt z7; have nb2 := Nat.ne_of_gt z7; have nb3 := Nat.ne_of_lt z6; have nb4 := Nat.ne_of_gt z6; have nb5 := Nat.ne_of_lt z1; have nb6 := Nat.ne_of_gt z1; clear z7 f7 y7 z6 f6 y6 z5 f5 y5 z4 f4 y4 z3 f3 y3 z2 f2 y2 z1 f1 y1 y1a z0 f0 y0 y0a; obtain ⟨⟨z8, f8, y8, -⟩, ⟨z7, f7, y7, -⟩, ⟨z6, f6, y6, -⟩, ⟨z5, f5, y5, -⟩, ⟨z4, f4, y4, -⟩, ⟨z3, f3, y3, -⟩, ⟨z2, f2, y2, -⟩, ⟨z1, f1, y1, y1a, -⟩, ⟨z0, f0, y0, y0a, -⟩, -⟩ := S.out.facts)
                  | ((with_reducible refine (P3.out ⟨qda, qdc⟩ _ (natOld (S.out.box 24 [.slice none 0 0]) (by simp))).mono ?_); rintro e wx ⟨_, rfl, qx, rfl, hr, hb⟩; replace S := Lib.hid (natOf (S.out.box 24 [.slice none 0 0]) hr hb (by simp)); clear hr hb; have nb1 := Nat.ne_of_lt z7; have nb2 := Nat.ne_of_gt z7; have nb3 := Nat.ne_of_lt z6; have nb4 := Nat.ne_of_gt z6; have nb5 := Nat.ne_of_lt z1; have nb6 := Nat.ne_of_gt z1; clear z7 f7 y7 z6 f6 y6 z5 f5 y5 z4 f4 y4 z3 f3 y3 z2 f2 y2 z1 f1 y1 y1a z0 f0 y0 y0a; obtain ⟨⟨z8, f8, y8, -⟩, ⟨z7, f7, y7, -⟩, ⟨z6, f6, y6, -⟩, ⟨z5, f5, y5, -⟩, ⟨z4, f4, y4, -⟩, ⟨z3, f3, y3, -⟩, ⟨z2, f2, y2, -⟩, ⟨z1, f1, y1, y1a, -⟩, ⟨z0, f0, y0, y0a, -⟩, -⟩ := S.out.facts)
                  | ((with_reducible refine (M1.out _ _ _ (natOld (S.out.box 24 [.slice none 0 0]) (by simp)) (natOld (S.out.box 24 [.slice none 0 0]) (by simp))).mono ?_); rintro e wx ⟨_, rfl, qx, rfl, hr, hf, hb⟩; replace S := Lib.hid (natRes (S.out.box 24 [.slice none 0 0]) hr hf hb); clear hr hf hb; have nb1 := Nat.ne_of_lt z7; have nb2 := Nat.ne_of_gt z7; have nb3 := Nat.ne_of_lt z6; have nb4 := Nat.ne_of_gt z6; have nb5 := Nat.ne_of_lt z1; have nb6 := Nat.ne_of_gt z1; clear z7 f7 y7 z6 f6 y6 z5 f5 y5 z4 f4 y4 z3 f3 y3 z2 f2 y2 z1 f1 y1 y1a z0 f0 y0 y0a; obtain ⟨⟨z8, f8, y8, -⟩, ⟨z7, f7, y7, -⟩, ⟨z6, f6, y6, -⟩, ⟨z5, f5, y5, -⟩, ⟨z4, f4, y4, -⟩, ⟨z3, f3, y3, -⟩, ⟨z2, f2, y2, -⟩, ⟨z1, f1, y1, y1a, -⟩, ⟨z0, f0, y0, y0a, -⟩, -⟩ := S.out.facts)
                  | ((with_reducible refine (M2.out _ _ _ (natOld (S.out.box 24 [.slice none 0 0]) (by simp)) (natOld (S.out.box 24 [.slice none 0 0]) (by simp))).mono ?_); rintro e wx ⟨_, rfl, qx, rfl, hr, hf, hb⟩; replace S := Lib.hid (natRes (S.out.box 24 [.slice none 0 0]) hr hf hb); clear hr hf hb; have nb1 := Nat.ne_of_lt z7; have nb2 := Nat.ne_of_gt z7; have nb3 := Nat.ne_of_lt z6; have nb4 := Nat.ne_of_gt z6; have nb5 := Nat.ne_of_lt z1; have nb6 := Nat.ne_of_gt z1; clear z7 f7 y7 z6 f6 y6 z5 f5 y5 z4 f4 y4 z3 f3 y3 z2 f2 y2 z1 f1 y1 y1a z0 f0 y0 y0a; obtain ⟨⟨z8, f8, y8, -⟩, ⟨z7, f7, y7, -⟩, ⟨z6, f6, y6, -⟩, ⟨z5, f5, y5, -⟩, ⟨z4, f4, y4, -⟩, ⟨z3, f3, y3, -⟩, ⟨z2, f2, y2, -⟩, ⟨z1, f1, y1, y1a, -⟩, ⟨z0, f0, y0, y0a, -⟩, -⟩ := S.out.facts)
                  | ((with_reducible refine (M3.out ⟨ca, cc⟩ _ _ (natOld (S.out.box 24 [.slice none 0 0]) (by simp)) (natOld (S.out.box 24 [.slice none 0 0]) (by simp))).mono ?_); rintro e wx ⟨_, rfl, qx, rfl, hr, hf, hb⟩; replace S := Lib.hid (natRes (S.out.box 24 [.slice none 0 0]) hr hf hb); clear hr hf hb; have nb1 := Nat.ne_of_lt z7; have nb2 := Nat.ne_of_gt z7; have nb3 := Nat.ne_of_lt z6; have nb4 := Nat.ne_of_gt z6; have nb5 := Nat.ne_of_lt z1; have nb6 := Nat.ne_of_gt z1; clear z7 f7 y7 z6 f6 y6 z5 f5 y5 z4 f4 y4 z3 f3 y3 z2 f2 y2 z1 f1 y1 y1a z0 f0 y0 y0a; obtain ⟨⟨z8, f8, y8, -⟩, ⟨z7, f7, y7, -⟩, ⟨z6, f6, y6, -⟩, ⟨z5, f5, y5, -⟩, ⟨z4, f4, y4, -⟩, ⟨z3, f3, y3, -⟩, ⟨z2, f2, y2, -⟩, ⟨z1, f1, y1, y1a, -⟩, ⟨z0, f0, y0, y0a, -⟩, -⟩ := S.out.facts)
                  | ((with_reducible refine (P1.out ⟨qna, qnc⟩ _ (natOld ((S3.out.box 24 [.slice none 0 0]).drew) (by simp))).mono ?_); rintro e wx ⟨_, rfl, qx, rfl, hr, hb⟩; replace S := Lib.hid (natOf ((S3.out.box 24 [.slice none 0 0]).drew) hr hb (by simp)); clear hr hb; clear z7 f7 y7 z6 f6 y6 z5 f5 y5 z4 f4 y4 z3 f3 y3 z2 f2 y2 z1 f1 y1 y1a z0 f0 y0 y0a; obtain ⟨⟨z8, f8, y8, -⟩, ⟨z7, f7, y7, -⟩, ⟨z6, f6, y6, -⟩, ⟨z5, f5, y5, -⟩, ⟨z4, f4, y4, -⟩, ⟨z3, f3, y3, -⟩, ⟨z2, f2, y2, -⟩, ⟨z1, f1, y1, y1a, -⟩, ⟨z0, f0, y0, y0a, -⟩, -⟩ := S.out.facts))
              all_goals (go_wp2_with fail; go_meet)
              all_goals
                first
                  | exact ⟨_, qx, rfl, Lib.hid ((S.out.box 24 [.slice qx.a Wv.length qx.c]).drop _ _ (List.Sublist.refl _) (.cons_cons _ (.cons _ (.cons _ (.cons _ (.cons _ (.cons _ (List.Sublist.refl _))))))))⟩
                  | exact ⟨_, qx, rfl, Lib.hid ((S.out.set 0 rfl 0 (.slice qx.a Wv.length qx.c)).drop _ _ (List.Sublist.refl _) (.cons_cons _ (.cons _ (.cons _ (.cons _ (.cons _ (.cons _ (List.Sublist.refl _))))))))⟩
            case rest =>
              clear S
              obtain ⟨B, qW, rfl, S⟩ := hcut
              obtain ⟨⟨z8, f8, y8, -⟩, ⟨z7, f7, y7, -⟩, ⟨z6, f6, y6, -⟩, ⟨z5, f5, y5, -⟩, ⟨z4, f4, y4, -⟩, ⟨z3, f3, y3, -⟩, ⟨z2, f2, y2, -⟩, ⟨z1, f1, y1, y1a, -⟩, ⟨z0, f0, y0, y0a, -⟩, -⟩ := S.out.facts
              have hV := Lib.hid (HV.out n m _ (rtst_more S.out.r7 S.out.size) (by omega) (by omega) (by omega))
              go_wp2_with fail
              refine hV.out.mono ?_
              rintro e w5 ⟨rfl, hb⟩
              replace S := Lib.hid (S.out.call hb)
              clear hb hV z8 f8 y8 z7 f7 y7 z6 f6 y6 z5 f5 y5 z4 f4 y4 z3 f3 y3 z2 f2 y2 z1 f1 y1 y1a z0 f0 y0 y0a
              obtain ⟨⟨z8, f8, y8, -⟩, ⟨z7, f7, y7, -⟩, ⟨z6, f6, y6, -⟩, ⟨z5, f5, y5, -⟩, ⟨z4, f4, y4, -⟩, ⟨z3, f3, y3, -⟩, ⟨z2, f2, y2, -⟩, ⟨z1, f1, y1, y1a, -⟩, ⟨z0, f0, y0, y0a, -⟩, -⟩ := S.out.facts
              have V12 := VT_012 t n m
              rcases V12 with hv | hv | hv
              · rw [hv]
                replace nF := Lib.hid (nF.out.trans (by rw [tm_0 (.inr hv)]))
                replace nP := Lib.hid (nP.out.trans (by rw [tm_0 (.inr hv)]))
                replace nE := Lib.hid (nE.out.trans (by rw [tm_0 (.inr hv)]))
                replace S := Lib.hid (S.out.drop _ _ (.cons _ (.cons _ (List.Sublist.refl _))) (.cons _ (.cons _ (List.Sublist.refl _))))
                clear hv
                go_wp2
                go_roundw
                case rel => exact ⟨m + 1, qF, qP, qE, by omega, by go_num, Lib.hid (by rw [nF.out, nP.out, nE.out]; exact S.out)⟩
                case measure => simp [intOf]; omega
              · have e1 := fun k => tm_v (V := VT t) (a := a) (b := d - a) (N := t.acc.length) (m := m) hn0 (show VT t n m ≠ 0 by omega) k
                rw [hwN.out, hv] at e1
                have tX : tm (VT t) a (d - a) t.acc.length kP n m = wN := (e1 _).trans (Nat.mul_one _)
                have tO : tm (VT t) a (d - a) t.acc.length kF n m = 0 := (e1 _).trans (Nat.mul_zero _)
                have tE : tm (VT t) a (d - a) t.acc.length kE n m = n * wN := (e1 _).trans (Nat.mul_comm _ _)
                rw [tX] at nP sP1
                rw [tO] at nF
                rw [tE] at nE sE1
                clear e1 tX tO tE
                have sN : sm n := sm_s (by omega)
                have D1 := Lib.hid (fun q r w' h1 h2 => HD.out pN wN q r w' sP0.out s7.out sP1.out h1 h2)
                have M4 := Lib.hid (fun q r w' h1 h2 => HM.out n wN q r w' sN s7.out (sm_mono (Nat.le_add_left _ _) sE1.out) h1 h2)
                have D2 := Lib.hid (fun q r w' h1 h2 => HD.out eN (n * wN) q r w' sE0.out (sm_mono (Nat.le_add_left _ _) sE1.out) sE1.out h1 h2)
                have O1 := Lib.hid (fun w' => nof_lim w' n (by omega))
                rw [hWv.out] at D1 M4
                obtain ⟨Xv, hXv⟩ : ∃ v, lim (pN + wN) = v := ⟨_, rfl⟩
                obtain ⟨Yv, hYv⟩ : ∃ v, lim (n * wN) = v := ⟨_, rfl⟩
                obtain ⟨Ev, hEv⟩ : ∃ v, lim (eN + n * wN) = v := ⟨_, rfl⟩
                obtain ⟨Nv, hNv⟩ : ∃ v, lim n = v := ⟨_, rfl⟩
                rw [hXv] at D1
                rw [hNv] at O1 M4
                rw [hYv] at M4 D2
                rw [hEv] at D2
                replace hXv := Lib.hid hXv
                replace hEv := Lib.hid hEv
                clear hNv hYv sN
                rw [hv]
                clear hv
                have r3 : IntKind.u64.wrap (n : Int) = (n : Int) := by simp [IntKind.wrap, IntKind.bits, IntKind.signed]; omega
                go_wp2_with fail
                refine (D1.out qP qW _ (natOld S.out (by simp)) (natOld S.out (by simp))).mono ?_
                rintro e w6 ⟨_, rfl, qG, rfl, hr, hf, hb⟩
                replace S := Lib.hid (natRes S.out hr hf hb)
                clear hr hf hb z8 f8 y8 z7 f7 y7 z6 f6 y6 z5 f5 y5 z4 f4 y4 z3 f3 y3 z2 f2 y2 z1 f1 y1 y1a z0 f0 y0 y0a
                obtain ⟨⟨z8, f8, y8, -⟩, ⟨z7, f7, y7, -⟩, ⟨z6, f6, y6, -⟩, ⟨z5, f5, y5, -⟩, ⟨z4, f4, y4, -⟩, ⟨z3, f3, y3, -⟩, ⟨z2, f2, y2, -⟩, ⟨z1, f1, y1, y1a, -⟩, ⟨z0, f0, y0, y0a, -⟩, -⟩ := S.out.facts
                replace S := Lib.hid (S.out.set 5 rfl 0 (.slice qG.a Xv.length qG.c))
                go_wp2_with fail
                generalize (w6.setCell ⟨w.heap.size + 1 + 1 + 1, 0, none⟩ (.slice qG.a Xv.length qG.c)) = W7 at S ⊢
                replace S := Lib.hid S.out.drew
                clear z8 f8 y8 z7 f7 y7 z6 f6 y6 z5 f5 y5 z4 f4 y4 z3 f3 y3 z2 f2 y2 z1 f1 y1 y1a z0 f0 y0 y0a
                obtain ⟨⟨z8, f8, y8, -⟩, ⟨z7, f7, y7, -⟩, ⟨z6, f6, y6, -⟩, ⟨z5, f5, y5, -⟩, ⟨z4, f4, y4, -⟩, ⟨z3, f3, y3, -⟩, ⟨z2, f2, y2, -⟩, ⟨z1, f1, y1, y1a, -⟩, ⟨z0, f0, y0, y0a, -⟩, -⟩ := S.out.facts
                go_region_law (first
                  | (go_simp; go_at_call 46; refine (O1.out _).mono ?_; rintro e wx ⟨_, rfl, qx, rfl, hr, hf, hb⟩; replace S := Lib.hid (natRes S.out hr hf hb); clear hr hf hb z8 f8 y8 z7 f7 y7 z6 f6 y6 z5 f5 y5 z4 f4 y4 z3 f3 y3 z2 f2 y2 z1 f1 y1 y1a z0 f0 y0 y0a; obtain ⟨⟨z8, f8, y8, -⟩, ⟨z7, f7, y7, -⟩, ⟨z6, f6, y6, -⟩, ⟨z5, f5, y5, -⟩, ⟨z4, f4, y4, -⟩, ⟨z3, f3, y3, -⟩, ⟨z2, f2, y2, -⟩, ⟨z1, f1, y1, y1a, -⟩, ⟨z0, f0, y0, y0a, -⟩, -⟩ := S.out.facts)
                  | (go_simp; go_at_call 47; refine (M4.out qx qW _ (natOld S.out (by simp)) (natOld S.out (by simp))).mono ?_; rintro e wy ⟨_, rfl, qy, rfl, hr, hf, hb⟩; replace S := Lib.hid (natRes S.out hr hf hb); clear hr hf hb z8 f8 y8 z7 f7 y7 z6 f6 y6 z5 f5 y5 z4 f4 y4 z3 f3 y3 z2 f2 y2 z1 f1 y1 y1a z0 f0 y0 y0a; obtain ⟨⟨z8, f8, y8, -⟩, ⟨z7, f7, y7, -⟩, ⟨z6, f6, y6, -⟩, ⟨z5, f5, y5, -⟩, ⟨z4, f4, y4, -⟩, ⟨z3, f3, y3, -⟩, ⟨z2, f2, y2, -⟩, ⟨z1, f1, y1, y1a, -⟩, ⟨z0, f0, y0, y0a, -⟩, -⟩ := S.out.facts)
                  | (go_simp; go_at_call 26; refine (D2.out qE qy _ (natOld S.out (by simp)) (natOld S.out (by simp))).mono ?_; rintro e wz ⟨_, rfl, qz, rfl, hr, hf, hb⟩; replace S := Lib.hid (natRes S.out hr hf hb); clear hr hf hb z8 f8 y8 z7 f7 y7 z6 f6 y6 z5 f5 y5 z4 f4 y4 z3 f3 y3 z2 f2 y2 z1 f1 y1 y1a z0 f0 y0 y0a; obtain ⟨⟨z8, f8, y8, -⟩, ⟨z7, f7, y7, -⟩, ⟨z6, f6, y6, -⟩, ⟨z5, f5, y5, -⟩, ⟨z4, f4, y4, -⟩, ⟨z3, f3, y3, -⟩, ⟨z2, f2, y2, -⟩, ⟨z1, f1, y1, y1a, -⟩, ⟨z0, f0, y0, y0a, -⟩, -⟩ := S.out.facts))
                all_goals
                  have hF : Hid (Fm w (wz.setCell ⟨w.heap.size + 1 + 1 + 1 + 1, 0, none⟩ (.slice qz.a Ev.length qz.c)) [⟨w1.heap.size, 24, [.slice q9.a Bv.length q9.c]⟩, ⟨w.heap.size + 1 + 1 + 1 + 1 + 1, 24, [.slice none 0 0]⟩, ⟨w.heap.size + 1 + 1 + 1 + 1, 24, [.slice qz.a (lim (tpT (VT t) a (d - a) t.acc.length kE n + rpT (VT t) a (d - a) t.acc.length kE n (m + 1))).length qz.c]⟩, ⟨w.heap.size + 1 + 1 + 1, 24, [.slice qG.a (lim (tpT (VT t) a (d - a) t.acc.length kP n + rpT (VT t) a (d - a) t.acc.length kP n (m + 1))).length qG.c]⟩, ⟨w.heap.size + 1 + 1, 24, [.slice qF.a (lim (tpT (VT t) a (d - a) t.acc.length kF n + rpT (VT t) a (d - a) t.acc.length kF n (m + 1))).length qF.c]⟩, ⟨w.heap.size + 1, 26, [.slice qna Av.length qnc, .slice qda Dv.length qdc]⟩, ⟨w.heap.size, 32, [.slice ta t.acc.length tc, .slice tb t.rej.length td]⟩] [rowRd (lim (tpT (VT t) a (d - a) t.acc.length kE n + rpT (VT t) a (d - a) t.acc.length kE n (m + 1))) qz, rowRd (lim (tpT (VT t) a (d - a) t.acc.length kP n + rpT (VT t) a (d - a) t.acc.length kP n (m + 1))) qG, rowRd (lim (tpT (VT t) a (d - a) t.acc.length kF n + rpT (VT t) a (d - a) t.acc.length kF n (m + 1))) qF, tabRd lo hi (some ⟨b0, o0, none⟩) (t.acc.length + 1) (fun i f => lim (C (VT t) i f)) (fun i => some ⟨G i, 0, none⟩) (fun i => i + 1) Q, rowRd Bv q9, tstRd w.heap.size t ⟨ta, tc, tb, td⟩, rowRd Av ⟨qna, qnc⟩, rowRd Dv ⟨qda, qdc⟩]) := Lib.hid (by
                    rw [nF.out, nP.out, nE.out]
                    rw [hXv.out, hEv.out]
                    exact fm_sel (S.out.set 4 rfl 0 (.slice qz.a Ev.length qz.c)) _ _ (.cons _ (.cons _ (List.Sublist.refl _))) (by simp))
                  clear S
                  go_wp2
                  go_roundw
                  case rel => exact ⟨m + 1, qF, qG, qz, by omega, by go_num, hF⟩
                  case measure => simp [intOf]; omega
              · have e1 := fun k => tm_v (V := VT t) (a := a) (b := d - a) (N := t.acc.length) (m := m) hn0 (show VT t n m ≠ 0 by omega) k
                rw [hwN.out, hv] at e1
                have tX : tm (VT t) a (d - a) t.acc.length kF n m = wN := (e1 _).trans (Nat.mul_one _)
                have tO : tm (VT t) a (d - a) t.acc.length kP n m = 0 := (e1 _).trans (Nat.mul_zero _)
                have tE : tm (VT t) a (d - a) t.acc.length kE n m = n * wN := (e1 _).trans (Nat.mul_comm _ _)
                rw [tX] at nF sF1
                rw [tO] at nP
                rw [tE] at nE sE1
                clear e1 tX tO tE
                have sN : sm n := sm_s (by omega)
                have D1 := Lib.hid (fun q r w' h1 h2 => HD.out fN wN q r w' sF0.out s7.out sF1.out h1 h2)
                have M4 := Lib.hid (fun q r w' h1 h2 => HM.out n wN q r w' sN s7.out (sm_mono (Nat.le_add_left _ _) sE1.out) h1 h2)
                have D2 := Lib.hid (fun q r w' h1 h2 => HD.out eN (n * wN) q r w' sE0.out (sm_mono (Nat.le_add_left _ _) sE1.out) sE1.out h1 h2)
                have O1 := Lib.hid (fun w' => nof_lim w' n (by omega))
                rw [hWv.out] at D1 M4
                obtain ⟨Xv, hXv⟩ : ∃ v, lim (fN + wN) = v := ⟨_, rfl⟩
                obtain ⟨Yv, hYv⟩ : ∃ v, lim (n * wN) = v := ⟨_, rfl⟩
                obtain ⟨Ev, hEv⟩ : ∃ v, lim (eN + n * wN) = v := ⟨_, rfl⟩
                obtain ⟨Nv, hNv⟩ : ∃ v, lim n = v := ⟨_, rfl⟩
                rw [hXv] at D1
                rw [hNv] at O1 M4
                rw [hYv] at M4 D2
                rw [hEv] at D2
                replace hXv := Lib.hid hXv
                replace hEv := Lib.hid hEv
                clear hNv hYv sN
                rw [hv]
                clear hv
                have r3 : IntKind.u64.wrap (n : Int) = (n : Int) := by simp [IntKind.wrap, IntKind.bits, IntKind.signed]; omega
                go_wp2_with fail
                refine (D1.out qF qW _ (natOld S.out (by simp)) (natOld S.out (by simp))).mono ?_
                rintro e w6 ⟨_, rfl, qG, rfl, hr, hf, hb⟩
                replace S := Lib.hid (natRes S.out hr hf hb)
                clear hr hf hb z8 f8 y8 z7 f7 y7 z6 f6 y6 z5 f5 y5 z4 f4 y4 z3 f3 y3 z2 f2 y2 z1 f1 y1 y1a z0 f0 y0 y0a
                obtain ⟨⟨z8, f8, y8, -⟩, ⟨z7, f7, y7, -⟩, ⟨z6, f6, y6, -⟩, ⟨z5, f5, y5, -⟩, ⟨z4, f4, y4, -⟩, ⟨z3, f3, y3, -⟩, ⟨z2, f2, y2, -⟩, ⟨z1, f1, y1, y1a, -⟩, ⟨z0, f0, y0, y0a, -⟩, -⟩ := S.out.facts
                replace S := Lib.hid (S.out.set 6 rfl 0 (.slice qG.a Xv.length qG.c))
                go_wp2_with fail
                generalize (w6.setCell ⟨w.heap.size + 1 + 1, 0, none⟩ (.slice qG.a Xv.length qG.c)) = W7 at S ⊢
                replace S := Lib.hid S.out.drew
                clear z8 f8 y8 z7 f7 y7 z6 f6 y6 z5 f5 y5 z4 f4 y4 z3 f3 y3 z2 f2 y2 z1 f1 y1 y1a z0 f0 y0 y0a
                obtain ⟨⟨z8, f8, y8, -⟩, ⟨z7, f7, y7, -⟩, ⟨z6, f6, y6, -⟩, ⟨z5, f5, y5, -⟩, ⟨z4, f4, y4, -⟩, ⟨z3, f3, y3, -⟩, ⟨z2, f2, y2, -⟩, ⟨z1, f1, y1, y1a, -⟩, ⟨z0, f0, y0, y0a, -⟩, -⟩ := S.out.facts
                go_region_law (first
                  | (go_simp; go_at_call 46; refine (O1.out _).mono ?_; rintro e wx ⟨_, rfl, qx, rfl, hr, hf, hb⟩; replace S := Lib.hid (natRes S.out hr hf hb); clear hr hf hb z8 f8 y8 z7 f7 y7 z6 f6 y6 z5 f5 y5 z4 f4 y4 z3 f3 y3 z2 f2 y2 z1 f1 y1 y1a z0 f0 y0 y0a; obtain ⟨⟨z8, f8, y8, -⟩, ⟨z7, f7, y7, -⟩, ⟨z6, f6, y6, -⟩, ⟨z5, f5, y5, -⟩, ⟨z4, f4, y4, -⟩, ⟨z3, f3, y3, -⟩, ⟨z2, f2, y2, -⟩, ⟨z1, f1, y1, y1a, -⟩, ⟨z0, f0, y0, y0a, -⟩, -⟩ := S.out.facts)
                  | (go_simp; go_at_call 47; refine (M4.out qx qW _ (natOld S.out (by simp)) (natOld S.out (by simp))).mono ?_; rintro e wy ⟨_, rfl, qy, rfl, hr, hf, hb⟩; replace S := Lib.hid (natRes S.out hr hf hb); clear hr hf hb z8 f8 y8 z7 f7 y7 z6 f6 y6 z5 f5 y5 z4 f4 y4 z3 f3 y3 z2 f2 y2 z1 f1 y1 y1a z0 f0 y0 y0a; obtain ⟨⟨z8, f8, y8, -⟩, ⟨z7, f7, y7, -⟩, ⟨z6, f6, y6, -⟩, ⟨z5, f5, y5, -⟩, ⟨z4, f4, y4, -⟩, ⟨z3, f3, y3, -⟩, ⟨z2, f2, y2, -⟩, ⟨z1, f1, y1, y1a, -⟩, ⟨z0, f0, y0, y0a, -⟩, -⟩ := S.out.facts)
                  | (go_simp; go_at_call 26; refine (D2.out qE qy _ (natOld S.out (by simp)) (natOld S.out (by simp))).mono ?_; rintro e wz ⟨_, rfl, qz, rfl, hr, hf, hb⟩; replace S := Lib.hid (natRes S.out hr hf hb); clear hr hf hb z8 f8 y8 z7 f7 y7 z6 f6 y6 z5 f5 y5 z4 f4 y4 z3 f3 y3 z2 f2 y2 z1 f1 y1 y1a z0 f0 y0 y0a; obtain ⟨⟨z8, f8, y8, -⟩, ⟨z7, f7, y7, -⟩, ⟨z6, f6, y6, -⟩, ⟨z5, f5, y5, -⟩, ⟨z4, f4, y4, -⟩, ⟨z3, f3, y3, -⟩, ⟨z2, f2, y2, -⟩, ⟨z1, f1, y1, y1a, -⟩, ⟨z0, f0, y0, y0a, -⟩, -⟩ := S.out.facts))
                all_goals
                  have hF : Hid (Fm w (wz.setCell ⟨w.heap.size + 1 + 1 + 1 + 1, 0, none⟩ (.slice qz.a Ev.length qz.c)) [⟨w1.heap.size, 24, [.slice q9.a Bv.length q9.c]⟩, ⟨w.heap.size + 1 + 1 + 1 + 1 + 1, 24, [.slice none 0 0]⟩, ⟨w.heap.size + 1 + 1 + 1 + 1, 24, [.slice qz.a (lim (tpT (VT t) a (d - a) t.acc.length kE n + rpT (VT t) a (d - a) t.acc.length kE n (m + 1))).length qz.c]⟩, ⟨w.heap.size + 1 + 1 + 1, 24, [.slice qP.a (lim (tpT (VT t) a (d - a) t.acc.length kP n + rpT (VT t) a (d - a) t.acc.length kP n (m + 1))).length qP.c]⟩, ⟨w.heap.size + 1 + 1, 24, [.slice qG.a (lim (tpT (VT t) a (d - a) t.acc.length kF n + rpT (VT t) a (d - a) t.acc.length kF n (m + 1))).length qG.c]⟩, ⟨w.heap.size + 1, 26, [.slice qna Av.length qnc, .slice qda Dv.length qdc]⟩, ⟨w.heap.size, 32, [.slice ta t.acc.length tc, .slice tb t.rej.length td]⟩] [rowRd (lim (tpT (VT t) a (d - a) t.acc.length kE n + rpT (VT t) a (d - a) t.acc.length kE n (m + 1))) qz, rowRd (lim (tpT (VT t) a (d - a) t.acc.length kP n + rpT (VT t) a (d - a) t.acc.length kP n (m + 1))) qP, rowRd (lim (tpT (VT t) a (d - a) t.acc.length kF n + rpT (VT t) a (d - a) t.acc.length kF n (m + 1))) qG, tabRd lo hi (some ⟨b0, o0, none⟩) (t.acc.length + 1) (fun i f => lim (C (VT t) i f)) (fun i => some ⟨G i, 0, none⟩) (fun i => i + 1) Q, rowRd Bv q9, tstRd w.heap.size t ⟨ta, tc, tb, td⟩, rowRd Av ⟨qna, qnc⟩, rowRd Dv ⟨qda, qdc⟩]) := Lib.hid (by
                    rw [nF.out, nP.out, nE.out]
                    rw [hXv.out, hEv.out]
                    exact fm_sel (S.out.set 4 rfl 0 (.slice qz.a Ev.length qz.c)) _ _ (.cons _ (.cons _ (List.Sublist.refl _))) (by simp))
                  clear S
                  go_wp2
                  go_roundw
                  case rel => exact ⟨m + 1, qG, qP, qz, by omega, by go_num, hF⟩
                  case measure => simp [intOf]; omega
        · have hd2 : decide ((m : Int) < (n : Int) + 1) = false := by rw [decide_eq_false_iff_not]; omega
          obtain rfl : m = n + 1 := by omega
          replace S : Hid (Fm w wr [⟨w1.heap.size, 24, [.slice q9.a Bv.length q9.c]⟩, ⟨w.heap.size + 1 + 1 + 1 + 1 + 1, 24, [.slice none 0 0]⟩, ⟨w.heap.size + 1 + 1 + 1 + 1, 24, [.slice qE.a (lim (tpT (VT t) a (d - a) t.acc.length kE (n + 1))).length qE.c]⟩, ⟨w.heap.size + 1 + 1 + 1, 24, [.slice qP.a (lim (tpT (VT t) a (d - a) t.acc.length kP (n + 1))).length qP.c]⟩, ⟨w.heap.size + 1 + 1, 24, [.slice qF.a (lim (tpT (VT t) a (d - a) t.acc.length kF (n + 1))).length qF.c]⟩, ⟨w.heap.size + 1, 26, [.slice qna Av.length qnc, .slice qda Dv.length qdc]⟩, ⟨w.heap.size, 32, [.slice ta t.acc.length tc, .slice tb t.rej.length td]⟩] [rowRd (lim (tpT (VT t) a (d - a) t.acc.length kE (n + 1))) qE, rowRd (lim (tpT (VT t) a (d - a) t.acc.length kP (n + 1))) qP, rowRd (lim (tpT (VT t) a (d - a) t.acc.length kF (n + 1))) qF, tabRd lo hi (some ⟨b0, o0, none⟩) (t.acc.length + 1) (fun i f => lim (C (VT t) i f)) (fun i => some ⟨G i, 0, none⟩) (fun i => i + 1) Q, rowRd Bv q9, tstRd w.heap.size t ⟨ta, tc, tb, td⟩, rowRd Av ⟨qna, qnc⟩, rowRd Dv ⟨qda, qdc⟩]) := Lib.hid (by
            have x := S.out
            rw [tr_end, tr_end, tr_end] at x
            exact x)
          go_wp2
          go_roundw
          case rel => exact ⟨n + 1, qF, qP, qE, by omega, by go_num, S⟩
          case measure => simp [intOf]; omega
    · have hd : decide ((n : Int) < (t.acc.length : Int) + 1) = false := by rw [decide_eq_false_iff_not]; omega
      obtain rfl : n = t.acc.length + 1 := by omega
      have sD : sm (d ^ t.acc.length) := sm_b (Nat.le_trans (big_pow hd2 n1) (Nat.le_mul_of_pos_left _ (by decide)))
      have P4 := Lib.hid (fun q w' h => HP.out d t.acc.length q w' dS.out sD h)
      rw [hD.out] at P4
      clear sD
      have hfin : Hid (∀ W v qa qb qc qd, v = .tuple #[natV (lim (tpT (VT t) a (d - a) t.acc.length kF (t.acc.length + 1))) qa, natV (lim (tpT (VT t) a (d - a) t.acc.length kP (t.acc.length + 1))) qb, natV (lim (tpT (VT t) a (d - a) t.acc.length kE (t.acc.length + 1))) qc, natV (lim (d ^ t.acc.length)) qd] → RLm W W.heap.size (lim (tpT (VT t) a (d - a) t.acc.length kF (t.acc.length + 1))) qa → RLm W W.heap.size (lim (tpT (VT t) a (d - a) t.acc.length kP (t.acc.length + 1))) qb → RLm W W.heap.size (lim (tpT (VT t) a (d - a) t.acc.length kE (t.acc.length + 1))) qc → RLm W W.heap.size (lim (d ^ t.acc.length)) qd → Below w.heap.size w W → SRes w (allS (VT t) a (d - a) t.acc.length kF) (allS (VT t) a (d - a) t.acc.length kP) (allS (VT t) a (d - a) t.acc.length kE) (d ^ t.acc.length) v W) := Lib.hid fun W v qa qb qc qd e h1 h2 h3 h4 h5 => by
        rw [tpT_all] at h1 h2 h3 e
        rw [tpT_all, tpT_all] at e
        exact ⟨qa, qb, qc, qd, e, h1, h2, h3, h4, h5⟩
      obtain ⟨Fv, hFv⟩ : ∃ v, lim (tpT (VT t) a (d - a) t.acc.length kF (t.acc.length + 1)) = v := ⟨_, rfl⟩
      obtain ⟨Pv, hPv⟩ : ∃ v, lim (tpT (VT t) a (d - a) t.acc.length kP (t.acc.length + 1)) = v := ⟨_, rfl⟩
      obtain ⟨Ev, hEv⟩ : ∃ v, lim (tpT (VT t) a (d - a) t.acc.length kE (t.acc.length + 1)) = v := ⟨_, rfl⟩
      obtain ⟨Gv, hGv⟩ : ∃ v, lim (d ^ t.acc.length) = v := ⟨_, rfl⟩
      rw [hFv, hPv, hEv] at S
      rw [hFv, hPv, hEv, hGv] at hfin
      rw [hGv] at P4
      clear hFv hPv hEv hGv z6 f6 y6 z5 f5 y5 z4 f4 y4 z3 f3 y3 z2 f2 y2 z1 f1 y1 y1a z0 f0 y0 y0a
      obtain ⟨⟨z6, f6, y6, -⟩, ⟨z5, f5, y5, -⟩, ⟨z4, f4, y4, -⟩, ⟨z3, f3, y3, -⟩, ⟨z2, f2, y2, -⟩, ⟨z1, f1, y1, y1a, -⟩, ⟨z0, f0, y0, y0a, -⟩, -⟩ := S.out.facts
      go_upto_region 19 with fail
      have S3 := S
      clear z6 f6 y6 z5 f5 y5 z4 f4 y4 z3 f3 y3 z2 f2 y2 z1 f1 y1 y1a z0 f0 y0 y0a S
      have S := Lib.hid S3.out.drew
      obtain ⟨⟨z6, f6, y6, -⟩, ⟨z5, f5, y5, -⟩, ⟨z4, f4, y4, -⟩, ⟨z3, f3, y3, -⟩, ⟨z2, f2, y2, -⟩, ⟨z1, f1, y1, y1a, -⟩, ⟨z0, f0, y0, y0a, -⟩, -⟩ := S.out.facts
      go_region_held3 (fun w' => w'.cell? ⟨w.heap.size + 1 + 1, 0, none⟩ = some (.slice qF.a Fv.length qF.c) ∧ w'.cell? ⟨w.heap.size + 1 + 1 + 1, 0, none⟩ = some (.slice qP.a Pv.length qP.c) ∧ w'.cell? ⟨w.heap.size + 1 + 1 + 1 + 1, 0, none⟩ = some (.slice qE.a Ev.length qE.c) ∧ w'.cell? ⟨w.heap.size + 1, 1, none⟩ = some (.slice qda Dv.length qdc)) (first | with_reducible exact k1 | with_reducible exact k2 | with_reducible exact k3 | with_reducible exact k4 | go_keep)
        (first
          | ((with_reducible refine (P4.out ⟨qda, qdc⟩ _ (natOld S.out (by simp))).mono ?_); rintro e wx ⟨_, rfl, qx, rfl, hr, hb⟩; replace S := Lib.hid (natOf S.out hr hb (by simp)); clear hr hb z6 f6 y6 z5 f5 y5 z4 f4 y4 z3 f3 y3 z2 f2 y2 z1 f1 y1 y1a z0 f0 y0 y0a; obtain ⟨⟨z6, f6, y6, -⟩, ⟨z5, f5, y5, -⟩, ⟨z4, f4, y4, -⟩, ⟨z3, f3, y3, -⟩, ⟨z2, f2, y2, -⟩, ⟨z1, f1, y1, y1a, -⟩, ⟨z0, f0, y0, y0a, -⟩, -⟩ := S.out.facts; obtain ⟨k1, k2, k3, k4⟩ := four_all (v7 := .slice qx.a Gv.length qx.c) (show Four wx ⟨w.heap.size + 1 + 1, 0, none⟩ ⟨w.heap.size + 1 + 1 + 1, 0, none⟩ ⟨w.heap.size + 1 + 1 + 1 + 1, 0, none⟩ ⟨w.heap.size + 1, 1, none⟩ _ _ _ _ from ⟨y2, y3, y4, y1a⟩) y5 (by simp) (by simp) (by simp) (by simp) (by simp) (by simp) (by simp) (by simp) (by simp) (by simp)))
      have S4 : Hid (Fm w ((((wx.setCell ⟨w.heap.size + 1 + 1, 0, none⟩ (.slice qF.a Fv.length qF.c)).setCell ⟨w.heap.size + 1 + 1 + 1, 0, none⟩ (.slice qP.a Pv.length qP.c)).setCell ⟨w.heap.size + 1 + 1 + 1 + 1, 0, none⟩ (.slice qE.a Ev.length qE.c)).setCell ⟨w.heap.size + 1 + 1 + 1 + 1 + 1, 0, none⟩ (.slice qx.a Gv.length qx.c)) [⟨w1.heap.size, 24, [.slice q9.a Bv.length q9.c]⟩, ⟨w.heap.size + 1 + 1 + 1 + 1 + 1, 24, [.slice qx.a Gv.length qx.c]⟩, ⟨w.heap.size + 1 + 1 + 1 + 1, 24, [.slice qE.a (Ev).length qE.c]⟩, ⟨w.heap.size + 1 + 1 + 1, 24, [.slice qP.a (Pv).length qP.c]⟩, ⟨w.heap.size + 1 + 1, 24, [.slice qF.a (Fv).length qF.c]⟩, ⟨w.heap.size + 1, 26, [.slice qna Av.length qnc, .slice qda Dv.length qdc]⟩, ⟨w.heap.size, 32, [.slice ta t.acc.length tc, .slice tb t.rej.length td]⟩] [rowRd Gv qx, rowRd (Ev) qE, rowRd (Pv) qP, rowRd (Fv) qF, tabRd lo hi (some ⟨b0, o0, none⟩) (t.acc.length + 1) (fun i f => lim (C (VT t) i f)) (fun i => some ⟨G i, 0, none⟩) (fun i => i + 1) Q, rowRd Bv q9, tstRd w.heap.size t ⟨ta, tc, tb, td⟩, rowRd Av ⟨qna, qnc⟩, rowRd Dv ⟨qda, qdc⟩]) := Lib.hid ((((S.out.set 4 rfl 0 (.slice qF.a Fv.length qF.c)).set 3 rfl 0 (.slice qP.a Pv.length qP.c)).set 2 rfl 0 (.slice qE.a Ev.length qE.c)).set 1 rfl 0 (.slice qx.a Gv.length qx.c))
      clear S S3 z6 f6 y6 z5 f5 y5 z4 f4 y4 z3 f3 y3 z2 f2 y2 z1 f1 y1 y1a z0 f0 y0 y0a k1 k2 k3 k4
      generalize ((((wx.setCell ⟨w.heap.size + 1 + 1, 0, none⟩ (.slice qF.a Fv.length qF.c)).setCell ⟨w.heap.size + 1 + 1 + 1, 0, none⟩ (.slice qP.a Pv.length qP.c)).setCell ⟨w.heap.size + 1 + 1 + 1 + 1, 0, none⟩ (.slice qE.a Ev.length qE.c)).setCell ⟨w.heap.size + 1 + 1 + 1 + 1 + 1, 0, none⟩ (.slice qx.a Gv.length qx.c)) = W9 at S4 ⊢
      have hF := Lib.hid (hfin.out W9 _ qF qP qE qx rfl (natOld S4.out (by simp)) (natOld S4.out (by simp)) (natOld S4.out (by simp)) (natOld S4.out (by simp)) S4.out.bel)
      obtain ⟨⟨z6, f6, y6, -⟩, ⟨z5, f5, y5, -⟩, ⟨z4, f4, y4, -⟩, ⟨z3, f3, y3, -⟩, ⟨z2, f2, y2, -⟩, ⟨z1, f1, y1, y1a, -⟩, ⟨z0, f0, y0, y0a, -⟩, -⟩ := S4.out.facts
      go_wp2
      refine bodyPost_ret (v := .tuple #[natV Fv qF, natV Pv qP, natV Ev qE, natV Gv qx]) (by simp [results, Tryz.results31, go_sem, y2, y3, y4, y5]) rfl ?_
      exact Ret.mk hF.out
end Go.Proofs.YtpoddmkimhkmoaaGreat
