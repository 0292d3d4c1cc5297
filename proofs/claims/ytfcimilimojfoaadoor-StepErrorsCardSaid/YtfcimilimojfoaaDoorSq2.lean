/-
  CONTRACTS of cmp.Compare, slices.Compare, cmp.Or, mix.Compare.
  Conditions: those that each theorem names.
-/
import Derived.Test.YtfcimilimojfoaaDoorSb5
import Derived.Deep.RegionHeld3
import Derived.Test.YtfcimilimojfoaaDoorSb12

namespace Go.Proofs.YtfcimilimojfoaaDoor
open Go.RowKit Go.Sv
def cmpZ (a b : Int) : Int := if a < b then -1 else if b < a then 1 else 0
theorem cmpZ_0 {a b : Int} : cmpZ a b = 0 ↔ a = b := by
  unfold cmpZ
  split
  · constructor
    · intro h; cases h
    · intro h; omega
  · split
    · constructor
      · intro h; cases h
      · intro h; omega
    · constructor
      · intro _; omega
      · intro _; rfl
theorem isnan_any (k : IntKind) (a : Int) (w : World) (hk : k = .i64) : Calls Tryd.prog 111 #[.int k a] w fun e w' => e = .returned (.bool false) ∧ w' = w := by
  subst hk
  go_enter Tryd.func111, Tryd.ntmps111
  go_wp2
  go_ret
  exact ⟨rfl, rfl⟩
theorem isnan8_any (a : Int) (w : World) : Calls Tryd.prog 112 #[.int .u8 a] w fun e w' => e = .returned (.bool false) ∧ w' = w := by
  go_enter Tryd.func112, Tryd.ntmps112
  go_wp2
  go_ret
  exact ⟨rfl, rfl⟩
set_option maxHeartbeats 2000000 in
theorem cmpI_any (a b : Int) (w : World) : Calls Tryd.prog 97 #[.int .i64 a, .int .i64 b] w fun e w' => e = .returned (.int .i64 (cmpZ a b)) ∧ w' = w := by
  have H1 := Lib.hid (isnan_any .i64 a w rfl)
  have H2 := Lib.hid (isnan_any .i64 b w rfl)
  obtain ⟨z, hz⟩ : ∃ z, cmpZ a b = z := ⟨_, rfl⟩
  rw [hz]
  unfold cmpZ at hz
  go_enter Tryd.func97, Tryd.ntmps97
  go_wp2_with fail
  with_reducible refine H1.out.mono ?_
  rintro e' w' ⟨rfl, rfl⟩
  go_wp2_with fail
  with_reducible refine H2.out.mono ?_
  rintro e' w' ⟨rfl, rfl⟩
  cases g1 : decide (a < b) with
  | true =>
    rw [if_pos (of_decide_eq_true g1)] at hz
    replace hz := Lib.hid hz
    go_wp2
    go_ret
    exact ⟨by rw [← hz.out]; rfl, rfl⟩
  | false =>
    rw [if_neg (of_decide_eq_false g1)] at hz
    cases g2 : decide (b < a) with
    | true =>
      rw [if_pos (of_decide_eq_true g2)] at hz
      replace hz := Lib.hid hz
      go_wp2
      go_ret
      exact ⟨by rw [← hz.out]; rfl, rfl⟩
    | false =>
      rw [if_neg (of_decide_eq_false g2)] at hz
      replace hz := Lib.hid hz
      go_wp2
      go_ret
      exact ⟨by rw [← hz.out]; rfl, rfl⟩
set_option maxHeartbeats 2000000 in
theorem cmp8_any (a b : Int) (w : World) : Calls Tryd.prog 98 #[.int .u8 a, .int .u8 b] w fun e w' => e = .returned (.int .i64 (cmpZ a b)) ∧ w' = w := by
  have H1 := Lib.hid (isnan8_any a w)
  have H2 := Lib.hid (isnan8_any b w)
  obtain ⟨z, hz⟩ : ∃ z, cmpZ a b = z := ⟨_, rfl⟩
  rw [hz]
  unfold cmpZ at hz
  go_enter Tryd.func98, Tryd.ntmps98
  go_wp2_with fail
  with_reducible refine H1.out.mono ?_
  rintro e' w' ⟨rfl, rfl⟩
  go_wp2_with fail
  with_reducible refine H2.out.mono ?_
  rintro e' w' ⟨rfl, rfl⟩
  cases g1 : decide (a < b) with
  | true =>
    rw [if_pos (of_decide_eq_true g1)] at hz
    replace hz := Lib.hid hz
    go_wp2
    go_ret
    exact ⟨by rw [← hz.out]; rfl, rfl⟩
  | false =>
    rw [if_neg (of_decide_eq_false g1)] at hz
    cases g2 : decide (b < a) with
    | true =>
      rw [if_pos (of_decide_eq_true g2)] at hz
      replace hz := Lib.hid hz
      go_wp2
      go_ret
      exact ⟨by rw [← hz.out]; rfl, rfl⟩
    | false =>
      rw [if_neg (of_decide_eq_false g2)] at hz
      replace hz := Lib.hid hz
      go_wp2
      go_ret
      exact ⟨by rw [← hz.out]; rfl, rfl⟩
theorem gi_eq {l m : List Int} (hl : l.length = m.length) (h : ∀ j, j < l.length → gi l j = gi m j) : l = m := by
  apply List.ext_getElem hl
  intro k h1 h2
  have := h k h1
  simpa [gi, h1, h2] using this
/-- the answer of a comparison: zero exactly if the lists are equal -/
def CmpP (w : World) (b : Bool) (e : Ending) (w' : World) : Prop := ∃ z : Int, e = .returned (.int .i64 z) ∧ (z == 0) = b ∧ w' = w
set_option maxHeartbeats 2000000 in
set_option maxRecDepth 100000 in
theorem slcI_any (A C : Option Addr) (c d : Nat) (l m : List Int) (w : World) (B : Nat) (ha : Arr w B A l.length (iv l)) (hc : Arr w B C m.length (iv m)) (hl : l.length ≤ 1000000) (hm : m.length ≤ 1000000) :
    Calls Tryd.prog 85 #[.slice A l.length c, .slice C m.length d] w (CmpP w (decide (l = m))) := by
  go_enter Tryd.func85, Tryd.ntmps85
  go_wp2
  go_loop [11] (fun s11 => ∃ k : Nat, k ≤ l.length ∧ k ≤ m.length ∧ s11 = .int .i64 k ∧ ∀ j, j < k → gi l j = gi m j) (fun s11 => l.length - (intOf s11).toNat)
  case atStart => exact ⟨0, Nat.zero_le _, Nat.zero_le _, rfl, fun j hj => by omega⟩
  case round =>
    obtain ⟨k, hk, hk2, rfl, hall⟩ := hrel
    replace hall := Lib.hid hall
    by_cases hlt : k < l.length
    · obtain ⟨b, off, rfl, hb, hcl⟩ := ha (by omega)
      have c0 := hcl k hlt
      unfold iv at c0
      have jk : (k : Int) < (l.length : Int) := by omega
      by_cases hlt2 : k < m.length
      · obtain ⟨b2, off2, rfl, hb2, hcm⟩ := hc (by omega)
        have d0 := hcm k hlt2
        unfold iv at d0
        have jm : (k : Int) < (m.length : Int) := by omega
        have jm' : decide ((m.length : Int) ≤ (k : Int)) = false := decide_eq_false (by omega)
        have HC := Lib.hid (cmpI_any (gi l k) (gi m k) w)
        have hyes : Hid (cmpZ (gi l k) (gi m k) = 0 → ∀ j, j < k + 1 → gi l j = gi m j) := Lib.hid fun h j hj => by
          rcases Nat.lt_succ_iff_lt_or_eq.1 hj with h' | h'
          · exact hall.out j h'
          · rw [h']; exact cmpZ_0.1 h
        have hno : Hid (cmpZ (gi l k) (gi m k) ≠ 0 → decide (l = m) = false) := Lib.hid fun h => decide_eq_false fun e => h (cmpZ_0.2 (by rw [e]))
        obtain ⟨x, hx⟩ : ∃ x, gi l k = x := ⟨_, rfl⟩
        obtain ⟨y, hy⟩ : ∃ y, gi m k = y := ⟨_, rfl⟩
        rw [hx] at c0 HC hyes hno
        rw [hy] at d0 HC hyes hno
        obtain ⟨z, hz⟩ : ∃ z, cmpZ x y = z := ⟨_, rfl⟩
        rw [hz] at HC hyes hno
        replace ha := Lib.hid ha
        replace hc := Lib.hid hc
        replace hz := Lib.hid hz
        clear hcl hcm hx hy
        go_wp2_with fail
        with_reducible refine HC.out.mono ?_
        rintro e' w' ⟨rfl, rfl⟩
        cases g : (z != 0) with
        | true =>
          have h := Lib.hid (hno.out (by simpa using g))
          clear hyes hno
          go_wp2
          go_ret
          exact ⟨z, rfl, by rw [h.out]; simpa using g, rfl⟩
        | false =>
          have h := Lib.hid (hyes.out (by simpa using g))
          clear hyes hno
          go_wp2
          go_round
          case rel => exact ⟨k + 1, by omega, by omega, by go_num, h.out⟩
          case measure => simp [intOf]; omega
      · have h := Lib.hid (show decide (l = m) = false from decide_eq_false fun e => by rw [e] at hlt; omega)
        have jm' : decide ((m.length : Int) ≤ (k : Int)) = true := decide_eq_true (by omega)
        replace ha := Lib.hid ha
        replace hc := Lib.hid hc
        clear hcl
        go_wp2
        go_ret
        exact ⟨1, rfl, by rw [h.out]; rfl, rfl⟩
    · obtain rfl : k = l.length := by omega
      replace ha := Lib.hid ha
      replace hc := Lib.hid hc
      by_cases g : (l.length : Int) < (m.length : Int)
      · have h := Lib.hid (show decide (l = m) = false from decide_eq_false fun e => by rw [e] at g; omega)
        clear hk hk2 hlt hall
        go_wp2
        go_ret
        exact ⟨-1, rfl, by rw [h.out]; rfl, rfl⟩
      · have h := Lib.hid (show decide (l = m) = true from decide_eq_true (gi_eq (by omega) hall.out))
        clear hk hk2 hlt hall
        go_wp2
        go_ret
        exact ⟨0, rfl, by rw [h.out]; rfl, rfl⟩
set_option maxHeartbeats 2000000 in
set_option maxRecDepth 100000 in
theorem slc8_any (A C : Option Addr) (c d : Nat) (l m : List Int) (w : World) (B : Nat) (ha : Arr w B A l.length (u8v l)) (hc : Arr w B C m.length (u8v m)) (hl : l.length ≤ 1000000) (hm : m.length ≤ 1000000) :
    Calls Tryd.prog 86 #[.slice A l.length c, .slice C m.length d] w (CmpP w (decide (l = m))) := by
  go_enter Tryd.func86, Tryd.ntmps86
  go_wp2
  go_loop [11] (fun s11 => ∃ k : Nat, k ≤ l.length ∧ k ≤ m.length ∧ s11 = .int .i64 k ∧ ∀ j, j < k → gi l j = gi m j) (fun s11 => l.length - (intOf s11).toNat)
  case atStart => exact ⟨0, Nat.zero_le _, Nat.zero_le _, rfl, fun j hj => by omega⟩
  case round =>
    obtain ⟨k, hk, hk2, rfl, hall⟩ := hrel
    replace hall := Lib.hid hall
    by_cases hlt : k < l.length
    · obtain ⟨b, off, rfl, hb, hcl⟩ := ha (by omega)
      have c0 := hcl k hlt
      unfold u8v at c0
      have jk : (k : Int) < (l.length : Int) := by omega
      by_cases hlt2 : k < m.length
      · obtain ⟨b2, off2, rfl, hb2, hcm⟩ := hc (by omega)
        have d0 := hcm k hlt2
        unfold u8v at d0
        have jm : (k : Int) < (m.length : Int) := by omega
        have jm' : decide ((m.length : Int) ≤ (k : Int)) = false := decide_eq_false (by omega)
        have HC := Lib.hid (cmp8_any (gi l k) (gi m k) w)
        have hyes : Hid (cmpZ (gi l k) (gi m k) = 0 → ∀ j, j < k + 1 → gi l j = gi m j) := Lib.hid fun h j hj => by
          rcases Nat.lt_succ_iff_lt_or_eq.1 hj with h' | h'
          · exact hall.out j h'
          · rw [h']; exact cmpZ_0.1 h
        have hno : Hid (cmpZ (gi l k) (gi m k) ≠ 0 → decide (l = m) = false) := Lib.hid fun h => decide_eq_false fun e => h (cmpZ_0.2 (by rw [e]))
        obtain ⟨x, hx⟩ : ∃ x, gi l k = x := ⟨_, rfl⟩
        obtain ⟨y, hy⟩ : ∃ y, gi m k = y := ⟨_, rfl⟩
        rw [hx] at c0 HC hyes hno
        rw [hy] at d0 HC hyes hno
        obtain ⟨z, hz⟩ : ∃ z, cmpZ x y = z := ⟨_, rfl⟩
        rw [hz] at HC hyes hno
        replace ha := Lib.hid ha
        replace hc := Lib.hid hc
        replace hz := Lib.hid hz
        clear hcl hcm hx hy
        go_wp2_with fail
        with_reducible refine HC.out.mono ?_
        rintro e' w' ⟨rfl, rfl⟩
        cases g : (z != 0) with
        | true =>
          have h := Lib.hid (hno.out (by simpa using g))
          clear hyes hno
          go_wp2
          go_ret
          exact ⟨z, rfl, by rw [h.out]; simpa using g, rfl⟩
        | false =>
          have h := Lib.hid (hyes.out (by simpa using g))
          clear hyes hno
          go_wp2
          go_round
          case rel => exact ⟨k + 1, by omega, by omega, by go_num, h.out⟩
          case measure => simp [intOf]; omega
      · have h := Lib.hid (show decide (l = m) = false from decide_eq_false fun e => by rw [e] at hlt; omega)
        have jm' : decide ((m.length : Int) ≤ (k : Int)) = true := decide_eq_true (by omega)
        replace ha := Lib.hid ha
        replace hc := Lib.hid hc
        clear hcl
        go_wp2
        go_ret
        exact ⟨1, rfl, by rw [h.out]; rfl, rfl⟩
    · obtain rfl : k = l.length := by omega
      replace ha := Lib.hid ha
      replace hc := Lib.hid hc
      by_cases g : (l.length : Int) < (m.length : Int)
      · have h := Lib.hid (show decide (l = m) = false from decide_eq_false fun e => by rw [e] at g; omega)
        clear hk hk2 hlt hall
        go_wp2
        go_ret
        exact ⟨-1, rfl, by rw [h.out]; rfl, rfl⟩
      · have h := Lib.hid (show decide (l = m) = true from decide_eq_true (gi_eq (by omega) hall.out))
        clear hk hk2 hlt hall
        go_wp2
        go_ret
        exact ⟨0, rfl, by rw [h.out]; rfl, rfl⟩
theorem cmpOr3_any (a b c : Int) (g : Nat) (w : World) (h0 : w.cell? ⟨g, 0, none⟩ = some (.int .i64 a)) (h1 : w.cell? ⟨g, 1, none⟩ = some (.int .i64 b)) (h2 : w.cell? ⟨g, 2, none⟩ = some (.int .i64 c)) :
    Calls Tryd.prog 84 #[.slice (some ⟨g, 0, none⟩) 3 3] w (CmpP w ((a == 0) && (b == 0) && (c == 0))) := by
  go_enter Tryd.func84, Tryd.ntmps84
  go_wp2
  go_loop [8] (fun s8 => ∃ k : Nat, k ≤ 3 ∧ s8 = .int .i64 k ∧ (1 ≤ k → a = 0) ∧ (2 ≤ k → b = 0) ∧ (3 ≤ k → c = 0)) (fun s8 => 3 - (intOf s8).toNat)
  case atStart => exact ⟨0, by omega, rfl, fun h => by omega, fun h => by omega, fun h => by omega⟩
  case round =>
    obtain ⟨k, hk, rfl, ha, hb, hc⟩ := hrel
    replace ha := Lib.hid ha
    replace hb := Lib.hid hb
    replace hc := Lib.hid hc
    match k, hk with
    | 0, _ =>
      cases g : (a != 0) with
      | true =>
        have h := Lib.hid (show ((a == 0) && (b == 0) && (c == 0)) = false by have : (a == 0) = false := by simpa using g
                                                                              rw [this]; rfl)
        go_wp2
        go_ret
        exact ⟨a, rfl, by rw [h.out]; simpa using g, rfl⟩
      | false =>
        have h := Lib.hid (show a = 0 by simpa using g)
        go_wp2
        go_round
        case rel => exact ⟨1, by omega, by go_num, fun _ => h.out, fun h => by omega, fun h => by omega⟩
        case measure => simp [intOf]
    | 1, _ =>
      cases g : (b != 0) with
      | true =>
        have h := Lib.hid (show ((a == 0) && (b == 0) && (c == 0)) = false by have : (b == 0) = false := by simpa using g
                                                                              rw [this, Bool.and_false]; rfl)
        go_wp2
        go_ret
        exact ⟨b, rfl, by rw [h.out]; simpa using g, rfl⟩
      | false =>
        have h := Lib.hid (show b = 0 by simpa using g)
        go_wp2
        go_round
        case rel => exact ⟨2, by omega, by go_num, fun _ => ha.out (by omega), fun _ => h.out, fun h => by omega⟩
        case measure => simp [intOf]
    | 2, _ =>
      cases g : (c != 0) with
      | true =>
        have h := Lib.hid (show ((a == 0) && (b == 0) && (c == 0)) = false by have : (c == 0) = false := by simpa using g
                                                                              rw [this, Bool.and_false])
        go_wp2
        go_ret
        exact ⟨c, rfl, by rw [h.out]; simpa using g, rfl⟩
      | false =>
        have h := Lib.hid (show c = 0 by simpa using g)
        go_wp2
        go_round
        case rel => exact ⟨3, by omega, by go_num, fun _ => ha.out (by omega), fun _ => hb.out (by omega), fun _ => h.out⟩
        case measure => simp [intOf]
    | 3, _ =>
      have h := Lib.hid (show ((a == 0) && (b == 0) && (c == 0)) = true by rw [ha.out (by omega), hb.out (by omega), hc.out (by omega)]; rfl)
      go_wp2
      go_ret
      exact ⟨0, rfl, by rw [h.out]; rfl, rfl⟩
end Go.Proofs.YtfcimilimojfoaaDoor

namespace Go.Proofs.YtfcimilimojfoaaDoor
open Go.RowKit Go.Sv
def CmpB (w : World) (b : Bool) (e : Ending) (w' : World) : Prop := ∃ z : Int, e = .returned (.int .i64 z) ∧ (z == 0) = b ∧ Below w.heap.size w w'
theorem mx_eq3 (m n : Mx) : decide (m = n) = (decide (m.base = n.base) && decide (m.next = n.next) && decide (m.held = n.held)) := by
  obtain ⟨a, b, c⟩ := m
  obtain ⟨d, e, f⟩ := n
  rw [Bool.eq_iff_iff]
  simp [and_assoc]
set_option maxHeartbeats 4000000 in
set_option maxRecDepth 100000 in
theorem compare_any (m n : Mx) (qm qn : MixP) (w : World) (hm : RMix w w.heap.size m qm) (hn : RMix w w.heap.size n qn) (sm : MSm m) (sn : MSm n) :
    Calls Tryd.prog 61 #[mixV m qm, mixV n qn] w (CmpB w (decide (m = n))) := by
  obtain ⟨W, hW, S⟩ := mm_boxes m n qm qn w
  have I0 := Lib.hid (slcI_any qm.a0 qn.a0 qm.c0 qn.c0 m.base n.base W.drew W.heap.size (hm.to S.bel).r0 (hn.to S.bel).r0 sm.l0 sn.l0)
  have I1 := Lib.hid (slcI_any qm.a1 qn.a1 qm.c1 qn.c1 m.next n.next W.drew W.heap.size (hm.to S.bel).r1 (hn.to S.bel).r1 sm.l1 sn.l1)
  have I2 := Lib.hid (slc8_any qm.a2 qn.a2 qm.c2 qn.c2 m.held n.held W.drew W.heap.size (hm.to S.bel).r2 (hn.to S.bel).r2 sm.l2 sn.l2)
  have hE := Lib.hid (mx_eq3 m n)
  obtain ⟨ma0, mc0, ma1, mc1, ma2, mc2⟩ := qm
  obtain ⟨na0, nc0, na1, nc1, na2, nc2⟩ := qn
  dsimp only at I0 I1 I2 hW S ⊢
  obtain ⟨⟨r1, f1, r10, r11, r12, -⟩, ⟨r2, f2, r20, r21, r22, -⟩, -⟩ := S.facts
  have SW := Lib.hid S
  obtain ⟨bb, hbb⟩ : ∃ bb, decide (m = n) = bb := ⟨_, rfl⟩
  rw [hbb] at hE ⊢
  obtain ⟨b0, hb0⟩ : ∃ bb, decide (m.base = n.base) = bb := ⟨_, rfl⟩
  obtain ⟨b1, hb1⟩ : ∃ bb, decide (m.next = n.next) = bb := ⟨_, rfl⟩
  obtain ⟨b2, hb2⟩ : ∃ bb, decide (m.held = n.held) = bb := ⟨_, rfl⟩
  rw [hb0, hb1, hb2] at hE
  rw [hb0] at I0
  rw [hb1] at I1
  rw [hb2] at I2
  clear S hm hn sm sn hbb hb0 hb1 hb2
  go_enter Tryd.func61, Tryd.ntmps61
  go_wp2_with fail
  clear hW
  go_region_held3 (fun w' => w'.cell? ⟨w.heap.size, 0, none⟩ = some (.slice ma0 m.base.length mc0) ∧ w'.cell? ⟨w.heap.size, 1, none⟩ = some (.slice ma1 m.next.length mc1) ∧ w'.cell? ⟨w.heap.size, 2, none⟩ = some (.slice ma2 m.held.length mc2) ∧
      w'.cell? ⟨w.heap.size + 1, 0, none⟩ = some (.slice na0 n.base.length nc0) ∧ w'.cell? ⟨w.heap.size + 1, 1, none⟩ = some (.slice na1 n.next.length nc1) ∧ w'.cell? ⟨w.heap.size + 1, 2, none⟩ = some (.slice na2 n.held.length nc2)) (go_keep)
    (first
      | ((with_reducible refine I0.out.mono ?_)
         rintro e' w' ⟨z0, rfl, hz0, rfl⟩
         replace hz0 := Lib.hid hz0)
      | ((with_reducible refine I1.out.mono ?_)
         rintro e' w' ⟨z1, rfl, hz1, rfl⟩
         replace hz1 := Lib.hid hz1)
      | ((with_reducible refine I2.out.mono ?_)
         rintro e' w' ⟨z2, rfl, hz2, rfl⟩
         replace hz2 := Lib.hid hz2)
      | ((with_reducible refine (cmpOr3_any z0 z1 z2 W.heap.size (W.alloc (.cells #[.int .i64 z0, .int .i64 z1, .int .i64 z2] 3)).drew (by simp) (by simp) (by simp)).mono ?_)
         rintro e' w' ⟨z3, rfl, hz3, rfl⟩
         replace hz3 := Lib.hid hz3))
  all_goals
    have hfin := Lib.hid (SW.out.bel.trans ((((Below.refl W.heap.size W).alloc (Nat.le_refl _) (.cells #[.int .i64 z0, .int .i64 z1, .int .i64 z2] 3)).drew).mono SW.out.size))
    go_wp2
    go_ret
    exact ⟨z3, rfl, by rw [hz3.out, hz0.out, hz1.out, hz2.out, hE.out], hfin.out⟩
end Go.Proofs.YtfcimilimojfoaaDoor
