/-
  CONTRACTS of step.cloned, step.valid, step.exists and of the reference's Valid of a step.
  Conditions: those that each theorem names.
-/
import Derived.Test.YtickckehhfdoeaaMxD
import Derived.Test.YtickckehhfdoeaaSb1
namespace Go.Proofs.Ytickckehhfdoeaa
open Go.RowKit Go.Sv
abbrev stepV (s : Sp) : Value := .agg #[.int .i64 s.kind, .int .i64 s.ix, .int .i64 s.ver]
/-- a mix of the call's own -/
def AOR (w : World) (m : Mx) (v : Value) (w' : World) : Prop := ∃ q, v = mixV m q ∧ AO w' w.heap.size m q ∧ Below w.heap.size w w'
theorem AO.far {W : World} {B : Nat} {m : Mx} {q : MixP} (h : AO W B m q) {p : Addr} (hp : p.block < B) (u : Value) : AO (W.setCell p u) B m q := by
  refine ⟨own_else h.o0 (fun e => ?_) u, own_else h.o1 (fun e => ?_) u, own_else h.o2 (fun e => ?_) u, h.d01, h.d02, h.d12⟩
  · have := (keyV_lt h.o0 _ e).1; omega
  · have := (keyV_lt h.o1 _ e).1; omega
  · have := (keyV_lt h.o2 _ e).1; omega
set_option maxHeartbeats 2000000 in
set_option maxRecDepth 100000 in
theorem cloned_any (m : Mx) (q : MixP) (w : World) (hm : RMix w w.heap.size m q) (hb : MBd m q) (h0 : m.base.length ≤ 1000000) (h1 : m.next.length ≤ 1000000) (h2 : m.held.length ≤ 1000000) :
    Calls Try.prog 69 #[mixV m q] w (Ret (AOR w m)) := by
  obtain ⟨a0, c0, a1, c1, a2, c2⟩ := q
  have U := (Fm.init w).box 56 [.slice a0 m.base.length c0, .slice a1 m.next.length c1, .slice a2 m.held.length c2]
  have U2 := U.box' 56 [.slice none 0 0, .slice none 0 0, .slice none 0 0] (K := w.heap.size + 1) (by simp)
  have H0 := Lib.hid (fun W (h : Below w.heap.size w W) => cloneI_any a0 c0 m.base.length (iv m.base) W ((hm.r0.below h).more h.size) hb.n0 (fun k _ => rfl) h0)
  have H1 := Lib.hid (fun W (h : Below w.heap.size w W) => cloneI_any a1 c1 m.next.length (iv m.next) W ((hm.r1.below h).more h.size) hb.n1 (fun k _ => rfl) h1)
  have H2 := Lib.hid (fun W (h : Below w.heap.size w W) => cloneU_any a2 c2 m.held.length (u8v m.held) W ((hm.r2.below h).more h.size) hb.n2 (fun k _ => rfl) h2)
  obtain ⟨W, hW, S⟩ : ∃ W, (w.alloc (.cells #[.slice a0 m.base.length c0, .slice a1 m.next.length c1, .slice a2 m.held.length c2] 56)).alloc (.cells #[.slice none 0 0, .slice none 0 0, .slice none 0 0] 56) = W ∧ Fm w W [⟨w.heap.size + 1, 56, [.slice none 0 0, .slice none 0 0, .slice none 0 0]⟩, ⟨w.heap.size, 56, [.slice a0 m.base.length c0, .slice a1 m.next.length c1, .slice a2 m.held.length c2]⟩] [] := ⟨_, rfl, U2⟩
  clear U U2 hm hb h0 h1 h2
  obtain ⟨⟨y1, f1, y10, y11, y12, -⟩, ⟨y2, f2, y20, y21, y22, -⟩, -⟩ := S.facts
  have hB0 := S.bel
  have hW0 := Lib.hid hW
  replace S := Lib.hid S
  go_enter Try.func69, Try.ntmps69
  go_wp2_with fail
  clear hW
  go_region_held3 (fun w' => w'.cell? ⟨w.heap.size, 0, none⟩ = some (.slice a0 m.base.length c0) ∧ w'.cell? ⟨w.heap.size, 1, none⟩ = some (.slice a1 m.next.length c1) ∧ w'.cell? ⟨w.heap.size, 2, none⟩ = some (.slice a2 m.held.length c2))
    (go_keep)
    (first
      | ((with_reducible refine (H0.out W.drew hB0.drew).mono ?_)
         rintro e w1 ⟨_, rfl, A0, C0, rfl, own0, hb1⟩
         have S1 := Lib.hid (S.out.drew.call hb1)
         clear y1 f1 y10 y11 y12 y2 f2 y20 y21 y22
         obtain ⟨⟨y1, f1, y10, y11, y12, -⟩, ⟨y2, f2, y20, y21, y22, -⟩, -⟩ := S1.out.facts
         replace own0 := Lib.hid own0
         have hs1 := hb1.size
         clear hb1)
      | ((with_reducible refine (H1.out w1 S1.out.bel).mono ?_)
         rintro e w2 ⟨_, rfl, A1, C1, rfl, own1, hb2⟩
         have S2 := Lib.hid (S1.out.call hb2)
         clear y1 f1 y10 y11 y12 y2 f2 y20 y21 y22
         obtain ⟨⟨y1, f1, y10, y11, y12, -⟩, ⟨y2, f2, y20, y21, y22, -⟩, -⟩ := S2.out.facts
         replace own1 := Lib.hid own1
         replace hb2 := Lib.hid hb2)
      | ((with_reducible refine (H2.out w2 S2.out.bel).mono ?_)
         rintro e w3 ⟨_, rfl, A2, C2, rfl, own2, hb3⟩
         have S3 := Lib.hid (S2.out.call hb3)
         clear y1 f1 y10 y11 y12 y2 f2 y20 y21 y22
         obtain ⟨⟨y1, f1, y10, y11, y12, -⟩, ⟨y2, f2, y20, y21, y22, -⟩, -⟩ := S3.out.facts
         replace own2 := Lib.hid own2
         replace hb3 := Lib.hid hb3))
  have SW := Lib.hid S.out.size
  have hsW : W.heap.size = w.heap.size + 2 := by rw [← hW0.out]; simp
  have hAO := Lib.hid (ao_mk (m := m) (q := ⟨A0, C0, A1, C1, A2, C2⟩) own0.out own1.out own2.out hb2.out hb3.out (Below.refl _ _) (Nat.le_trans (Nat.le_of_eq (show W.heap.size = W.drew.heap.size from rfl)) hs1))
  replace hAO := Lib.hid (((hAO.out.far (p := ⟨w.heap.size + 1, 0, none⟩) (by show w.heap.size + 1 < W.heap.size; omega) (.slice A0 m.base.length C0)).far (p := ⟨w.heap.size + 1, 1, none⟩) (by show w.heap.size + 1 < W.heap.size; omega) (.slice A1 m.next.length C1)).far (p := ⟨w.heap.size + 1, 2, none⟩) (by show w.heap.size + 1 < W.heap.size; omega) (.slice A2 m.held.length C2))
  have S4 := Lib.hid (((S3.out.set 0 rfl 0 (.slice A0 m.base.length C0)).set 0 rfl 1 (.slice A1 m.next.length C1)).set 0 rfl 2 (.slice A2 m.held.length C2))
  clear y1 f1 y10 y11 y12 y2 f2 y20 y21 y22 own0 own1 own2 hb2 hb3
  obtain ⟨⟨y1, f1, y10, y11, y12, -⟩, ⟨y2, f2, y20, y21, y22, -⟩, -⟩ := S4.out.facts
  go_wp2
  refine bodyPost_ret (v := mixV m ⟨A0, C0, A1, C1, A2, C2⟩) (by simp [results, Try.results69, go_sem, y10, y11, y12]) rfl ?_
  exact Ret.mk ⟨_, rfl, hAO.out.base (show w.heap.size ≤ W.heap.size by omega), S4.out.bel⟩
theorem spB_b (k i v : Int) : spB ⟨k, i, v⟩ = ((!decide (i < 0) && !decide (v < 0)) && (!decide (k < 1) && !decide (4 < k)) && ((k == 1) || (v == 0))) := by
  unfold spB
  rw [Bool.eq_iff_iff]
  simp only [decide_eq_true_eq, Bool.and_eq_true, Bool.or_eq_true, beq_iff_eq, Bool.not_eq_true', decide_eq_false_iff_not]
  omega
theorem svalid_any (s : Sp) (w : World) : Calls Try.prog 63 #[stepV s] w fun e w' => e = .returned (.bool (spB s)) ∧ Below w.heap.size w w' := by
  have hb := Lib.hid ((Below.refl w.heap.size w).alloc (Nat.le_refl _) (.cells #[.int .i64 s.kind, .int .i64 s.ix, .int .i64 s.ver] 63))
  obtain ⟨k, i, v⟩ := s
  have e := Lib.hid (spB_b k i v)
  dsimp only at hb ⊢
  obtain ⟨sp, hsp⟩ : ∃ sp, spB ⟨k, i, v⟩ = sp := ⟨_, rfl⟩
  rw [hsp] at e ⊢
  clear hsp
  have key : (v < i ∨ ¬ v < i) := by omega
  rcases key with hlt | hlt
  · have hlt2 : ¬ i ≤ v := by omega
    have himp : decide (v < 0) = false → decide (i < 0) = false := fun h => by rw [decide_eq_false_iff_not] at h ⊢; omega
    cases h1 : decide (v < 0) with
    | true =>
      rw [h1] at e
      clear himp
      go_enter Try.func63, Try.ntmps63
      go_wp2
      go_ret
      exact ⟨ret_b (by rw [e.out]; simp), hb.out⟩
    | false =>
      have h1b := himp h1
      rw [h1, h1b] at e
      replace h1b := Lib.hid h1b
      clear himp
      cases h2 : decide (k < 1) with
      | true =>
        rw [h2] at e
        go_enter Try.func63, Try.ntmps63
        go_wp2
        go_ret
        exact ⟨ret_b (by rw [e.out]; simp), hb.out⟩
      | false =>
        cases h3 : decide (4 < k) with
        | true =>
          rw [h2, h3] at e
          go_enter Try.func63, Try.ntmps63
          go_wp2
          go_ret
          exact ⟨ret_b (by rw [e.out]; simp), hb.out⟩
        | false =>
          cases h4 : (k == 1) with
          | true =>
            rw [h2, h3, h4] at e
            go_enter Try.func63, Try.ntmps63
            go_wp2
            go_ret
            exact ⟨ret_b (by rw [e.out]; simp), hb.out⟩
          | false =>
            rw [h2, h3, h4] at e
            go_enter Try.func63, Try.ntmps63
            go_wp2
            go_ret
            exact ⟨ret_b (by rw [e.out]; simp), hb.out⟩
  · have hlt2 : i ≤ v := by omega
    have himp : decide (i < 0) = false → decide (v < 0) = false := fun h => by rw [decide_eq_false_iff_not] at h ⊢; omega
    cases h1 : decide (i < 0) with
    | true =>
      rw [h1] at e
      clear himp
      go_enter Try.func63, Try.ntmps63
      go_wp2
      go_ret
      exact ⟨ret_b (by rw [e.out]; simp), hb.out⟩
    | false =>
      have h1b := himp h1
      rw [h1, h1b] at e
      replace h1b := Lib.hid h1b
      clear himp
      cases h2 : decide (k < 1) with
      | true =>
        rw [h2] at e
        go_enter Try.func63, Try.ntmps63
        go_wp2
        go_ret
        exact ⟨ret_b (by rw [e.out]; simp), hb.out⟩
      | false =>
        cases h3 : decide (4 < k) with
        | true =>
          rw [h2, h3] at e
          go_enter Try.func63, Try.ntmps63
          go_wp2
          go_ret
          exact ⟨ret_b (by rw [e.out]; simp), hb.out⟩
        | false =>
          cases h4 : (k == 1) with
          | true =>
            rw [h2, h3, h4] at e
            go_enter Try.func63, Try.ntmps63
            go_wp2
            go_ret
            exact ⟨ret_b (by rw [e.out]; simp), hb.out⟩
          | false =>
            rw [h2, h3, h4] at e
            go_enter Try.func63, Try.ntmps63
            go_wp2
            go_ret
            exact ⟨ret_b (by rw [e.out]; simp), hb.out⟩
theorem rsvalid_any (s : Sp) (w : World) : Calls Try.prog 95 #[stepV s] w fun e w' => e = .returned (.bool (spB s)) ∧ Below w.heap.size w w' := by
  have hb := Lib.hid ((Below.refl w.heap.size w).alloc (Nat.le_refl _) (.cells #[.int .i64 s.kind, .int .i64 s.ix, .int .i64 s.ver] 63))
  obtain ⟨k, i, v⟩ := s
  have e : Hid (spB ⟨k, i, v⟩ = (decide (1 ≤ k) && decide (k ≤ 4) && decide (0 ≤ i) && decide (0 ≤ v) && ((k == 1) || (v == 0)))) := Lib.hid (by
    unfold spB
    rw [Bool.eq_iff_iff]
    simp only [decide_eq_true_eq, Bool.and_eq_true, Bool.or_eq_true, beq_iff_eq]
    omega)
  dsimp only at hb ⊢
  obtain ⟨sp, hsp⟩ : ∃ sp, spB ⟨k, i, v⟩ = sp := ⟨_, rfl⟩
  rw [hsp] at e ⊢
  clear hsp
  cases h0 : decide (1 ≤ k) with
  | false =>
    rw [h0] at e
    go_enter Try.func95, Try.ntmps95
    go_wp2
    go_ret
    exact ⟨ret_b (by rw [e.out]; simp), hb.out⟩
  | true =>
    cases h1 : decide (k ≤ 4) with
    | false =>
      rw [h0, h1] at e
      go_enter Try.func95, Try.ntmps95
      go_wp2
      go_ret
      exact ⟨ret_b (by rw [e.out]; simp), hb.out⟩
    | true =>
      cases h2 : decide (0 ≤ i) with
      | false =>
        rw [h0, h1, h2] at e
        go_enter Try.func95, Try.ntmps95
        go_wp2
        go_ret
        exact ⟨ret_b (by rw [e.out]; simp), hb.out⟩
      | true =>
        cases h3 : decide (0 ≤ v) with
        | false =>
          rw [h0, h1, h2, h3] at e
          go_enter Try.func95, Try.ntmps95
          go_wp2
          go_ret
          exact ⟨ret_b (by rw [e.out]; simp), hb.out⟩
        | true =>
          cases h4 : (k == 1) with
          | true =>
            rw [h0, h1, h2, h3, h4] at e
            go_enter Try.func95, Try.ntmps95
            go_wp2
            go_ret
            exact ⟨ret_b (by rw [e.out]; simp), hb.out⟩
          | false =>
            rw [h0, h1, h2, h3, h4] at e
            go_enter Try.func95, Try.ntmps95
            go_wp2
            go_ret
            exact ⟨ret_b (by rw [e.out]; simp), hb.out⟩
end Go.Proofs.Ytickckehhfdoeaa
