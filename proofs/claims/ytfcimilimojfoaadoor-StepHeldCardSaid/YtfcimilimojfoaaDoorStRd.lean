/-
  CONTRACT of sheaveref37.Apply.
  Conditions: those that each theorem names.
-/
import Derived.Test.YtfcimilimojfoaaDoorStRc
import Derived.Test.YtfcimilimojfoaaDoorMxC
namespace Go.Proofs.YtfcimilimojfoaaDoor
open Go.RowKit Go.Sv
set_option maxHeartbeats 4000000 in
set_option maxRecDepth 100000 in
theorem rapply_any (p : Prob) (q : ProbP) (m : Mx) (qm : MixP) (s : Sp) (w : World) (hp : RProb w w.heap.size p q) (hbd : PBd p) (hm : RMix w w.heap.size m qm) (hmb : MBd m qm) :
    Calls Tryd.prog 22 #[probV p q, mixV m qm, stepV s] w (Ret (ApR w (ApM p m s) (ApE p m s))) := by
  obtain ⟨W, hW, hsz, S⟩ := pms_boxes p q m qm s w
  have HV := Lib.hid (rvalidM_any p q m qm W (hp.to S.bel) hbd (hm.to S.bel) hmb)
  have HS := Lib.hid (fun W2 => rsvalid_any s W2)
  have SW := Lib.hid S
  have hb0 := hbd.b0
  have hb3' := hbd.b3
  unfold ApM ApE
  by_cases h0 : mixE p m = 0
  · rw [if_pos h0, if_pos h0]
    have hok := mixE_ok.1 h0
    have HA := Lib.hid (fun W2 (h : Below W.heap.size W W2) (hs : spB s = true) (he : existsB p s = true) => rafter_any p q m qm s W2 ((hp.to S.bel).to h) hbd ((hm.to S.bel).to h) hmb hok hs he)
    have hpW := Lib.hid (fun W2 (h : Below W.heap.size W W2) => (hp.to S.bel).to h)
    rw [h0] at HV
    obtain ⟨qa0, qc0, qa1, qc1, qa2, qc2, qa3, qc3⟩ := q
    obtain ⟨ma0, mc0, ma1, mc1, ma2, mc2⟩ := qm
    obtain ⟨kd, ix, v⟩ := s
    clear hm hmb hp hbd h0
    replace hok := Lib.hid hok
    dsimp only at HV HA HS hW S SW ⊢
    obtain ⟨⟨r1, f1, r10, r11, r12, -⟩, ⟨r2, f2, r20, r21, r22, -⟩, ⟨r3, f3, r30, r31, r32, -⟩, ⟨r4, f4, r40, r41, r42, r43, -⟩, -⟩ := S.facts
    clear S
    cases hs : spB ⟨kd, ix, v⟩ with
    | false =>
      rw [hs] at HS
      have hE := Lib.hid (appE_1 (p := p) (m := m) hs)
      have hM := Lib.hid (apM_no (p := p) (m := m) (s := ⟨kd, ix, v⟩) (by rw [hE.out]; decide))
      rw [hE.out, hM.out]
      clear hs HA
      go_enter Tryd.func22, Tryd.ntmps22
      go_wp2_with fail
      clear hW
      with_reducible refine HV.out.mono ?_
      rintro e w1 ⟨rfl, hb1⟩
      clear r1 f1 r10 r11 r12 r2 f2 r20 r21 r22 r3 f3 r30 r31 r32 r4 f4 r40 r41 r42 r43
      have S1 := Lib.hid (SW.out.call hb1)
      replace hb1 := Lib.hid hb1
      obtain ⟨⟨r1, f1, r10, r11, r12, -⟩, ⟨r2, f2, r20, r21, r22, -⟩, ⟨r3, f3, r30, r31, r32, -⟩, ⟨r4, f4, r40, r41, r42, r43, -⟩, -⟩ := S1.out.facts
      go_wp2_with fail
      with_reducible refine (HS.out w1).mono ?_
      rintro e w2 ⟨rfl, hb2⟩
      clear r1 f1 r10 r11 r12 r2 f2 r20 r21 r22 r3 f3 r30 r31 r32 r4 f4 r40 r41 r42 r43
      have S2 := Lib.hid (S1.out.call hb2)
      replace hb2 := Lib.hid (hb1.out.trans (hb2.mono hb1.out.size))
      obtain ⟨⟨r1, f1, r10, r11, r12, -⟩, ⟨r2, f2, r20, r21, r22, -⟩, ⟨r3, f3, r30, r31, r32, -⟩, ⟨r4, f4, r40, r41, r42, r43, -⟩, -⟩ := S2.out.facts
      go_wp2
      have S4 := Lib.hid (((S2.out.set 0 rfl 0 (.slice none 0 0)).set 0 rfl 1 (.slice none 0 0)).set 0 rfl 2 (.slice none 0 0))
      clear r1 f1 r10 r11 r12 r2 f2 r20 r21 r22 r3 f3 r30 r31 r32 r4 f4 r40 r41 r42 r43
      obtain ⟨⟨r1, f1, r10, r11, r12, -⟩, -⟩ := S4.out.facts
      refine bodyPost_ret (v := .tuple #[.agg #[.slice none 0 0, .slice none 0 0, .slice none 0 0], .int .i64 1]) (by simp [results, Tryd.results22, go_sem, r10, r11, r12]) rfl ?_
      exact Ret.mk ⟨S4.out.bel, ⟨none, 0, none, 0, none, 0⟩, rfl, ao_nil _ _⟩
    | true =>
      rw [hs] at HS
      have hix : 0 ≤ ix ∧ 0 ≤ v := by unfold spB at hs; have := of_decide_eq_true hs; dsimp only at this; omega
      cases hk3 : (kd == 3) with
      | true =>
        have hkk := beq_iff_eq.1 hk3
        subst hkk
        cases hlt : decide (ix < (p.tabs.length : Int)) with
        | false =>
          have he : existsB p ⟨3, ix, v⟩ = false := by unfold existsB; rw [if_pos rfl]; exact hlt
          have hge : decide ((p.tabs.length : Int) ≤ ix) = true := decide_eq_true (by have := of_decide_eq_false hlt; omega)
          have hE := Lib.hid (appE_4 (p := p) (m := m) hs he)
          have hM := Lib.hid (apM_no (p := p) (m := m) (s := ⟨3, ix, v⟩) (by rw [hE.out]; decide))
          rw [hE.out, hM.out]
          clear HA he
          go_enter Tryd.func22, Tryd.ntmps22
          go_wp2_with fail
          clear hW
          with_reducible refine HV.out.mono ?_
          rintro e w1 ⟨rfl, hb1⟩
          clear r1 f1 r10 r11 r12 r2 f2 r20 r21 r22 r3 f3 r30 r31 r32 r4 f4 r40 r41 r42 r43
          have S1 := Lib.hid (SW.out.call hb1)
          replace hb1 := Lib.hid hb1
          obtain ⟨⟨r1, f1, r10, r11, r12, -⟩, ⟨r2, f2, r20, r21, r22, -⟩, ⟨r3, f3, r30, r31, r32, -⟩, ⟨r4, f4, r40, r41, r42, r43, -⟩, -⟩ := S1.out.facts
          go_wp2_with fail
          with_reducible refine (HS.out w1).mono ?_
          rintro e w2 ⟨rfl, hb2⟩
          clear r1 f1 r10 r11 r12 r2 f2 r20 r21 r22 r3 f3 r30 r31 r32 r4 f4 r40 r41 r42 r43
          have S2 := Lib.hid (S1.out.call hb2)
          replace hb2 := Lib.hid (hb1.out.trans (hb2.mono hb1.out.size))
          obtain ⟨⟨r1, f1, r10, r11, r12, -⟩, ⟨r2, f2, r20, r21, r22, -⟩, ⟨r3, f3, r30, r31, r32, -⟩, ⟨r4, f4, r40, r41, r42, r43, -⟩, -⟩ := S2.out.facts
          go_wp2
          have S4 := Lib.hid (((S2.out.set 0 rfl 0 (.slice none 0 0)).set 0 rfl 1 (.slice none 0 0)).set 0 rfl 2 (.slice none 0 0))
          clear r1 f1 r10 r11 r12 r2 f2 r20 r21 r22 r3 f3 r30 r31 r32 r4 f4 r40 r41 r42 r43
          obtain ⟨⟨r1, f1, r10, r11, r12, -⟩, -⟩ := S4.out.facts
          refine bodyPost_ret (v := .tuple #[.agg #[.slice none 0 0, .slice none 0 0, .slice none 0 0], .int .i64 4]) (by simp [results, Tryd.results22, go_sem, r10, r11, r12]) rfl ?_
          exact Ret.mk ⟨S4.out.bel, ⟨none, 0, none, 0, none, 0⟩, rfl, ao_nil _ _⟩
        | true =>
          have he : existsB p ⟨3, ix, v⟩ = true := by unfold existsB; rw [if_pos rfl]; exact hlt
          have hge : decide ((p.tabs.length : Int) ≤ ix) = false := decide_eq_false (by have := of_decide_eq_true hlt; omega)
          cases hab : aftB p m ⟨3, ix, v⟩ with
          | false =>
            have hE := Lib.hid (appE_11 (p := p) (m := m) hs he hab)
            have hM := Lib.hid (apM_no (p := p) (m := m) (s := ⟨3, ix, v⟩) (by rw [hE.out]; decide))
            rw [hE.out, hM.out]
            go_enter Tryd.func22, Tryd.ntmps22
            go_wp2_with fail
            clear hW
            with_reducible refine HV.out.mono ?_
            rintro e w1 ⟨rfl, hb1⟩
            clear r1 f1 r10 r11 r12 r2 f2 r20 r21 r22 r3 f3 r30 r31 r32 r4 f4 r40 r41 r42 r43
            have S1 := Lib.hid (SW.out.call hb1)
            replace hb1 := Lib.hid hb1
            obtain ⟨⟨r1, f1, r10, r11, r12, -⟩, ⟨r2, f2, r20, r21, r22, -⟩, ⟨r3, f3, r30, r31, r32, -⟩, ⟨r4, f4, r40, r41, r42, r43, -⟩, -⟩ := S1.out.facts
            go_wp2_with fail
            with_reducible refine (HS.out w1).mono ?_
            rintro e w2 ⟨rfl, hb2⟩
            clear r1 f1 r10 r11 r12 r2 f2 r20 r21 r22 r3 f3 r30 r31 r32 r4 f4 r40 r41 r42 r43
            have S2 := Lib.hid (S1.out.call hb2)
            replace hb2 := Lib.hid (hb1.out.trans (hb2.mono hb1.out.size))
            obtain ⟨⟨r1, f1, r10, r11, r12, -⟩, ⟨r2, f2, r20, r21, r22, -⟩, ⟨r3, f3, r30, r31, r32, -⟩, ⟨r4, f4, r40, r41, r42, r43, -⟩, -⟩ := S2.out.facts
            go_wp2_with fail
            refine wp_region_quiet_lit (by kernel_rfl) (by kernel_rfl) ?_
            repeat (go_big_quiet_step (fail))
            refine wpQuiet_nil ?_
            intro w3 hw3
            have hd3 : Drawn w2 w3 := hw3
            have S3 := Lib.hid (S2.out.drawn hd3)
            have hb3 := Lib.hid (hb2.out.trans (hd3.below.mono hb2.out.size))
            clear r1 f1 r10 r11 r12 r2 f2 r20 r21 r22 r3 f3 r30 r31 r32 r4 f4 r40 r41 r42 r43
            clear hw3 hd3
            obtain ⟨⟨r1, f1, r10, r11, r12, -⟩, ⟨r2, f2, r20, r21, r22, -⟩, ⟨r3, f3, r30, r31, r32, -⟩, ⟨r4, f4, r40, r41, r42, r43, -⟩, -⟩ := S3.out.facts
            go_wp2_with fail
            with_reducible refine (HA.out w3 hb3.out hs he).mono ?_
            rintro e w4 ⟨_, rfl, hb4, x, ⟨x0, y0, x1, y1, x2, y2⟩, rfl, hx⟩
            rw [hab]
            clear r1 f1 r10 r11 r12 r2 f2 r20 r21 r22 r3 f3 r30 r31 r32 r4 f4 r40 r41 r42 r43
            have S5 := Lib.hid (S3.out.call hb4)
            replace hx := Lib.hid hx
            replace hb4 := Lib.hid hb4
            obtain ⟨⟨r1, f1, r10, r11, r12, -⟩, ⟨r2, f2, r20, r21, r22, -⟩, ⟨r3, f3, r30, r31, r32, -⟩, ⟨r4, f4, r40, r41, r42, r43, -⟩, -⟩ := S5.out.facts

            go_wp2
            have S4 := Lib.hid ((((S5.out.set 0 rfl 0 (.slice none 0 0)).set 0 rfl 1 (.slice none 0 0)).set 0 rfl 2 (.slice none 0 0)).box' 36 [.slice x0 x.base.length y0, .slice x1 x.next.length y1, .slice x2 x.held.length y2] (K := w4.heap.size) (by simp))
            clear r1 f1 r10 r11 r12 r2 f2 r20 r21 r22 r3 f3 r30 r31 r32 r4 f4 r40 r41 r42 r43
            obtain ⟨-, ⟨r1, f1, r10, r11, r12, -⟩, -⟩ := S4.out.facts
            refine bodyPost_ret (v := .tuple #[.agg #[.slice none 0 0, .slice none 0 0, .slice none 0 0], .int .i64 11]) (by simp [results, Tryd.results22, go_sem, r10, r11, r12]) rfl ?_
            exact Ret.mk ⟨S4.out.bel, ⟨none, 0, none, 0, none, 0⟩, rfl, ao_nil _ _⟩
          | true =>
            obtain ⟨x', hx'⟩ : ∃ x', aft p m ⟨3, ix, v⟩ = some x' := Option.isSome_iff_exists.1 hab
            have hE := Lib.hid (appE_ok.2 ⟨hs, he, x', hx'⟩)
            have hM := Lib.hid (apM_ok hs he hx')
            rw [hE.out, hM.out]
            replace hx' := Lib.hid hx'
            go_enter Tryd.func22, Tryd.ntmps22
            go_wp2_with fail
            clear hW
            with_reducible refine HV.out.mono ?_
            rintro e w1 ⟨rfl, hb1⟩
            clear r1 f1 r10 r11 r12 r2 f2 r20 r21 r22 r3 f3 r30 r31 r32 r4 f4 r40 r41 r42 r43
            have S1 := Lib.hid (SW.out.call hb1)
            replace hb1 := Lib.hid hb1
            obtain ⟨⟨r1, f1, r10, r11, r12, -⟩, ⟨r2, f2, r20, r21, r22, -⟩, ⟨r3, f3, r30, r31, r32, -⟩, ⟨r4, f4, r40, r41, r42, r43, -⟩, -⟩ := S1.out.facts
            go_wp2_with fail
            with_reducible refine (HS.out w1).mono ?_
            rintro e w2 ⟨rfl, hb2⟩
            clear r1 f1 r10 r11 r12 r2 f2 r20 r21 r22 r3 f3 r30 r31 r32 r4 f4 r40 r41 r42 r43
            have S2 := Lib.hid (S1.out.call hb2)
            replace hb2 := Lib.hid (hb1.out.trans (hb2.mono hb1.out.size))
            obtain ⟨⟨r1, f1, r10, r11, r12, -⟩, ⟨r2, f2, r20, r21, r22, -⟩, ⟨r3, f3, r30, r31, r32, -⟩, ⟨r4, f4, r40, r41, r42, r43, -⟩, -⟩ := S2.out.facts
            go_wp2_with fail
            refine wp_region_quiet_lit (by kernel_rfl) (by kernel_rfl) ?_
            repeat (go_big_quiet_step (fail))
            refine wpQuiet_nil ?_
            intro w3 hw3
            have hd3 : Drawn w2 w3 := hw3
            have S3 := Lib.hid (S2.out.drawn hd3)
            have hb3 := Lib.hid (hb2.out.trans (hd3.below.mono hb2.out.size))
            clear r1 f1 r10 r11 r12 r2 f2 r20 r21 r22 r3 f3 r30 r31 r32 r4 f4 r40 r41 r42 r43
            clear hw3 hd3
            obtain ⟨⟨r1, f1, r10, r11, r12, -⟩, ⟨r2, f2, r20, r21, r22, -⟩, ⟨r3, f3, r30, r31, r32, -⟩, ⟨r4, f4, r40, r41, r42, r43, -⟩, -⟩ := S3.out.facts
            go_wp2_with fail
            with_reducible refine (HA.out w3 hb3.out hs he).mono ?_
            rintro e w4 ⟨_, rfl, hb4, x, ⟨x0, y0, x1, y1, x2, y2⟩, rfl, hx⟩
            rw [hab]
            clear r1 f1 r10 r11 r12 r2 f2 r20 r21 r22 r3 f3 r30 r31 r32 r4 f4 r40 r41 r42 r43
            have S5 := Lib.hid (S3.out.call hb4)
            replace hx := Lib.hid hx
            replace hb4 := Lib.hid hb4
            obtain ⟨⟨r1, f1, r10, r11, r12, -⟩, ⟨r2, f2, r20, r21, r22, -⟩, ⟨r3, f3, r30, r31, r32, -⟩, ⟨r4, f4, r40, r41, r42, r43, -⟩, -⟩ := S5.out.facts

            obtain ⟨rfl, hax⟩ := hx.out x' hx'.out
            replace hax := Lib.hid hax
            clear hx
            go_wp2
            have S4 := Lib.hid ((((S5.out.set 0 rfl 0 (.slice x0 x.base.length y0)).set 0 rfl 1 (.slice x1 x.next.length y1)).set 0 rfl 2 (.slice x2 x.held.length y2)).box' 36 [.slice x0 x.base.length y0, .slice x1 x.next.length y1, .slice x2 x.held.length y2] (K := w4.heap.size) (by simp))
            have hz := hb3.out.size
            have ha4 := Lib.hid ((hax.out.far3 (g := w.heap.size + 1 + 1 + 1) (by omega) (.slice x0 x.base.length y0) (.slice x1 x.next.length y1) (.slice x2 x.held.length y2)).to ((Below.refl _ _).alloc (Nat.le_refl _) (.cells #[.slice x0 x.base.length y0, .slice x1 x.next.length y1, .slice x2 x.held.length y2] 36)))
            clear r1 f1 r10 r11 r12 r2 f2 r20 r21 r22 r3 f3 r30 r31 r32 r4 f4 r40 r41 r42 r43
            obtain ⟨-, ⟨r1, f1, r10, r11, r12, -⟩, -⟩ := S4.out.facts
            refine bodyPost_ret (v := .tuple #[.agg #[.slice x0 x.base.length y0, .slice x1 x.next.length y1, .slice x2 x.held.length y2], .int .i64 0]) (by simp [results, Tryd.results22, go_sem, r10, r11, r12]) rfl ?_
            exact Ret.mk ⟨S4.out.bel, ⟨x0, y0, x1, y1, x2, y2⟩, rfl, ha4.out.base (by omega)⟩
      | false =>
        have hk3' : (kd != 3) = true := by rw [bne, hk3]; rfl
        have hne3 : ¬ kd = 3 := fun h => by rw [beq_iff_eq.2 h] at hk3; cases hk3
        cases hlt : decide (ix < (p.vs.length : Int)) with
        | false =>
          have he : existsB p ⟨kd, ix, v⟩ = false := by unfold existsB; rw [if_neg hne3]; dsimp only; rw [hlt]; rfl
          have hge : decide ((p.vs.length : Int) ≤ ix) = true := decide_eq_true (by have := of_decide_eq_false hlt; omega)
          have hE := Lib.hid (appE_4 (p := p) (m := m) hs he)
          have hM := Lib.hid (apM_no (p := p) (m := m) (s := ⟨kd, ix, v⟩) (by rw [hE.out]; decide))
          rw [hE.out, hM.out]
          clear HA he hne3
          go_enter Tryd.func22, Tryd.ntmps22
          go_wp2_with fail
          clear hW
          with_reducible refine HV.out.mono ?_
          rintro e w1 ⟨rfl, hb1⟩
          clear r1 f1 r10 r11 r12 r2 f2 r20 r21 r22 r3 f3 r30 r31 r32 r4 f4 r40 r41 r42 r43
          have S1 := Lib.hid (SW.out.call hb1)
          replace hb1 := Lib.hid hb1
          obtain ⟨⟨r1, f1, r10, r11, r12, -⟩, ⟨r2, f2, r20, r21, r22, -⟩, ⟨r3, f3, r30, r31, r32, -⟩, ⟨r4, f4, r40, r41, r42, r43, -⟩, -⟩ := S1.out.facts
          go_wp2_with fail
          with_reducible refine (HS.out w1).mono ?_
          rintro e w2 ⟨rfl, hb2⟩
          clear r1 f1 r10 r11 r12 r2 f2 r20 r21 r22 r3 f3 r30 r31 r32 r4 f4 r40 r41 r42 r43
          have S2 := Lib.hid (S1.out.call hb2)
          replace hb2 := Lib.hid (hb1.out.trans (hb2.mono hb1.out.size))
          obtain ⟨⟨r1, f1, r10, r11, r12, -⟩, ⟨r2, f2, r20, r21, r22, -⟩, ⟨r3, f3, r30, r31, r32, -⟩, ⟨r4, f4, r40, r41, r42, r43, -⟩, -⟩ := S2.out.facts
          go_wp2
          have S4 := Lib.hid (((S2.out.set 0 rfl 0 (.slice none 0 0)).set 0 rfl 1 (.slice none 0 0)).set 0 rfl 2 (.slice none 0 0))
          clear r1 f1 r10 r11 r12 r2 f2 r20 r21 r22 r3 f3 r30 r31 r32 r4 f4 r40 r41 r42 r43
          obtain ⟨⟨r1, f1, r10, r11, r12, -⟩, -⟩ := S4.out.facts
          refine bodyPost_ret (v := .tuple #[.agg #[.slice none 0 0, .slice none 0 0, .slice none 0 0], .int .i64 4]) (by simp [results, Tryd.results22, go_sem, r10, r11, r12]) rfl ?_
          exact Ret.mk ⟨S4.out.bel, ⟨none, 0, none, 0, none, 0⟩, rfl, ao_nil _ _⟩
        | true =>
          have hge : decide ((p.vs.length : Int) ≤ ix) = false := decide_eq_false (by have := of_decide_eq_true hlt; omega)
          cases hk1 : (kd == 1) with
          | false =>
            have hne1 : ¬ kd = 1 := fun h => by rw [beq_iff_eq.2 h] at hk1; cases hk1
            have he : existsB p ⟨kd, ix, v⟩ = true := by unfold existsB; rw [if_neg hne3]; dsimp only; rw [hlt, decide_eq_false hne1]; rfl
            clear hne1 hne3
            cases hab : aftB p m ⟨kd, ix, v⟩ with
            | false =>
              have hE := Lib.hid (appE_11 (p := p) (m := m) hs he hab)
              have hM := Lib.hid (apM_no (p := p) (m := m) (s := ⟨kd, ix, v⟩) (by rw [hE.out]; decide))
              rw [hE.out, hM.out]
              go_enter Tryd.func22, Tryd.ntmps22
              go_wp2_with fail
              clear hW
              with_reducible refine HV.out.mono ?_
              rintro e w1 ⟨rfl, hb1⟩
              clear r1 f1 r10 r11 r12 r2 f2 r20 r21 r22 r3 f3 r30 r31 r32 r4 f4 r40 r41 r42 r43
              have S1 := Lib.hid (SW.out.call hb1)
              replace hb1 := Lib.hid hb1
              obtain ⟨⟨r1, f1, r10, r11, r12, -⟩, ⟨r2, f2, r20, r21, r22, -⟩, ⟨r3, f3, r30, r31, r32, -⟩, ⟨r4, f4, r40, r41, r42, r43, -⟩, -⟩ := S1.out.facts
              go_wp2_with fail
              with_reducible refine (HS.out w1).mono ?_
              rintro e w2 ⟨rfl, hb2⟩
              clear r1 f1 r10 r11 r12 r2 f2 r20 r21 r22 r3 f3 r30 r31 r32 r4 f4 r40 r41 r42 r43
              have S2 := Lib.hid (S1.out.call hb2)
              replace hb2 := Lib.hid (hb1.out.trans (hb2.mono hb1.out.size))
              obtain ⟨⟨r1, f1, r10, r11, r12, -⟩, ⟨r2, f2, r20, r21, r22, -⟩, ⟨r3, f3, r30, r31, r32, -⟩, ⟨r4, f4, r40, r41, r42, r43, -⟩, -⟩ := S2.out.facts
              go_wp2_with fail
              refine wp_region_quiet_lit (by kernel_rfl) (by kernel_rfl) ?_
              repeat (go_big_quiet_step (fail))
              refine wpQuiet_nil ?_
              intro w3 hw3
              have hd3 : Drawn w2 w3 := hw3
              have S3 := Lib.hid (S2.out.drawn hd3)
              have hb3 := Lib.hid (hb2.out.trans (hd3.below.mono hb2.out.size))
              clear r1 f1 r10 r11 r12 r2 f2 r20 r21 r22 r3 f3 r30 r31 r32 r4 f4 r40 r41 r42 r43
              clear hw3 hd3
              obtain ⟨⟨r1, f1, r10, r11, r12, -⟩, ⟨r2, f2, r20, r21, r22, -⟩, ⟨r3, f3, r30, r31, r32, -⟩, ⟨r4, f4, r40, r41, r42, r43, -⟩, -⟩ := S3.out.facts
              go_wp2_with fail
              with_reducible refine (HA.out w3 hb3.out hs he).mono ?_
              rintro e w4 ⟨_, rfl, hb4, x, ⟨x0, y0, x1, y1, x2, y2⟩, rfl, hx⟩
              rw [hab]
              clear r1 f1 r10 r11 r12 r2 f2 r20 r21 r22 r3 f3 r30 r31 r32 r4 f4 r40 r41 r42 r43
              have S5 := Lib.hid (S3.out.call hb4)
              replace hx := Lib.hid hx
              replace hb4 := Lib.hid hb4
              obtain ⟨⟨r1, f1, r10, r11, r12, -⟩, ⟨r2, f2, r20, r21, r22, -⟩, ⟨r3, f3, r30, r31, r32, -⟩, ⟨r4, f4, r40, r41, r42, r43, -⟩, -⟩ := S5.out.facts

              go_wp2
              have S4 := Lib.hid ((((S5.out.set 0 rfl 0 (.slice none 0 0)).set 0 rfl 1 (.slice none 0 0)).set 0 rfl 2 (.slice none 0 0)).box' 36 [.slice x0 x.base.length y0, .slice x1 x.next.length y1, .slice x2 x.held.length y2] (K := w4.heap.size) (by simp))
              clear r1 f1 r10 r11 r12 r2 f2 r20 r21 r22 r3 f3 r30 r31 r32 r4 f4 r40 r41 r42 r43
              obtain ⟨-, ⟨r1, f1, r10, r11, r12, -⟩, -⟩ := S4.out.facts
              refine bodyPost_ret (v := .tuple #[.agg #[.slice none 0 0, .slice none 0 0, .slice none 0 0], .int .i64 11]) (by simp [results, Tryd.results22, go_sem, r10, r11, r12]) rfl ?_
              exact Ret.mk ⟨S4.out.bel, ⟨none, 0, none, 0, none, 0⟩, rfl, ao_nil _ _⟩
            | true =>
              obtain ⟨x', hx'⟩ : ∃ x', aft p m ⟨kd, ix, v⟩ = some x' := Option.isSome_iff_exists.1 hab
              have hE := Lib.hid (appE_ok.2 ⟨hs, he, x', hx'⟩)
              have hM := Lib.hid (apM_ok hs he hx')
              rw [hE.out, hM.out]
              replace hx' := Lib.hid hx'
              go_enter Tryd.func22, Tryd.ntmps22
              go_wp2_with fail
              clear hW
              with_reducible refine HV.out.mono ?_
              rintro e w1 ⟨rfl, hb1⟩
              clear r1 f1 r10 r11 r12 r2 f2 r20 r21 r22 r3 f3 r30 r31 r32 r4 f4 r40 r41 r42 r43
              have S1 := Lib.hid (SW.out.call hb1)
              replace hb1 := Lib.hid hb1
              obtain ⟨⟨r1, f1, r10, r11, r12, -⟩, ⟨r2, f2, r20, r21, r22, -⟩, ⟨r3, f3, r30, r31, r32, -⟩, ⟨r4, f4, r40, r41, r42, r43, -⟩, -⟩ := S1.out.facts
              go_wp2_with fail
              with_reducible refine (HS.out w1).mono ?_
              rintro e w2 ⟨rfl, hb2⟩
              clear r1 f1 r10 r11 r12 r2 f2 r20 r21 r22 r3 f3 r30 r31 r32 r4 f4 r40 r41 r42 r43
              have S2 := Lib.hid (S1.out.call hb2)
              replace hb2 := Lib.hid (hb1.out.trans (hb2.mono hb1.out.size))
              obtain ⟨⟨r1, f1, r10, r11, r12, -⟩, ⟨r2, f2, r20, r21, r22, -⟩, ⟨r3, f3, r30, r31, r32, -⟩, ⟨r4, f4, r40, r41, r42, r43, -⟩, -⟩ := S2.out.facts
              go_wp2_with fail
              refine wp_region_quiet_lit (by kernel_rfl) (by kernel_rfl) ?_
              repeat (go_big_quiet_step (fail))
              refine wpQuiet_nil ?_
              intro w3 hw3
              have hd3 : Drawn w2 w3 := hw3
              have S3 := Lib.hid (S2.out.drawn hd3)
              have hb3 := Lib.hid (hb2.out.trans (hd3.below.mono hb2.out.size))
              clear r1 f1 r10 r11 r12 r2 f2 r20 r21 r22 r3 f3 r30 r31 r32 r4 f4 r40 r41 r42 r43
              clear hw3 hd3
              obtain ⟨⟨r1, f1, r10, r11, r12, -⟩, ⟨r2, f2, r20, r21, r22, -⟩, ⟨r3, f3, r30, r31, r32, -⟩, ⟨r4, f4, r40, r41, r42, r43, -⟩, -⟩ := S3.out.facts
              go_wp2_with fail
              with_reducible refine (HA.out w3 hb3.out hs he).mono ?_
              rintro e w4 ⟨_, rfl, hb4, x, ⟨x0, y0, x1, y1, x2, y2⟩, rfl, hx⟩
              rw [hab]
              clear r1 f1 r10 r11 r12 r2 f2 r20 r21 r22 r3 f3 r30 r31 r32 r4 f4 r40 r41 r42 r43
              have S5 := Lib.hid (S3.out.call hb4)
              replace hx := Lib.hid hx
              replace hb4 := Lib.hid hb4
              obtain ⟨⟨r1, f1, r10, r11, r12, -⟩, ⟨r2, f2, r20, r21, r22, -⟩, ⟨r3, f3, r30, r31, r32, -⟩, ⟨r4, f4, r40, r41, r42, r43, -⟩, -⟩ := S5.out.facts

              obtain ⟨rfl, hax⟩ := hx.out x' hx'.out
              replace hax := Lib.hid hax
              clear hx
              go_wp2
              have S4 := Lib.hid ((((S5.out.set 0 rfl 0 (.slice x0 x.base.length y0)).set 0 rfl 1 (.slice x1 x.next.length y1)).set 0 rfl 2 (.slice x2 x.held.length y2)).box' 36 [.slice x0 x.base.length y0, .slice x1 x.next.length y1, .slice x2 x.held.length y2] (K := w4.heap.size) (by simp))
              have hz := hb3.out.size
              have ha4 := Lib.hid ((hax.out.far3 (g := w.heap.size + 1 + 1 + 1) (by omega) (.slice x0 x.base.length y0) (.slice x1 x.next.length y1) (.slice x2 x.held.length y2)).to ((Below.refl _ _).alloc (Nat.le_refl _) (.cells #[.slice x0 x.base.length y0, .slice x1 x.next.length y1, .slice x2 x.held.length y2] 36)))
              clear r1 f1 r10 r11 r12 r2 f2 r20 r21 r22 r3 f3 r30 r31 r32 r4 f4 r40 r41 r42 r43
              obtain ⟨-, ⟨r1, f1, r10, r11, r12, -⟩, -⟩ := S4.out.facts
              refine bodyPost_ret (v := .tuple #[.agg #[.slice x0 x.base.length y0, .slice x1 x.next.length y1, .slice x2 x.held.length y2], .int .i64 0]) (by simp [results, Tryd.results22, go_sem, r10, r11, r12]) rfl ?_
              exact Ret.mk ⟨S4.out.bel, ⟨x0, y0, x1, y1, x2, y2⟩, rfl, ha4.out.base (by omega)⟩
          | true =>
            have hkk := beq_iff_eq.1 hk1
            subst hkk
            obtain ⟨i, rfl⟩ : ∃ i : Nat, ix = (i : Int) := ⟨ix.toNat, by omega⟩
            have hlt' := of_decide_eq_true hlt
            have hil : i < p.vs.length := by omega
            obtain ⟨bv, ov, ev, hbv, hcv⟩ := (hpW.out W (Below.refl _ _)).r0 (by omega)
            have dv := hcv i hil
            unfold iv at dv
            dsimp only at ev
            subst ev
            obtain ⟨n, hn⟩ : ∃ n, gi p.vs i = n := ⟨_, rfl⟩
            rw [hn] at dv
            have hex : existsB p ⟨1, (i : Int), v⟩ = decide (v < n) := by unfold existsB; rw [if_neg (by show ¬ (1 : Int) = 3; decide)]; dsimp only; rw [hlt, Int.toNat_natCast, hn]; rfl
            clear hcv hlt' hn
            cases hvn : decide (v < n) with
            | false =>
              have he := hex.trans hvn
              have hge2 : decide (n ≤ v) = true := decide_eq_true (by have := of_decide_eq_false hvn; omega)
              clear hex
              have hE := Lib.hid (appE_4 (p := p) (m := m) hs he)
              have hM := Lib.hid (apM_no (p := p) (m := m) (s := ⟨1, (i : Int), v⟩) (by rw [hE.out]; decide))
              rw [hE.out, hM.out]
              clear HA he
              go_enter Tryd.func22, Tryd.ntmps22
              go_wp2_with fail
              clear hW
              with_reducible refine HV.out.mono ?_
              rintro e w1 ⟨rfl, hb1⟩
              clear r1 f1 r10 r11 r12 r2 f2 r20 r21 r22 r3 f3 r30 r31 r32 r4 f4 r40 r41 r42 r43
              have S1 := Lib.hid (SW.out.call hb1)
              replace hb1 := Lib.hid hb1
              obtain ⟨⟨r1, f1, r10, r11, r12, -⟩, ⟨r2, f2, r20, r21, r22, -⟩, ⟨r3, f3, r30, r31, r32, -⟩, ⟨r4, f4, r40, r41, r42, r43, -⟩, -⟩ := S1.out.facts
              go_wp2_with fail
              with_reducible refine (HS.out w1).mono ?_
              rintro e w2 ⟨rfl, hb2⟩
              clear r1 f1 r10 r11 r12 r2 f2 r20 r21 r22 r3 f3 r30 r31 r32 r4 f4 r40 r41 r42 r43
              have S2 := Lib.hid (S1.out.call hb2)
              replace hb2 := Lib.hid (hb1.out.trans (hb2.mono hb1.out.size))
              obtain ⟨⟨r1, f1, r10, r11, r12, -⟩, ⟨r2, f2, r20, r21, r22, -⟩, ⟨r3, f3, r30, r31, r32, -⟩, ⟨r4, f4, r40, r41, r42, r43, -⟩, -⟩ := S2.out.facts
              have y1 := (hb2.out.cell (p := ⟨bv, ov + i, none⟩) hbv).trans dv
              have hbv2 := Nat.lt_of_lt_of_le hbv hb2.out.size
              go_wp2_with fail
              refine wp_region_quiet_lit (by kernel_rfl) (by kernel_rfl) ?_
              repeat (go_big_quiet_step (fail))
              refine wpQuiet_nil ?_
              intro w3 hw3
              have hd3 : Drawn w2 w3 := hw3
              have S3 := Lib.hid (S2.out.drawn hd3)
              have hb3 := Lib.hid (hb2.out.trans (hd3.below.mono hb2.out.size))
              clear r1 f1 r10 r11 r12 r2 f2 r20 r21 r22 r3 f3 r30 r31 r32 r4 f4 r40 r41 r42 r43
              clear hw3 hd3
              obtain ⟨⟨r1, f1, r10, r11, r12, -⟩, ⟨r2, f2, r20, r21, r22, -⟩, ⟨r3, f3, r30, r31, r32, -⟩, ⟨r4, f4, r40, r41, r42, r43, -⟩, -⟩ := S3.out.facts
              go_wp2
              have S4 := Lib.hid (((S3.out.set 0 rfl 0 (.slice none 0 0)).set 0 rfl 1 (.slice none 0 0)).set 0 rfl 2 (.slice none 0 0))
              clear r1 f1 r10 r11 r12 r2 f2 r20 r21 r22 r3 f3 r30 r31 r32 r4 f4 r40 r41 r42 r43
              obtain ⟨⟨r1, f1, r10, r11, r12, -⟩, -⟩ := S4.out.facts
              refine bodyPost_ret (v := .tuple #[.agg #[.slice none 0 0, .slice none 0 0, .slice none 0 0], .int .i64 4]) (by simp [results, Tryd.results22, go_sem, r10, r11, r12]) rfl ?_
              exact Ret.mk ⟨S4.out.bel, ⟨none, 0, none, 0, none, 0⟩, rfl, ao_nil _ _⟩
            | true =>
              have he := hex.trans hvn
              have hge2 : decide (n ≤ v) = false := decide_eq_false (by have := of_decide_eq_true hvn; omega)
              clear hex
              cases hab : aftB p m ⟨1, (i : Int), v⟩ with
              | false =>
                have hE := Lib.hid (appE_11 (p := p) (m := m) hs he hab)
                have hM := Lib.hid (apM_no (p := p) (m := m) (s := ⟨1, (i : Int), v⟩) (by rw [hE.out]; decide))
                rw [hE.out, hM.out]
                go_enter Tryd.func22, Tryd.ntmps22
                go_wp2_with fail
                clear hW
                with_reducible refine HV.out.mono ?_
                rintro e w1 ⟨rfl, hb1⟩
                clear r1 f1 r10 r11 r12 r2 f2 r20 r21 r22 r3 f3 r30 r31 r32 r4 f4 r40 r41 r42 r43
                have S1 := Lib.hid (SW.out.call hb1)
                replace hb1 := Lib.hid hb1
                obtain ⟨⟨r1, f1, r10, r11, r12, -⟩, ⟨r2, f2, r20, r21, r22, -⟩, ⟨r3, f3, r30, r31, r32, -⟩, ⟨r4, f4, r40, r41, r42, r43, -⟩, -⟩ := S1.out.facts
                go_wp2_with fail
                with_reducible refine (HS.out w1).mono ?_
                rintro e w2 ⟨rfl, hb2⟩
                clear r1 f1 r10 r11 r12 r2 f2 r20 r21 r22 r3 f3 r30 r31 r32 r4 f4 r40 r41 r42 r43
                have S2 := Lib.hid (S1.out.call hb2)
                replace hb2 := Lib.hid (hb1.out.trans (hb2.mono hb1.out.size))
                obtain ⟨⟨r1, f1, r10, r11, r12, -⟩, ⟨r2, f2, r20, r21, r22, -⟩, ⟨r3, f3, r30, r31, r32, -⟩, ⟨r4, f4, r40, r41, r42, r43, -⟩, -⟩ := S2.out.facts
                have y1 := (hb2.out.cell (p := ⟨bv, ov + i, none⟩) hbv).trans dv
                have hbv2 := Nat.lt_of_lt_of_le hbv hb2.out.size
                go_wp2_with fail
                refine wp_region_quiet_lit (by kernel_rfl) (by kernel_rfl) ?_
                repeat (go_big_quiet_step (fail))
                refine wpQuiet_nil ?_
                intro w3 hw3
                have hd3 : Drawn w2 w3 := hw3
                have S3 := Lib.hid (S2.out.drawn hd3)
                have hb3 := Lib.hid (hb2.out.trans (hd3.below.mono hb2.out.size))
                clear r1 f1 r10 r11 r12 r2 f2 r20 r21 r22 r3 f3 r30 r31 r32 r4 f4 r40 r41 r42 r43
                clear hw3 hd3
                obtain ⟨⟨r1, f1, r10, r11, r12, -⟩, ⟨r2, f2, r20, r21, r22, -⟩, ⟨r3, f3, r30, r31, r32, -⟩, ⟨r4, f4, r40, r41, r42, r43, -⟩, -⟩ := S3.out.facts
                go_wp2_with fail
                with_reducible refine (HA.out w3 hb3.out hs he).mono ?_
                rintro e w4 ⟨_, rfl, hb4, x, ⟨x0, y0, x1, y1, x2, y2⟩, rfl, hx⟩
                rw [hab]
                clear r1 f1 r10 r11 r12 r2 f2 r20 r21 r22 r3 f3 r30 r31 r32 r4 f4 r40 r41 r42 r43
                have S5 := Lib.hid (S3.out.call hb4)
                replace hx := Lib.hid hx
                replace hb4 := Lib.hid hb4
                obtain ⟨⟨r1, f1, r10, r11, r12, -⟩, ⟨r2, f2, r20, r21, r22, -⟩, ⟨r3, f3, r30, r31, r32, -⟩, ⟨r4, f4, r40, r41, r42, r43, -⟩, -⟩ := S5.out.facts

                go_wp2
                have S4 := Lib.hid ((((S5.out.set 0 rfl 0 (.slice none 0 0)).set 0 rfl 1 (.slice none 0 0)).set 0 rfl 2 (.slice none 0 0)).box' 36 [.slice x0 x.base.length y0, .slice x1 x.next.length y1, .slice x2 x.held.length y2] (K := w4.heap.size) (by simp))
                clear r1 f1 r10 r11 r12 r2 f2 r20 r21 r22 r3 f3 r30 r31 r32 r4 f4 r40 r41 r42 r43
                obtain ⟨-, ⟨r1, f1, r10, r11, r12, -⟩, -⟩ := S4.out.facts
                refine bodyPost_ret (v := .tuple #[.agg #[.slice none 0 0, .slice none 0 0, .slice none 0 0], .int .i64 11]) (by simp [results, Tryd.results22, go_sem, r10, r11, r12]) rfl ?_
                exact Ret.mk ⟨S4.out.bel, ⟨none, 0, none, 0, none, 0⟩, rfl, ao_nil _ _⟩
              | true =>
                obtain ⟨x', hx'⟩ : ∃ x', aft p m ⟨1, (i : Int), v⟩ = some x' := Option.isSome_iff_exists.1 hab
                have hE := Lib.hid (appE_ok.2 ⟨hs, he, x', hx'⟩)
                have hM := Lib.hid (apM_ok hs he hx')
                rw [hE.out, hM.out]
                replace hx' := Lib.hid hx'
                go_enter Tryd.func22, Tryd.ntmps22
                go_wp2_with fail
                clear hW
                with_reducible refine HV.out.mono ?_
                rintro e w1 ⟨rfl, hb1⟩
                clear r1 f1 r10 r11 r12 r2 f2 r20 r21 r22 r3 f3 r30 r31 r32 r4 f4 r40 r41 r42 r43
                have S1 := Lib.hid (SW.out.call hb1)
                replace hb1 := Lib.hid hb1
                obtain ⟨⟨r1, f1, r10, r11, r12, -⟩, ⟨r2, f2, r20, r21, r22, -⟩, ⟨r3, f3, r30, r31, r32, -⟩, ⟨r4, f4, r40, r41, r42, r43, -⟩, -⟩ := S1.out.facts
                go_wp2_with fail
                with_reducible refine (HS.out w1).mono ?_
                rintro e w2 ⟨rfl, hb2⟩
                clear r1 f1 r10 r11 r12 r2 f2 r20 r21 r22 r3 f3 r30 r31 r32 r4 f4 r40 r41 r42 r43
                have S2 := Lib.hid (S1.out.call hb2)
                replace hb2 := Lib.hid (hb1.out.trans (hb2.mono hb1.out.size))
                obtain ⟨⟨r1, f1, r10, r11, r12, -⟩, ⟨r2, f2, r20, r21, r22, -⟩, ⟨r3, f3, r30, r31, r32, -⟩, ⟨r4, f4, r40, r41, r42, r43, -⟩, -⟩ := S2.out.facts
                have y1 := (hb2.out.cell (p := ⟨bv, ov + i, none⟩) hbv).trans dv
                have hbv2 := Nat.lt_of_lt_of_le hbv hb2.out.size
                go_wp2_with fail
                refine wp_region_quiet_lit (by kernel_rfl) (by kernel_rfl) ?_
                repeat (go_big_quiet_step (fail))
                refine wpQuiet_nil ?_
                intro w3 hw3
                have hd3 : Drawn w2 w3 := hw3
                have S3 := Lib.hid (S2.out.drawn hd3)
                have hb3 := Lib.hid (hb2.out.trans (hd3.below.mono hb2.out.size))
                clear r1 f1 r10 r11 r12 r2 f2 r20 r21 r22 r3 f3 r30 r31 r32 r4 f4 r40 r41 r42 r43
                clear hw3 hd3
                obtain ⟨⟨r1, f1, r10, r11, r12, -⟩, ⟨r2, f2, r20, r21, r22, -⟩, ⟨r3, f3, r30, r31, r32, -⟩, ⟨r4, f4, r40, r41, r42, r43, -⟩, -⟩ := S3.out.facts
                go_wp2_with fail
                with_reducible refine (HA.out w3 hb3.out hs he).mono ?_
                rintro e w4 ⟨_, rfl, hb4, x, ⟨x0, y0, x1, y1, x2, y2⟩, rfl, hx⟩
                rw [hab]
                clear r1 f1 r10 r11 r12 r2 f2 r20 r21 r22 r3 f3 r30 r31 r32 r4 f4 r40 r41 r42 r43
                have S5 := Lib.hid (S3.out.call hb4)
                replace hx := Lib.hid hx
                replace hb4 := Lib.hid hb4
                obtain ⟨⟨r1, f1, r10, r11, r12, -⟩, ⟨r2, f2, r20, r21, r22, -⟩, ⟨r3, f3, r30, r31, r32, -⟩, ⟨r4, f4, r40, r41, r42, r43, -⟩, -⟩ := S5.out.facts

                obtain ⟨rfl, hax⟩ := hx.out x' hx'.out
                replace hax := Lib.hid hax
                clear hx
                go_wp2
                have S4 := Lib.hid ((((S5.out.set 0 rfl 0 (.slice x0 x.base.length y0)).set 0 rfl 1 (.slice x1 x.next.length y1)).set 0 rfl 2 (.slice x2 x.held.length y2)).box' 36 [.slice x0 x.base.length y0, .slice x1 x.next.length y1, .slice x2 x.held.length y2] (K := w4.heap.size) (by simp))
                have hz := hb3.out.size
                have ha4 := Lib.hid ((hax.out.far3 (g := w.heap.size + 1 + 1 + 1) (by omega) (.slice x0 x.base.length y0) (.slice x1 x.next.length y1) (.slice x2 x.held.length y2)).to ((Below.refl _ _).alloc (Nat.le_refl _) (.cells #[.slice x0 x.base.length y0, .slice x1 x.next.length y1, .slice x2 x.held.length y2] 36)))
                clear r1 f1 r10 r11 r12 r2 f2 r20 r21 r22 r3 f3 r30 r31 r32 r4 f4 r40 r41 r42 r43
                obtain ⟨-, ⟨r1, f1, r10, r11, r12, -⟩, -⟩ := S4.out.facts
                refine bodyPost_ret (v := .tuple #[.agg #[.slice x0 x.base.length y0, .slice x1 x.next.length y1, .slice x2 x.held.length y2], .int .i64 0]) (by simp [results, Tryd.results22, go_sem, r10, r11, r12]) rfl ?_
                exact Ret.mk ⟨S4.out.bel, ⟨x0, y0, x1, y1, x2, y2⟩, rfl, ha4.out.base (by omega)⟩
  · rw [if_neg h0, if_neg h0]
    obtain ⟨er, her⟩ : ∃ er, mixE p m = er := ⟨_, rfl⟩
    rw [her] at HV h0 ⊢
    have hne : (er != 0) = true := by simpa using h0
    obtain ⟨qa0, qc0, qa1, qc1, qa2, qc2, qa3, qc3⟩ := q
    obtain ⟨ma0, mc0, ma1, mc1, ma2, mc2⟩ := qm
    obtain ⟨kd, ix, v⟩ := s
    dsimp only at HV hW S SW ⊢
    obtain ⟨⟨r1, f1, r10, r11, r12, -⟩, ⟨r2, f2, r20, r21, r22, -⟩, ⟨r3, f3, r30, r31, r32, -⟩, ⟨r4, f4, r40, r41, r42, r43, -⟩, -⟩ := S.facts
    clear S her h0 hm hmb hp hbd HS
    go_enter Tryd.func22, Tryd.ntmps22
    go_wp2_with fail
    clear hW
    with_reducible refine HV.out.mono ?_
    rintro e w1 ⟨rfl, hb1⟩
    clear r1 f1 r10 r11 r12 r2 f2 r20 r21 r22 r3 f3 r30 r31 r32 r4 f4 r40 r41 r42 r43
    have S1 := Lib.hid (SW.out.call hb1)
    replace hb1 := Lib.hid hb1
    obtain ⟨⟨r1, f1, r10, r11, r12, -⟩, ⟨r2, f2, r20, r21, r22, -⟩, ⟨r3, f3, r30, r31, r32, -⟩, ⟨r4, f4, r40, r41, r42, r43, -⟩, -⟩ := S1.out.facts
    go_wp2
    have S4 := Lib.hid (((S1.out.set 0 rfl 0 (.slice none 0 0)).set 0 rfl 1 (.slice none 0 0)).set 0 rfl 2 (.slice none 0 0))
    clear r1 f1 r10 r11 r12 r2 f2 r20 r21 r22 r3 f3 r30 r31 r32 r4 f4 r40 r41 r42 r43
    obtain ⟨⟨r1, f1, r10, r11, r12, -⟩, -⟩ := S4.out.facts
    refine bodyPost_ret (v := .tuple #[.agg #[.slice none 0 0, .slice none 0 0, .slice none 0 0], .int .i64 er]) (by simp [results, Tryd.results22, go_sem, r10, r11, r12]) rfl ?_
    exact Ret.mk ⟨S4.out.bel, ⟨none, 0, none, 0, none, 0⟩, rfl, ao_nil _ _⟩
end Go.Proofs.YtfcimilimojfoaaDoor
