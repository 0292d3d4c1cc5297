/-
  CONTRACT of the law HealthCurtail: it returns true.
  Conditions: those that each theorem names.
-/
import Derived.Test.YtbpgpjmihbmcbaaDoorHeaK
import Derived.Test.YtbpgpjmihbmcbaaDoorHeaR
namespace Go.Proofs.YtbpgpjmihbmcbaaDoor
open Go.RowKit Go.Sv

theorem curV_bd (t : Tst) : TBd (curV t) := by
  unfold curV
  split
  · rename_i g
    have v := validE_vld g
    have L := curT_len t
    exact ⟨by rw [L.1]; have := v.n1; omega, by rw [L.2]; have := v.n1; omega⟩
  · exact ⟨by decide, by decide⟩
theorem curV_ok {t : Tst} (g : validE t = 0) : validE (curV t) = 0 ∧ curV (curV t) = curV t := by
  have e : curV t = curT t := by unfold curV; rw [if_pos g]
  have v := vld_validE (curT_vld (validE_vld g))
  rw [e]
  refine ⟨v, ?_⟩
  unfold curV
  rw [if_pos v, curT_cur]

set_option maxHeartbeats 4000000 in
theorem law_curtail (t : Tst) (q : TstP) (w : World) (h : RTst w w.heap.size t q) (hbd : TBd t) (ht : Tab w) :
    Calls Tryd.prog 5 #[tstV t q] w fun e w' => e = .returned (.bool true) ∧ Below w.heap.size w w' := by
  obtain ⟨qa, qc, qb, qd⟩ := q
  have hbx : Hid (Below w.heap.size w (w.alloc (.cells #[.slice qa t.acc.length qc, .slice qb t.rej.length qd] 26))) := Lib.hid ((Below.refl _ _).alloc (Nat.le_refl _) _)
  have hA := Lib.hid (fun w' h => awake_any w' (ht.to (w' := w') h))
  have hF := Lib.hid (fun w' => few_any t ⟨qa, qc, qb, qd⟩ w' hbd)
  have H1 := Lib.hid (fun w' (h' : Below w.heap.size w w') => curtail_any t ⟨qa, qc, qb, qd⟩ w' (h.to h') hbd)
  have H2 := Lib.hid (fun w' (h' : Below w.heap.size w w') => rcurtail_any t ⟨qa, qc, qb, qd⟩ w' (h.to h') hbd)
  have H4 := Lib.hid (fun w' (h' : Below w.heap.size w w') => rvalid_any t ⟨qa, qc, qb, qd⟩ w' (h.to h') hbd)
  have HS := Lib.hid (fun q r w' h h' => same_any (curV t) (curV t) q r w' h h' (curV_bd t) (curV_bd t))
  have H3 := Lib.hid (fun q w' h => curtail_any (curV t) q w' h (curV_bd t))
  have HV := Lib.hid (fun q w' h => valid_any (curV t) q w' h (curV_bd t))
  have hE := Lib.hid (curV_ok (t := t))
  have hB := Lib.hid (TBox.new (w := w) (e := 26) (t := t) (q := ⟨qa, qc, qb, qd⟩))
  have b0 := hbd.b0
  replace h := Lib.hid h
  clear ht
  go_enter Tryd.func5, Tryd.ntmps5
  go_wp2_with fail
  refine (hA.out _ hbx.out).mono ?_
  rintro e w1 ⟨rfl, hb1⟩
  have hc1 := Lib.hid (below_of hbx.out hbx.out.size hb1)
  have hB1 := Lib.hid (hB.out.to hb1)
  obtain ⟨z, y0, y1⟩ := hB1.out
  dsimp only at y0 y1
  clear hb1
  go_wp2_with fail
  refine (hF.out _).mono ?_
  rintro e w2 ⟨rfl, hb2⟩
  have hc2 := Lib.hid (below_of hc1.out hc1.out.size hb2)
  have hB2 := Lib.hid (hB1.out.to hb2)
  clear z y0 y1 hb2
  obtain ⟨z, y0, y1⟩ := hB2.out
  dsimp only at y0 y1
  by_cases g : t.acc.length ≤ 70 ∧ t.rej.length ≤ 70
  case neg =>
    have e1 : decide (t.acc.length ≤ 70 ∧ t.rej.length ≤ 70) = false := decide_eq_false g
    clear g
    go_wp2_with fail
    refine (hA.out _ hc2.out).mono ?_
    rintro e w3 ⟨rfl, hb3⟩
    have hc3 := Lib.hid (below_of hc2.out hc2.out.size hb3)
    clear hb3
    go_wp2
    go_ret
    exact ⟨rfl, hc3.out⟩
  have e1 : decide (t.acc.length ≤ 70 ∧ t.rej.length ≤ 70) = true := decide_eq_true g
  clear g hF
  by_cases g8 : 8 < t.acc.length
  · have d8 : decide ((8 : Int) < (t.acc.length : Int)) = true := decide_eq_true (by omega)
    clear g8
    go_wp2_with fail
    refine (H4.out _ hc2.out).mono ?_
    rintro e w3 ⟨rfl, hb3⟩
    have hc3 := Lib.hid (below_of hc2.out hc2.out.size hb3)
    have hB3 := Lib.hid (hB2.out.to hb3)
    clear z y0 y1 hb3
    obtain ⟨z, y0, y1⟩ := hB3.out
    dsimp only at y0 y1
    by_cases gv : validE t = 0
    · have ev : (validE t == 0) = true := by rw [beq_iff_eq]; exact gv
      clear gv
      go_wp2_with fail
      refine (hA.out _ hc3.out).mono ?_
      rintro e w4 ⟨rfl, hb4⟩
      have hc4 := Lib.hid (below_of hc3.out hc3.out.size hb4)
      clear hb4
      go_wp2
      go_ret
      exact ⟨rfl, hc4.out⟩
    have ev : (validE t == 0) = false := by rw [beq_eq_false_iff_ne]; exact gv
    have ev2 : (validE t != 0) = true := by rw [bne_iff_ne]; exact gv
    clear gv H3 HV hE H4 hA hB hB1 hc1 hc2 hB2 hbx
    go_wp2_with fail
    refine (H1.out _ hc3.out).mono ?_
    rintro e w4 ⟨_, rfl, q4, rfl, hr4, hb4⟩
    have hbx4 : Below w4.heap.size w4 (w4.alloc (.cells #[.slice q4.a0 (curV t).acc.length q4.c0, .slice q4.a1 (curV t).rej.length q4.c1] 26)) := (Below.refl _ _).alloc (Nat.le_refl _) _
    have hc4 := Lib.hid (below_of (below_of hc3.out hc3.out.size hb4) (by have := hc3.out.size; have := hb4.size; omega) hbx4)
    have R4 := Lib.hid (hr4.to hbx4)
    have B4 := Lib.hid (TBox.new (w := w4) (e := 26) (t := curV t) (q := q4))
    have hB4 := Lib.hid ((hB3.out.to hb4).to hbx4)
    clear hbx4 hb4 hr4 z y0 y1
    obtain ⟨z, y0, y1⟩ := hB4.out
    dsimp only at y0 y1
    go_wp2_with fail
    refine (H2.out _ hc4.out).mono ?_
    rintro e w5 ⟨_, rfl, q5, rfl, hr5, hb5⟩
    have hbx5 : Below w5.heap.size w5 (w5.alloc (.cells #[.slice q5.a0 (curV t).acc.length q5.c0, .slice q5.a1 (curV t).rej.length q5.c1] 26)) := (Below.refl _ _).alloc (Nat.le_refl _) _
    have hc5 := Lib.hid (below_of (below_of hc4.out hc4.out.size hb5) (by have := hc4.out.size; have := hb5.size; omega) hbx5)
    have R5 := Lib.hid (hr5.to hbx5)
    have R4' := Lib.hid ((R4.out.to hb5).to hbx5)
    have B5 := Lib.hid (TBox.new (w := w5) (e := 26) (t := curV t) (q := q5))
    have B4' := Lib.hid ((B4.out.to hb5).to hbx5)
    clear hbx5 hb5 hr5 z y0 y1
    obtain ⟨z2, u0, u1⟩ := B4'.out
    obtain ⟨z3, u2, u3⟩ := B5.out
    go_wp2_with fail
    refine (HS.out q4 q5 _ R4'.out R5.out).mono ?_
    rintro e w6 ⟨rfl, hb6⟩
    have hc6 := Lib.hid (below_of hc5.out hc5.out.size hb6)
    have R4'' := Lib.hid (R4'.out.to hb6)
    have R5'' := Lib.hid (R5.out.to hb6)
    clear z2 z3 u0 u1 u2 u3
    obtain ⟨z2, u0, u1⟩ := B4'.out.to hb6
    obtain ⟨z3, u2, u3⟩ := B5.out.to hb6
    clear hb6
    go_wp2_with fail
    refine (HS.out q4 q5 _ R4''.out R5''.out).mono ?_
    rintro e w7 ⟨rfl, hb7⟩
    have hc7 := Lib.hid (below_of hc6.out hc6.out.size hb7)
    clear z2 z3 u0 u1 u2 u3 hb7
    go_wp2
    go_ret
    exact ⟨by simp, hc7.out⟩
  have d8 : decide ((8 : Int) < (t.acc.length : Int)) = false := by rw [decide_eq_false_iff_not]; omega
  clear g8 H4 hA hB hB1 hc1 hbx
  go_wp2_with fail
  refine (H1.out _ hc2.out).mono ?_
  rintro e w4 ⟨_, rfl, q4, rfl, hr4, hb4⟩
  have hbx4 : Below w4.heap.size w4 (w4.alloc (.cells #[.slice q4.a0 (curV t).acc.length q4.c0, .slice q4.a1 (curV t).rej.length q4.c1] 26)) := (Below.refl _ _).alloc (Nat.le_refl _) _
  have hc4 := Lib.hid (below_of (below_of hc2.out hc2.out.size hb4) (by have := hc2.out.size; have := hb4.size; omega) hbx4)
  have R4 := Lib.hid (hr4.to hbx4)
  have B4 := Lib.hid (TBox.new (w := w4) (e := 26) (t := curV t) (q := q4))
  have hB4 := Lib.hid ((hB2.out.to hb4).to hbx4)
  clear hbx4 hb4 hr4 z y0 y1
  obtain ⟨z, y0, y1⟩ := hB4.out
  dsimp only at y0 y1
  go_wp2_with fail
  refine (H2.out _ hc4.out).mono ?_
  rintro e w5 ⟨_, rfl, q5, rfl, hr5, hb5⟩
  have hbx5 : Below w5.heap.size w5 (w5.alloc (.cells #[.slice q5.a0 (curV t).acc.length q5.c0, .slice q5.a1 (curV t).rej.length q5.c1] 26)) := (Below.refl _ _).alloc (Nat.le_refl _) _
  have hc5 := Lib.hid (below_of (below_of hc4.out hc4.out.size hb5) (by have := hc4.out.size; have := hb5.size; omega) hbx5)
  have R5 := Lib.hid (hr5.to hbx5)
  have R4' := Lib.hid ((R4.out.to hb5).to hbx5)
  have B5 := Lib.hid (TBox.new (w := w5) (e := 26) (t := curV t) (q := q5))
  have B4' := Lib.hid ((B4.out.to hb5).to hbx5)
  clear hbx5 hb5 hr5 z y0 y1
  obtain ⟨z2, u0, u1⟩ := B4'.out
  obtain ⟨z3, u2, u3⟩ := B5.out
  by_cases gv : validE t = 0
  case neg =>
    have ev : (validE t == 0) = false := by rw [beq_eq_false_iff_ne]; exact gv
    have ev2 : (validE t != 0) = true := by rw [bne_iff_ne]; exact gv
    clear gv H3 HV hE
    go_wp2_with fail
    refine (HS.out q4 q5 _ R4'.out R5.out).mono ?_
    rintro e w6 ⟨rfl, hb6⟩
    have hc6 := Lib.hid (below_of hc5.out hc5.out.size hb6)
    have R4'' := Lib.hid (R4'.out.to hb6)
    have R5'' := Lib.hid (R5.out.to hb6)
    clear z2 z3 u0 u1 u2 u3
    obtain ⟨z2, u0, u1⟩ := B4'.out.to hb6
    obtain ⟨z3, u2, u3⟩ := B5.out.to hb6
    clear hb6
    go_wp2_with fail
    refine (HS.out q4 q5 _ R4''.out R5''.out).mono ?_
    rintro e w7 ⟨rfl, hb7⟩
    have hc7 := Lib.hid (below_of hc6.out hc6.out.size hb7)
    clear z2 z3 u0 u1 u2 u3 hb7
    go_wp2
    go_ret
    exact ⟨by simp, hc7.out⟩
  have ev2 : (validE t != 0) = false := by rw [bne_eq_false_iff_eq]; exact gv
  rw [(hE.out gv).1, (hE.out gv).2] at H3
  rw [(hE.out gv).1] at HV
  clear gv hE
  go_wp2_with fail
  refine (HS.out q4 q5 _ R4'.out R5.out).mono ?_
  rintro e w6 ⟨rfl, hb6⟩
  have hc6 := Lib.hid (below_of hc5.out hc5.out.size hb6)
  have R6 := Lib.hid (R4'.out.to hb6)
  have B6 := Lib.hid (B4'.out.to hb6)
  clear z2 z3 u0 u1 u2 u3 hb6
  obtain ⟨z2, u0, u1⟩ := B6.out
  go_wp2_with fail
  refine (H3.out q4 _ R6.out).mono ?_
  rintro e w7 ⟨_, rfl, q7, rfl, hr7, hb7⟩
  have hbx7 : Below w7.heap.size w7 (w7.alloc (.cells #[.slice q7.a0 (curV t).acc.length q7.c0, .slice q7.a1 (curV t).rej.length q7.c1] 26)) := (Below.refl _ _).alloc (Nat.le_refl _) _
  have hc7 := Lib.hid (below_of (below_of hc6.out hc6.out.size hb7) (by have := hc6.out.size; have := hb7.size; omega) hbx7)
  have R7 := Lib.hid (hr7.to hbx7)
  have R6' := Lib.hid ((R6.out.to hb7).to hbx7)
  have B7 := Lib.hid (TBox.new (w := w7) (e := 26) (t := curV t) (q := q7))
  have B6' := Lib.hid ((B6.out.to hb7).to hbx7)
  clear hbx7 hb7 hr7 z2 u0 u1
  obtain ⟨z2, u0, u1⟩ := B6'.out
  go_wp2_with fail
  refine (HV.out q4 _ R6'.out).mono ?_
  rintro e w8 ⟨rfl, hb8⟩
  have hc8 := Lib.hid (below_of hc7.out hc7.out.size hb8)
  have R8 := Lib.hid (R6'.out.to hb8)
  have R8' := Lib.hid (R7.out.to hb8)
  clear z2 u0 u1
  obtain ⟨z2, u0, u1⟩ := B6'.out.to hb8
  obtain ⟨z3, u2, u3⟩ := B7.out.to hb8
  clear hb8
  go_wp2_with fail
  refine (HS.out q7 q4 _ R8'.out R8.out).mono ?_
  rintro e w9 ⟨rfl, hb9⟩
  have hc9 := Lib.hid (below_of hc8.out hc8.out.size hb9)
  clear z2 z3 u0 u1 u2 u3 hb9
  go_wp2
  go_ret
  exact ⟨by simp, hc9.out⟩
end Go.Proofs.YtbpgpjmihbmcbaaDoor
