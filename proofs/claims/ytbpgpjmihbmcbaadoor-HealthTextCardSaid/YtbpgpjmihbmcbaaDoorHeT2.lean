/-
  CONTRACT of the reference's Format.
  Conditions: those that each theorem names.
-/
import Derived.Test.YtbpgpjmihbmcbaaDoorHeT1
namespace Go.Proofs.YtbpgpjmihbmcbaaDoor
open Go.RowKit Go.Sv Go.Lx
theorem digB (v : Int) (h1 : -1 ≤ v) (h2 : v ≤ 99) (w : World) : Calls Tryd.prog 39 #[.int .i64 v] w fun e w' => e = .returned (.string (bS (Lib.itoa v))) ∧ Below w.heap.size w w' :=
  (digits_any v h1 h2 w).mono fun _ _ ⟨h3, h4⟩ => ⟨h3, h4 ▸ Below.refl _ _⟩
noncomputable def foR (t : Tst) : Bs := if validE t = 0 then txt t t.acc.length else []
theorem foR_ok {t : Tst} (h : validE t = 0) : foR t = txt t t.acc.length := if_pos h
theorem foR_no {t : Tst} (h : validE t ≠ 0) : foR t = [] := if_neg h
set_option maxHeartbeats 4000000 in
set_option maxRecDepth 100000 in
theorem rformat_no (t : Tst) (q : TstP) (w : World) (h : RTst w w.heap.size t q) (hbd : TBd t) (g : validE t ≠ 0) :
    Calls Tryd.prog 30 #[tstV t q] w fun e w' => e = .returned (.tuple #[.string ⟨#[]⟩, .int .i64 (validE t)]) ∧ Below w.heap.size w w' := by
  obtain ⟨qa, qc, qb, qd⟩ := q
  obtain ⟨W, (hW : w.alloc (.cells #[.slice qa t.acc.length qc, .slice qb t.rej.length qd] 26) = W), S, hB⟩ := fm_boxE (Fm.init w) 26 [.slice qa t.acc.length qc, .slice qb t.rej.length qd]
  have HV := Lib.hid (rvalid_any t ⟨qa, qc, qb, qd⟩ W (h.to hB) hbd)
  have SW := Lib.hid S
  obtain ⟨⟨z, f, y0, y1, -⟩, -⟩ := S.facts
  have hx : (validE t != 0) = true := by rw [bne_iff_ne]; exact g
  clear S h g hB
  go_enter Tryd.func30, Tryd.ntmps30
  go_wp2_with fail
  clear hW
  with_reducible refine HV.out.mono ?_
  rintro e w1 ⟨rfl, hb1⟩
  have S1 := Lib.hid (SW.out.call hb1)
  clear z f y0 y1 hb1
  go_wp2
  go_ret2
  exact ⟨rfl, S1.out.bel⟩
set_option maxHeartbeats 4000000 in
set_option maxRecDepth 100000 in
theorem rformat_ok (t : Tst) (q : TstP) (w : World) (h : RTst w w.heap.size t q) (hbd : TBd t) (g : validE t = 0) :
    Calls Tryd.prog 30 #[tstV t q] w fun e w' => e = .returned (.tuple #[.string (bS (txt t t.acc.length)), .int .i64 0]) ∧ Below w.heap.size w w' := by
  obtain ⟨qa, qc, qb, qd⟩ := q
  obtain ⟨W, (hW : w.alloc (.cells #[.slice qa t.acc.length qc, .slice qb t.rej.length qd] 26) = W), S, hB⟩ := fm_boxE (Fm.init w) 26 [.slice qa t.acc.length qc, .slice qb t.rej.length qd]
  have HV := Lib.hid (rvalid_any t ⟨qa, qc, qb, qd⟩ W (h.to hB) hbd)
  have vl := Lib.hid (validE_vld g)
  have n1 := vl.out.n1
  have n0 := vl.out.n0
  have hbx := Lib.hid hB
  obtain ⟨ba, oa, ea, hba, hca⟩ := h.r0 (by omega)
  obtain ⟨bb, ob, eb, hbb, hcb⟩ := h.r1 (by have := vl.out.len; omega)
  dsimp only at ea eb
  subst ea eb
  replace hca := Lib.hid hca
  replace hcb := Lib.hid hcb
  have SW := Lib.hid S
  obtain ⟨⟨z, f, y0, y1, -⟩, -⟩ := S.facts
  rw [g] at HV
  clear S h g hB
  go_enter Tryd.func30, Tryd.ntmps30
  go_wp2_with fail
  clear hW
  with_reducible refine HV.out.mono ?_
  rintro e w1 ⟨rfl, hb1⟩
  have S1 := Lib.hid (SW.out.call hb1)
  clear z f y0 y1 hb1 HV SW
  go_wp2
  go_loopw [5, 6] (fun s5 s6 wr => ∃ k : Nat, k ≤ t.acc.length ∧ s6 = .int .i64 k ∧ s5 = .string (bS (txt t k)) ∧ Fm w wr [⟨w.heap.size, 26, [.slice (some ⟨ba, oa, none⟩) t.acc.length qc, .slice (some ⟨bb, ob, none⟩) t.rej.length qd]⟩] []) (fun _ s6 _ => t.acc.length - (intOf s6).toNat)
  case atStart => exact ⟨0, Nat.zero_le _, rfl, by rw [txt_0], S1.out⟩
  case round =>
    obtain ⟨k, hk, rfl, rfl, SS⟩ := hrel
    have T := Lib.hid SS
    obtain ⟨⟨z, f, y0, y1, -⟩, -⟩ := SS.facts
    clear SS
    by_cases hlt : k < t.acc.length
    · have jk : (k : Int) < (t.acc.length : Int) := by omega
      have hlt2 : k < t.rej.length := by have := vl.out.len; omega
      have da := (T.out.bel.cell (p := ⟨ba, oa + k, none⟩) hba).trans (hca.out k hlt)
      have db := (T.out.bel.cell (p := ⟨bb, ob + k, none⟩) hbb).trans (hcb.out k hlt2)
      unfold iv at da db
      have hbaw : ba < wr.heap.size := Nat.lt_of_lt_of_le hba T.out.bel.size
      have hbbw : bb < wr.heap.size := Nat.lt_of_lt_of_le hbb T.out.bel.size
      have v1 := vl.out.lo k hlt
      have v2 := vl.out.ar k hlt
      have v3 := vl.out.hi k hlt
      have L0 := txt_len vl.out (k := k) hk
      have hw1 := Lib.hid (show wrd t k = Lib.itoa (gi t.acc k) ++ 47 :: Lib.itoa (gi t.rej k) from rfl)
      have hs1 := Lib.hid (txt_1 t)
      have hsk := Lib.hid (fun h => txt_succ t (k := k) h)
      have hA := Lib.hid (fun x : GrowX wr => calm_b (digB (gi t.acc k) (by omega) (by omega) (grow wr x)))
      have hR := Lib.hid (fun x : GrowX wr => calm_b (digB (gi t.rej k) (by omega) (by omega) (grow wr x)))
      have l1 := itoa_short (n := gi t.acc k) (by omega) (by omega)
      have l2 := itoa_short (n := gi t.rej k) (by omega) (by omega)
      obtain ⟨a, ha⟩ : ∃ a, gi t.acc k = a := ⟨_, rfl⟩
      obtain ⟨r, hr⟩ : ∃ r, gi t.rej k = r := ⟨_, rfl⟩
      rw [ha] at da hA l1 hw1
      rw [hr] at db hR l2 hw1
      obtain ⟨s1, q1⟩ : ∃ s, Lib.itoa a = s := ⟨_, rfl⟩
      obtain ⟨s2, q2⟩ : ∃ s, Lib.itoa r = s := ⟨_, rfl⟩
      rw [q1] at hA l1 hw1
      rw [q2] at hR l2 hw1
      replace q1 := Lib.hid q1
      replace q2 := Lib.hid q2
      replace ha := Lib.hid ha
      replace hr := Lib.hid hr
      clear v1 v2 v3 hk
      have hk00 := Lib.hid (fun (h : k = 0) => show txt t k = [] by rw [h]; exact txt_0 t)
      have hk01 := Lib.hid (fun (h : k = 0) => show txt t (k + 1) = wrd t k by rw [h]; exact txt_1 t)
      obtain ⟨p0, hp0⟩ : ∃ p : Bs, txt t k = p := ⟨_, rfl⟩
      rw [hp0] at L0 hsk hk00 ⊢
      replace hp0 := Lib.hid hp0
      by_cases hk0 : k = 0
      · have jk0 : ¬ (0 : Int) < (k : Int) := by omega
        have hE : Hid (bS (txt t (k + 1)) = bS p0 ++ bS s1 ++ ⟨#[47]⟩ ++ bS s2) := Lib.hid (by rw [hk01.out hk0, hw1.out, hk00.out hk0, show (⟨#[47]⟩ : ByteArray) = bS [47] from rfl, bS_app, bS_app, bS_app]; simp)
        clear hsk hs1 hw1 hk00 hk01 hk0
        have z1 := bS_size s1
        have z2 := bS_size s2
        have z0 := bS_size p0
        have z3 : (bS p0 ++ bS s1).size = p0.length + s1.length := by rw [ByteArray.size_append, z0, z1]
        have z4 : (bS p0 ++ bS s1 ++ ⟨#[47]⟩).size = p0.length + s1.length + 1 := by rw [ByteArray.size_append, z3]; rfl
        have add1 := fun w => run_string_add_sum (P := Tryd.prog) w (bS p0) (bS s1) (by rw [z0, z1]; omega)
        have add2 := fun w => run_string_add_sum (P := Tryd.prog) w (bS p0 ++ bS s1) ⟨#[47]⟩ (by rw [z3]; show _ + 1 ≤ _; omega)
        have add3 := fun w => run_string_add_sum (P := Tryd.prog) w (bS p0 ++ bS s1 ++ ⟨#[47]⟩) (bS s2) (by rw [z4, z2]; omega)
        clear z0 z1 z2 z3 z4
        go_wp2_with fail
        refine wp_region_calm (by kernel_rfl) (by kernel_rfl) ?_
        repeat (go_big_quiet_step (first | (go_at_call 39; with_reducible exact hA.out _) | (go_at_call 39; with_reducible exact hR.out _)))
        refine wpQuiet_nil ?_
        intro w2 hw2
        have T2 := Lib.hid (T.out.call (grow_below hw2))
        clear hw2 hA hR add1 add2 add3 z f y0 y1 da db
        go_wp2
        go_roundw
        case rel => exact ⟨k + 1, hlt, by go_num, by rw [hE.out], T2.out⟩
        case measure => simp [intOf]; omega
      · have jk0 : (0 : Int) < (k : Int) := by omega
        have hE : Hid (bS (txt t (k + 1)) = bS (p0 ++ [32]) ++ bS s1 ++ ⟨#[47]⟩ ++ bS s2) := Lib.hid (by rw [hsk.out (by omega), hw1.out, show (⟨#[47]⟩ : ByteArray) = bS [47] from rfl, bS_app, bS_app, bS_app]; simp)
        obtain ⟨pre, hpre⟩ : ∃ p : Bs, p0 ++ [32] = p := ⟨_, rfl⟩
        rw [hpre] at hE
        have L1 : pre.length ≤ 1000 := by rw [← hpre, List.length_append, List.length_singleton]; omega
        have sp : bS p0 ++ ⟨#[32]⟩ = bS pre := by rw [← hpre, ← bS_app]
        have z0 := bS_size p0
        have add0 := fun w => run_string_add_sum (P := Tryd.prog) w (bS p0) ⟨#[32]⟩ (by rw [z0]; show _ + 1 ≤ _; omega)
        simp only [sp] at add0
        replace hpre := Lib.hid hpre
        clear sp hsk hs1 hw1 z0 hk00 hk01 hk0
        have z1 := bS_size s1
        have z2 := bS_size s2
        have z0 := bS_size pre
        have z3 : (bS pre ++ bS s1).size = pre.length + s1.length := by rw [ByteArray.size_append, z0, z1]
        have z4 : (bS pre ++ bS s1 ++ ⟨#[47]⟩).size = pre.length + s1.length + 1 := by rw [ByteArray.size_append, z3]; rfl
        have add1 := fun w => run_string_add_sum (P := Tryd.prog) w (bS pre) (bS s1) (by rw [z0, z1]; omega)
        have add2 := fun w => run_string_add_sum (P := Tryd.prog) w (bS pre ++ bS s1) ⟨#[47]⟩ (by rw [z3]; show _ + 1 ≤ _; omega)
        have add3 := fun w => run_string_add_sum (P := Tryd.prog) w (bS pre ++ bS s1 ++ ⟨#[47]⟩) (bS s2) (by rw [z4, z2]; omega)
        clear z0 z1 z2 z3 z4
        go_wp2_with fail
        refine wp_region_calm (by kernel_rfl) (by kernel_rfl) ?_
        repeat (go_big_quiet_step (first | (go_at_call 39; with_reducible exact hA.out _) | (go_at_call 39; with_reducible exact hR.out _)))
        refine wpQuiet_nil ?_
        intro w2 hw2
        have T2 := Lib.hid (T.out.call (grow_below hw2))
        clear hw2 hA hR add1 add2 add3 z f y0 y1 da db
        go_wp2
        go_roundw
        case rel => exact ⟨k + 1, hlt, by go_num, by rw [hE.out], T2.out⟩
        case measure => simp [intOf]; omega
    · obtain rfl : k = t.acc.length := by omega
      have jk : ¬ (t.acc.length : Int) < (t.acc.length : Int) := by omega
      go_wp2
      clear z f y0 y1
      refine bodyPost_ret (v := .tuple #[.string (bS (txt t t.acc.length)), .int .i64 0]) (by simp [results, Tryd.results30, go_sem]) rfl ?_
      exact ⟨rfl, T.out.bel⟩
end Go.Proofs.YtbpgpjmihbmcbaaDoor
