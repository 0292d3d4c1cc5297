/-
  CONTRACTS of the laws HealthLinear and HealthVerdict: each returns true.
  Conditions: those that each theorem names.
-/
import Derived.Test.YtbpgpjmihbmcbaaDoorHeaK
namespace Go.Proofs.YtbpgpjmihbmcbaaDoor
open Go.RowKit Go.Sv

theorem linQ_le {num den i : Int} (h1 : 0 ≤ i) (h3 : 0 ≤ num) (h4 : num ≤ den) (h5 : 1 ≤ den) : 0 ≤ i * num / den ∧ i * num / den ≤ i := by
  refine ⟨Int.ediv_nonneg (Int.mul_nonneg h1 h3) (by omega), ?_⟩
  refine Int.ediv_le_of_le_mul (by omega) ?_
  exact Int.mul_le_mul_of_nonneg_left h4 h1
theorem linT_vld (n : Nat) (num den low high : Int) (h0 : 0 < n) (h1 : n ≤ 64) (a1 : 1 ≤ den) (a3 : 0 ≤ num) (a4 : num ≤ den) (a5 : 1 ≤ low) (a7 : 1 ≤ high) : Vld (linT n num den low high) := by
  obtain ⟨m, rfl⟩ : ∃ m, n = m + 1 := ⟨n - 1, by omega⟩
  have L1 : (linT (m + 1) num den low high).acc.length = m + 1 := by simp [linT, linA]
  have L2 : (linT (m + 1) num den low high).rej.length = m + 1 := by simp [linT, linR]
  have lA : (linA num den low m).length = m := by simp [linA]
  have lR : (linR num den high m).length = m := by simp [linR]
  have gA : ∀ i, i < m → gi (linT (m + 1) num den low high).acc i = linLo low (((i : Int) + 1) * num / den) := fun i hi => by
    show gi (linA num den low m ++ _) i = _
    rw [gi_snoc_lt (by rw [lA]; exact hi)]
    simp [gi, linA, hi]
  have gR : ∀ i, i < m → gi (linT (m + 1) num den low high).rej i = linHi high ((i : Int) + 1) (((i : Int) + 1) * num / den) := fun i hi => by
    show gi (linR num den high m ++ _) i = _
    rw [gi_snoc_lt (by rw [lR]; exact hi)]
    simp [gi, linR, hi]
  have gA' : gi (linT (m + 1) num den low high).acc m = linM num den ((m + 1 : Nat) : Int) := by
    have := gi_snoc_last (l := linA num den low m) (x := linM num den ((m + 1 : Nat) : Int))
    rw [lA] at this
    exact this
  have gR' : gi (linT (m + 1) num den low high).rej m = linM num den ((m + 1 : Nat) : Int) + 1 := by
    have := gi_snoc_last (l := linR num den high m) (x := linM num den ((m + 1 : Nat) : Int) + 1)
    rw [lR] at this
    exact this
  have hq := fun i : Nat => linQ_le (i := (i : Int) + 1) (by omega) a3 a4 a1
  have hM := hq m
  have eM : linM num den ((m + 1 : Nat) : Int) = ((m : Int) + 1) * num / den := by unfold linM; rw [Int.natCast_add]; rfl
  refine ⟨by rw [L1]; exact h0, by rw [L1]; exact h1, by rw [L1, L2], ?_, ?_, ?_, ?_⟩
  all_goals (try intro i hi; try rw [L1] at hi)
  · rcases Nat.lt_or_ge i m with c | c
    · rw [gA i c]; unfold linLo; split <;> omega
    · obtain rfl : i = m := by omega
      rw [gA', eM]; omega
  · rcases Nat.lt_or_ge i m with c | c
    · rw [gA i c, gR i c]; have := hq i; unfold linLo linHi; split <;> split <;> omega
    · obtain rfl : i = m := by omega
      rw [gA', gR']; omega
  · rcases Nat.lt_or_ge i m with c | c
    · rw [gR i c]; unfold linHi; split <;> omega
    · obtain rfl : i = m := by omega
      rw [gR', eM]; omega
  · rw [L1]
    show gi _ m + 1 = gi _ m
    rw [gA', gR']
theorem linV_ok {n num den low high : Int} (h : linE n num den low high = 0) : validE (linV n num den low high) = 0 := by
  unfold linV
  rw [if_pos h]
  unfold linE at h
  split at h
  · exact vld_validE (linT_vld _ _ _ _ _ (by omega) (by omega) (by omega) (by omega) (by omega) (by omega) (by omega))
  · omega
theorem linV_bd (n num den low high : Int) : TBd (linV n num den low high) := by
  unfold linV
  split
  · rename_i h
    unfold linE at h
    split at h
    · have v := linT_vld n.toNat num den low high (by omega) (by omega) (by omega) (by omega) (by omega) (by omega) (by omega)
      exact ⟨by have := v.n1; omega, by have := v.n1; have := v.len; omega⟩
    · omega
  · exact ⟨by decide, by decide⟩

set_option maxHeartbeats 2000000 in
theorem law_linear (a b c d f : Int) (w : World) (ht : Tab w) :
    Calls Tryd.prog 4 #[.agg #[.int .i64 a, .int .i64 b, .int .i64 c, .int .i64 d, .int .i64 f]] w fun e w' => e = .returned (.bool true) ∧ Below w.heap.size w w' := by
  have hbx : Hid (∀ o : Obj, Below w.heap.size w (w.alloc o)) := Lib.hid fun o => (Below.refl _ _).alloc (Nat.le_refl _) o
  have hA : Hid (∀ o : Obj, Calls Tryd.prog 11 #[] (w.alloc o) fun e w' => e = .returned (.bool true) ∧ Below (w.alloc o).heap.size (w.alloc o) w') := Lib.hid fun o => awake_any _ (ht.to (hbx.out o))
  have H1 := Lib.hid (fun w' => linear_any a b c d f w')
  have H2 := Lib.hid (fun w' => rlinear_any a b c d f w')
  have hbd := linV_bd a b c d f
  have HV := Lib.hid (fun q w' h => valid_any (linV a b c d f) q w' h hbd)
  have HS := Lib.hid (fun q r w' h h' => same_any (linV a b c d f) (linV a b c d f) q r w' h h' hbd hbd)
  have hE := Lib.hid (linV_ok (n := a) (num := b) (den := c) (low := d) (high := f))
  have hW0 := Lib.hid (Whole.new w 36 #[.int .i64 a, .int .i64 b, .int .i64 c, .int .i64 d, .int .i64 f])
  have hW : Hid (∀ w1, Below (w.alloc (.cells #[.int .i64 a, .int .i64 b, .int .i64 c, .int .i64 d, .int .i64 f] 36)).heap.size (w.alloc (.cells #[.int .i64 a, .int .i64 b, .int .i64 c, .int .i64 d, .int .i64 f] 36)) w1 → Below w.heap.size w w1 ∧ w.heap.size < w1.heap.size ∧ w1.cell? ⟨w.heap.size, 0, none⟩ = some (.int .i64 a) ∧ w1.cell? ⟨w.heap.size, 1, none⟩ = some (.int .i64 b) ∧ w1.cell? ⟨w.heap.size, 2, none⟩ = some (.int .i64 c) ∧ w1.cell? ⟨w.heap.size, 3, none⟩ = some (.int .i64 d) ∧ w1.cell? ⟨w.heap.size, 4, none⟩ = some (.int .i64 f)) :=
    Lib.hid fun w1 h1 => by
      have hw := hW0.out.below h1 hW0.out.lt
      exact ⟨below_of (hbx.out _) (hbx.out _).size h1, hw.lt, (hw.cell 0).trans rfl, (hw.cell 1).trans rfl, (hw.cell 2).trans rfl, (hw.cell 3).trans rfl, (hw.cell 4).trans rfl⟩
  go_enter Tryd.func4, Tryd.ntmps4
  go_wp2_with fail
  refine (hA.out _).mono ?_
  rintro e w1 ⟨rfl, hb1⟩
  obtain ⟨_, z, y0, y1, y2, y3, y4⟩ := hW.out w1 hb1
  replace hb1 := Lib.hid hb1
  go_wp2_with fail
  refine (H1.out _).mono ?_
  rintro e w2 ⟨_, rfl, q2, rfl, hr2, hb2⟩
  have hbx2 : Below w2.heap.size w2 (w2.alloc (.cells #[.slice q2.a0 (linV a b c d f).acc.length q2.c0, .slice q2.a1 (linV a b c d f).rej.length q2.c1] 26)) := (Below.refl _ _).alloc (Nat.le_refl _) _
  have hc2 := Lib.hid (below_of (below_of hb1.out hb1.out.size hb2) (by have := hb1.out.size; have := hb2.size; omega) hbx2)
  have R2 := Lib.hid (hr2.to hbx2)
  have B2 := Lib.hid (TBox.new (w := w2) (e := 26) (t := linV a b c d f) (q := q2))
  clear hbx2 hb2 hr2 z y0 y1 y2 y3 y4
  obtain ⟨_, z, y0, y1, y2, y3, y4⟩ := hW.out _ hc2.out
  go_wp2_with fail
  refine (H2.out _).mono ?_
  rintro e w3 ⟨_, rfl, q3, rfl, hr3, hb3⟩
  have hbx3 : Below w3.heap.size w3 (w3.alloc (.cells #[.slice q3.a0 (linV a b c d f).acc.length q3.c0, .slice q3.a1 (linV a b c d f).rej.length q3.c1] 26)) := (Below.refl _ _).alloc (Nat.le_refl _) _
  have hc3 := Lib.hid (below_of (below_of hc2.out hc2.out.size hb3) (by have := hc2.out.size; have := hb3.size; omega) hbx3)
  have R3 := Lib.hid (hr3.to hbx3)
  have R2' := Lib.hid ((R2.out.to hb3).to hbx3)
  obtain ⟨z2, u0, u1⟩ := (B2.out.to hb3).to hbx3
  obtain ⟨z3, u2, u3⟩ := TBox.new (w := w3) (e := 26) (t := linV a b c d f) (q := q3)
  have hS := Lib.hid (HS.out q2 q3 _ R2'.out R3.out)
  obtain ⟨hcw, _⟩ := hW.out _ hc3.out
  replace hcw := Lib.hid hcw
  clear hbx3 hb3 hr3 z y0 y1 y2 y3 y4 hc2 hc3 HS H1 H2 hA hW hW0
  by_cases g : linE a b c d f = 0
  · have hx : (linE a b c d f != 0) = false := by rw [bne_eq_false_iff_eq]; exact g
    have hv0 := Lib.hid (hE.out g)
    clear g
    go_wp2_with fail
    refine hS.out.mono ?_
    rintro e w4 ⟨rfl, hb4⟩
    have R4 := Lib.hid (R2'.out.to hb4)
    have hc4 := Lib.hid (below_of hcw.out hcw.out.size hb4)
    obtain ⟨z2', u0', u1'⟩ := (TBox.mk z2 u0 u1 : TBox _ _ (linV a b c d f) q2).to hb4
    clear z2 z3 u0 u1 u2 u3 hb4
    go_wp2_with fail
    refine (HV.out q2 _ R4.out).mono ?_
    rintro e w5 ⟨rfl, hb5⟩
    have hc5 := Lib.hid (below_of hc4.out hc4.out.size hb5)
    clear hb5 z2' u0' u1'
    rw [hv0.out]
    go_wp2
    go_ret
    exact ⟨by simp, hc5.out⟩
  · have hx : (linE a b c d f != 0) = true := by rw [bne_iff_ne]; exact g
    clear g
    go_wp2_with fail
    refine hS.out.mono ?_
    rintro e w4 ⟨rfl, hb4⟩
    have hc4 := Lib.hid (below_of hcw.out hcw.out.size hb4)
    clear z2 z3 u0 u1 u2 u3 hb4
    go_wp2
    go_ret
    exact ⟨by simp, hc4.out⟩
end Go.Proofs.YtbpgpjmihbmcbaaDoor
