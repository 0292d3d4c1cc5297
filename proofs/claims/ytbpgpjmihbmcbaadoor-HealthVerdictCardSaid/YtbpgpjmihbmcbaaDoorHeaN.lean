/-
  CONTRACT of the law HealthVerdict: it returns true.
  Conditions: those that each theorem names.
-/
import Derived.Test.YtbpgpjmihbmcbaaDoorHeaK
import Derived.Deep.RegionHeld3
namespace Go.Proofs.YtbpgpjmihbmcbaaDoor
open Go.RowKit Go.Sv

set_option maxHeartbeats 2000000 in
theorem law_verdict (t : Tst) (q : TstP) (n f : Int) (w : World) (h : RTst w w.heap.size t q) (hbd : TBd t) (ht : Tab w) :
    Calls Tryd.prog 7 #[tstV t q, .int .i64 n, .int .i64 f] w fun e w' => e = .returned (.bool true) ∧ Below w.heap.size w w' := by
  obtain ⟨qa, qc, qb, qd⟩ := q
  have hbx : Hid (Below w.heap.size w (w.alloc (.cells #[.slice qa t.acc.length qc, .slice qb t.rej.length qd] 26))) := Lib.hid ((Below.refl _ _).alloc (Nat.le_refl _) _)
  have hA := Lib.hid (fun w' h => awake_any w' (ht.to (w' := w') h))
  have hF := Lib.hid (fun w' => few_any t ⟨qa, qc, qb, qd⟩ w' hbd)
  have H1 := Lib.hid (fun w' (h' : Below w.heap.size w w') => verdict_any t ⟨qa, qc, qb, qd⟩ n f w' (h.to h') hbd)
  have H2 := Lib.hid (fun w' (h' : Below w.heap.size w w') => rverdict_any t ⟨qa, qc, qb, qd⟩ n f w' (h.to h') hbd)
  have H3 := Lib.hid (fun w' (h' : Below w.heap.size w w') => valid_any t ⟨qa, qc, qb, qd⟩ w' (h.to h') hbd)
  have H4 := Lib.hid (fun w' (h' : Below w.heap.size w w') => rvalid_any t ⟨qa, qc, qb, qd⟩ w' (h.to h') hbd)
  have hB := Lib.hid (TBox.new (w := w) (e := 26) (t := t) (q := ⟨qa, qc, qb, qd⟩))
  replace h := Lib.hid h
  clear ht
  go_enter Tryd.func7, Tryd.ntmps7
  go_wp2_with fail
  refine (hA.out _ hbx.out).mono ?_
  rintro e w1 ⟨rfl, hb1⟩
  have hc1 := Lib.hid (below_of hbx.out hbx.out.size hb1)
  have hB1 := Lib.hid (hB.out.to hb1)
  obtain ⟨z, y0, y1⟩ := hB1.out
  dsimp only at y0 y1
  clear hb1
  go_wp2_with fail
  refine (hF.out _).mono ?_
  rintro e w2 ⟨rfl, hb2⟩
  have hc2 := Lib.hid (below_of hc1.out hc1.out.size hb2)
  have hB2 := Lib.hid (hB1.out.to hb2)
  clear z y0 y1 hb2
  obtain ⟨z, y0, y1⟩ := hB2.out
  dsimp only at y0 y1
  by_cases g : t.acc.length ≤ 70 ∧ t.rej.length ≤ 70
  case neg =>
    have e1 : decide (t.acc.length ≤ 70 ∧ t.rej.length ≤ 70) = false := decide_eq_false g
    clear g
    go_wp2_with fail
    refine (hA.out _ hc2.out).mono ?_
    rintro e w3 ⟨rfl, hb3⟩
    have hc3 := Lib.hid (below_of hc2.out hc2.out.size hb3)
    clear hb3
    go_wp2
    go_ret
    exact ⟨rfl, hc3.out⟩
  have e1 : decide (t.acc.length ≤ 70 ∧ t.rej.length ≤ 70) = true := decide_eq_true g
  clear g
  go_wp2_with fail
  refine (H1.out _ hc2.out).mono ?_
  rintro e w3 ⟨rfl, hb3⟩
  have hc3 := Lib.hid (below_of hc2.out hc2.out.size hb3)
  have hB3 := Lib.hid (hB2.out.to hb3)
  clear z y0 y1 hb3
  obtain ⟨z, y0, y1⟩ := hB3.out
  dsimp only at y0 y1
  go_wp2_with fail
  refine (H2.out _ hc3.out).mono ?_
  rintro e w4 ⟨rfl, hb4⟩
  have hc4 := Lib.hid (below_of hc3.out hc3.out.size hb4)
  have hB4 := Lib.hid (hB3.out.to hb4)
  clear z y0 y1 hb4
  obtain ⟨z, y0, y1⟩ := hB4.out
  dsimp only at y0 y1
  go_wp2_with fail
  go_region_held3 (fun w' => w'.cell? ⟨w.heap.size, 0, none⟩ = some (.slice qa t.acc.length qc) ∧ w'.cell? ⟨w.heap.size, 1, none⟩ = some (.slice qb t.rej.length qd)) (go_keep)
    (first
      | ((with_reducible refine (H3.out w4.drew hc4.out.drew).mono ?_)
         rintro e w5 ⟨rfl, hb5⟩
         have hb5' : Below w4.heap.size w4 w5 := (Below.refl _ _).drew.trans hb5
         have hc5 := Lib.hid (below_of hc4.out hc4.out.size hb5')
         clear z y0 y1
         obtain ⟨z, y0, y1⟩ := hB4.out.to hb5'
         dsimp only at y0 y1)
      | ((with_reducible refine (H4.out w4.drew hc4.out.drew).mono ?_)
         rintro e w5 ⟨rfl, hb5⟩
         have hb5' : Below w4.heap.size w4 w5 := (Below.refl _ _).drew.trans hb5
         have hc5 := Lib.hid (below_of hc4.out hc4.out.size hb5')
         clear z y0 y1
         obtain ⟨z, y0, y1⟩ := hB4.out.to hb5'
         dsimp only at y0 y1)
      | ((with_reducible refine (H3.out w5 hc5.out).mono ?_)
         rintro e w6 ⟨rfl, hb6⟩
         have hc6 := Lib.hid (below_of hc5.out hc5.out.size hb6)
         have hb6' := below_of hb5' hb5'.size hb6
         clear z y0 y1
         obtain ⟨z, y0, y1⟩ := hB4.out.to hb6'
         dsimp only at y0 y1)
      | ((with_reducible refine (H4.out w5 hc5.out).mono ?_)
         rintro e w6 ⟨rfl, hb6⟩
         have hc6 := Lib.hid (below_of hc5.out hc5.out.size hb6)
         have hb6' := below_of hb5' hb5'.size hb6
         clear z y0 y1
         obtain ⟨z, y0, y1⟩ := hB4.out.to hb6'
         dsimp only at y0 y1))
  all_goals
    go_wp2
    go_ret
    first | exact ⟨rfl, hc6.out⟩ | exact ⟨by simp, hc6.out⟩
end Go.Proofs.YtbpgpjmihbmcbaaDoor
