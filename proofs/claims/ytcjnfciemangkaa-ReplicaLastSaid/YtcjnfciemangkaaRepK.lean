/-
  THE LAWS ReplicaApply and ReplicaCrash, walked: each returns true.
  Conditions: those that each theorem names.
-/
import Derived.Test.YtcjnfciemangkaaRepJ
namespace Go.Proofs.Ytcjnfciemangkaa
open Go.RowKit Go.Sv

/-- a command in a box -/
structure CBox (W : World) (b : Nat) (c : Cmd) : Prop where
  z : b < W.heap.size
  y0 : W.cell? ⟨b, 0, none⟩ = some (.int .i64 c.rnd)
  y1 : W.cell? ⟨b, 1, none⟩ = some (.int .i64 c.rep)
  y2 : W.cell? ⟨b, 2, none⟩ = some (.int .i64 c.ver)
theorem CBox.to {W W' : World} {b : Nat} {c : Cmd} (h : CBox W b c) (hb : Below W.heap.size W W') : CBox W' b c :=
  ⟨Nat.lt_of_lt_of_le h.z hb.size, (hb.cell h.z).trans h.y0, (hb.cell h.z).trans h.y1, (hb.cell h.z).trans h.y2⟩
theorem boxes_new {w : World} {t t' : TypeId} {p : Prob} {q : ProbP} {cm : Cmd} {W : World}
    (hW : W = (w.alloc (.cells #[.slice q.a0 p.vs.length q.c0, .slice q.a1 p.now.length q.c1, .slice q.a2 p.tgt.length q.c2, .slice q.a3 p.tabs.length q.c3] t)).alloc (.cells #[.int .i64 cm.rnd, .int .i64 cm.rep, .int .i64 cm.ver] t')) :
    PBox W w.heap.size p q ∧ CBox W (w.heap.size + 1) cm ∧ Below w.heap.size w W := by
  obtain ⟨⟨h0, h1, h2, h3⟩, g0, g1, g2⟩ := box43 (w := w) (w' := W) (t := t) (t' := t') (by rw [hW]; exact Below.refl _ _)
  have hs : W.heap.size = w.heap.size + 2 := by rw [hW]; simp
  exact ⟨⟨by omega, h0, h1, h2, h3⟩, ⟨by omega, g0, g1, g2⟩, by rw [hW]; exact ((Below.refl _ _).alloc (Nat.le_refl _) _).alloc (by simp) _⟩
theorem applyL_len (p : Prob) (l : List Rep) (c : Cmd) : (applyL p l c).length ≤ l.length := by
  unfold applyL setCmd
  split
  · split
    · simp
    · exact Nat.le_refl _
  · simp
theorem powerL_len (l : List Rep) (i : Int) (up : Bool) : (powerL l i up).length ≤ l.length := by
  unfold powerL
  split
  · simp
  · simp
theorem applyE_down {p : Prob} {l : List Rep} {c : Cmd} (h : 0 ≤ c.rep ∧ c.rep < l.length) (h2 : (rp l c.rep.toNat).up = false) : applyE p l c ≠ 0 := by
  unfold applyE
  split
  · assumption
  · split
    · omega
    · first | omega | (split <;> omega)
theorem up_res {w w1 : World} {e : TypeId} {l : List Rep} {g c k : Nat} {up : Bool} (h : w1.ownsRow w.heap.size e 4 (.slice (some ⟨g, 0, none⟩) l.length c) l.length (rpRow l)) (hk : k < l.length) (hg : w.heap.size ≤ g) (hb : Below w.heap.size w w1) :
    RReps (w1.setCell ⟨g, k * 4 + 2, none⟩ (.bool up)) (w1.setCell ⟨g, k * 4 + 2, none⟩ (.bool up)).heap.size (some ⟨g, 0, none⟩) (l.set k { rp l k with up := up }) ∧ Below w.heap.size w (w1.setCell ⟨g, k * 4 + 2, none⟩ (.bool up)) := by
  have h1 := (h.stored (k * 4 + 2) (.bool up)).1
  rw [rpRow_set (i := 2) (k := k) (r := { rp l k with up := up }) (u := .bool up) (by omega) rfl (fun j h1 h2 => by match j, h1, h2 with | 0, _, _ => rfl | 1, _, _ => rfl | 3, _, _ => rfl) hk] at h1
  have hlen : (l.set k { rp l k with up := up }).length = l.length := List.length_set ..
  rw [← hlen] at h1
  exact ⟨own_reps h1, hb.setCell hg _⟩

set_option maxHeartbeats 1000000 in
theorem law_apply (p : Prob) (q : ProbP) (A : Option Addr) (c : Nat) (l : List Rep) (cm : Cmd) (w : World) (hp : RProb w w.heap.size p q) (hbd : PBd p) (ha : RReps w w.heap.size A l) (hA : A = none → l.length = 0 ∧ c = 0) (hn : l.length ≤ 9223372036854775807) :
    Calls Try.prog 4 #[probV p q, .slice A l.length c, cmdV cm] w fun e w' => e = .returned (.bool true) ∧ Below w.heap.size w w' := by
  obtain ⟨qa0, qc0, qa1, qc1, qa2, qc2, qa3, qc3⟩ := q
  obtain ⟨rnd, rep, ver⟩ := cm
  replace hp := Lib.hid hp
  replace ha := Lib.hid ha
  replace hA := Lib.hid hA
  go_enter Try.func4, Try.ntmps4
  go_wp2_with fail
  obtain ⟨W, hW⟩ : ∃ W : World, W = (w.alloc (.cells #[.slice qa0 p.vs.length qc0, .slice qa1 p.now.length qc1, .slice qa2 p.tgt.length qc2, .slice qa3 p.tabs.length qc3] 25)).alloc (.cells #[.int .i64 rnd, .int .i64 rep, .int .i64 ver] 36) := ⟨_, rfl⟩
  obtain ⟨hx, hc, hbw⟩ := boxes_new (q := ⟨qa0, qc0, qa1, qc1, qa2, qc2, qa3, qc3⟩) (cm := ⟨rnd, rep, ver⟩) hW
  rw [← hW]
  clear hW
  replace hx := Lib.hid hx
  replace hc := Lib.hid hc
  refine (awake_any W).mono ?_
  rintro e w1 ⟨rfl, hb1⟩
  have hbw1 := below_of hbw hbw.size hb1
  replace hx := Lib.hid (hx.out.to hb1)
  replace hc := Lib.hid (hc.out.to hb1)
  have hp1 := Lib.hid (hp.out.to hbw1)
  obtain ⟨z, y0, y1, y2, y3⟩ := hx.out
  go_wp2_with fail
  refine (few_any p ⟨qa0, qc0, qa1, qc1, qa2, qc2, qa3, qc3⟩ A l.length c w1 hp1.out hbd hn).mono ?_
  rintro e w2 ⟨v, rfl, b, rfl, h30, hb2⟩
  have hbw2 := below_of hbw1 hbw1.size hb2
  replace hx := Lib.hid (hx.out.to hb2)
  replace hc := Lib.hid (hc.out.to hb2)
  clear z y0 y1 y2 y3
  cases b
  · go_wp2_with fail
    refine (awake_any w2).mono ?_
    rintro e w3 ⟨rfl, hb3⟩
    have hfin := Lib.hid (below_of hbw2 hbw2.size hb3)
    go_wp2
    go_ret
    exact ⟨rfl, hfin.out⟩
  have hl30 := h30 rfl
  clear h30
  have ha2 := Lib.hid (RReps.to ha.out hbw2)
  go_wp2_with fail
  refine (cloneR_any A c l w2 ha2.out hA.out (by omega)).mono ?_
  rintro e w3 ⟨v, rfl, A3, c3, rfl, hown, hb3⟩
  have hl3 := Lib.hid (own_reps hown)
  clear hown
  have hbw3 := below_of hbw2 hbw2.size hb3
  replace hx := Lib.hid (hx.out.to hb3)
  replace hc := Lib.hid (hc.out.to hb3)
  have hp3 := Lib.hid (hp.out.to hbw3)
  have ha3 := Lib.hid (RReps.to ha.out hbw3)
  obtain ⟨z, y0, y1, y2, y3⟩ := hx.out
  obtain ⟨x, x0, x1, x2⟩ := hc.out
  go_wp2_with fail
  refine (apply_any p ⟨qa0, qc0, qa1, qc1, qa2, qc2, qa3, qc3⟩ A c l ⟨rnd, rep, ver⟩ w3 hp3.out hbd ha3.out hA.out (by omega)).mono ?_
  rintro e w4 ⟨v, rfl, A4, c4, rfl, hA4, hl4, hb4⟩
  replace hA4 := Lib.hid hA4
  replace hl4 := Lib.hid hl4
  clear z y0 y1 y2 y3 x x0 x1 x2
  have hbw4 := below_of hbw3 hbw3.size hb4
  replace hx := Lib.hid (hx.out.to hb4)
  replace hc := Lib.hid (hc.out.to hb4)
  have hp4 := Lib.hid (hp.out.to hbw4)
  have ha4 := Lib.hid (RReps.to ha.out hbw4)
  have hl34 := Lib.hid (RReps.to hl3.out hb4)
  obtain ⟨z, y0, y1, y2, y3⟩ := hx.out
  obtain ⟨x, x0, x1, x2⟩ := hc.out
  go_wp2_with fail
  refine (rapply_any p ⟨qa0, qc0, qa1, qc1, qa2, qc2, qa3, qc3⟩ A c l ⟨rnd, rep, ver⟩ w4 hp4.out hbd ha4.out hA.out (by omega)).mono ?_
  rintro e w5 ⟨v, rfl, A5, c5, rfl, hA5, hl5, hb5⟩
  replace hA5 := Lib.hid hA5
  replace hl5 := Lib.hid hl5
  clear z y0 y1 y2 y3 x x0 x1 x2 hx hc
  have hbw5 := below_of hbw4 hbw4.size hb5
  have ha5 := Lib.hid (RReps.to ha.out hbw5)
  have hl35 := Lib.hid (RReps.to hl34.out hb5)
  have hl45 := Lib.hid (RReps.to hl4.out hb5)
  have hlen := applyL_len p l ⟨rnd, rep, ver⟩
  go_wp2_with fail
  refine (sameR_any A4 A5 c4 c5 (applyL p l ⟨rnd, rep, ver⟩) (applyL p l ⟨rnd, rep, ver⟩) w5 w5.heap.size hl45.out hl5.out (by omega) (by omega)).mono ?_
  rintro e w6 ⟨rfl, hd6⟩
  have hdd : decide (applyL p l ⟨rnd, rep, ver⟩ = applyL p l ⟨rnd, rep, ver⟩) = true := decide_eq_true rfl
  rw [hdd]
  clear hdd hlen
  have hbw6 := Below.drawn hbw5 hd6
  have hl36 := Lib.hid (ArrN.drawn hl35.out hd6)
  have ha6 := Lib.hid (ArrN.drawn ha5.out hd6)
  go_wp2_with fail
  refine (sameR_any A A3 c c3 l l w6 w5.heap.size ha6.out hl36.out (by omega) (by omega)).mono ?_
  rintro e w7 ⟨rfl, hd7⟩
  have hdd : decide (l = l) = true := decide_eq_true rfl
  rw [hdd]
  have hfin := Lib.hid (Below.drawn hbw6 hd7)
  go_wp2
  go_ret
  exact ⟨rfl, hfin.out⟩

set_option maxHeartbeats 1000000 in
theorem law_crash (p : Prob) (q : ProbP) (A : Option Addr) (c : Nat) (l : List Rep) (cm : Cmd) (w : World) (hp : RProb w w.heap.size p q) (hbd : PBd p) (ha : RReps w w.heap.size A l) (hA : A = none → l.length = 0 ∧ c = 0) (hn : l.length ≤ 9223372036854775807) :
    Calls Try.prog 8 #[probV p q, .slice A l.length c, cmdV cm] w fun e w' => e = .returned (.bool true) ∧ Below w.heap.size w w' := by
  obtain ⟨qa0, qc0, qa1, qc1, qa2, qc2, qa3, qc3⟩ := q
  obtain ⟨rnd, rep, ver⟩ := cm
  replace hp := Lib.hid hp
  replace ha := Lib.hid ha
  replace hA := Lib.hid hA
  go_enter Try.func8, Try.ntmps8
  go_wp2_with fail
  obtain ⟨W, hW⟩ : ∃ W : World, W = (w.alloc (.cells #[.slice qa0 p.vs.length qc0, .slice qa1 p.now.length qc1, .slice qa2 p.tgt.length qc2, .slice qa3 p.tabs.length qc3] 25)).alloc (.cells #[.int .i64 rnd, .int .i64 rep, .int .i64 ver] 36) := ⟨_, rfl⟩
  obtain ⟨hx, hc, hbw⟩ := boxes_new (q := ⟨qa0, qc0, qa1, qc1, qa2, qc2, qa3, qc3⟩) (cm := ⟨rnd, rep, ver⟩) hW
  rw [← hW]
  clear hW
  replace hx := Lib.hid hx
  replace hc := Lib.hid hc
  refine (awake_any W).mono ?_
  rintro e w1 ⟨rfl, hb1⟩
  have hbw1 := below_of hbw hbw.size hb1
  replace hx := Lib.hid (hx.out.to hb1)
  replace hc := Lib.hid (hc.out.to hb1)
  have hp1 := Lib.hid (hp.out.to hbw1)
  obtain ⟨z, y0, y1, y2, y3⟩ := hx.out
  go_wp2_with fail
  refine (few_any p ⟨qa0, qc0, qa1, qc1, qa2, qc2, qa3, qc3⟩ A l.length c w1 hp1.out hbd hn).mono ?_
  rintro e w2 ⟨v, rfl, b, rfl, h30, hb2⟩
  have hbw2 := below_of hbw1 hbw1.size hb2
  replace hx := Lib.hid (hx.out.to hb2)
  replace hc := Lib.hid (hc.out.to hb2)
  clear z y0 y1 y2 y3
  cases b
  · go_wp2_with fail
    refine (awake_any w2).mono ?_
    rintro e w3 ⟨rfl, hb3⟩
    have hfin := Lib.hid (below_of hbw2 hbw2.size hb3)
    go_wp2
    go_ret
    exact ⟨rfl, hfin.out⟩
  have hl30 := h30 rfl
  clear h30
  obtain ⟨x, x0, x1, x2⟩ := hc.out
  by_cases r0 : rep < 0
  · go_wp2_with fail
    refine (awake_any w2).mono ?_
    rintro e w3 ⟨rfl, hb3⟩
    have hfin := Lib.hid (below_of hbw2 hbw2.size hb3)
    go_wp2
    go_ret
    exact ⟨rfl, hfin.out⟩
  by_cases r1 : (l.length : Int) ≤ rep
  · go_wp2_with fail
    refine (awake_any w2).mono ?_
    rintro e w3 ⟨rfl, hb3⟩
    have hfin := Lib.hid (below_of hbw2 hbw2.size hb3)
    go_wp2
    go_ret
    exact ⟨rfl, hfin.out⟩
  have i0 : 0 ≤ rep := by omega
  have i1 : rep < l.length := by omega
  clear r0 r1
  have ha2 := Lib.hid (RReps.to ha.out hbw2)
  go_wp2_with fail
  refine (cloneR_any A c l w2 ha2.out hA.out (by omega)).mono ?_
  rintro e w3 ⟨v, rfl, A3, c3, rfl, hown, hb3⟩
  clear x x0 x1 x2
  obtain ⟨g, rfl, hg, hgl, hcell, hfr⟩ := copy_at (k := rep.toNat) hown (by omega)
  have d2 := hcell 2 (by omega)
  have f2 := hfr (rep.toNat * 4 + 2)
  obtain ⟨hr3, hbs⟩ := up_res (up := true) (k := rep.toNat) hown (by omega) hg hb3
  unfold rpF rpCell at d2
  obtain ⟨x, x0, x1, x2⟩ := hc.out.to hb3
  obtain ⟨_, x0', x1', x2'⟩ := hc.out.to hbs
  obtain ⟨u, hu⟩ : ∃ u, u = l.set rep.toNat { rp l rep.toNat with up := true } := ⟨_, rfl⟩
  have hul : u.length = l.length := by rw [hu]; exact List.length_set ..
  have hup : (rp u rep.toNat).up = true := by rw [hu, rp_set_same (by omega)]
  rw [← hu] at hr3
  have hbws := Lib.hid (below_of hbw2 hbw2.size hbs)
  replace hr3 := Lib.hid hr3
  have hxs := Lib.hid (hx.out.to hbs)
  have hcs := Lib.hid (hc.out.to hbs)
  replace hbs := Lib.hid hbs
  replace hup := Lib.hid hup
  clear hown hcell hfr hx hc hu
  go_wp2_with fail
  obtain ⟨W2, hW2⟩ : ∃ W2 : World, W2 = w3.setCell ⟨g, rep.toNat * 4 + 2, none⟩ (.bool true) := ⟨_, rfl⟩
  rw [← hW2]
  rw [← hW2] at hr3 hbws hxs hcs
  clear hW2 x0' x1' x2' x0 x1 x2 d2 f2 x hbs
  rw [← hul]
  have E1 : powerE u rep false = 0 := powerE_0 (by omega) (by rw [hup.out]; decide)
  have L1 : powerL u rep false = u.set rep.toNat { rp u rep.toNat with up := false } := powerL_ok E1
  refine (power_any (some ⟨g, 0, none⟩) c3 u rep false W2 hr3.out (fun h => by cases h) (by omega)).mono ?_
  rintro e w4 ⟨v, rfl, A4, c4, rfl, hA4, hl4, hb4⟩
  rw [E1]
  obtain ⟨dn, hdn⟩ : ∃ dn, dn = powerL u rep false := ⟨_, rfl⟩
  rw [← hdn] at hA4 hl4 ⊢
  rw [L1] at hdn
  have hdl : dn.length = u.length := by rw [hdn]; exact List.length_set ..
  have hdu : (rp dn rep.toNat).up = false := by rw [hdn, rp_set_same (by omega)]
  have E3 : powerE dn rep true = 0 := powerE_0 (by omega) (by rw [hdu]; decide)
  have L3 : powerL dn rep true = u := by
    rw [powerL_ok E3]
    apply rp_ext (by rw [List.length_set]; exact hdl)
    intro k hk
    rw [List.length_set] at hk
    by_cases e : k = rep.toNat
    · rw [e, rp_set_same (by omega), hdn, rp_set_same (by omega)]
      have := hup.out
      cases h : rp u rep.toNat
      rw [h] at this
      simp_all
    · rw [rp_set_ne e, hdn, rp_set_ne e]
  have E2 : (applyE p dn ⟨rnd, rep, ver⟩ != 0) = true := by rw [bne_iff_ne]; exact applyE_down ⟨by show (0 : Int) ≤ rep; omega, by show rep < _; omega⟩ hdu
  clear hdn L1
  replace hA4 := Lib.hid hA4
  replace hl4 := Lib.hid hl4
  replace L3 := Lib.hid L3
  replace E3 := Lib.hid E3
  have hbig : u.length ≤ 30 ∧ dn.length ≤ 30 := by omega
  replace hul := Lib.hid hul
  replace hdl := Lib.hid hdl
  replace hdu := Lib.hid hdu
  have hbw4 := below_of hbws.out hbws.out.size hb4
  have hp4 := Lib.hid (hp.out.to hbw4)
  have hx4 := Lib.hid (hxs.out.to hb4)
  have hc4 := Lib.hid (hcs.out.to hb4)
  have hr4 := Lib.hid (RReps.to hr3.out hb4)
  obtain ⟨z, y0, y1, y2, y3⟩ := hx4.out
  obtain ⟨x, x0, x1, x2⟩ := hc4.out
  go_wp2_with fail
  refine (apply_any p ⟨qa0, qc0, qa1, qc1, qa2, qc2, qa3, qc3⟩ A4 c4 dn ⟨rnd, rep, ver⟩ w4 hp4.out hbd hl4.out hA4.out (by omega)).mono ?_
  rintro e w5 ⟨v, rfl, A5, c5, rfl, _, _, hb5⟩
  clear z y0 y1 y2 y3 x x0 x1 x2
  have hbw5 := below_of hbw4 hbw4.size hb5
  obtain ⟨x, x0, x1, x2⟩ := hc4.out.to hb5
  have hl5 := Lib.hid (RReps.to hl4.out hb5)
  have hr5 := Lib.hid (RReps.to hr4.out hb5)
  go_wp2_with fail
  refine (power_any A4 c4 dn rep true w5 hl5.out hA4.out (by omega)).mono ?_
  rintro e w6 ⟨v, rfl, A6, c6, rfl, _, hl6, hb6⟩
  rw [E3.out]
  rw [L3.out] at hl6 ⊢
  replace hl6 := Lib.hid hl6
  have hbw6 := below_of hbw5 hbw5.size hb6
  have hr6 := Lib.hid (RReps.to hr5.out hb6)
  clear x x0 x1 x2
  go_wp2_with fail
  refine (sameR_any A6 (some ⟨g, 0, none⟩) c6 c3 u u w6 w6.heap.size hl6.out hr6.out (by omega) (by omega)).mono ?_
  rintro e w7 ⟨rfl, hd7⟩
  have hdd : decide (u = u) = true := decide_eq_true rfl
  rw [hdd]
  have hfin := Lib.hid (Below.drawn hbw6 hd7)
  go_wp2
  go_ret
  exact ⟨rfl, hfin.out⟩
end Go.Proofs.Ytcjnfciemangkaa
