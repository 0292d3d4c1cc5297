/-
  CONTRACTS of slices.Clone at int and of few.
  Conditions: those that each theorem names.
-/
import Derived.Test.YtcjnfciemangkaaRepI
import Derived.Deep.RegionHeld3
namespace Go.Proofs.Ytcjnfciemangkaa
open Go.RowKit Go.Sv

theorem cloneI_any (A : Option Addr) (c : Nat) (l : List Int) (w : World) (ha : Arr w w.heap.size A l.length (iv l)) (hA : A = none → l.length = 0 ∧ c = 0) (hn : l.length ≤ 1000000) :
    Calls Try.prog 13 #[.slice A l.length c] w (Ret (RInts w l)) := by
  have hnil := fun w => Lib.run_eql_slice_nil (P := Try.prog) w 22 3 A l.length c 0 0 Try.underlying22
  have hnil0 := fun w => Lib.run_eql_slice_nil (P := Try.prog) w 22 3 none 0 0 0 0 Try.underlying22
  cases A with
  | none =>
    obtain ⟨h0, rfl⟩ := hA rfl
    have hl : l = [] := List.eq_nil_of_length_eq_zero h0
    subst hl
    clear hA ha h0 hnil
    go_enter Try.func13, Try.ntmps13
    go_wp2
    go_ret
    exact Ret.mk (own_ints (base := w.heap.size) (e := 3) (l := []) (World.ownsRow_nil _ _ _ _) (Below.refl _ _))
  | some ad =>
    have HF : Hid (∀ u ∈ (List.range l.length).map (iv l), u.oneCell' = true) := Lib.hid fun u hu => by
      obtain ⟨j, _, rfl⟩ := List.mem_map.1 hu
      rfl
    have hrow : Hid ((List.range l.length).map (iv l) = iRow l) := Lib.hid (by
      apply List.ext_getElem?
      intro j
      by_cases hj : j < l.length
      · rw [iRow_get hj]; simp [hj]
      · rw [List.getElem?_eq_none (by simp; omega), List.getElem?_eq_none (by simp [iRow]; omega)])
    clear hA hnil0
    replace ha := Lib.hid ha
    go_enter Try.func13, Try.ntmps13
    go_wp2_with (at_builtin; refine append_arr elInt rfl _ _ rfl w.heap.size _ 0 [] (World.ownsRow_made _ _ 0 (Nat.le_refl _) (Nat.zero_le _) rfl) rfl _ _ _ ((List.range l.length).map (iv l)) rfl (by simp) HF.out ?c1 ?c2 (by omega) (by omega) (by simp) ?_)
    case c1 => intro h; cases h
    case c2 => exact arr_cells (ha.out.below ((Below.refl _ _).alloc (Nat.le_refl _) _))
    intro v' w' hown hg hb hor
    have hb2 : Below w.heap.size w w' := ((Below.refl _ _).alloc (Nat.le_refl _) _).trans hb
    try simp only [List.nil_append, Nat.zero_add] at hown
    rw [hrow.out] at hown
    have hR : Hid (RInts w l v' w') := Lib.hid (own_ints hown hb2)
    clear hown hg hb hor hb2
    go_wp2
    go_ret
    exact Ret.mk hR.out

/-- a problem in a box -/
structure PBox (W : World) (b : Nat) (p : Prob) (q : ProbP) : Prop where
  z : b < W.heap.size
  y0 : W.cell? ⟨b, 0, none⟩ = some (.slice q.a0 p.vs.length q.c0)
  y1 : W.cell? ⟨b, 1, none⟩ = some (.slice q.a1 p.now.length q.c1)
  y2 : W.cell? ⟨b, 2, none⟩ = some (.slice q.a2 p.tgt.length q.c2)
  y3 : W.cell? ⟨b, 3, none⟩ = some (.slice q.a3 p.tabs.length q.c3)
theorem PBox.to {W W' : World} {b : Nat} {p : Prob} {q : ProbP} (h : PBox W b p q) (hb : Below W.heap.size W W') : PBox W' b p q :=
  ⟨Nat.lt_of_lt_of_le h.z hb.size, (hb.cell h.z).trans h.y0, (hb.cell h.z).trans h.y1, (hb.cell h.z).trans h.y2, (hb.cell h.z).trans h.y3⟩
theorem PBox.new {w : World} {t : TypeId} {p : Prob} {q : ProbP} : PBox (w.alloc (.cells #[.slice q.a0 p.vs.length q.c0, .slice q.a1 p.now.length q.c1, .slice q.a2 p.tgt.length q.c2, .slice q.a3 p.tabs.length q.c3] t)) w.heap.size p q := by
  obtain ⟨h0, h1, h2, h3⟩ := box4 (w := w) (t := t) (Below.refl (w.heap.size + 1) (w.alloc (.cells #[.slice q.a0 p.vs.length q.c0, .slice q.a1 p.now.length q.c1, .slice q.a2 p.tgt.length q.c2, .slice q.a3 p.tabs.length q.c3] t)))
  exact ⟨by simp, h0, h1, h2, h3⟩

/-- what few leaves -/
def FewR (w : World) (n : Nat) (v : Value) (w' : World) : Prop := ∃ b : Bool, v = .bool b ∧ (b = true → n ≤ 30) ∧ Below w.heap.size w w'
theorem few_any (p : Prob) (q : ProbP) (A : Option Addr) (n c : Nat) (w : World) (hp : RProb w w.heap.size p q) (hbd : PBd p) (hn : n ≤ 9223372036854775807) :
    Calls Try.prog 16 #[probV p q, .slice A n c] w (Ret (FewR w n)) := by
  obtain ⟨qa0, qc0, qa1, qc1, qa2, qc2, qa3, qc3⟩ := q
  replace hp := Lib.hid hp
  go_enter Try.func16, Try.ntmps16
  go_wp2_with fail
  obtain ⟨W, hW⟩ : ∃ W : World, W = w.alloc (.cells #[.slice qa0 p.vs.length qc0, .slice qa1 p.now.length qc1, .slice qa2 p.tgt.length qc2, .slice qa3 p.tabs.length qc3] 25) := ⟨_, rfl⟩
  have hbw : Below w.heap.size w W := by rw [hW]; exact (Below.refl _ _).alloc (Nat.le_refl _) _
  have hx : PBox W w.heap.size p ⟨qa0, qc0, qa1, qc1, qa2, qc2, qa3, qc3⟩ := by rw [hW]; exact PBox.new (q := ⟨qa0, qc0, qa1, qc1, qa2, qc2, qa3, qc3⟩)
  rw [← hW]
  clear hW
  obtain ⟨z, y0, y1, y2, y3⟩ := hx
  have hpW := Lib.hid (hp.out.to hbw)
  refine (few35_any p ⟨qa0, qc0, qa1, qc1, qa2, qc2, qa3, qc3⟩ W hpW.out hbd).mono ?_
  rintro e w1 ⟨v, rfl, b, rfl, hb1⟩
  have hfin := Lib.hid (below_of hbw hbw.size hb1)
  cases b
  · go_wp2
    go_ret
    exact Ret.mk ⟨false, rfl, (fun h => by cases h), hfin.out⟩
  · by_cases g : n ≤ 30
    · have G := Lib.hid g
      go_wp2
      go_ret
      exact Ret.mk ⟨_, rfl, fun _ => G.out, hfin.out⟩
    · have g' : 30 < n := by omega
      have hd : decide ((n : Int) ≤ 30) = false := by rw [decide_eq_false_iff_not]; omega
      have hD := Lib.hid hd
      clear g hd
      go_wp2
      go_ret
      exact Ret.mk ⟨_, rfl, (fun h => by rw [hD.out] at h; cases h), hfin.out⟩

theorem startE_ok {p : Prob} {ns : List Int} (h : startE p ns = 0) : ∀ i, i < ns.length → ¬ nsBad ns i := by
  unfold startE at h
  split at h
  · rename_i h1; exact absurd h h1
  split at h
  · omega
  split at h
  · omega
  · rename_i h3; exact fun i hi hb => h3 ⟨i, hi, hb⟩

theorem law_start (p : Prob) (q : ProbP) (A : Option Addr) (c : Nat) (ns : List Int) (w : World) (hp : RProb w w.heap.size p q) (hbd : PBd p) (hn : Arr w w.heap.size A ns.length (iv ns)) (hA : A = none → ns.length = 0 ∧ c = 0) (hnl : ns.length ≤ 9223372036854775807) :
    Calls Try.prog 3 #[probV p q, .slice A ns.length c] w fun e w' => e = .returned (.bool true) ∧ Below w.heap.size w w' := by
  obtain ⟨qa0, qc0, qa1, qc1, qa2, qc2, qa3, qc3⟩ := q
  replace hp := Lib.hid hp
  replace hn := Lib.hid hn
  replace hA := Lib.hid hA
  go_enter Try.func3, Try.ntmps3
  go_wp2_with fail
  obtain ⟨W, hW⟩ : ∃ W : World, W = w.alloc (.cells #[.slice qa0 p.vs.length qc0, .slice qa1 p.now.length qc1, .slice qa2 p.tgt.length qc2, .slice qa3 p.tabs.length qc3] 25) := ⟨_, rfl⟩
  have hbw : Below w.heap.size w W := by rw [hW]; exact (Below.refl _ _).alloc (Nat.le_refl _) _
  have hx : Hid (PBox W w.heap.size p ⟨qa0, qc0, qa1, qc1, qa2, qc2, qa3, qc3⟩) := by rw [hW]; exact Lib.hid (PBox.new (q := ⟨qa0, qc0, qa1, qc1, qa2, qc2, qa3, qc3⟩))
  rw [← hW]
  clear hW
  refine (awake_any W).mono ?_
  rintro e w1 ⟨rfl, hb1⟩
  have hx1 := hx.out.to hb1
  have hX1 := Lib.hid hx1
  obtain ⟨z, y0, y1, y2, y3⟩ := hx1
  have hbw1 := below_of hbw hbw.size hb1
  have hp1 := Lib.hid (hp.out.to hbw1)
  go_wp2_with fail
  refine (few35_any p ⟨qa0, qc0, qa1, qc1, qa2, qc2, qa3, qc3⟩ w1 hp1.out hbd).mono ?_
  rintro e w2 ⟨v, rfl, b, rfl, hb2⟩
  have hbw2 := below_of hbw1 hbw1.size hb2
  clear z y0 y1 y2 y3
  cases b
  · go_wp2_with fail
    refine (awake_any w2).mono ?_
    rintro e w3 ⟨rfl, hb3⟩
    have hfin := Lib.hid (below_of hbw2 hbw2.size hb3)
    go_wp2
    go_ret
    exact ⟨rfl, hfin.out⟩
  by_cases g : ns.length ≤ 20
  case neg =>
    have g' : 20 < ns.length := by omega
    clear g
    go_wp2_with fail
    refine (awake_any w2).mono ?_
    rintro e w3 ⟨rfl, hb3⟩
    have hfin := Lib.hid (below_of hbw2 hbw2.size hb3)
    go_wp2
    go_ret
    exact ⟨rfl, hfin.out⟩
  have hx2 := hX1.out.to hb2
  have hX2 := Lib.hid hx2
  obtain ⟨z, y0, y1, y2, y3⟩ := hx2
  have hn2 := Lib.hid ((Arr.below hn.out hbw2).more hbw2.size)
  obtain ⟨W2, hW2⟩ : ∃ W2 : World, W2 = w2 := ⟨_, rfl⟩
  go_wp2_with fail
  go_region_held3 (fun w' => w'.cell? ⟨w.heap.size, 0, none⟩ = some (.slice qa0 p.vs.length qc0) ∧ w'.cell? ⟨w.heap.size, 1, none⟩ = some (.slice qa1 p.now.length qc1) ∧ w'.cell? ⟨w.heap.size, 2, none⟩ = some (.slice qa2 p.tgt.length qc2) ∧ w'.cell? ⟨w.heap.size, 3, none⟩ = some (.slice qa3 p.tabs.length qc3))
    (go_keep)
    (first
      | (go_at_call 13
         refine (cloneI_any A c ns w2.drew (Arr.drawn hn2.out ((Drawn.refl w2).drew)) hA.out (by omega)).mono ?_
         rintro e w3 ⟨v, rfl, A3, c3, rfl, _, hl3, hb3⟩
         have hb3' : Below w2.heap.size w2 w3 := (Below.refl _ _).drew.trans hb3
         obtain ⟨z3, k0, k1, k2, k3⟩ := hX2.out.to hb3'
         have hp3 := Lib.hid (hp.out.to (below_of hbw2 hbw2.size hb3'))
         replace hl3 := Lib.hid hl3)
      | (go_at_call 12
         refine (start_any p ⟨qa0, qc0, qa1, qc1, qa2, qc2, qa3, qc3⟩ A3 c3 ns w3 hp3.out hbd hl3.out (by omega)).mono ?_
         rintro e w4 ⟨v, rfl, A4, c4, rfl, hA4, hl4, hb4⟩
         clear z3 k0 k1 k2 k3
         have hb4' := below_of hb3' hb3'.size hb4
         obtain ⟨z4, k0, k1, k2, k3⟩ := hX2.out.to hb4'
         replace hA4 := Lib.hid hA4
         replace hl4 := Lib.hid hl4))
  clear z y0 y1 y2 y3 z4 k0 k1 k2 k3
  have hbw4 := below_of hbw2 hbw2.size hb4'
  have hp4 := Lib.hid (hp.out.to hbw4)
  have hn4 := Lib.hid ((Arr.below hn.out hbw4).more hbw4.size)
  obtain ⟨z, y0, y1, y2, y3⟩ := hX2.out.to hb4'
  clear hb4'
  go_wp2_with fail
  refine (rstart_any p ⟨qa0, qc0, qa1, qc1, qa2, qc2, qa3, qc3⟩ A c ns w4 hp4.out hbd hn4.out (by omega)).mono ?_
  rintro e w5 ⟨v, rfl, A5, c5, rfl, hA5, hl5, hb5⟩
  replace hA5 := Lib.hid hA5
  replace hl5 := Lib.hid hl5
  have hbw5 := below_of hbw4 hbw4.size hb5
  have hl45 := Lib.hid (RReps.to hl4.out hb5)
  clear z y0 y1 y2 y3
  have hlen : (startL p ns).length ≤ 1000000 := by
    by_cases h : startE p ns = 0
    · rw [startL_ok h]
      have := repsTo_len (p := p) (ns := ns) (k := ns.length) (startE_ok h)
      omega
    · rw [startL_bad h]; simp
  have z5 : (startE p ns == startE p ns) = true := beq_self_eq_true _
  go_wp2_with fail
  refine (sameR_any A4 A5 c4 c5 (startL p ns) (startL p ns) w5 w5.heap.size hl45.out hl5.out hlen hlen).mono ?_
  rintro e w6 ⟨rfl, hd6⟩
  have hfin := Lib.hid (Below.drawn hbw5 hd6)
  have hdd : decide (startL p ns = startL p ns) = true := decide_eq_true rfl
  rw [hdd]
  go_wp2
  go_ret
  exact ⟨rfl, hfin.out⟩
end Go.Proofs.Ytcjnfciemangkaa
