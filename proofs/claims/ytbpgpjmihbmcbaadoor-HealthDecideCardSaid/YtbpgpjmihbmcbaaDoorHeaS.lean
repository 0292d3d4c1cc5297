/-
  CONTRACTS of slices.Clone at bool and of the law HealthDecide: it returns true.
  Conditions: those that each theorem names.
-/
import Derived.Test.YtbpgpjmihbmcbaaDoorHeaK
namespace Go.Proofs.YtbpgpjmihbmcbaaDoor
open Go.RowKit Go.Sv

theorem cloneB_any (A : Option Addr) (c : Nat) (l : List Bool) (w : World) (ha : Arr w w.heap.size A l.length (bv l)) (hA : A = none → l.length = 0 ∧ c = 0) (hn : l.length ≤ 1000000) :
    Calls Tryd.prog 27 #[.slice A l.length c] w (Ret (RBools w l)) := by
  have hnil := fun w => Lib.run_eql_slice_nil (P := Tryd.prog) w 31 4 A l.length c 0 0 Tryd.underlying31
  have hnil0 := fun w => Lib.run_eql_slice_nil (P := Tryd.prog) w 31 4 none 0 0 0 0 Tryd.underlying31
  cases A with
  | none =>
    obtain ⟨h0, rfl⟩ := hA rfl
    have hl : l = [] := List.eq_nil_of_length_eq_zero h0
    subst hl
    clear hA ha h0 hnil
    go_enter Tryd.func27, Tryd.ntmps27
    go_wp2
    go_ret
    exact Ret.mk (own_bools (base := w.heap.size) (e := 4) (l := []) (World.ownsRow_nil _ _ _ _) (Below.refl _ _))
  | some ad =>
    have HF : Hid (∀ u ∈ (List.range l.length).map (bv l), u.oneCell' = true) := Lib.hid fun u hu => by
      obtain ⟨j, _, rfl⟩ := List.mem_map.1 hu
      rfl
    have hrow : Hid ((List.range l.length).map (bv l) = bRow l) := Lib.hid (by
      apply List.ext_getElem?
      intro j
      by_cases hj : j < l.length
      · rw [bRow_get hj]; simp [hj]
      · rw [List.getElem?_eq_none (by simp; omega), List.getElem?_eq_none (by simp [bRow]; omega)])
    clear hA hnil0
    replace ha := Lib.hid ha
    go_enter Tryd.func27, Tryd.ntmps27
    go_wp2_with (at_builtin; refine append_arr elBool rfl _ _ rfl w.heap.size _ 0 [] (World.ownsRow_made _ _ 0 (Nat.le_refl _) (Nat.zero_le _) rfl) rfl _ _ _ ((List.range l.length).map (bv l)) rfl (by simp) HF.out ?c1 ?c2 (by omega) (by omega) (by simp) ?_)
    case c1 => intro h; cases h
    case c2 => exact arr_cells (ha.out.below ((Below.refl _ _).alloc (Nat.le_refl _) _))
    intro v' w' hown hg hb hor
    have hb2 : Below w.heap.size w w' := ((Below.refl _ _).alloc (Nat.le_refl _) _).trans hb
    try simp only [List.nil_append, Nat.zero_add] at hown
    rw [hrow.out] at hown
    have hR : Hid (RBools w l v' w') := Lib.hid (own_bools hown hb2)
    clear hown hg hb hor hb2
    go_wp2
    go_ret
    exact Ret.mk hR.out

set_option maxHeartbeats 4000000 in
theorem law_decide (t : Tst) (q : TstP) (A : Option Addr) (l : List Bool) (c : Nat) (w : World) (h : RTst w w.heap.size t q) (hbd : TBd t) (ht : Tab w)
    (hl : Arr w w.heap.size A l.length (bv l)) (hA0 : A = none → l.length = 0 ∧ c = 0) (hn : l.length ≤ 9223372036854775807) :
    Calls Tryd.prog 8 #[tstV t q, .slice A l.length c] w fun e w' => e = .returned (.bool true) ∧ Below w.heap.size w w' := by
  obtain ⟨qa, qc, qb, qd⟩ := q
  have hbx : Hid (Below w.heap.size w (w.alloc (.cells #[.slice qa t.acc.length qc, .slice qb t.rej.length qd] 26))) := Lib.hid ((Below.refl _ _).alloc (Nat.le_refl _) _)
  have hA := Lib.hid (fun w' h => awake_any w' (ht.to (w' := w') h))
  have hF := Lib.hid (fun w' => few_any t ⟨qa, qc, qb, qd⟩ w' hbd)
  have hmore : ∀ {w' : World}, Below w.heap.size w w' → Arr w' w'.heap.size A l.length (bv l) := fun h' => (hl.below h').more h'.size
  have HC := Lib.hid (fun w' (h' : Below w.heap.size w w') (hk : l.length ≤ 80) => cloneB_any A c l w' (hmore h') hA0 (by omega))
  have HD := Lib.hid (fun A' c' w' (h' : Below w.heap.size w w') ha => decide_any t ⟨qa, qc, qb, qd⟩ A' l c' w' (h.to h') hbd ha hn)
  have HR := Lib.hid (fun w' (h' : Below w.heap.size w w') => rdecide_any t ⟨qa, qc, qb, qd⟩ A l c w' (h.to h') hbd (hmore h') hn)
  have hB := Lib.hid (TBox.new (w := w) (e := 26) (t := t) (q := ⟨qa, qc, qb, qd⟩))
  replace h := Lib.hid h
  clear ht hmore hA0
  replace hl := Lib.hid hl
  go_enter Tryd.func8, Tryd.ntmps8
  go_wp2_with fail
  refine (hA.out _ hbx.out).mono ?_
  rintro e w1 ⟨rfl, hb1⟩
  have hc1 := Lib.hid (below_of hbx.out hbx.out.size hb1)
  have hB1 := Lib.hid (hB.out.to hb1)
  obtain ⟨z, y0, y1⟩ := hB1.out
  dsimp only at y0 y1
  clear hb1
  go_wp2_with fail
  refine (hF.out _).mono ?_
  rintro e w2 ⟨rfl, hb2⟩
  have hc2 := Lib.hid (below_of hc1.out hc1.out.size hb2)
  have hB2 := Lib.hid (hB1.out.to hb2)
  clear z y0 y1 hb2
  obtain ⟨z, y0, y1⟩ := hB2.out
  dsimp only at y0 y1
  by_cases g : t.acc.length ≤ 70 ∧ t.rej.length ≤ 70
  case neg =>
    have e1 : decide (t.acc.length ≤ 70 ∧ t.rej.length ≤ 70) = false := decide_eq_false g
    clear g
    go_wp2_with fail
    refine (hA.out _ hc2.out).mono ?_
    rintro e w3 ⟨rfl, hb3⟩
    have hc3 := Lib.hid (below_of hc2.out hc2.out.size hb3)
    clear hb3
    go_wp2
    go_ret
    exact ⟨rfl, hc3.out⟩
  have e1 : decide (t.acc.length ≤ 70 ∧ t.rej.length ≤ 70) = true := decide_eq_true g
  clear g hF
  by_cases g8 : 80 < l.length
  · have d8 : decide ((80 : Int) < (l.length : Int)) = true := decide_eq_true (by omega)
    clear g8
    go_wp2_with fail
    refine (hA.out _ hc2.out).mono ?_
    rintro e w3 ⟨rfl, hb3⟩
    have hc3 := Lib.hid (below_of hc2.out hc2.out.size hb3)
    clear hb3
    go_wp2
    go_ret
    exact ⟨rfl, hc3.out⟩
  have d8 : decide ((80 : Int) < (l.length : Int)) = false := by rw [decide_eq_false_iff_not]; omega
  have HC' := Lib.hid (HC.out w2.drew hc2.out.drew (by omega))
  clear g8 hA hB hB1 hc1 hbx HC
  go_wp2_with fail
  go_region_held3 (fun w' => w'.cell? ⟨w.heap.size, 0, none⟩ = some (.slice qa t.acc.length qc) ∧ w'.cell? ⟨w.heap.size, 1, none⟩ = some (.slice qb t.rej.length qd)) (go_keep)
    (first
      | ((with_reducible refine HC'.out.mono ?_)
         rintro e w3 ⟨_, rfl, A', c', rfl, _, har, hb3⟩
         have hb3' : Below w2.heap.size w2 w3 := (Below.refl _ _).drew.trans hb3
         have hc3 := Lib.hid (below_of hc2.out hc2.out.size hb3')
         replace har := Lib.hid har
         clear z y0 y1
         obtain ⟨z, y0, y1⟩ := hB2.out.to hb3'
         dsimp only at y0 y1)
      | ((with_reducible refine (HD.out A' c' w3 hc3.out har.out).mono ?_)
         rintro e w4 ⟨rfl, hb4⟩
         have hc4 := Lib.hid (below_of hc3.out hc3.out.size hb4)
         have hB4 := Lib.hid ((hB2.out.to hb3').to hb4)
         clear z y0 y1
         obtain ⟨z, y0, y1⟩ := hB4.out
         dsimp only at y0 y1))
  all_goals
    go_wp2_with fail
    refine (HR.out w4 hc4.out).mono ?_
    rintro e w5 ⟨rfl, hb5⟩
    have hc5 := Lib.hid (below_of hc4.out hc4.out.size hb5)
    clear hb5
    go_wp2
    go_ret
    first | exact ⟨rfl, hc5.out⟩ | exact ⟨by simp, hc5.out⟩
end Go.Proofs.YtbpgpjmihbmcbaaDoor
