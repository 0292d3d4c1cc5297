/-
  CONTRACTS of slices.Clone, slices.Equal at tokens and of the reference's Same.
  Conditions: those that each theorem names.
-/
import Derived.Test.YtmhnocgoknmljaaDoorLyA
namespace Go.Proofs.YtmhnocgoknmljaaDoor
open Go.RowKit Go.Sv Go.Lx
theorem tk_ext {l m : List Tok} (hl : l.length = m.length) (h : ∀ k, k < l.length → tkAt l k = tkAt m k) : l = m := by
  apply List.ext_getElem hl
  intro k h1 h2
  have := h k h1
  rwa [tkAt_get h1, tkAt_get h2] at this
/-- a row of tokens of the call's own -/
def OwnR (w : World) (l : List Tok) (v : Value) (w' : World) : Prop := w'.ownsRow w.heap.size 25 5 v l.length (tkRow l) ∧ Below w.heap.size w w'
theorem cloneT_any (A : Option Addr) (c : Nat) (l : List Tok) (w : World) (ha : RTks w w.heap.size A l) (hA : A = none → l.length = 0 ∧ c = 0) (hn : l.length ≤ 1000000) :
    Calls Tryd.prog 22 #[.slice A l.length c] w (Ret (OwnR w l)) := by
  have hnil := fun w => Lib.run_eql_slice_nil (P := Tryd.prog) w 27 25 A l.length c 0 0 Tryd.underlying27
  have hnil0 := fun w => Lib.run_eql_slice_nil (P := Tryd.prog) w 27 25 none 0 0 0 0 Tryd.underlying27
  cases A with
  | none =>
    obtain ⟨h0, rfl⟩ := hA rfl
    have hl : l = [] := List.eq_nil_of_length_eq_zero h0
    subst hl
    clear hA ha h0 hnil
    go_enter Tryd.func22, Tryd.ntmps22
    go_wp2
    go_ret
    exact Ret.mk ⟨World.ownsRow_nil _ _ _ _, Below.refl _ _⟩
  | some ad =>
    have HF : Hid (∀ u ∈ rowN 5 l.length (tkF l), u.oneCell' = true) := Lib.hid fun u hu => by
      obtain ⟨j, _, rfl⟩ := List.mem_map.1 hu
      exact tkF_one _ _ _
    clear hA hnil0
    replace ha := Lib.hid ha
    go_enter Tryd.func22, Tryd.ntmps22
    go_wp2_with (at_builtin; refine append_arr elTok rfl _ _ rfl w.heap.size _ 0 [] (World.ownsRow_made _ _ 0 (Nat.le_refl _) (Nat.zero_le _) rfl) rfl _ _ _ (rowN 5 l.length (tkF l)) rfl (rowN_length ..) HF.out ?c1 ?c2 (by omega) (by omega) (by simp) ?_)
    case c1 => intro h; cases h
    case c2 => exact arrN_cells (by omega) (ha.out.below ((Below.refl _ _).alloc (Nat.le_refl _) _))
    intro v' w' hown hg hb hor
    have hb2 : Below w.heap.size w w' := ((Below.refl _ _).alloc (Nat.le_refl _) _).trans hb
    try simp only [List.nil_append, Nat.zero_add] at hown
    rw [tkRow_is] at hown
    obtain ⟨A', c', hv, _, _, _⟩ := own_form hown
    rw [hv] at hown
    have hR : Hid (OwnR w l (.slice A' l.length c') w') := Lib.hid ⟨hown, hb2⟩
    rw [hv]
    clear hown hg hb hor hb2 hv
    go_wp2
    go_ret
    exact Ret.mk hR.out
set_option maxRecDepth 100000 in
theorem equalT_any (A C : Option Addr) (c d : Nat) (l m : List Tok) (w : World) (ha : RTks w w.heap.size A l) (hc : RTks w w.heap.size C m) (hn : l.length ≤ 1000000) (hm : m.length ≤ 1000000) :
    Calls Tryd.prog 29 #[.slice A l.length c, .slice C m.length d] w fun e w' => e = .returned (.bool (decide (l = m))) ∧ Drawn w w' := by
  by_cases hlen : l.length = m.length
  · have z1 : ((l.length : Int) != (m.length : Int)) = false := by rw [bne_eq_false_iff_eq]; omega
    replace hlen := Lib.hid hlen
    go_enter Tryd.func29, Tryd.ntmps29
    go_wp2
    go_loopw [13] (fun i wr => ∃ k : Nat, k ≤ l.length ∧ i = .int .i64 k ∧ (∀ j, j < k → tkAt l j = tkAt m j) ∧ Drawn w wr) (fun i _ => l.length - (intOf i).toNat)
    case atStart => exact ⟨0, Nat.zero_le _, rfl, fun j hj => by omega, Drawn.refl _⟩
    case round =>
      obtain ⟨k, hk, rfl, hall, hdr⟩ := hrel
      replace hall := Lib.hid hall
      by_cases hlt : k < l.length
      · have hkm : k < m.length := by have := hlen.out; omega
        obtain ⟨b, off, rfl, hb, hcl⟩ := ha (by omega)
        obtain ⟨b2, off2, rfl, hb2, hcm⟩ := hc (by omega)
        obtain ⟨c0, c1, c2, c3, c4⟩ := tk_cells (w := wr) (fun i hi => (hdr.cell _).trans (hcl k hlt i hi))
        obtain ⟨d0, d1, d2, d3, d4⟩ := tk_cells (w := wr) (fun i hi => (hdr.cell _).trans (hcm k hkm i hi))
        replace hdr := Lib.hid hdr
        replace ha := Lib.hid ha
        replace hc := Lib.hid hc
        clear hcl hcm
        have j1 : (k : Int) < (l.length : Int) := by omega
        have j2 : (k : Int) < (m.length : Int) := by omega
        obtain ⟨s, hs⟩ : ∃ s, tkAt l k = s := ⟨_, rfl⟩
        obtain ⟨t, ht⟩ : ∃ t, tkAt m k = t := ⟨_, rfl⟩
        rw [hs] at c0 c1 c2 c3 c4
        rw [ht] at d0 d1 d2 d3 d4
        have hE := fun w => eqTok s t w
        have hg := guardTok
        by_cases he : s = t
        · rw [decide_eq_true he] at hE
          have hS : Hid (∀ j, j < k + 1 → tkAt l j = tkAt m j) := Lib.hid fun j hj => by
            rcases Nat.lt_succ_iff_lt_or_eq.1 hj with h | h
            · exact hall.out j h
            · rw [h, hs, ht, he]
          clear he hs ht
          go_wp2_with fail
          go_big_quiet (fail)
          go_wp2
          go_roundw
          case rel => exact ⟨k + 1, by omega, by go_num, hS.out, hdr.out.drewN _⟩
          case measure => simp [intOf]; omega
        · rw [decide_eq_false he] at hE
          have hne : Hid (decide (l = m) = false) := Lib.hid (by rw [decide_eq_false_iff_not]; intro h; exact he (by rw [← hs, ← ht, h]))
          clear he hs ht
          go_wp2_with fail
          go_big_quiet (fail)
          go_wp2
          go_ret
          exact ⟨ret_b hne.out.symm, hdr.out.drewN _⟩
      · have heq : Hid (decide (l = m) = true) := Lib.hid (decide_eq_true (tk_ext hlen.out (fun j hj => hall.out j (by omega))))
        obtain rfl : k = l.length := by omega
        replace ha := Lib.hid ha
        replace hc := Lib.hid hc
        go_wp2
        go_ret
        exact ⟨ret_b heq.out.symm, hdr⟩
  · have z1 : ((l.length : Int) != (m.length : Int)) = true := by rw [bne_iff_ne]; omega
    have hne : Hid (decide (l = m) = false) := Lib.hid (by rw [decide_eq_false_iff_not]; intro h; exact hlen (by rw [h]))
    clear hlen
    go_enter Tryd.func29, Tryd.ntmps29
    go_wp2
    go_ret
    exact ⟨ret_b hne.out.symm, Drawn.refl _⟩
theorem map_bare_ext {l m : List Tok} (hl : l.length = m.length) (h : ∀ k, k < l.length → bare (tkAt l k) = bare (tkAt m k)) : l.map bare = m.map bare := by
  apply List.ext_getElem (by simpa using hl)
  intro k h1 h2
  have h1' : k < l.length := by simpa using h1
  have h2' : k < m.length := by simpa using h2
  have := h k h1'
  rw [tkAt_get h1', tkAt_get h2'] at this
  simpa using this
theorem fm_swap {w W : World} {a b : Bx} (h : Fm w W [a, b] []) : Fm w W [b, a] [] :=
  ⟨h.bel, ⟨h.bx.2.1, h.bx.1, trivial⟩, trivial, fun x hx => h.lo x (by simp at hx ⊢; exact hx.symm), fun r hr => (by cases hr), by
    have d := h.dis
    rw [List.pairwise_cons] at d ⊢
    refine ⟨fun x hx => ?_, by simp⟩
    simp at hx; subst hx
    exact fun e => d.1 b (by simp) e.symm⟩
set_option maxHeartbeats 2000000 in
set_option maxRecDepth 100000 in
theorem sameT_any (A C : Option Addr) (c d : Nat) (l m : List Tok) (w : World) (ha : RTks w w.heap.size A l) (hc : RTks w w.heap.size C m) (hn : l.length ≤ 1000000) (hm : m.length ≤ 1000000) :
    Calls Tryd.prog 20 #[.slice A l.length c, .slice C m.length d] w fun e w' => e = .returned (.bool (decide (l.map bare = m.map bare))) ∧ Below w.heap.size w w' := by
  by_cases hlen : l.length = m.length
  · have z1 : ((l.length : Int) != (m.length : Int)) = false := by rw [bne_eq_false_iff_eq]; omega
    replace hlen := Lib.hid hlen
    go_enter Tryd.func20, Tryd.ntmps20
    go_wp2
    go_loopw [5] (fun i wr => ∃ k : Nat, k ≤ l.length ∧ i = .int .i64 k ∧ (∀ j, j < k → bare (tkAt l j) = bare (tkAt m j)) ∧ Below w.heap.size w wr) (fun i _ => l.length - (intOf i).toNat)
    case atStart => exact ⟨0, Nat.zero_le _, rfl, fun j hj => by omega, Below.refl _ _⟩
    case round =>
      obtain ⟨k, hk, rfl, hall, hdr⟩ := hrel
      replace hall := Lib.hid hall
      by_cases hlt : k < l.length
      · have hkm : k < m.length := by have := hlen.out; omega
        obtain ⟨b, off, rfl, hb, hcl⟩ := ha (by omega)
        obtain ⟨b2, off2, rfl, hb2, hcm⟩ := hc (by omega)
        obtain ⟨c0, c1, c2, c3, c4⟩ := tk_cells (w := wr) (fun i hi => (hdr.cell (p := ⟨b, off + k * 5 + i, none⟩) hb).trans (hcl k hlt i hi))
        obtain ⟨d0, d1, d2, d3, d4⟩ := tk_cells (w := wr) (fun i hi => (hdr.cell (p := ⟨b2, off2 + k * 5 + i, none⟩) hb2).trans (hcm k hkm i hi))
        have hsz := hdr.size
        replace hdr := Lib.hid hdr
        replace ha := Lib.hid ha
        replace hc := Lib.hid hc
        clear hcl hcm
        have j1 : (k : Int) < (l.length : Int) := by omega
        have j2 : (k : Int) < (m.length : Int) := by omega
        obtain ⟨s, hs⟩ : ∃ s, tkAt l k = s := ⟨_, rfl⟩
        obtain ⟨t, ht⟩ : ∃ t, tkAt m k = t := ⟨_, rfl⟩
        rw [hs] at c0 c1 c2 c3 c4
        rw [ht] at d0 d1 d2 d3 d4
        have hb' : b < wr.heap.size := by omega
        have hb2' : b2 < wr.heap.size := by omega
        have nb1 : b ≠ wr.heap.size := by omega
        have nb2 : b2 ≠ wr.heap.size := by omega
        have nb3 : b ≠ wr.heap.size + 1 := by omega
        have nb4 : b2 ≠ wr.heap.size + 1 := by omega
        go_upto_region 6 with fail
        go_cut [6, 7] (fun s6 s7 wx => ∃ g1 g2 : Nat, s6 = .pointer (some ⟨g1, 0, none⟩) ∧ s7 = .pointer (some ⟨g2, 0, none⟩) ∧ Fm wr wx [⟨g1, 25, tkCells s⟩, ⟨g2, 25, tkCells t⟩] [])
        case first =>
          have P1 := Lib.hid ((((Fm.init wr).box 25 (tkCells s)).box' 25 (tkCells t) (by simp : _ = wr.heap.size + 1)))
          have P2 := Lib.hid ((((Fm.init wr).box 25 (tkCells t)).box' 25 (tkCells s) (by simp : _ = wr.heap.size + 1)))
          go_region_law ((fail))
          all_goals (go_wp2_with fail; go_meet)
          all_goals
            first
              | exact ⟨_, _, rfl, rfl, (fm_swap P1.out).drew⟩
              | exact ⟨_, _, rfl, rfl, P2.out.drew⟩
        case rest =>
          rename World => w2
          obtain ⟨g1, g2, rfl, rfl, S⟩ := hcut
          clear c0 c1 c2 c3 c4 d0 d1 d2 d3 d4 hb' hb2' nb1 nb2 nb3 nb4
          have hbw := Lib.hid (hdr.out.trans (S.bel.mono hsz))
          have nn : g1 ≠ g2 := by have := S.dis; rw [List.pairwise_cons] at this; exact this.1 ⟨g2, 25, tkCells t⟩ (List.mem_singleton.2 rfl)
          have nn' : g2 ≠ g1 := fun e => nn e.symm
          obtain ⟨⟨z1, f1, y10, y11, y12, y13, y14, -⟩, ⟨z2, f2, y20, y21, y22, y23, y24, -⟩, -⟩ := S.facts
          have hF := Lib.hid (hdr.out.trans (((S.set 0 rfl 4 (.int .i64 0)).set 1 rfl 4 (.int .i64 0)).bel.mono hsz))
          have hE := fun w => eqTok (bare s) (bare t) w
          have hg := guardTok
          clear S
          by_cases he : bare s = bare t
          · rw [decide_eq_true he] at hE
            dsimp only [bare] at hE
            have hS : Hid (∀ j, j < k + 1 → bare (tkAt l j) = bare (tkAt m j)) := Lib.hid fun j hj => by
              rcases Nat.lt_succ_iff_lt_or_eq.1 hj with h | h
              · exact hall.out j h
              · rw [h, hs, ht, he]
            clear he hs ht
            go_wp2
            go_roundw
            case rel => exact ⟨k + 1, by omega, by go_num, hS.out, hF.out⟩
            case measure => simp [intOf]; omega
          · rw [decide_eq_false he] at hE
            dsimp only [bare] at hE
            have hne : Hid (decide (l.map bare = m.map bare) = false) := Lib.hid (by
              rw [decide_eq_false_iff_not]
              intro h
              refine he ?_
              rw [← hs, ← ht, tkAt_get hlt, tkAt_get hkm]
              have e1 : (l.map bare)[k]? = (m.map bare)[k]? := by rw [h]
              simpa [hlt, hkm] using e1)
            clear he hs ht
            go_wp2
            go_ret
            exact ⟨ret_b hne.out.symm, hF.out⟩
      · have heq : Hid (decide (l.map bare = m.map bare) = true) := Lib.hid (decide_eq_true (map_bare_ext hlen.out (fun j hj => hall.out j (by omega))))
        obtain rfl : k = l.length := by omega
        replace ha := Lib.hid ha
        replace hc := Lib.hid hc
        go_wp2
        go_ret
        exact ⟨ret_b heq.out.symm, hdr⟩
  · have z1 : ((l.length : Int) != (m.length : Int)) = true := by rw [bne_iff_ne]; omega
    have hne : Hid (decide (l.map bare = m.map bare) = false) := Lib.hid (by rw [decide_eq_false_iff_not]; intro h; exact hlen (by simpa using congrArg List.length h))
    clear hlen
    go_enter Tryd.func20, Tryd.ntmps20
    go_wp2
    go_ret
    exact ⟨ret_b hne.out.symm, Below.refl _ _⟩
end Go.Proofs.YtmhnocgoknmljaaDoor
