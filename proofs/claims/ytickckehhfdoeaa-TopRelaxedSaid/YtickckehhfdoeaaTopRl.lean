/-
  CONTRACT of sheaveref35.Between at a problem's own versions.
  Conditions: those that each theorem names.
-/
import Derived.Deep.RegionHeldLaw
import Derived.Test.YtickckehhfdoeaaTr2
namespace Go.Sv
open Go.RowKit
structure TDim (t : Tab) : Prop where
  ol : t.ok.length ≤ 6
  om : ∀ u, u < t.ok.length → mlen t.ok u ≤ 6
  rl : t.rw.length ≤ 6
  rm : ∀ u, u < t.rw.length → mlen t.rw u ≤ 6
theorem tab_dims {p : Prob} (h : probE p = 0) {i : Nat} (hi : i < p.tabs.length) : TDim (tab p.tabs i) := by
  have F := tab_facts h hi
  have hv : ∀ k : Int, 0 ≤ k → k < p.vs.length → gi p.vs k.toNat ≤ 6 := fun k h1 h2 => (vs_le h (i := k.toNat) (by omega)).2
  have a := hv _ F.s0 F.s1
  have b := hv _ F.d0 F.d1
  have ol := F.ol
  refine ⟨by omega, fun u hu => by have := F.om u hu; omega, ?_, ?_⟩
  · by_cases c : (tab p.tabs i).kind = 4
    · have := F.rl c; omega
    · have h3 := tab_ok h hi
      unfold tabE at h3
      split at h3
      · cases h3
      · split at h3
        · cases h3
        · split at h3
          · cases h3
          · rename_i hs
            rw [not_or, not_or] at hs
            have : ¬ 0 < (tab p.tabs i).rw.length := fun h => hs.2.2 ⟨c, h⟩
            omega
  · intro u hu
    by_cases c : (tab p.tabs i).kind = 4
    · have := F.rm c u hu; omega
    · have h3 := tab_ok h hi
      unfold tabE at h3
      split at h3
      · cases h3
      · split at h3
        · cases h3
        · split at h3
          · cases h3
          · rename_i hs
            rw [not_or, not_or] at hs
            exact absurd ⟨c, by omega⟩ hs.2.2
end Go.Sv
namespace Go.Proofs.Ytickckehhfdoeaa
open Go.RowKit Go.Sv
/-- the same problem in memory of the call's own -/
def BtR (w : World) (p : Prob) (v : Value) (w' : World) : Prop := Below w.heap.size w w' ∧ ∃ q F G C H D L, v = .tuple #[probV p q, .int .i64 0] ∧ PX w' w.heap.size p q F G C H D L
theorem copyI {w : World} {B : Nat} {l : List Int} {A : Option Addr} (h : Arr w B A l.length (iv l)) : (∀ u ∈ rowM l.length (iv l), u.oneCell' = true) ∧ (A = none → l.length = 0) := by
  refine ⟨fun u hu => ?_, fun e => ?_⟩
  · unfold rowM at hu
    obtain ⟨j, _, rfl⟩ := List.mem_map.1 hu
    rfl
  · rcases Nat.eq_zero_or_pos l.length with h0 | h0
    · exact h0
    · obtain ⟨b, o, e2, _⟩ := h h0
      rw [e] at e2; cases e2
theorem own_set_other {W : World} {B b s n : Nat} {e e' : TypeId} {v : Value} {xs : List Value} {cs : Array Value} (h : W.ownsRow B e s v n xs) (hw : Whole W b e' cs) (he : e ≠ e') (i : Nat) (u : Value) : (W.setCell ⟨b, i, none⟩ u).ownsRow B e s v n xs :=
  h.kept (grownBy_set W b i u) (by
    cases hx : v.ownBlock with
    | none => exact Or.inl rfl
    | some g =>
      refine Or.inr fun e0 => ?_
      injection e0 with e0
      subst e0
      rcases h.2 with ⟨rfl, _⟩ | ⟨g', cap, cur, rfl, _, hg, _⟩
      · cases hx
      · have e1 : g' = g := by injection hx
        subst e1
        have h1 : W.heap[g']? = _ := hw
        rw [hg] at h1
        injection h1 with h1
        injection h1 with _ h2 _
        exact he h2)
def tbN (ts : List Tab) (F : Nat → TabP) (n : Nat) : List Value := rowN 6 n fun k i => tabCells (tab ts k) (F k) i
theorem tbN_snoc (ts : List Tab) (F : Nat → TabP) (n : Nat) (q : TabP) : tbN ts (Fs n F q) (n + 1) = tbN ts F n ++ [.int .i64 (tab ts n).kind, .int .i64 (tab ts n).src, .int .i64 (tab ts n).dst, .bool (tab ts n).aware, .slice q.okA (tab ts n).ok.length q.okC, .slice q.rwA (tab ts n).rw.length q.rwC] := by
  unfold tbN
  rw [rowN_snoc (f := fun k i => tabCells (tab ts k) (F k) i) (by decide) (fun k hk i _ => by rw [Fs_lt hk])]
  rw [Fs_at]
  rfl
/-- what the loop of Between has made -/
structure BtL (p : Prob) (w W : World) (b9 : Nat) (A0 : Option Addr) (c0 : Nat) (A1 : Option Addr) (c1 : Nat) (A2 : Option Addr) (c2 : Nat) (R : List Bx) (i : Nat) (A3 : Option Addr) (c3 : Nat) (F : Nat → TabP) (G C H D : Nat → Nat → Nat) (L : Nat → Nat) (wr : World) : Prop where
  fm : Fm w wr (⟨b9, 39, [.slice A0 p.vs.length c0, .slice A1 p.now.length c1, .slice A2 p.tgt.length c2, .slice A3 i c3]⟩ :: R) []
  o0 : wr.ownsRow W.heap.size 3 1 (.slice A0 p.vs.length c0) p.vs.length (rowM p.vs.length (iv p.vs))
  o1 : wr.ownsRow W.heap.size 3 1 (.slice A1 p.now.length c1) p.now.length (rowM p.now.length (iv p.now))
  o2 : wr.ownsRow W.heap.size 3 1 (.slice A2 p.tgt.length c2) p.tgt.length (rowM p.tgt.length (iv p.tgt))
  o3 : wr.ownsRow (b9 + 1) 47 6 (.slice A3 i c3) i (tbN p.tabs F i)
  mm : MxN wr (b9 + 1) p.tabs F G C H D L i
  bel : Below W.heap.size W wr
  hb : W.heap.size ≤ b9
/-- one more table -/
theorem BtL.snoc {p : Prob} {w W wr w8 w10 : World} {b9 i : Nat} {A0 A1 A2 A3 A4 : Option Addr} {c0 c1 c2 c3 c4 : Nat} {R : List Bx} {F : Nat → TabP} {G C H D : Nat → Nat → Nat} {L : Nat → Nat} {f : TabP} {g c h2 d : Nat → Nat}
    (h : BtL p w W b9 A0 c0 A1 c1 A2 c2 R i A3 c3 F G C H D L wr) (hR : ∀ x ∈ R, x.b < b9) (hw : w.heap.size ≤ b9) (hb8 : Below wr.heap.size wr w8)
    (m1 : OMp w8 wr.heap.size (tab p.tabs i).ok (.slice f.okA (tab p.tabs i).ok.length f.okC) g c (tab p.tabs i).ok.length) (m2 : OMp w8 wr.heap.size (tab p.tabs i).rw (.slice f.rwA (tab p.tabs i).rw.length f.rwC) h2 d (tab p.tabs i).rw.length)
    (hne : ∀ u x, u < (tab p.tabs i).ok.length → x < (tab p.tabs i).rw.length → g u ≠ h2 x) {o : Obj}
    (ho : w10.ownsRow (b9 + 1) 47 6 (.slice A4 (i + 1) c4) (i + 1) (tbN p.tabs F i ++ [.int .i64 (tab p.tabs i).kind, .int .i64 (tab p.tabs i).src, .int .i64 (tab p.tabs i).dst, .bool (tab p.tabs i).aware, .slice f.okA (tab p.tabs i).ok.length f.okC, .slice f.rwA (tab p.tabs i).rw.length f.rwC]))
    (hg : (w8.alloc o).grownBy w10 (Value.slice A3 i c3).ownBlock) (hbl : Below (b9 + 1) (w8.alloc o) w10) :
    BtL p w W b9 A0 c0 A1 c1 A2 c2 R (i + 1) A4 c4 (Fs i F f) (updF G i g) (updF C i c) (updF H i h2) (updF D i d) (updF (updF L i wr.heap.size) (i + 1) w8.heap.size) (w10.setCell ⟨b9, 3, none⟩ (.slice A4 (i + 1) c4)) := by
  have ha : Below w8.heap.size w8 (w8.alloc o) := (Below.refl _ _).alloc (Nat.le_refl _) o
  have hb9 : b9 < wr.heap.size := h.fm.b_lt (List.mem_cons_self ..)
  have hu := own_to (own_to h.o3 hb8) ha
  have z8 := hb8.size
  have za := ha.size
  have zl := hbl.size
  have f10 : Fm w w10 (⟨b9, 39, [.slice A0 p.vs.length c0, .slice A1 p.now.length c1, .slice A2 p.tgt.length c2, .slice A3 i c3]⟩ :: R) [] :=
    fm_under ((h.fm.call hb8).call ha) (B := b9 + 1) (fun x hx => by
      rcases List.mem_cons.1 hx with rfl | hx
      · exact Nat.lt_succ_self _
      · exact Nat.lt_succ_of_lt (hR x hx)) (by omega) hbl
  have hw10 : Whole w10 b9 39 #[.slice A0 p.vs.length c0, .slice A1 p.now.length c1, .slice A2 p.tgt.length c2, .slice A3 i c3] := allB_at f10.bx _ (List.mem_cons_self ..)
  refine ⟨f10.set 0 rfl 3 _, ?_, ?_, ?_, ?_, ?_, ?_, h.hb⟩
  · exact own_set_other (ownO_other (own_to (own_to h.o0 hb8) ha) hu (by decide) hg) hw10 (by decide) _ _
  · exact own_set_other (ownO_other (own_to (own_to h.o1 hb8) ha) hu (by decide) hg) hw10 (by decide) _ _
  · exact own_set_other (ownO_other (own_to (own_to h.o2 hb8) ha) hu (by decide) hg) hw10 (by decide) _ _
  · rw [tbN_snoc]
    exact own_far ho (Nat.lt_succ_self _) _ _
  · exact (((h.mm.snoc hb8 (by omega) m1 m2 hne).to ha).other hu (by decide) (by decide) hg zl).far (Nat.lt_succ_self _) _ _
  · have hbb := h.hb
    exact (((h.bel.trans (hb8.mono (by omega))).trans (ha.mono (by omega))).trans (hbl.mono (by omega))).setCell (by show W.heap.size ≤ b9; exact h.hb) _
theorem cells7_alloc {w : World} {o : Obj} {a0 a1 a2 a3 a4 a5 a6 : Addr} {v0 v1 v2 v3 v4 v5 v6 : Value} (h : w.cell? a0 = some v0 ∧ w.cell? a1 = some v1 ∧ w.cell? a2 = some v2 ∧ w.cell? a3 = some v3 ∧ w.cell? a4 = some v4 ∧ w.cell? a5 = some v5 ∧ w.cell? a6 = some v6) : (w.alloc o).cell? a0 = some v0 ∧ (w.alloc o).cell? a1 = some v1 ∧ (w.alloc o).cell? a2 = some v2 ∧ (w.alloc o).cell? a3 = some v3 ∧ (w.alloc o).cell? a4 = some v4 ∧ (w.alloc o).cell? a5 = some v5 ∧ (w.alloc o).cell? a6 = some v6 := by
  have t : ∀ (a : Addr) (v : Value), w.cell? a = some v → (w.alloc o).cell? a = some v := fun a v e => (World.cell?_alloc_some w a o (by rw [e]; rfl)).trans e
  obtain ⟨h0, h1, h2, h3, h4, h5, h6⟩ := h
  exact ⟨t _ _ h0, t _ _ h1, t _ _ h2, t _ _ h3, t _ _ h4, t _ _ h5, t _ _ h6⟩
theorem cells7_below {B : Nat} {w w' : World} (hb : Below B w w') {a0 a1 a2 a3 a4 a5 a6 : Addr} {v0 v1 v2 v3 v4 v5 v6 : Value} (hB : a0.block < B ∧ a1.block < B ∧ a2.block < B ∧ a3.block < B ∧ a4.block < B ∧ a5.block < B ∧ a6.block < B) (h : w.cell? a0 = some v0 ∧ w.cell? a1 = some v1 ∧ w.cell? a2 = some v2 ∧ w.cell? a3 = some v3 ∧ w.cell? a4 = some v4 ∧ w.cell? a5 = some v5 ∧ w.cell? a6 = some v6) : w'.cell? a0 = some v0 ∧ w'.cell? a1 = some v1 ∧ w'.cell? a2 = some v2 ∧ w'.cell? a3 = some v3 ∧ w'.cell? a4 = some v4 ∧ w'.cell? a5 = some v5 ∧ w'.cell? a6 = some v6 := by
  have t : ∀ (a : Addr) (v : Value), a.block < B → w.cell? a = some v → w'.cell? a = some v := fun a v l e => (hb.cell l).trans e
  obtain ⟨h0, h1, h2, h3, h4, h5, h6⟩ := h
  obtain ⟨l0, l1, l2, l3, l4, l5, l6⟩ := hB
  exact ⟨t _ _ l0 h0, t _ _ l1 h1, t _ _ l2 h2, t _ _ l3 h3, t _ _ l4 h4, t _ _ l5 h5, t _ _ l6 h6⟩
theorem cells7_far {w : World} {p : Addr} {u : Value} {a0 a1 a2 a3 a4 a5 a6 : Addr} {v0 v1 v2 v3 v4 v5 v6 : Value} (hB : p.block ≠ a0.block ∧ p.block ≠ a1.block ∧ p.block ≠ a2.block ∧ p.block ≠ a3.block ∧ p.block ≠ a4.block ∧ p.block ≠ a5.block ∧ p.block ≠ a6.block) (h : w.cell? a0 = some v0 ∧ w.cell? a1 = some v1 ∧ w.cell? a2 = some v2 ∧ w.cell? a3 = some v3 ∧ w.cell? a4 = some v4 ∧ w.cell? a5 = some v5 ∧ w.cell? a6 = some v6) : (w.setCell p u).cell? a0 = some v0 ∧ (w.setCell p u).cell? a1 = some v1 ∧ (w.setCell p u).cell? a2 = some v2 ∧ (w.setCell p u).cell? a3 = some v3 ∧ (w.setCell p u).cell? a4 = some v4 ∧ (w.setCell p u).cell? a5 = some v5 ∧ (w.setCell p u).cell? a6 = some v6 := by
  have t : ∀ (a : Addr) (v : Value), p.block ≠ a.block → w.cell? a = some v → (w.setCell p u).cell? a = some v := fun a v l e => (World.cell?_setCell_far w p a u l).trans e
  obtain ⟨h0, h1, h2, h3, h4, h5, h6⟩ := h
  obtain ⟨l0, l1, l2, l3, l4, l5, l6⟩ := hB
  exact ⟨t _ _ l0 h0, t _ _ l1 h1, t _ _ l2 h2, t _ _ l3 h3, t _ _ l4 h4, t _ _ l5 h5, t _ _ l6 h6⟩
set_option maxHeartbeats 8000000 in
set_option maxRecDepth 100000 in
theorem rbetween_any (p : Prob) (q : ProbP) (w : World) (hp : RProb w w.heap.size p q) (hbd : PBd p) (h0 : probE p = 0) :
    Calls Try.prog 10 #[probV p q, .slice q.a1 p.now.length q.c1, .slice q.a2 p.tgt.length q.c2] w (Ret (BtR w p)) := by
  obtain ⟨qa0, qc0, qa1, qc1, qa2, qc2, qa3, qc3⟩ := q
  obtain ⟨W, hW, S⟩ : ∃ W, (w.alloc (.cells #[.slice qa0 p.vs.length qc0, .slice qa1 p.now.length qc1, .slice qa2 p.tgt.length qc2, .slice qa3 p.tabs.length qc3] 39)).alloc (.cells #[.slice none 0 0, .slice none 0 0, .slice none 0 0, .slice none 0 0] 39) = W ∧
      Fm w W [⟨w.heap.size + 1, 39, [.slice none 0 0, .slice none 0 0, .slice none 0 0, .slice none 0 0]⟩, ⟨w.heap.size, 39, [.slice qa0 p.vs.length qc0, .slice qa1 p.now.length qc1, .slice qa2 p.tgt.length qc2, .slice qa3 p.tabs.length qc3]⟩] [] := ⟨_, rfl, ((Fm.init w).box 39 _).box' 39 _ (by simp)⟩
  have hWs : W.heap.size = w.heap.size + 2 := by rw [← hW]; simp
  have hps := prob_small h0
  have hpW := Lib.hid (fun (W2 : World) (h : Below W.heap.size W W2) => (hp.to S.bel).to h)
  have HV := Lib.hid (rvalidProblem_any p ⟨qa0, qc0, qa1, qc1, qa2, qc2, qa3, qc3⟩ W (hp.to S.bel) hbd)
  have HV2 := Lib.hid (fun (q2 : ProbP) (W2 : World) (h : RProb W2 W2.heap.size p q2) => rvalidProblem_any p q2 W2 h hbd)
  rw [h0] at HV HV2
  have hdim := Lib.hid (fun (i : Nat) (hi : i < p.tabs.length) => tab_dims h0 hi)
  obtain ⟨hone0, hnil0⟩ := copyI hp.r0
  obtain ⟨hone1, hnil1⟩ := copyI hp.r1
  obtain ⟨hone2, hnil2⟩ := copyI hp.r2
  replace hone0 := Lib.hid hone0
  replace hone1 := Lib.hid hone1
  replace hone2 := Lib.hid hone2
  replace hnil0 := Lib.hid hnil0
  replace hnil1 := Lib.hid hnil1
  replace hnil2 := Lib.hid hnil2
  have k0 : p.vs.length ≤ 6 := hps.1
  have k1 : p.now.length ≤ 6 := by omega
  have k2 : p.tgt.length ≤ 6 := by omega
  have k3 : p.tabs.length ≤ 12 := by omega
  obtain ⟨⟨zr, fr, r0, r1, r2, r3, -⟩, ⟨zp, fp, p0, p1, p2, p3, -⟩, -⟩ := S.facts
  replace S := Lib.hid S
  replace hps := Lib.hid hps
  clear hp hbd h0
  dsimp only at hpW hnil0 hnil1 hnil2
  go_enter Try.func10, Try.ntmps10
  go_wp2_with fail
  clear hW
  with_reducible refine HV.out.mono ?_
  rintro e w1 ⟨rfl, hb1⟩
  have S1 := Lib.hid (S.out.call hb1)
  have hz1 := hb1.size
  have hbW1 := Lib.hid hb1
  clear zr fr r0 r1 r2 r3 zp fp p0 p1 p2 p3 HV hb1
  obtain ⟨⟨zr, fr, r0, r1, r2, r3, -⟩, ⟨zp, fp, p0, p1, p2, p3, -⟩, -⟩ := S1.out.facts
  go_wp2_with (at_builtin; refine append_arr elInt rfl _ _ rfl w1.heap.size _ 0 [] (own_empty (Whole.new w1 3 #[]) (Nat.le_refl _)) rfl _ _ _ (rowM p.vs.length (iv p.vs)) rfl (by rw [rowM_len, Nat.mul_one]) hone0.out ?c1 ?c2 (by omega) (by omega) (by simp) ?_)
  case c1 => exact hnil0.out
  case c2 => exact arr_cells ((hpW.out w1 hbW1.out).r0.below ((Below.refl _ _).alloc (Nat.le_refl _) _))
  intro v0 w2 hown0 hg2 hb2 _
  try simp only [Nat.zero_add, List.nil_append] at hown0
  have hb12 : Below w1.heap.size w1 w2 := ((Below.refl _ _).alloc (Nat.le_refl _) _).trans hb2
  obtain ⟨A0, c0, rfl, _⟩ := own_form hown0
  have S2 := Lib.hid (S1.out.call hb12)
  have hz2 := hb12.size
  have hbW2 := Lib.hid (hbW1.out.trans (hb12.mono hz1))
  replace hown0 := Lib.hid hown0
  clear zr fr r0 r1 r2 r3 zp fp p0 p1 p2 p3 hg2 hb2 hb12
  obtain ⟨⟨zr, fr, r0, r1, r2, r3, -⟩, ⟨zp, fp, p0, p1, p2, p3, -⟩, -⟩ := S2.out.facts
  go_wp2_with (at_builtin; refine append_arr elInt rfl _ _ rfl w2.heap.size _ 0 [] (own_empty (Whole.new w2 3 #[]) (Nat.le_refl _)) rfl _ _ _ (rowM p.now.length (iv p.now)) rfl (by rw [rowM_len, Nat.mul_one]) hone1.out ?c1 ?c2 (by omega) (by omega) (by simp) ?_)
  case c1 => exact hnil1.out
  case c2 => exact arr_cells ((hpW.out w2 hbW2.out).r1.below ((Below.refl _ _).alloc (Nat.le_refl _) _))
  intro v1 w3 hown1 hg2 hb2 _
  try simp only [Nat.zero_add, List.nil_append] at hown1
  have hb12 : Below w2.heap.size w2 w3 := ((Below.refl _ _).alloc (Nat.le_refl _) _).trans hb2
  obtain ⟨A1, c1, rfl, _⟩ := own_form hown1
  have S3 := Lib.hid (S2.out.call hb12)
  have hz3 := hb12.size
  have hbW3 := Lib.hid (hbW2.out.trans (hb12.mono (by omega)))
  replace hown1 := Lib.hid hown1
  have hown03 := Lib.hid (own_to hown0.out hb12)
  clear zr fr r0 r1 r2 r3 zp fp p0 p1 p2 p3 hg2 hb2 hb12
  obtain ⟨⟨zr, fr, r0, r1, r2, r3, -⟩, ⟨zp, fp, p0, p1, p2, p3, -⟩, -⟩ := S3.out.facts
  go_wp2_with (at_builtin; refine append_arr elInt rfl _ _ rfl w3.heap.size _ 0 [] (own_empty (Whole.new w3 3 #[]) (Nat.le_refl _)) rfl _ _ _ (rowM p.tgt.length (iv p.tgt)) rfl (by rw [rowM_len, Nat.mul_one]) hone2.out ?c1 ?c2 (by omega) (by omega) (by simp) ?_)
  case c1 => exact hnil2.out
  case c2 => exact arr_cells ((hpW.out w3 hbW3.out).r2.below ((Below.refl _ _).alloc (Nat.le_refl _) _))
  intro v2 w4 hown2 hg2 hb2 _
  try simp only [Nat.zero_add, List.nil_append] at hown2
  have hb12 : Below w3.heap.size w3 w4 := ((Below.refl _ _).alloc (Nat.le_refl _) _).trans hb2
  obtain ⟨A2, c2, rfl, _⟩ := own_form hown2
  have S4 := S3.out.call hb12
  have hz4 := hb12.size
  have hbW4 := hbW3.out.trans (hb12.mono (by omega))
  have hown04 := own_to hown03.out hb12
  have hown14 := own_to hown1.out hb12
  clear zr fr r0 r1 r2 r3 zp fp p0 p1 p2 p3 hg2 hb2 hb12
  go_upto_region 5 with fail
  obtain ⟨W5, (hW5 : w4.alloc (.cells #[.slice A0 p.vs.length c0, .slice A1 p.now.length c1, .slice A2 p.tgt.length c2, .slice none 0 0] 39) = W5), S5, hB5⟩ := fm_boxE S4 39 [.slice A0 p.vs.length c0, .slice A1 p.now.length c1, .slice A2 p.tgt.length c2, .slice none 0 0]
  have q0 := Lib.hid ((own_base (own_to hown04 hB5) (show W.heap.size ≤ w1.heap.size by omega)))
  have q1 := Lib.hid ((own_base (own_to hown14 hB5) (show W.heap.size ≤ w2.heap.size by omega)))
  have q2 := Lib.hid ((own_base (own_to hown2 hB5) (show W.heap.size ≤ w3.heap.size by omega)))
  have hz5 : w4.heap.size < W5.heap.size := by rw [← hW5]; simp
  have hbW5 := Lib.hid (hbW4.trans (hB5.mono (by omega)))
  replace S5 := Lib.hid S5
  clear hown04 hown14 hown2 hown0 hown1 hown03 hbW4 S4 hB5 hbW1 hbW2 hbW3 S1 S2 S3 S
  rw [hW5]
  clear hW5
  have hL0 : Hid (BtL p w W w4.heap.size A0 c0 A1 c1 A2 c2 [⟨w.heap.size + 1, 39, [.slice none 0 0, .slice none 0 0, .slice none 0 0, .slice none 0 0]⟩, ⟨w.heap.size, 39, [.slice qa0 p.vs.length qc0, .slice qa1 p.now.length qc1, .slice qa2 p.tgt.length qc2, .slice qa3 p.tabs.length qc3]⟩] 0 none 0 (fun _ => ⟨none, 0, none, 0⟩) (fun _ _ => 0) (fun _ _ => 0) (fun _ _ => 0) (fun _ _ => 0) (fun _ => 0) W5) := Lib.hid ⟨S5.out, q0.out, q1.out, q2.out, World.ownsRow_nil _ _ _ _, MxN.nil, hbW5.out, by omega⟩
  have hRb : Hid (∀ x ∈ ([⟨w.heap.size + 1, 39, [.slice none 0 0, .slice none 0 0, .slice none 0 0, .slice none 0 0]⟩, ⟨w.heap.size, 39, [.slice qa0 p.vs.length qc0, .slice qa1 p.now.length qc1, .slice qa2 p.tgt.length qc2, .slice qa3 p.tabs.length qc3]⟩] : List Bx), x.b < w4.heap.size) := Lib.hid (by
    intro x hx
    simp only [List.mem_cons, List.not_mem_nil, or_false] at hx
    rcases hx with rfl | rfl <;> dsimp only <;> omega)
  have hww : w.heap.size ≤ w4.heap.size := by omega
  have hWw : W.heap.size ≤ w4.heap.size := by omega
  replace hWs := Lib.hid hWs
  clear q0 q1 q2 hbW5 S5 hz1 hz2 hz3 hz4 hz5 hone0 hone1 hone2 hnil0 hnil1 hnil2
  go_wp2
  go_loopw [10] (fun s10 wr => ∃ (i : Nat) (A3 : Option Addr) (c3 : Nat) (F : Nat → TabP) (G C H D : Nat → Nat → Nat) (L : Nat → Nat), s10 = .int .i64 (i : Int) ∧ i ≤ p.tabs.length ∧ Hid (BtL p w W w4.heap.size A0 c0 A1 c1 A2 c2 [⟨w.heap.size + 1, 39, [.slice none 0 0, .slice none 0 0, .slice none 0 0, .slice none 0 0]⟩, ⟨w.heap.size, 39, [.slice qa0 p.vs.length qc0, .slice qa1 p.now.length qc1, .slice qa2 p.tgt.length qc2, .slice qa3 p.tabs.length qc3]⟩] i A3 c3 F G C H D L wr)) (fun s10 _ => p.tabs.length - (intOf s10).toNat)
  case atStart => exact ⟨0, _, _, _, _, _, _, _, _, rfl, Nat.zero_le _, hL0⟩
  case round =>
    clear hL0
    obtain ⟨i, A3, c3, F, G, C, H, D, L, rfl, hi, hL⟩ := hrel
    obtain ⟨⟨z9, f9, n0, n1, n2, n3, -⟩, ⟨zr, fr, r0, r1, r2, r3, -⟩, ⟨zp, fp, p0, p1, p2, p3, -⟩, -⟩ := hL.out.fm.facts
    by_cases hlt : i < p.tabs.length
    · have hbel := hL.out.bel
      have hdr : Below wr.heap.size wr wr.drew := ((Drawn.refl wr).drew).below
      obtain ⟨Qt, har, hel⟩ := (hpW.out wr hbel).r3
      obtain ⟨bT, oT, e3, hbT, hcT⟩ := har (by omega)
      dsimp only at e3
      obtain ⟨Qt', har', -⟩ := (hpW.out W (Below.refl _ _)).r3
      obtain ⟨bT', oT', e3', hbT', -⟩ := har' (by omega)
      dsimp only at e3'
      have hbTW : Hid (bT < w4.heap.size) := Lib.hid (by
        rw [e3] at e3'
        injection e3' with e3'
        injection e3' with e3' _ _
        rw [e3']
        exact Nat.lt_of_lt_of_le hbT' hWw)
      clear hbT' e3' har'
      subst e3
      obtain ⟨d0, d1, d2, d3, d4, d5⟩ := tab_cells (hcT i hlt)
      have hT := hel i hlt
      have dm := hdim.out i hlt
      have HC := rcopied35_any (tab p.tabs i) (Qt i) wr.drew ⟨RMat.below hT.1 hdr, RMat.below hT.2 hdr⟩ (by have := dm.ol; omega) (fun k hk => by have := dm.om k hk; omega) (by have := dm.rl; omega) (fun k hk => by have := dm.rm k hk; omega)
      have hSn := Lib.hid (fun (w8 w10 : World) (A4 : Option Addr) (c4 : Nat) (f : TabP) (g c h2 d : Nat → Nat) (o : Obj) (hb8 : Below wr.drew.heap.size wr.drew w8) (m1 : OMp w8 wr.drew.heap.size (tab p.tabs i).ok (.slice f.okA (tab p.tabs i).ok.length f.okC) g c (tab p.tabs i).ok.length) (m2 : OMp w8 wr.drew.heap.size (tab p.tabs i).rw (.slice f.rwA (tab p.tabs i).rw.length f.rwC) h2 d (tab p.tabs i).rw.length)
        (hne : ∀ u x, u < (tab p.tabs i).ok.length → x < (tab p.tabs i).rw.length → g u ≠ h2 x)
        (ho : w10.ownsRow (w4.heap.size + 1) 47 6 (.slice A4 (i + 1) c4) (i + 1) (tbN p.tabs F i ++ [.int .i64 (tab p.tabs i).kind, .int .i64 (tab p.tabs i).src, .int .i64 (tab p.tabs i).dst, .bool (tab p.tabs i).aware, .slice f.okA (tab p.tabs i).ok.length f.okC, .slice f.rwA (tab p.tabs i).rw.length f.rwC]))
        (hg : (w8.alloc o).grownBy w10 (Value.slice A3 i c3).ownBlock) (hbl : Below (w4.heap.size + 1) (w8.alloc o) w10) => hL.out.snoc hRb.out hww (hdr.trans hb8) m1 m2 hne ho hg hbl)
      obtain ⟨t, ht⟩ : ∃ t, tab p.tabs i = t := ⟨_, rfl⟩
      rw [ht] at d0 d1 d2 d3 d4 d5 HC hSn
      obtain ⟨⟨ta, tc, ra, rc⟩, hq⟩ : ∃ z, Qt i = z := ⟨_, rfl⟩
      rw [hq] at d4 d5 HC
      obtain ⟨kd, sr, ds, aw, ok, rw_⟩ := t
      dsimp only at d0 d1 d2 d3 d4 d5
      dsimp only [tabV] at HC
      replace HC := Lib.hid HC
      have ji : (i : Int) < (p.tabs.length : Int) := by omega
      have hbTw : bT < wr.heap.size := hbT
      have Td := Lib.hid (Fm.drew hL.out.fm)
      have oT3 := Lib.hid hL.out.o3
      have hone6 : Hid (∀ (a0 a1 : Option Addr) (e0 e1 : Nat), ∀ u ∈ ([.int .i64 kd, .int .i64 sr, .int .i64 ds, .bool aw, .slice a0 ok.length e0, .slice a1 rw_.length e1] : List Value), u.oneCell' = true) := Lib.hid (by
        intro a0 a1 e0 e1 u hu
        simp only [List.mem_cons, List.not_mem_nil, or_false] at hu
        rcases hu with rfl | rfl | rfl | rfl | rfl | rfl <;> rfl)
      clear hcT har hel hT dm ht hq hdr hbel hL
      go_upto_region 8 with fail
      have hbT4 : bT < w4.heap.size := hbTW.out
      have hwB : w.heap.size < w4.heap.size + 1 := by omega
      have hbB : bT < w4.heap.size + 1 := by omega
      have hwN : w4.heap.size ≠ w.heap.size := by have := hWs.out; omega
      have hbN : w4.heap.size ≠ bT := by omega
      clear hbTW hbT4
      refine wp_region_held_drew (S := (fun w' => w'.cell? ⟨w.heap.size, 3, none⟩ = some (.slice (some ⟨bT, oT, none⟩) p.tabs.length qc3) ∧ w'.cell? ⟨bT, oT + i * 6, none⟩ = some (.int .i64 kd) ∧ w'.cell? ⟨bT, oT + i * 6 + 1, none⟩ = some (.int .i64 sr) ∧ w'.cell? ⟨bT, oT + i * 6 + 2, none⟩ = some (.int .i64 ds) ∧ w'.cell? ⟨bT, oT + i * 6 + 3, none⟩ = some (.bool aw) ∧ w'.cell? ⟨bT, oT + i * 6 + 4, none⟩ = some (.slice ta ok.length tc) ∧ w'.cell? ⟨bT, oT + i * 6 + 5, none⟩ = some (.slice ra rw_.length rc))) (by kernel_rfl) ?_ (fun hHeld => ?_)
      · exact ⟨p3, d0, d1, d2, d3, d4, d5⟩
      refine wpAnyH_take (i := 0) (oi := { dst := some 36, op := Op.fieldAddr 39 (Operand.tmp 9) 3, type := 0, pos := "ref.go:141", after := #[], guard := none }) (v := ?v1) rfl (by kernel_rfl) (by kernel_rfl) (by kernel_rfl) (fun _ _ _ h => h) (Or.inl ⟨by rfl, ?hy1⟩) (by with_reducible assumption) ?rest1
      case hy1 => (intro wS hSw; (try dsimp only at hSw); (go_simp <;> with_reducible rfl))
      try simp only [Act.put, List.setIfInBounds_toArray, List.set_cons_zero, List.set_cons_succ]
      refine wpAnyH_take (i := 2) (oi := { dst := some 38, op := Op.fieldAddr 39 (Operand.tmp 3) 3, type := 0, pos := "ref.go:141", after := #[], guard := none }) (v := ?v2) rfl (by kernel_rfl) (by kernel_rfl) (by kernel_rfl) (fun _ _ _ h => h) (Or.inl ⟨by rfl, ?hy2⟩) (by with_reducible assumption) ?rest2
      case hy2 => (intro wS hSw; (try dsimp only at hSw); (go_simp <;> with_reducible rfl))
      try simp only [Act.put, List.setIfInBounds_toArray, List.set_cons_zero, List.set_cons_succ]
      refine wpAnyH_take (i := 4) (oi := { dst := some 40, op := Op.move (Operand.tmp 10), type := 3, pos := "ref.go:141", after := #[], guard := none }) (v := ?v3) rfl (by kernel_rfl) (by kernel_rfl) (by kernel_rfl) (fun _ _ _ h => h) (Or.inl ⟨by rfl, ?hy3⟩) (by with_reducible assumption) ?rest3
      case hy3 => (intro wS hSw; (try dsimp only at hSw); (go_simp <;> with_reducible rfl))
      try simp only [Act.put, List.setIfInBounds_toArray, List.set_cons_zero, List.set_cons_succ]
      refine wpAnyH_take (i := 7) (oi := { dst := some 43, op := Op.fieldAddr 39 (Operand.tmp 3) 3, type := 0, pos := "ref.go:141", after := #[], guard := none }) (v := ?v4) rfl (by kernel_rfl) (by kernel_rfl) (by kernel_rfl) (fun _ _ _ h => h) (Or.inl ⟨by rfl, ?hy4⟩) (by with_reducible assumption) ?rest4
      case hy4 => (intro wS hSw; (try dsimp only at hSw); (go_simp <;> with_reducible rfl))
      try simp only [Act.put, List.setIfInBounds_toArray, List.set_cons_zero, List.set_cons_succ]
      refine wpAnyH_take (i := 9) (oi := { dst := some 45, op := Op.move (Operand.tmp 10), type := 3, pos := "ref.go:141", after := #[], guard := none }) (v := ?v5) rfl (by kernel_rfl) (by kernel_rfl) (by kernel_rfl) (fun _ _ _ h => h) (Or.inl ⟨by rfl, ?hy5⟩) (by with_reducible assumption) ?rest5
      case hy5 => (intro wS hSw; (try dsimp only at hSw); (go_simp <;> with_reducible rfl))
      try simp only [Act.put, List.setIfInBounds_toArray, List.set_cons_zero, List.set_cons_succ]
      refine wpAnyH_take (i := 13) (oi := { dst := some 49, op := Op.fieldAddr 39 (Operand.tmp 3) 3, type := 0, pos := "ref.go:141", after := #[], guard := none }) (v := ?v6) rfl (by kernel_rfl) (by kernel_rfl) (by kernel_rfl) (fun _ _ _ h => h) (Or.inl ⟨by rfl, ?hy6⟩) (by with_reducible assumption) ?rest6
      case hy6 => (intro wS hSw; (try dsimp only at hSw); (go_simp <;> with_reducible rfl))
      try simp only [Act.put, List.setIfInBounds_toArray, List.set_cons_zero, List.set_cons_succ]
      refine wpAnyH_take (i := 15) (oi := { dst := some 51, op := Op.move (Operand.tmp 10), type := 3, pos := "ref.go:141", after := #[], guard := none }) (v := ?v7) rfl (by kernel_rfl) (by kernel_rfl) (by kernel_rfl) (fun _ _ _ h => h) (Or.inl ⟨by rfl, ?hy7⟩) (by with_reducible assumption) ?rest7
      case hy7 => (intro wS hSw; (try dsimp only at hSw); (go_simp <;> with_reducible rfl))
      try simp only [Act.put, List.setIfInBounds_toArray, List.set_cons_zero, List.set_cons_succ]
      refine wpAnyH_take (i := 3) (oi := { dst := some 39, op := Op.load 37 (Operand.tmp 38), type := 37, pos := "ref.go:141", after := #[{ on := 2, ground := Ground.data }], guard := none }) (v := ?v8) rfl (by kernel_rfl) (by kernel_rfl) (by kernel_rfl) (fun _ _ _ h => h) (Or.inl ⟨by rfl, ?hy8⟩) (by with_reducible assumption) ?rest8
      case hy8 => (intro wS hSw; (try dsimp only at hSw); (go_simp <;> with_reducible rfl))
      try simp only [Act.put, List.setIfInBounds_toArray, List.set_cons_zero, List.set_cons_succ]
      refine wpAnyH_take (i := 8) (oi := { dst := some 44, op := Op.load 37 (Operand.tmp 43), type := 37, pos := "ref.go:141", after := #[{ on := 7, ground := Ground.data }], guard := none }) (v := ?v9) rfl (by kernel_rfl) (by kernel_rfl) (by kernel_rfl) (fun _ _ _ h => h) (Or.inl ⟨by rfl, ?hy9⟩) (by with_reducible assumption) ?rest9
      case hy9 => (intro wS hSw; (try dsimp only at hSw); (go_simp <;> with_reducible rfl))
      try simp only [Act.put, List.setIfInBounds_toArray, List.set_cons_zero, List.set_cons_succ]
      refine wpAnyH_take (i := 14) (oi := { dst := some 50, op := Op.load 37 (Operand.tmp 49), type := 37, pos := "ref.go:141", after := #[{ on := 13, ground := Ground.data }], guard := none }) (v := ?v10) rfl (by kernel_rfl) (by kernel_rfl) (by kernel_rfl) (fun _ _ _ h => h) (Or.inl ⟨by rfl, ?hy10⟩) (by with_reducible assumption) ?rest10
      case hy10 => (intro wS hSw; (try dsimp only at hSw); (go_simp <;> with_reducible rfl))
      try simp only [Act.put, List.setIfInBounds_toArray, List.set_cons_zero, List.set_cons_succ]
      refine wpAnyH_take (i := 5) (oi := { dst := some 41, op := Op.indexAddr 37 (Operand.tmp 39) (Operand.tmp 40), type := 0, pos := "ref.go:141", after := #[{ on := 3, ground := Ground.data }, { on := 4, ground := Ground.data }], guard := none }) (v := ?v11) rfl (by kernel_rfl) (by kernel_rfl) (by kernel_rfl) (fun _ _ _ h => h) (Or.inl ⟨by rfl, ?hy11⟩) (by with_reducible assumption) ?rest11
      case hy11 => (intro wS hSw; (try dsimp only at hSw); (go_simp <;> with_reducible rfl))
      try simp only [Act.put, List.setIfInBounds_toArray, List.set_cons_zero, List.set_cons_succ]
      refine wpAnyH_take (i := 10) (oi := { dst := some 46, op := Op.indexAddr 37 (Operand.tmp 44) (Operand.tmp 45), type := 0, pos := "ref.go:141", after := #[{ on := 8, ground := Ground.data }, { on := 9, ground := Ground.data }], guard := none }) (v := ?v12) rfl (by kernel_rfl) (by kernel_rfl) (by kernel_rfl) (fun _ _ _ h => h) (Or.inl ⟨by rfl, ?hy12⟩) (by with_reducible assumption) ?rest12
      case hy12 => (intro wS hSw; (try dsimp only at hSw); (go_simp <;> with_reducible rfl))
      try simp only [Act.put, List.setIfInBounds_toArray, List.set_cons_zero, List.set_cons_succ]
      refine wpAnyH_take (i := 16) (oi := { dst := some 52, op := Op.indexAddr 37 (Operand.tmp 50) (Operand.tmp 51), type := 0, pos := "ref.go:141", after := #[{ on := 14, ground := Ground.data }, { on := 15, ground := Ground.data }], guard := none }) (v := ?v13) rfl (by kernel_rfl) (by kernel_rfl) (by kernel_rfl) (fun _ _ _ h => h) (Or.inl ⟨by rfl, ?hy13⟩) (by with_reducible assumption) ?rest13
      case hy13 => (intro wS hSw; (try dsimp only at hSw); (go_simp <;> with_reducible rfl))
      try simp only [Act.put, List.setIfInBounds_toArray, List.set_cons_zero, List.set_cons_succ]
      refine wpAnyH_take (i := 6) (oi := { dst := some 42, op := Op.load 47 (Operand.tmp 41), type := 47, pos := "ref.go:141", after := #[{ on := 5, ground := Ground.data }], guard := none }) (v := ?v14) rfl (by kernel_rfl) (by kernel_rfl) (by kernel_rfl) (fun _ _ _ h => h) (Or.inl ⟨by rfl, ?hy14⟩) (by with_reducible assumption) ?rest14
      case hy14 => (intro wS hSw; (try dsimp only at hSw); (go_simp <;> with_reducible rfl))
      try simp only [Act.put, List.setIfInBounds_toArray, List.set_cons_zero, List.set_cons_succ]
      refine wpAnyH_take (i := 11) (oi := { dst := some 47, op := Op.fieldAddr 47 (Operand.tmp 46) 1, type := 0, pos := "ref.go:141", after := #[{ on := 10, ground := Ground.data }], guard := none }) (v := ?v15) rfl (by kernel_rfl) (by kernel_rfl) (by kernel_rfl) (fun _ _ _ h => h) (Or.inl ⟨by rfl, ?hy15⟩) (by with_reducible assumption) ?rest15
      case hy15 => (intro wS hSw; (try dsimp only at hSw); (go_simp <;> with_reducible rfl))
      try simp only [Act.put, List.setIfInBounds_toArray, List.set_cons_zero, List.set_cons_succ]
      refine wpAnyH_take (i := 17) (oi := { dst := some 53, op := Op.fieldAddr 47 (Operand.tmp 52) 2, type := 0, pos := "ref.go:141", after := #[{ on := 16, ground := Ground.data }], guard := none }) (v := ?v16) rfl (by kernel_rfl) (by kernel_rfl) (by kernel_rfl) (fun _ _ _ h => h) (Or.inl ⟨by rfl, ?hy16⟩) (by with_reducible assumption) ?rest16
      case hy16 => (intro wS hSw; (try dsimp only at hSw); (go_simp <;> with_reducible rfl))
      try simp only [Act.put, List.setIfInBounds_toArray, List.set_cons_zero, List.set_cons_succ]
      refine wpAnyH_take (i := 12) (oi := { dst := some 48, op := Op.load 3 (Operand.tmp 47), type := 3, pos := "ref.go:141", after := #[{ on := 11, ground := Ground.data }], guard := none }) (v := ?v17) rfl (by kernel_rfl) (by kernel_rfl) (by kernel_rfl) (fun _ _ _ h => h) (Or.inl ⟨by rfl, ?hy17⟩) (by with_reducible assumption) ?rest17
      case hy17 => (intro wS hSw; (try dsimp only at hSw); (go_simp <;> with_reducible rfl))
      try simp only [Act.put, List.setIfInBounds_toArray, List.set_cons_zero, List.set_cons_succ]
      refine wpAnyH_take (i := 18) (oi := { dst := some 54, op := Op.load 3 (Operand.tmp 53), type := 3, pos := "ref.go:141", after := #[{ on := 17, ground := Ground.data }], guard := none }) (v := ?v18) rfl (by kernel_rfl) (by kernel_rfl) (by kernel_rfl) (fun _ _ _ h => h) (Or.inl ⟨by rfl, ?hy18⟩) (by with_reducible assumption) ?rest18
      case hy18 => (intro wS hSw; (try dsimp only at hSw); (go_simp <;> with_reducible rfl))
      try simp only [Act.put, List.setIfInBounds_toArray, List.set_cons_zero, List.set_cons_succ]
      refine wpAnyH_ready (rs := [1, 19]) (by kernel_rfl) (by simp) ?_
      refine AllReadyH.cons (o := { dst := some 37, op := Op.load 37 (Operand.tmp 36), type := 37, pos := "ref.go:141", after := #[{ on := 0, ground := Ground.data }], guard := none }) rfl (fun K hK => ?_) (AllReadyH.cons (o := { dst := some 55, op := Op.call { callee := Callee.value (Operand.func 26), args := #[Operand.tmp 42, Operand.tmp 48, Operand.tmp 54], argTypes := #[47, 3, 3] }, type := 47, pos := "ref.go:141", after := #[{ on := 6, ground := Ground.data }, { on := 12, ground := Ground.data }, { on := 18, ground := Ground.data }], guard := none }) rfl (fun K hK => ?_) AllReadyH.nil)
      · go_simp
        refine hK.out _ _ ?_ (fun hHeld => ?_)
        · (first | with_reducible assumption | exact ⟨p3, x0, x1, x2, x3, x4, x5⟩ | exact ⟨p3, d0, d1, d2, d3, d4, d5⟩ | (refine cells7_alloc ?_; with_reducible assumption) | (refine cells7_below h10.out ⟨hwB, hbB, hbB, hbB, hbB, hbB, hbB⟩ ?_; with_reducible assumption) | (refine cells7_far ⟨hwN, hbN, hbN, hbN, hbN, hbN, hbN⟩ ?_; with_reducible assumption))
        clear hK K
        refine wpAnyH_ready (rs := [19]) (by kernel_rfl) (by simp) ?_
        refine AllReadyH.cons (o := { dst := some 55, op := Op.call { callee := Callee.value (Operand.func 26), args := #[Operand.tmp 42, Operand.tmp 48, Operand.tmp 54], argTypes := #[47, 3, 3] }, type := 47, pos := "ref.go:141", after := #[{ on := 6, ground := Ground.data }, { on := 12, ground := Ground.data }, { on := 18, ground := Ground.data }], guard := none }) rfl (fun K hK => ?_) AllReadyH.nil
        go_simp; go_at_call 26; refine HC.out.mono ?_
        rintro e w8 ⟨_, rfl, hb8, ⟨fa, fc, ga, gc⟩, g8, c8, h8, d8, rfl, hO1, hO2, hne⟩
        have T8 := Lib.hid (Td.out.call hb8)
        have hb8' := ((Drawn.refl wr).drew).below.trans hb8
        have o8 := Lib.hid (own_to oT3.out hb8')
        have hz8 := hb8'.size
        have hS8 := Lib.hid (fun (w10 : World) (A4 : Option Addr) (c4 : Nat) (o : Obj) => hSn.out w8 w10 A4 c4 ⟨fa, fc, ga, gc⟩ g8 c8 h8 d8 o hb8 hO1 hO2 hne)
        have x0 := (hb8'.cell (p := ⟨bT, oT + i * 6, none⟩) hbTw).trans d0
        have x1 := (hb8'.cell (p := ⟨bT, oT + i * 6 + 1, none⟩) hbTw).trans d1
        have x2 := (hb8'.cell (p := ⟨bT, oT + i * 6 + 2, none⟩) hbTw).trans d2
        have x3 := (hb8'.cell (p := ⟨bT, oT + i * 6 + 3, none⟩) hbTw).trans d3
        have x4 := (hb8'.cell (p := ⟨bT, oT + i * 6 + 4, none⟩) hbTw).trans d4
        have x5 := (hb8'.cell (p := ⟨bT, oT + i * 6 + 5, none⟩) hbTw).trans d5
        clear z9 f9 n0 n1 n2 n3 zr fr r0 r1 r2 r3 zp fp p0 p1 p2 p3 hb8 hb8' hO1 hO2 hne
        obtain ⟨⟨z9, f9, n0, n1, n2, n3, -⟩, ⟨zr, fr, r0, r1, r2, r3, -⟩, ⟨zp, fp, p0, p1, p2, p3, -⟩, -⟩ := T8.out.facts
        refine hK.out _ _ ?_ (fun hHeld => ?_)
        · (first | with_reducible assumption | exact ⟨p3, x0, x1, x2, x3, x4, x5⟩ | exact ⟨p3, d0, d1, d2, d3, d4, d5⟩ | (refine cells7_alloc ?_; with_reducible assumption) | (refine cells7_below h10.out ⟨hwB, hbB, hbB, hbB, hbB, hbB, hbB⟩ ?_; with_reducible assumption) | (refine cells7_far ⟨hwN, hbN, hbN, hbN, hbN, hbN, hbN⟩ ?_; with_reducible assumption))
        clear hK K
        refine wpAnyH_ready (rs := [20]) (by kernel_rfl) (by simp) ?_
        refine AllReadyH.cons (o := { dst := some 56, op := Op.buildSlice 37 1 #[(0, Operand.tmp 55)], type := 37, pos := "ref.go:141", after := #[{ on := 19, ground := Ground.data }], guard := none }) rfl (fun K hK => ?_) AllReadyH.nil
        go_simp
        refine hK.out _ _ ?_ (fun hHeld => ?_)
        · (first | with_reducible assumption | exact ⟨p3, x0, x1, x2, x3, x4, x5⟩ | exact ⟨p3, d0, d1, d2, d3, d4, d5⟩ | (refine cells7_alloc ?_; with_reducible assumption) | (refine cells7_below h10.out ⟨hwB, hbB, hbB, hbB, hbB, hbB, hbB⟩ ?_; with_reducible assumption) | (refine cells7_far ⟨hwN, hbN, hbN, hbN, hbN, hbN, hbN⟩ ?_; with_reducible assumption))
        clear hK K
        refine wpAnyH_ready (rs := [21]) (by kernel_rfl) (by simp) ?_
        refine AllReadyH.cons (o := { dst := some 57, op := Op.call { callee := Callee.builtin Builtin.append, args := #[Operand.tmp 37, Operand.tmp 56], argTypes := #[37, 37] }, type := 37, pos := "ref.go:141", after := #[{ on := 1, ground := Ground.data }, { on := 20, ground := Ground.data }, { on := 19, ground := Ground.chain }], guard := none }) rfl (fun K hK => ?_) AllReadyH.nil
        refine step_arr elTab (by rfl) _ _ (by rfl) (w4.heap.size + 1) _ i _ (by with_reducible exact (o8.out.alloc _)) (by rfl) _ _ _ [.int .i64 kd, .int .i64 sr, .int .i64 ds, .bool aw, .slice fa ok.length fc, .slice ga rw_.length gc] (by rfl) (by rfl) (hone6.out fa ga fc gc) (by intro h; cases h) (whole_cells (Whole.new w8 _ _)) (by omega) (by omega) (by simp; omega) ?_
        intro v' w10 hown10 hg10 hb10
        obtain ⟨A4, c4, rfl, _⟩ := own_form hown10
        have hN := Lib.hid (hS8.out w10 A4 c4 _ hown10 hg10 hb10)
        have h10 := Lib.hid hb10
        have f10 := fm_under (T8.out.call ((Below.refl _ _).alloc (Nat.le_refl _) (.cells #[.int .i64 kd, .int .i64 sr, .int .i64 ds, .bool aw, .slice fa ok.length fc, .slice ga rw_.length gc] 47))) (B := w4.heap.size + 1) (by intro z hz; rcases List.mem_cons.1 hz with rfl | hz; exact Nat.lt_succ_self _; exact Nat.lt_succ_of_lt (hRb.out z hz)) (by omega) hb10
        clear z9 f9 n0 n1 n2 n3 zr fr r0 r1 r2 r3 zp fp p0 p1 p2 p3 hown10 hg10 hb10
        obtain ⟨⟨z9, f9, n0, n1, n2, n3, -⟩, ⟨zr, fr, r0, r1, r2, r3, -⟩, ⟨zp, fp, p0, p1, p2, p3, -⟩, -⟩ := f10.facts
        clear f10
        refine hK.out _ _ ?_ (fun hHeld => ?_)
        · (first | with_reducible assumption | exact ⟨p3, x0, x1, x2, x3, x4, x5⟩ | exact ⟨p3, d0, d1, d2, d3, d4, d5⟩ | (refine cells7_alloc ?_; with_reducible assumption) | (refine cells7_below h10.out ⟨hwB, hbB, hbB, hbB, hbB, hbB, hbB⟩ ?_; with_reducible assumption) | (refine cells7_far ⟨hwN, hbN, hbN, hbN, hbN, hbN, hbN⟩ ?_; with_reducible assumption))
        clear hK K
        refine wpAnyH_take (i := 22) (oi := { dst := some 58, op := Op.fieldAddr 39 (Operand.tmp 9) 3, type := 0, pos := "ref.go:141", after := #[{ on := 0, ground := Ground.phase }, { on := 1, ground := Ground.phase }, { on := 2, ground := Ground.phase }, { on := 3, ground := Ground.phase }, { on := 4, ground := Ground.phase }, { on := 5, ground := Ground.phase }, { on := 6, ground := Ground.phase }, { on := 7, ground := Ground.phase }, { on := 8, ground := Ground.phase }, { on := 9, ground := Ground.phase }, { on := 10, ground := Ground.phase }, { on := 11, ground := Ground.phase }, { on := 12, ground := Ground.phase }, { on := 13, ground := Ground.phase }, { on := 14, ground := Ground.phase }, { on := 15, ground := Ground.phase }, { on := 16, ground := Ground.phase }, { on := 17, ground := Ground.phase }, { on := 18, ground := Ground.phase }, { on := 19, ground := Ground.phase }, { on := 20, ground := Ground.phase }, { on := 21, ground := Ground.phase }], guard := none }) (v := ?v19) rfl (by kernel_rfl) (by kernel_rfl) (by kernel_rfl) (fun _ _ _ h => h) (Or.inl ⟨by rfl, ?hy19⟩) (by with_reducible assumption) ?rest19
        case hy19 => (intro wS hSw; (try dsimp only at hSw); (go_simp <;> with_reducible rfl))
        try simp only [Act.put, List.setIfInBounds_toArray, List.set_cons_zero, List.set_cons_succ]
        refine wpAnyH_ready (rs := [23]) (by kernel_rfl) (by simp) ?_
        refine AllReadyH.cons (o := { dst := none, op := Op.store 37 (Operand.tmp 58) (Operand.tmp 57), type := 0, pos := "ref.go:141", after := #[{ on := 22, ground := Ground.data }, { on := 21, ground := Ground.data }, { on := 21, ground := Ground.chain }, { on := 0, ground := Ground.phase }, { on := 1, ground := Ground.phase }, { on := 2, ground := Ground.phase }, { on := 3, ground := Ground.phase }, { on := 4, ground := Ground.phase }, { on := 5, ground := Ground.phase }, { on := 6, ground := Ground.phase }, { on := 7, ground := Ground.phase }, { on := 8, ground := Ground.phase }, { on := 9, ground := Ground.phase }, { on := 10, ground := Ground.phase }, { on := 11, ground := Ground.phase }, { on := 12, ground := Ground.phase }, { on := 13, ground := Ground.phase }, { on := 14, ground := Ground.phase }, { on := 15, ground := Ground.phase }, { on := 16, ground := Ground.phase }, { on := 17, ground := Ground.phase }, { on := 18, ground := Ground.phase }, { on := 19, ground := Ground.phase }, { on := 20, ground := Ground.phase }, { on := 21, ground := Ground.phase }], guard := none }) rfl (fun K hK => ?_) AllReadyH.nil
        go_simp
        refine hK.out _ _ ?_ (fun hHeld => ?_)
        · (first | with_reducible assumption | exact ⟨p3, x0, x1, x2, x3, x4, x5⟩ | exact ⟨p3, d0, d1, d2, d3, d4, d5⟩ | (refine cells7_alloc ?_; with_reducible assumption) | (refine cells7_below h10.out ⟨hwB, hbB, hbB, hbB, hbB, hbB, hbB⟩ ?_; with_reducible assumption) | (refine cells7_far ⟨hwN, hbN, hbN, hbN, hbN, hbN, hbN⟩ ?_; with_reducible assumption))
        clear hK K
        refine wpAnyH_done (by kernel_rfl) ?_ _
        clear z9 f9 n0 n1 n2 n3 zr fr r0 r1 r2 r3 zp fp p0 p1 p2 p3
        go_wp2
        go_roundw
        case rel => exact ⟨i + 1, A4, c4, _, _, _, _, _, _, by go_num, by omega, hN⟩
        case measure => simp [intOf]; omega
      · go_simp; go_at_call 26; refine HC.out.mono ?_
        rintro e w8 ⟨_, rfl, hb8, ⟨fa, fc, ga, gc⟩, g8, c8, h8, d8, rfl, hO1, hO2, hne⟩
        have T8 := Lib.hid (Td.out.call hb8)
        have hb8' := ((Drawn.refl wr).drew).below.trans hb8
        have o8 := Lib.hid (own_to oT3.out hb8')
        have hz8 := hb8'.size
        have hS8 := Lib.hid (fun (w10 : World) (A4 : Option Addr) (c4 : Nat) (o : Obj) => hSn.out w8 w10 A4 c4 ⟨fa, fc, ga, gc⟩ g8 c8 h8 d8 o hb8 hO1 hO2 hne)
        have x0 := (hb8'.cell (p := ⟨bT, oT + i * 6, none⟩) hbTw).trans d0
        have x1 := (hb8'.cell (p := ⟨bT, oT + i * 6 + 1, none⟩) hbTw).trans d1
        have x2 := (hb8'.cell (p := ⟨bT, oT + i * 6 + 2, none⟩) hbTw).trans d2
        have x3 := (hb8'.cell (p := ⟨bT, oT + i * 6 + 3, none⟩) hbTw).trans d3
        have x4 := (hb8'.cell (p := ⟨bT, oT + i * 6 + 4, none⟩) hbTw).trans d4
        have x5 := (hb8'.cell (p := ⟨bT, oT + i * 6 + 5, none⟩) hbTw).trans d5
        clear z9 f9 n0 n1 n2 n3 zr fr r0 r1 r2 r3 zp fp p0 p1 p2 p3 hb8 hb8' hO1 hO2 hne
        obtain ⟨⟨z9, f9, n0, n1, n2, n3, -⟩, ⟨zr, fr, r0, r1, r2, r3, -⟩, ⟨zp, fp, p0, p1, p2, p3, -⟩, -⟩ := T8.out.facts
        refine hK.out _ _ ?_ (fun hHeld => ?_)
        · (first | with_reducible assumption | exact ⟨p3, x0, x1, x2, x3, x4, x5⟩ | exact ⟨p3, d0, d1, d2, d3, d4, d5⟩ | (refine cells7_alloc ?_; with_reducible assumption) | (refine cells7_below h10.out ⟨hwB, hbB, hbB, hbB, hbB, hbB, hbB⟩ ?_; with_reducible assumption) | (refine cells7_far ⟨hwN, hbN, hbN, hbN, hbN, hbN, hbN⟩ ?_; with_reducible assumption))
        clear hK K
        refine wpAnyH_ready (rs := [1, 20]) (by kernel_rfl) (by simp) ?_
        refine AllReadyH.cons (o := { dst := some 37, op := Op.load 37 (Operand.tmp 36), type := 37, pos := "ref.go:141", after := #[{ on := 0, ground := Ground.data }], guard := none }) rfl (fun K hK => ?_) (AllReadyH.cons (o := { dst := some 56, op := Op.buildSlice 37 1 #[(0, Operand.tmp 55)], type := 37, pos := "ref.go:141", after := #[{ on := 19, ground := Ground.data }], guard := none }) rfl (fun K hK => ?_) AllReadyH.nil)
        · go_simp
          refine hK.out _ _ ?_ (fun hHeld => ?_)
          · (first | with_reducible assumption | exact ⟨p3, x0, x1, x2, x3, x4, x5⟩ | exact ⟨p3, d0, d1, d2, d3, d4, d5⟩ | (refine cells7_alloc ?_; with_reducible assumption) | (refine cells7_below h10.out ⟨hwB, hbB, hbB, hbB, hbB, hbB, hbB⟩ ?_; with_reducible assumption) | (refine cells7_far ⟨hwN, hbN, hbN, hbN, hbN, hbN, hbN⟩ ?_; with_reducible assumption))
          clear hK K
          refine wpAnyH_ready (rs := [20]) (by kernel_rfl) (by simp) ?_
          refine AllReadyH.cons (o := { dst := some 56, op := Op.buildSlice 37 1 #[(0, Operand.tmp 55)], type := 37, pos := "ref.go:141", after := #[{ on := 19, ground := Ground.data }], guard := none }) rfl (fun K hK => ?_) AllReadyH.nil
          go_simp
          refine hK.out _ _ ?_ (fun hHeld => ?_)
          · (first | with_reducible assumption | exact ⟨p3, x0, x1, x2, x3, x4, x5⟩ | exact ⟨p3, d0, d1, d2, d3, d4, d5⟩ | (refine cells7_alloc ?_; with_reducible assumption) | (refine cells7_below h10.out ⟨hwB, hbB, hbB, hbB, hbB, hbB, hbB⟩ ?_; with_reducible assumption) | (refine cells7_far ⟨hwN, hbN, hbN, hbN, hbN, hbN, hbN⟩ ?_; with_reducible assumption))
          clear hK K
          refine wpAnyH_ready (rs := [21]) (by kernel_rfl) (by simp) ?_
          refine AllReadyH.cons (o := { dst := some 57, op := Op.call { callee := Callee.builtin Builtin.append, args := #[Operand.tmp 37, Operand.tmp 56], argTypes := #[37, 37] }, type := 37, pos := "ref.go:141", after := #[{ on := 1, ground := Ground.data }, { on := 20, ground := Ground.data }, { on := 19, ground := Ground.chain }], guard := none }) rfl (fun K hK => ?_) AllReadyH.nil
          refine step_arr elTab (by rfl) _ _ (by rfl) (w4.heap.size + 1) _ i _ (by with_reducible exact (o8.out.alloc _)) (by rfl) _ _ _ [.int .i64 kd, .int .i64 sr, .int .i64 ds, .bool aw, .slice fa ok.length fc, .slice ga rw_.length gc] (by rfl) (by rfl) (hone6.out fa ga fc gc) (by intro h; cases h) (whole_cells (Whole.new w8 _ _)) (by omega) (by omega) (by simp; omega) ?_
          intro v' w10 hown10 hg10 hb10
          obtain ⟨A4, c4, rfl, _⟩ := own_form hown10
          have hN := Lib.hid (hS8.out w10 A4 c4 _ hown10 hg10 hb10)
          have h10 := Lib.hid hb10
          have f10 := fm_under (T8.out.call ((Below.refl _ _).alloc (Nat.le_refl _) (.cells #[.int .i64 kd, .int .i64 sr, .int .i64 ds, .bool aw, .slice fa ok.length fc, .slice ga rw_.length gc] 47))) (B := w4.heap.size + 1) (by intro z hz; rcases List.mem_cons.1 hz with rfl | hz; exact Nat.lt_succ_self _; exact Nat.lt_succ_of_lt (hRb.out z hz)) (by omega) hb10
          clear z9 f9 n0 n1 n2 n3 zr fr r0 r1 r2 r3 zp fp p0 p1 p2 p3 hown10 hg10 hb10
          obtain ⟨⟨z9, f9, n0, n1, n2, n3, -⟩, ⟨zr, fr, r0, r1, r2, r3, -⟩, ⟨zp, fp, p0, p1, p2, p3, -⟩, -⟩ := f10.facts
          clear f10
          refine hK.out _ _ ?_ (fun hHeld => ?_)
          · (first | with_reducible assumption | exact ⟨p3, x0, x1, x2, x3, x4, x5⟩ | exact ⟨p3, d0, d1, d2, d3, d4, d5⟩ | (refine cells7_alloc ?_; with_reducible assumption) | (refine cells7_below h10.out ⟨hwB, hbB, hbB, hbB, hbB, hbB, hbB⟩ ?_; with_reducible assumption) | (refine cells7_far ⟨hwN, hbN, hbN, hbN, hbN, hbN, hbN⟩ ?_; with_reducible assumption))
          clear hK K
          refine wpAnyH_take (i := 22) (oi := { dst := some 58, op := Op.fieldAddr 39 (Operand.tmp 9) 3, type := 0, pos := "ref.go:141", after := #[{ on := 0, ground := Ground.phase }, { on := 1, ground := Ground.phase }, { on := 2, ground := Ground.phase }, { on := 3, ground := Ground.phase }, { on := 4, ground := Ground.phase }, { on := 5, ground := Ground.phase }, { on := 6, ground := Ground.phase }, { on := 7, ground := Ground.phase }, { on := 8, ground := Ground.phase }, { on := 9, ground := Ground.phase }, { on := 10, ground := Ground.phase }, { on := 11, ground := Ground.phase }, { on := 12, ground := Ground.phase }, { on := 13, ground := Ground.phase }, { on := 14, ground := Ground.phase }, { on := 15, ground := Ground.phase }, { on := 16, ground := Ground.phase }, { on := 17, ground := Ground.phase }, { on := 18, ground := Ground.phase }, { on := 19, ground := Ground.phase }, { on := 20, ground := Ground.phase }, { on := 21, ground := Ground.phase }], guard := none }) (v := ?v20) rfl (by kernel_rfl) (by kernel_rfl) (by kernel_rfl) (fun _ _ _ h => h) (Or.inl ⟨by rfl, ?hy20⟩) (by with_reducible assumption) ?rest20
          case hy20 => (intro wS hSw; (try dsimp only at hSw); (go_simp <;> with_reducible rfl))
          try simp only [Act.put, List.setIfInBounds_toArray, List.set_cons_zero, List.set_cons_succ]
          refine wpAnyH_ready (rs := [23]) (by kernel_rfl) (by simp) ?_
          refine AllReadyH.cons (o := { dst := none, op := Op.store 37 (Operand.tmp 58) (Operand.tmp 57), type := 0, pos := "ref.go:141", after := #[{ on := 22, ground := Ground.data }, { on := 21, ground := Ground.data }, { on := 21, ground := Ground.chain }, { on := 0, ground := Ground.phase }, { on := 1, ground := Ground.phase }, { on := 2, ground := Ground.phase }, { on := 3, ground := Ground.phase }, { on := 4, ground := Ground.phase }, { on := 5, ground := Ground.phase }, { on := 6, ground := Ground.phase }, { on := 7, ground := Ground.phase }, { on := 8, ground := Ground.phase }, { on := 9, ground := Ground.phase }, { on := 10, ground := Ground.phase }, { on := 11, ground := Ground.phase }, { on := 12, ground := Ground.phase }, { on := 13, ground := Ground.phase }, { on := 14, ground := Ground.phase }, { on := 15, ground := Ground.phase }, { on := 16, ground := Ground.phase }, { on := 17, ground := Ground.phase }, { on := 18, ground := Ground.phase }, { on := 19, ground := Ground.phase }, { on := 20, ground := Ground.phase }, { on := 21, ground := Ground.phase }], guard := none }) rfl (fun K hK => ?_) AllReadyH.nil
          go_simp
          refine hK.out _ _ ?_ (fun hHeld => ?_)
          · (first | with_reducible assumption | exact ⟨p3, x0, x1, x2, x3, x4, x5⟩ | exact ⟨p3, d0, d1, d2, d3, d4, d5⟩ | (refine cells7_alloc ?_; with_reducible assumption) | (refine cells7_below h10.out ⟨hwB, hbB, hbB, hbB, hbB, hbB, hbB⟩ ?_; with_reducible assumption) | (refine cells7_far ⟨hwN, hbN, hbN, hbN, hbN, hbN, hbN⟩ ?_; with_reducible assumption))
          clear hK K
          refine wpAnyH_done (by kernel_rfl) ?_ _
          clear z9 f9 n0 n1 n2 n3 zr fr r0 r1 r2 r3 zp fp p0 p1 p2 p3
          go_wp2
          go_roundw
          case rel => exact ⟨i + 1, A4, c4, _, _, _, _, _, _, by go_num, by omega, hN⟩
          case measure => simp [intOf]; omega
        · go_simp
          refine hK.out _ _ ?_ (fun hHeld => ?_)
          · (first | with_reducible assumption | exact ⟨p3, x0, x1, x2, x3, x4, x5⟩ | exact ⟨p3, d0, d1, d2, d3, d4, d5⟩ | (refine cells7_alloc ?_; with_reducible assumption) | (refine cells7_below h10.out ⟨hwB, hbB, hbB, hbB, hbB, hbB, hbB⟩ ?_; with_reducible assumption) | (refine cells7_far ⟨hwN, hbN, hbN, hbN, hbN, hbN, hbN⟩ ?_; with_reducible assumption))
          clear hK K
          refine wpAnyH_ready (rs := [1]) (by kernel_rfl) (by simp) ?_
          refine AllReadyH.cons (o := { dst := some 37, op := Op.load 37 (Operand.tmp 36), type := 37, pos := "ref.go:141", after := #[{ on := 0, ground := Ground.data }], guard := none }) rfl (fun K hK => ?_) AllReadyH.nil
          go_simp
          refine hK.out _ _ ?_ (fun hHeld => ?_)
          · (first | with_reducible assumption | exact ⟨p3, x0, x1, x2, x3, x4, x5⟩ | exact ⟨p3, d0, d1, d2, d3, d4, d5⟩ | (refine cells7_alloc ?_; with_reducible assumption) | (refine cells7_below h10.out ⟨hwB, hbB, hbB, hbB, hbB, hbB, hbB⟩ ?_; with_reducible assumption) | (refine cells7_far ⟨hwN, hbN, hbN, hbN, hbN, hbN, hbN⟩ ?_; with_reducible assumption))
          clear hK K
          refine wpAnyH_ready (rs := [21]) (by kernel_rfl) (by simp) ?_
          refine AllReadyH.cons (o := { dst := some 57, op := Op.call { callee := Callee.builtin Builtin.append, args := #[Operand.tmp 37, Operand.tmp 56], argTypes := #[37, 37] }, type := 37, pos := "ref.go:141", after := #[{ on := 1, ground := Ground.data }, { on := 20, ground := Ground.data }, { on := 19, ground := Ground.chain }], guard := none }) rfl (fun K hK => ?_) AllReadyH.nil
          refine step_arr elTab (by rfl) _ _ (by rfl) (w4.heap.size + 1) _ i _ (by with_reducible exact (o8.out.alloc _)) (by rfl) _ _ _ [.int .i64 kd, .int .i64 sr, .int .i64 ds, .bool aw, .slice fa ok.length fc, .slice ga rw_.length gc] (by rfl) (by rfl) (hone6.out fa ga fc gc) (by intro h; cases h) (whole_cells (Whole.new w8 _ _)) (by omega) (by omega) (by simp; omega) ?_
          intro v' w10 hown10 hg10 hb10
          obtain ⟨A4, c4, rfl, _⟩ := own_form hown10
          have hN := Lib.hid (hS8.out w10 A4 c4 _ hown10 hg10 hb10)
          have h10 := Lib.hid hb10
          have f10 := fm_under (T8.out.call ((Below.refl _ _).alloc (Nat.le_refl _) (.cells #[.int .i64 kd, .int .i64 sr, .int .i64 ds, .bool aw, .slice fa ok.length fc, .slice ga rw_.length gc] 47))) (B := w4.heap.size + 1) (by intro z hz; rcases List.mem_cons.1 hz with rfl | hz; exact Nat.lt_succ_self _; exact Nat.lt_succ_of_lt (hRb.out z hz)) (by omega) hb10
          clear z9 f9 n0 n1 n2 n3 zr fr r0 r1 r2 r3 zp fp p0 p1 p2 p3 hown10 hg10 hb10
          obtain ⟨⟨z9, f9, n0, n1, n2, n3, -⟩, ⟨zr, fr, r0, r1, r2, r3, -⟩, ⟨zp, fp, p0, p1, p2, p3, -⟩, -⟩ := f10.facts
          clear f10
          refine hK.out _ _ ?_ (fun hHeld => ?_)
          · (first | with_reducible assumption | exact ⟨p3, x0, x1, x2, x3, x4, x5⟩ | exact ⟨p3, d0, d1, d2, d3, d4, d5⟩ | (refine cells7_alloc ?_; with_reducible assumption) | (refine cells7_below h10.out ⟨hwB, hbB, hbB, hbB, hbB, hbB, hbB⟩ ?_; with_reducible assumption) | (refine cells7_far ⟨hwN, hbN, hbN, hbN, hbN, hbN, hbN⟩ ?_; with_reducible assumption))
          clear hK K
          refine wpAnyH_take (i := 22) (oi := { dst := some 58, op := Op.fieldAddr 39 (Operand.tmp 9) 3, type := 0, pos := "ref.go:141", after := #[{ on := 0, ground := Ground.phase }, { on := 1, ground := Ground.phase }, { on := 2, ground := Ground.phase }, { on := 3, ground := Ground.phase }, { on := 4, ground := Ground.phase }, { on := 5, ground := Ground.phase }, { on := 6, ground := Ground.phase }, { on := 7, ground := Ground.phase }, { on := 8, ground := Ground.phase }, { on := 9, ground := Ground.phase }, { on := 10, ground := Ground.phase }, { on := 11, ground := Ground.phase }, { on := 12, ground := Ground.phase }, { on := 13, ground := Ground.phase }, { on := 14, ground := Ground.phase }, { on := 15, ground := Ground.phase }, { on := 16, ground := Ground.phase }, { on := 17, ground := Ground.phase }, { on := 18, ground := Ground.phase }, { on := 19, ground := Ground.phase }, { on := 20, ground := Ground.phase }, { on := 21, ground := Ground.phase }], guard := none }) (v := ?v21) rfl (by kernel_rfl) (by kernel_rfl) (by kernel_rfl) (fun _ _ _ h => h) (Or.inl ⟨by rfl, ?hy21⟩) (by with_reducible assumption) ?rest21
          case hy21 => (intro wS hSw; (try dsimp only at hSw); (go_simp <;> with_reducible rfl))
          try simp only [Act.put, List.setIfInBounds_toArray, List.set_cons_zero, List.set_cons_succ]
          refine wpAnyH_ready (rs := [23]) (by kernel_rfl) (by simp) ?_
          refine AllReadyH.cons (o := { dst := none, op := Op.store 37 (Operand.tmp 58) (Operand.tmp 57), type := 0, pos := "ref.go:141", after := #[{ on := 22, ground := Ground.data }, { on := 21, ground := Ground.data }, { on := 21, ground := Ground.chain }, { on := 0, ground := Ground.phase }, { on := 1, ground := Ground.phase }, { on := 2, ground := Ground.phase }, { on := 3, ground := Ground.phase }, { on := 4, ground := Ground.phase }, { on := 5, ground := Ground.phase }, { on := 6, ground := Ground.phase }, { on := 7, ground := Ground.phase }, { on := 8, ground := Ground.phase }, { on := 9, ground := Ground.phase }, { on := 10, ground := Ground.phase }, { on := 11, ground := Ground.phase }, { on := 12, ground := Ground.phase }, { on := 13, ground := Ground.phase }, { on := 14, ground := Ground.phase }, { on := 15, ground := Ground.phase }, { on := 16, ground := Ground.phase }, { on := 17, ground := Ground.phase }, { on := 18, ground := Ground.phase }, { on := 19, ground := Ground.phase }, { on := 20, ground := Ground.phase }, { on := 21, ground := Ground.phase }], guard := none }) rfl (fun K hK => ?_) AllReadyH.nil
          go_simp
          refine hK.out _ _ ?_ (fun hHeld => ?_)
          · (first | with_reducible assumption | exact ⟨p3, x0, x1, x2, x3, x4, x5⟩ | exact ⟨p3, d0, d1, d2, d3, d4, d5⟩ | (refine cells7_alloc ?_; with_reducible assumption) | (refine cells7_below h10.out ⟨hwB, hbB, hbB, hbB, hbB, hbB, hbB⟩ ?_; with_reducible assumption) | (refine cells7_far ⟨hwN, hbN, hbN, hbN, hbN, hbN, hbN⟩ ?_; with_reducible assumption))
          clear hK K
          refine wpAnyH_done (by kernel_rfl) ?_ _
          clear z9 f9 n0 n1 n2 n3 zr fr r0 r1 r2 r3 zp fp p0 p1 p2 p3
          go_wp2
          go_roundw
          case rel => exact ⟨i + 1, A4, c4, _, _, _, _, _, _, by go_num, by omega, hN⟩
          case measure => simp [intOf]; omega
    · obtain rfl : i = p.tabs.length := by omega
      clear hlt
      have hPX : PX wr W.heap.size p ⟨A0, c0, A1, c1, A2, c2, A3, c3⟩ F G C H D L := ⟨hL.out.o0, hL.out.o1, hL.out.o2, own_base hL.out.o3 (by omega), hL.out.mm.base (by omega)⟩
      have HV3 := Lib.hid (HV2.out ⟨A0, c0, A1, c1, A2, c2, A3, c3⟩ wr hPX.po.prob)
      have S9 := Lib.hid hL.out.fm
      replace hPX := Lib.hid hPX
      clear hL
      go_wp2_with fail
      with_reducible refine HV3.out.mono ?_
      rintro e w9 ⟨rfl, hb9⟩
      have S10 := S9.out.call hb9
      have hP9 := hPX.out.to hb9
      clear z9 f9 n0 n1 n2 n3 zr fr r0 r1 r2 r3 zp fp p0 p1 p2 p3 hb9 hPX S9
      obtain ⟨⟨z9, f9, n0, n1, n2, n3, -⟩, ⟨zr, fr, r0, r1, r2, r3, -⟩, ⟨zp, fp, p0, p1, p2, p3, -⟩, -⟩ := S10.facts
      have S11 := Lib.hid ((((S10.set 1 rfl 0 (.slice A0 p.vs.length c0)).set 1 rfl 1 (.slice A1 p.now.length c1)).set 1 rfl 2 (.slice A2 p.tgt.length c2)).set 1 rfl 3 (.slice A3 p.tabs.length c3))
      have hP11 := Lib.hid (((((hP9.far (b := w.heap.size + 1) (by rw [hWs.out]; omega) 0 (.slice A0 p.vs.length c0)).far (b := w.heap.size + 1) (by rw [hWs.out]; omega) 1 (.slice A1 p.now.length c1)).far (b := w.heap.size + 1) (by rw [hWs.out]; omega) 2 (.slice A2 p.tgt.length c2)).far (b := w.heap.size + 1) (by rw [hWs.out]; omega) 3 (.slice A3 p.tabs.length c3)).base (B' := w.heap.size) (by rw [hWs.out]; omega))
      clear S10 hP9
      go_wp2
      clear z9 f9 n0 n1 n2 n3 zr fr r0 r1 r2 r3 zp fp p0 p1 p2 p3
      obtain ⟨-, ⟨zr, fr, r0, r1, r2, r3, -⟩, -⟩ := S11.out.facts
      refine bodyPost_ret (v := .tuple #[probV p ⟨A0, c0, A1, c1, A2, c2, A3, c3⟩, .int .i64 0]) (by simp [results, Try.results10, go_sem, r0, r1, r2, r3]) rfl ?_
      exact Ret.mk ⟨S11.out.bel, ⟨A0, c0, A1, c1, A2, c2, A3, c3⟩, F, G, C, H, D, L, rfl, hP11.out⟩
end Go.Proofs.Ytickckehhfdoeaa
