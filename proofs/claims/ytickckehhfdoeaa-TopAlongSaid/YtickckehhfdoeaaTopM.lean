/-
  CONTRACTS of plan.Find, of split.Valid and Count, of slices.Equal at equal steps.
  Conditions: those that each theorem names.
-/
import Derived.Test.YtickckehhfdoeaaTopL
namespace Go.Sv
open Go.RowKit
/-! ### the example -/
theorem ex46b : (rgAll st46 ap46 (robB p46) 20000 20001 0 (rgStart ⟨[0, 0], [-1, -1], [0]⟩)).bind (fun g => findW p46 g.nds) = some [⟨1, 1, 1⟩, ⟨2, 1, 0⟩, ⟨1, 0, 1⟩, ⟨2, 0, 0⟩] := by decide +kernel
section
variable {ap ap' : Mx → Sp → Mx} {rob : Mx → Bool} {most : Nat}
theorem step_nd {i : Nat} {g : Rg} {s : Sp} (hi : i < g.nds.length) : ndAt (rgStep ap rob i g s).nds i = ndAt g.nds i := by
  unfold rgStep
  dsimp only
  split
  · rfl
  · split
    · simp [ndAt, List.getElem?_append_left hi]
    · rfl
theorem row_same : ∀ (l : List Sp) (i : Nat) (g : Rg), i < g.nds.length → (∀ s ∈ l, ap (ndAt g.nds i).m s = ap' (ndAt g.nds i).m s) → rgRow ap rob most i g l = rgRow ap' rob most i g l
  | [], i, g, _, _ => by rw [rgRow, rgRow]
  | s :: r, i, g, hi, h => by
    have e : rgStep ap rob i g s = rgStep ap' rob i g s := by unfold rgStep; rw [h s (List.mem_cons_self ..)]
    have hn := step_nd (ap := ap) (rob := rob) (s := s) hi
    have hl := step_len (ap := ap) (rob := rob) i g s
    rw [rgRow, rgRow, ← e]
    rw [row_same r i _ (Nat.lt_of_lt_of_le hi hl) (fun t ht => by rw [hn]; exact h t (List.mem_cons_of_mem _ ht))]
theorem all_same {st : Mx → List Sp} (h : ∀ m, ∀ s ∈ st m, ap m s = ap' m s) : ∀ (f i : Nat) (g : Rg), rgAll st ap rob most f i g = rgAll st ap' rob most f i g
  | 0, i, g => by rw [rgAll, rgAll]
  | f + 1, i, g => by
    rw [rgAll, rgAll]
    split
    · rename_i hi
      rw [row_same _ i g hi (h _)]
      cases rgRow ap' rob most i g (st (ndAt g.nds i).m) with
      | none => rfl
      | some x => exact all_same h f (i + 1) x
    · rfl
end
theorem p46_ns : ∀ i, stored (tab p46.tabs i) = false := fun i => by
  match i with
  | 0 => decide
  | i + 1 => rfl
end Go.Sv
namespace Go.Proofs.Ytickckehhfdoeaa
open Go.RowKit Go.Sv
theorem st46_is (m : Mx) : stR p46 m = st46 m := by
  unfold stR st46
  refine filter_congr' fun s _ => ?_
  unfold aftB
  rw [aft_none p46_ns]
theorem ap46_is (hp : probE p46 = 0) (m : Mx) (s : Sp) (h : s ∈ stR p46 m) : apM p46 m s = ap46 m s := by
  unfold apM ap46
  rw [if_pos (st_ok hp h), aft_none p46_ns]
theorem fr46 (hp : probE p46 = 0) : frO p46 (stMx p46) = ([⟨1, 1, 1⟩, ⟨2, 1, 0⟩, ⟨1, 0, 1⟩, ⟨2, 0, 0⟩], 0) := by
  have e0 : stMx p46 = ⟨[0, 0], [-1, -1], [0]⟩ := by decide
  have e1 : robB p46 (stMx p46) = true := by rw [e0]; decide +kernel
  have e2 : regL p46 (stMx p46) = rgAll st46 ap46 (robB p46) 20000 20001 0 (rgStart ⟨[0, 0], [-1, -1], [0]⟩) := by
    unfold regL
    rw [all_same (ap' := ap46) (fun m s h => ap46_is hp m s h), e0]
    have : stR p46 = st46 := funext st46_is
    rw [this]
  have hx := ex46b
  obtain ⟨o, ho⟩ : ∃ o, rgAll st46 ap46 (robB p46) 20000 20001 0 (rgStart ⟨[0, 0], [-1, -1], [0]⟩) = o := ⟨_, rfl⟩
  rw [ho] at hx e2
  clear ho
  unfold frO
  rw [if_neg (by rw [e1]; decide), e2]
  cases o with
  | none => cases hx
  | some g =>
    rw [Option.bind_some] at hx
    unfold findW at hx
    dsimp only
    unfold ixO
    cases hi : g.nds.findIdx? (fun n => goalB p46 n.m) with
    | none => rw [hi] at hx; cases hx
    | some i =>
      rw [hi] at hx
      have hx2 : some (wayB g.nds g.nds.length (i : Int)).reverse = some [⟨1, 1, 1⟩, ⟨2, 1, 0⟩, ⟨1, 0, 1⟩, ⟨2, 0, 0⟩] := hx
      have hx3 := Option.some.inj hx2
      show ((wayB g.nds g.nds.length (i : Int)).reverse, (0 : Int)) = _
      rw [hx3]
set_option maxHeartbeats 2000000 in
set_option maxRecDepth 100000 in
theorem find_any (p : Prob) (q : ProbP) (w : World) (hp : RProb w w.heap.size p q) (hbd : PBd p) (h0 : probE p = 0) (hn1 : q.a1 = none → p.now.length = 0 ∧ q.c1 = 0) :
    Calls Try.prog 11 #[probV p q] w (Ret (StR w (frO p (stMx p)).1 (frO p (stMx p)).2)) := by
  have S := (Fm.init w).box 39 [.slice q.a0 p.vs.length q.c0, .slice q.a1 p.now.length q.c1, .slice q.a2 p.tgt.length q.c2, .slice q.a3 p.tabs.length q.c3]
  obtain ⟨W, hW, S⟩ : ∃ W, w.alloc (.cells #[.slice q.a0 p.vs.length q.c0, .slice q.a1 p.now.length q.c1, .slice q.a2 p.tgt.length q.c2, .slice q.a3 p.tabs.length q.c3] 39) = W ∧ Fm w W _ _ := ⟨_, rfl, S⟩
  have hpW := hp.to S.bel
  have HS := Lib.hid (start0_any p q W hpW hbd h0 hn1)
  have HF := Lib.hid (fun (qm : MixP) (W2 : World) (h : Below W.heap.size W W2) (hm : RMix W2 W2.heap.size (stMx p) qm) (hmb : MBd (stMx p) qm) => from_any p q (stMx p) qm W2 (hpW.to h) hbd hm hmb (stMx_ok h0))
  have h8 := Lib.hid (stMx_h8 h0)
  obtain ⟨m, hm⟩ : ∃ m, stMx p = m := ⟨_, rfl⟩
  rw [hm] at HS HF h8 ⊢
  obtain ⟨qa0, qc0, qa1, qc1, qa2, qc2, qa3, qc3⟩ := q
  dsimp only at HS HF hW S ⊢
  obtain ⟨⟨r2, f2, r20, r21, r22, r23, -⟩, -⟩ := S.facts
  have SW := Lib.hid S
  clear S hp hbd h0 hn1 hpW hm
  go_enter Try.func11, Try.ntmps11
  go_wp2_with fail
  clear hW
  with_reducible refine HS.out.mono ?_
  rintro e w1 ⟨_, rfl, hb1, ⟨a0, c0, a1, c1, a2, c2⟩, rfl, ha⟩
  have S1 := SW.out.call hb1
  obtain ⟨W2, (hW2 : w1.alloc (.cells #[.slice a0 m.base.length c0, .slice a1 m.next.length c1, .slice a2 m.held.length c2] 56) = W2), S2, hB2⟩ := fm_boxE S1 56 [.slice a0 m.base.length c0, .slice a1 m.next.length c1, .slice a2 m.held.length c2]
  have ha2 := ha.to hB2
  have HF2 := Lib.hid (HF.out ⟨a0, c0, a1, c1, a2, c2⟩ W2 (hb1.trans (hB2.mono hb1.size)) ha2.mix (ha2.bd h8.out))
  clear r2 f2 r20 r21 r22 r23 HS HF
  obtain ⟨⟨z1, g1, z10, z11, z12, -⟩, ⟨r2, f2, r20, r21, r22, r23, -⟩, -⟩ := S2.facts
  replace S2 := Lib.hid S2
  replace hb1 := Lib.hid hb1
  clear ha ha2 S1 hB2
  go_wp2_with fail
  clear hW2
  with_reducible refine HF2.out.mono ?_
  rintro e w3 ⟨_, rfl, hb3, A, c, rfl, hown⟩
  have hP : Hid (StR w (frO p m).1 (frO p m).2 (.tuple #[.slice A (frO p m).1.length c, .int .i64 (frO p m).2]) w3) := Lib.hid ⟨S2.out.bel.trans (hb3.mono S2.out.bel.size), A, c, rfl, own_base hown S2.out.bel.size⟩
  obtain ⟨L, hL⟩ : ∃ L, frO p m = L := ⟨_, rfl⟩
  rw [hL] at hP
  rw [hL]
  obtain ⟨l, er⟩ := L
  dsimp only at hP ⊢
  replace hL := Lib.hid hL
  clear hown hb3 z1 g1 z10 z11 z12 r2 f2 r20 r21 r22 r23
  go_wp2
  go_ret2
  exact Ret.mk (by rw [hL.out]; exact hP.out)
/-! ### split -/
def okSp (a b : Int) : Prop := 0 ≤ a ∧ a ≤ b ∧ 1 ≤ b ∧ b ≤ 10000
theorem svld_ok (a b : Int) (w : World) (h : okSp a b) :
    Calls Try.prog 7 #[.int .i64 a, .int .i64 b] w fun e w' => e = .returned (.int .i64 0) ∧ w = w' := by
  obtain ⟨h1, h2, h3, h4⟩ := h
  go_enter Try.func7, Try.ntmps7
  go_wp2
  go_ret
  exact ⟨rfl, rfl⟩
theorem svld_bad (a b : Int) (w : World) (h : ¬ okSp a b) :
    Calls Try.prog 7 #[.int .i64 a, .int .i64 b] w fun e w' => e = .returned (.int .i64 7) ∧ w = w' := by
  unfold okSp at h
  by_cases h1 : a < 0
  · go_enter Try.func7, Try.ntmps7
    go_wp2
    go_ret
    exact ⟨rfl, rfl⟩
  by_cases h2 : b < a
  · go_enter Try.func7, Try.ntmps7
    go_wp2
    go_ret
    exact ⟨rfl, rfl⟩
  by_cases h3 : b < 1
  · go_enter Try.func7, Try.ntmps7
    go_wp2
    go_ret
    exact ⟨rfl, rfl⟩
  have h4 : 10000 < b := by omega
  clear h
  go_enter Try.func7, Try.ntmps7
  go_wp2
  go_ret
  exact ⟨rfl, rfl⟩
theorem snum_ok (a b n : Int) (w : World) (h : okSp a b) (h0 : 0 ≤ n) (h1 : n ≤ 1000000000000) :
    Calls Try.prog 23 #[.int .i64 a, .int .i64 b, .int .i64 n] w fun e w' => e = .returned (.int .i64 0) ∧ w = w' := by
  have H := Lib.hid (svld_ok a b w h)
  clear h
  go_enter Try.func23, Try.ntmps23
  go_wp2_with fail
  with_reducible refine H.out.mono ?_
  rintro e w' ⟨rfl, rfl⟩
  go_wp2
  go_ret
  exact ⟨rfl, rfl⟩
theorem mul_bd (a k : Int) (h1 : 0 ≤ a) (h2 : a ≤ 10000) (h3 : 0 ≤ k) (h4 : k ≤ 1000000000001) : 0 ≤ k * a ∧ k * a ≤ 10000000000010000 := by
  refine ⟨Int.mul_nonneg h3 h1, ?_⟩
  have := Int.mul_le_mul h4 h2 h1 (by omega)
  omega
theorem scnt_ok (a b k : Int) (w : World) (h : okSp a b) (h0 : 0 ≤ k) (h1 : k ≤ 1000000000000) :
    Calls Try.prog 8 #[.int .i64 a, .int .i64 b, .int .i64 k] w fun e w' => e = .returned (.tuple #[.int .i64 (k * a / b), .int .i64 0]) ∧ w = w' := by
  have H := Lib.hid (snum_ok a b k w h h0 h1)
  obtain ⟨g1, g2, g3, g4⟩ := h
  have b1 := mul_bd a k g1 (by omega) h0 (by omega)
  go_enter Try.func8, Try.ntmps8
  go_wp2_with fail
  with_reducible refine H.out.mono ?_
  rintro e w' ⟨rfl, rfl⟩
  go_wp2
  go_ret2
  exact ⟨rfl, rfl⟩
set_option maxRecDepth 100000 in
theorem eqS_any (A C : Option Addr) (c d : Nat) (l : List Sp) (w : World) (B : Nat) (ha : ArrN w B 3 A l.length (spF l)) (hc : ArrN w B 3 C l.length (spF l)) (hl : l.length ≤ 1000000) :
    Calls Try.prog 22 #[.slice A l.length c, .slice C l.length d] w fun e w' => e = .returned (.bool true) ∧ Drawn w w' := by
  obtain ⟨n, hn⟩ : ∃ n, l.length = n := ⟨_, rfl⟩
  rw [hn] at ha hc hl
  rw [hn]
  replace hn := Lib.hid hn
  replace ha := Lib.hid ha
  replace hc := Lib.hid hc
  go_enter Try.func22, Try.ntmps22
  go_wp2
  go_loopw [13] (fun i wr => ∃ k : Nat, k ≤ n ∧ i = .int .i64 k ∧ Drawn w wr) (fun i _ => n - (intOf i).toNat)
  case atStart => exact ⟨0, Nat.zero_le _, rfl, Drawn.refl _⟩
  case round =>
    obtain ⟨k, hk, rfl, hdr⟩ := hrel
    by_cases hlt : k < n
    · obtain ⟨b, o, rfl, -, hb⟩ := ha.out (by omega)
      obtain ⟨b2, o2, rfl, -, hb2⟩ := hc.out (by omega)
      obtain ⟨c0, c1, c2⟩ := sp_cells (w := wr) (b := b) (off := o) (k := k) (l := l) (fun i hi => (hdr.cell _).trans (hb k hlt i hi))
      obtain ⟨d0, d1, d2⟩ := sp_cells (w := wr) (b := b2) (off := o2) (k := k) (l := l) (fun i hi => (hdr.cell _).trans (hb2 k hlt i hi))
      obtain ⟨⟨x0, x1, x2⟩, hx⟩ : ∃ s, spAt l k = s := ⟨_, rfl⟩
      rw [hx] at c0 c1 c2 d0 d1 d2
      dsimp only at c0 c1 c2 d0 d1 d2
      have jk : (k : Int) < (n : Int) := by omega
      replace hx := Lib.hid hx
      replace hdr := Lib.hid hdr
      clear hb hb2
      go_wp2
      go_big_quiet (fail)
      go_wp2
      go_roundw
      case rel => exact ⟨k + 1, by omega, by go_num, hdr.out.drewN _⟩
      case measure => simp [intOf]; omega
    · obtain rfl : k = n := by omega
      replace hdr := Lib.hid hdr
      clear hlt
      go_wp2
      go_ret
      exact ⟨rfl, hdr.out⟩
end Go.Proofs.Ytickckehhfdoeaa
