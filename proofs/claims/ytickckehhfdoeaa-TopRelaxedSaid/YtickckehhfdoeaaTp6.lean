/-
  PLAIN: the list that TopAlong makes is possible and leads to a goal.
  Conditions: those that each theorem names.
-/
import Derived.Test.YtickckehhfdoeaaTp5
import Derived.Test.YtickckehhfdoeaaTp4
import Derived.Test.YtickckehhfdoeaaStOc

namespace Go.Sv
open Go.RowKit
variable {p : Prob}
/-- a step of Enabled's -/
theorem en_step {m : Mx} {s : Sp} (h : s ∈ (allL p).filter (aftB p m)) : appE p m s = 0 ∧ s.kind ≠ 4 := by
  obtain ⟨hs, ha⟩ := List.mem_filter.1 h
  obtain ⟨x, hx⟩ := Option.isSome_iff_exists.1 ha
  have key : spB s = true ∧ existsB p s = true ∧ s.kind ≠ 4 := by
    unfold allL at hs
    simp only [List.mem_append, List.mem_flatMap, List.mem_map, List.mem_range] at hs
    rcases hs with (⟨i, hi, v, hv, rfl⟩ | ⟨i, hi, rfl⟩) | ⟨i, hi, rfl⟩
    · refine ⟨by unfold spB; simp, ?_, by simp⟩
      unfold existsB
      rw [if_neg (by simp)]
      simp only [Int.toNat_natCast, decide_true, Bool.not_true, Bool.false_or, Bool.and_eq_true, decide_eq_true_eq]
      omega
    · refine ⟨by unfold spB; simp, ?_, by simp⟩
      unfold existsB
      rw [if_neg (by simp)]
      simp
      omega
    · refine ⟨by unfold spB; simp, ?_, by simp⟩
      unfold existsB
      rw [if_pos rfl]
      simp
      omega
  exact ⟨appE_ok.2 ⟨key.1, key.2.1, x, hx⟩, key.2.2⟩
theorem Tr.len {m x : Mx} {l : List Sp} {o : List Mx} (h : Tr p m l o x) : o.length = l.length := goes_len l m 0 o (h.go 0)
/-- one more step -/
theorem Tr.snoc {m x : Mx} {l : List Sp} {o : List Mx} {s : Sp} (h : Tr p m l o x) (ha : appE p x s = 0) (h4 : s.kind ≠ 4) : Tr p m (l ++ [s]) (o ++ [apM p x s]) (apM p x s) := h.app (Tr.one h.ok ha h4)
end Go.Sv

namespace Go.Sv
open Go.RowKit
/-! ### the example -/
theorem ex46b : (rgAll st46 ap46 (robB p46) 20000 20001 0 (rgStart ⟨[0, 0], [-1, -1], [0]⟩)).bind (fun g => findW p46 g.nds) = some [⟨1, 1, 1⟩, ⟨2, 1, 0⟩, ⟨1, 0, 1⟩, ⟨2, 0, 0⟩] := by decide +kernel
section
variable {ap ap' : Mx → Sp → Mx} {rob : Mx → Bool} {most : Nat}
theorem step_nd {i : Nat} {g : Rg} {s : Sp} (hi : i < g.nds.length) : ndAt (rgStep ap rob i g s).nds i = ndAt g.nds i := by
  unfold rgStep
  dsimp only
  split
  · rfl
  · split
    · simp [ndAt, List.getElem?_append_left hi]
    · rfl
theorem row_same : ∀ (l : List Sp) (i : Nat) (g : Rg), i < g.nds.length → (∀ s ∈ l, ap (ndAt g.nds i).m s = ap' (ndAt g.nds i).m s) → rgRow ap rob most i g l = rgRow ap' rob most i g l
  | [], i, g, _, _ => by rw [rgRow, rgRow]
  | s :: r, i, g, hi, h => by
    have e : rgStep ap rob i g s = rgStep ap' rob i g s := by unfold rgStep; rw [h s (List.mem_cons_self ..)]
    have hn := step_nd (ap := ap) (rob := rob) (s := s) hi
    have hl := step_len (ap := ap) (rob := rob) i g s
    rw [rgRow, rgRow, ← e]
    rw [row_same r i _ (Nat.lt_of_lt_of_le hi hl) (fun t ht => by rw [hn]; exact h t (List.mem_cons_of_mem _ ht))]
theorem all_same {st : Mx → List Sp} (h : ∀ m, ∀ s ∈ st m, ap m s = ap' m s) : ∀ (f i : Nat) (g : Rg), rgAll st ap rob most f i g = rgAll st ap' rob most f i g
  | 0, i, g => by rw [rgAll, rgAll]
  | f + 1, i, g => by
    rw [rgAll, rgAll]
    split
    · rename_i hi
      rw [row_same _ i g hi (h _)]
      cases rgRow ap' rob most i g (st (ndAt g.nds i).m) with
      | none => rfl
      | some x => exact all_same h f (i + 1) x
    · rfl
end
theorem p46_ns : ∀ i, stored (tab p46.tabs i) = false := fun i => by
  match i with
  | 0 => decide
  | i + 1 => rfl
end Go.Sv
namespace Go.Proofs.Ytickckehhfdoeaa
open Go.RowKit Go.Sv
theorem st46_is (m : Mx) : stR p46 m = st46 m := by
  unfold stR st46
  refine filter_congr' fun s _ => ?_
  unfold aftB
  rw [aft_none p46_ns]
theorem ap46_is (hp : probE p46 = 0) (m : Mx) (s : Sp) (h : s ∈ stR p46 m) : apM p46 m s = ap46 m s := by
  unfold apM ap46
  rw [if_pos (st_ok hp h), aft_none p46_ns]
theorem fr46 (hp : probE p46 = 0) : frO p46 (stMx p46) = ([⟨1, 1, 1⟩, ⟨2, 1, 0⟩, ⟨1, 0, 1⟩, ⟨2, 0, 0⟩], 0) := by
  have e0 : stMx p46 = ⟨[0, 0], [-1, -1], [0]⟩ := by decide
  have e1 : robB p46 (stMx p46) = true := by rw [e0]; decide +kernel
  have e2 : regL p46 (stMx p46) = rgAll st46 ap46 (robB p46) 20000 20001 0 (rgStart ⟨[0, 0], [-1, -1], [0]⟩) := by
    unfold regL
    rw [all_same (ap' := ap46) (fun m s h => ap46_is hp m s h), e0]
    have : stR p46 = st46 := funext st46_is
    rw [this]
  have hx := ex46b
  obtain ⟨o, ho⟩ : ∃ o, rgAll st46 ap46 (robB p46) 20000 20001 0 (rgStart ⟨[0, 0], [-1, -1], [0]⟩) = o := ⟨_, rfl⟩
  rw [ho] at hx e2
  clear ho
  unfold frO
  rw [if_neg (by rw [e1]; decide), e2]
  cases o with
  | none => cases hx
  | some g =>
    rw [Option.bind_some] at hx
    unfold findW at hx
    dsimp only
    unfold ixO
    cases hi : g.nds.findIdx? (fun n => goalB p46 n.m) with
    | none => rw [hi] at hx; cases hx
    | some i =>
      rw [hi] at hx
      have hx2 : some (wayB g.nds g.nds.length (i : Int)).reverse = some [⟨1, 1, 1⟩, ⟨2, 1, 0⟩, ⟨1, 0, 1⟩, ⟨2, 0, 0⟩] := hx
      have hx3 := Option.some.inj hx2
      show ((wayB g.nds g.nds.length (i : Int)).reverse, (0 : Int)) = _
      rw [hx3]
set_option maxHeartbeats 2000000 in
set_option maxRecDepth 100000 in
theorem find_any (p : Prob) (q : ProbP) (w : World) (hp : RProb w w.heap.size p q) (hbd : PBd p) (h0 : probE p = 0) (hn1 : q.a1 = none → p.now.length = 0 ∧ q.c1 = 0) :
    Calls Try.prog 11 #[probV p q] w (Ret (StR w (frO p (stMx p)).1 (frO p (stMx p)).2)) := by
  have S := (Fm.init w).box 39 [.slice q.a0 p.vs.length q.c0, .slice q.a1 p.now.length q.c1, .slice q.a2 p.tgt.length q.c2, .slice q.a3 p.tabs.length q.c3]
  obtain ⟨W, hW, S⟩ : ∃ W, w.alloc (.cells #[.slice q.a0 p.vs.length q.c0, .slice q.a1 p.now.length q.c1, .slice q.a2 p.tgt.length q.c2, .slice q.a3 p.tabs.length q.c3] 39) = W ∧ Fm w W _ _ := ⟨_, rfl, S⟩
  have hpW := hp.to S.bel
  have HS := Lib.hid (start0_any p q W hpW hbd h0 hn1)
  have HF := Lib.hid (fun (qm : MixP) (W2 : World) (h : Below W.heap.size W W2) (hm : RMix W2 W2.heap.size (stMx p) qm) (hmb : MBd (stMx p) qm) => from_any p q (stMx p) qm W2 (hpW.to h) hbd hm hmb (stMx_ok h0))
  have h8 := Lib.hid (stMx_h8 h0)
  obtain ⟨m, hm⟩ : ∃ m, stMx p = m := ⟨_, rfl⟩
  rw [hm] at HS HF h8 ⊢
  obtain ⟨qa0, qc0, qa1, qc1, qa2, qc2, qa3, qc3⟩ := q
  dsimp only at HS HF hW S ⊢
  obtain ⟨⟨r2, f2, r20, r21, r22, r23, -⟩, -⟩ := S.facts
  have SW := Lib.hid S
  clear S hp hbd h0 hn1 hpW hm
  go_enter Try.func11, Try.ntmps11
  go_wp2_with fail
  clear hW
  with_reducible refine HS.out.mono ?_
  rintro e w1 ⟨_, rfl, hb1, ⟨a0, c0, a1, c1, a2, c2⟩, rfl, ha⟩
  have S1 := SW.out.call hb1
  obtain ⟨W2, (hW2 : w1.alloc (.cells #[.slice a0 m.base.length c0, .slice a1 m.next.length c1, .slice a2 m.held.length c2] 56) = W2), S2, hB2⟩ := fm_boxE S1 56 [.slice a0 m.base.length c0, .slice a1 m.next.length c1, .slice a2 m.held.length c2]
  have ha2 := ha.to hB2
  have HF2 := Lib.hid (HF.out ⟨a0, c0, a1, c1, a2, c2⟩ W2 (hb1.trans (hB2.mono hb1.size)) ha2.mix (ha2.bd h8.out))
  clear r2 f2 r20 r21 r22 r23 HS HF
  obtain ⟨⟨z1, g1, z10, z11, z12, -⟩, ⟨r2, f2, r20, r21, r22, r23, -⟩, -⟩ := S2.facts
  replace S2 := Lib.hid S2
  replace hb1 := Lib.hid hb1
  clear ha ha2 S1 hB2
  go_wp2_with fail
  clear hW2
  with_reducible refine HF2.out.mono ?_
  rintro e w3 ⟨_, rfl, hb3, A, c, rfl, hown⟩
  have hP : Hid (StR w (frO p m).1 (frO p m).2 (.tuple #[.slice A (frO p m).1.length c, .int .i64 (frO p m).2]) w3) := Lib.hid ⟨S2.out.bel.trans (hb3.mono S2.out.bel.size), A, c, rfl, own_base hown S2.out.bel.size⟩
  obtain ⟨L, hL⟩ : ∃ L, frO p m = L := ⟨_, rfl⟩
  rw [hL] at hP
  rw [hL]
  obtain ⟨l, er⟩ := L
  dsimp only at hP ⊢
  replace hL := Lib.hid hL
  clear hown hb3 z1 g1 z10 z11 z12 r2 f2 r20 r21 r22 r23
  go_wp2
  go_ret2
  exact Ret.mk (by rw [hL.out]; exact hP.out)
/-! ### split -/
def okSp (a b : Int) : Prop := 0 ≤ a ∧ a ≤ b ∧ 1 ≤ b ∧ b ≤ 10000
theorem svld_ok (a b : Int) (w : World) (h : okSp a b) :
    Calls Try.prog 7 #[.int .i64 a, .int .i64 b] w fun e w' => e = .returned (.int .i64 0) ∧ w = w' := by
  obtain ⟨h1, h2, h3, h4⟩ := h
  go_enter Try.func7, Try.ntmps7
  go_wp2
  go_ret
  exact ⟨rfl, rfl⟩
theorem snum_ok (a b n : Int) (w : World) (h : okSp a b) (h0 : 0 ≤ n) (h1 : n ≤ 1000000000000) :
    Calls Try.prog 23 #[.int .i64 a, .int .i64 b, .int .i64 n] w fun e w' => e = .returned (.int .i64 0) ∧ w = w' := by
  have H := Lib.hid (svld_ok a b w h)
  clear h
  go_enter Try.func23, Try.ntmps23
  go_wp2_with fail
  with_reducible refine H.out.mono ?_
  rintro e w' ⟨rfl, rfl⟩
  go_wp2
  go_ret
  exact ⟨rfl, rfl⟩
theorem mul_bd (a k : Int) (h1 : 0 ≤ a) (h2 : a ≤ 10000) (h3 : 0 ≤ k) (h4 : k ≤ 1000000000001) : 0 ≤ k * a ∧ k * a ≤ 10000000000010000 := by
  refine ⟨Int.mul_nonneg h3 h1, ?_⟩
  have := Int.mul_le_mul h4 h2 h1 (by omega)
  omega
theorem scnt_ok (a b k : Int) (w : World) (h : okSp a b) (h0 : 0 ≤ k) (h1 : k ≤ 1000000000000) :
    Calls Try.prog 8 #[.int .i64 a, .int .i64 b, .int .i64 k] w fun e w' => e = .returned (.tuple #[.int .i64 (k * a / b), .int .i64 0]) ∧ w = w' := by
  have H := Lib.hid (snum_ok a b k w h h0 h1)
  obtain ⟨g1, g2, g3, g4⟩ := h
  have b1 := mul_bd a k g1 (by omega) h0 (by omega)
  go_enter Try.func8, Try.ntmps8
  go_wp2_with fail
  with_reducible refine H.out.mono ?_
  rintro e w' ⟨rfl, rfl⟩
  go_wp2
  go_ret2
  exact ⟨rfl, rfl⟩
set_option maxRecDepth 100000 in
theorem eqS_any (A C : Option Addr) (c d : Nat) (l : List Sp) (w : World) (B : Nat) (ha : ArrN w B 3 A l.length (spF l)) (hc : ArrN w B 3 C l.length (spF l)) (hl : l.length ≤ 1000000) :
    Calls Try.prog 22 #[.slice A l.length c, .slice C l.length d] w fun e w' => e = .returned (.bool true) ∧ Drawn w w' := by
  obtain ⟨n, hn⟩ : ∃ n, l.length = n := ⟨_, rfl⟩
  rw [hn] at ha hc hl
  rw [hn]
  replace hn := Lib.hid hn
  replace ha := Lib.hid ha
  replace hc := Lib.hid hc
  go_enter Try.func22, Try.ntmps22
  go_wp2
  go_loopw [13] (fun i wr => ∃ k : Nat, k ≤ n ∧ i = .int .i64 k ∧ Drawn w wr) (fun i _ => n - (intOf i).toNat)
  case atStart => exact ⟨0, Nat.zero_le _, rfl, Drawn.refl _⟩
  case round =>
    obtain ⟨k, hk, rfl, hdr⟩ := hrel
    by_cases hlt : k < n
    · obtain ⟨b, o, rfl, -, hb⟩ := ha.out (by omega)
      obtain ⟨b2, o2, rfl, -, hb2⟩ := hc.out (by omega)
      obtain ⟨c0, c1, c2⟩ := sp_cells (w := wr) (b := b) (off := o) (k := k) (l := l) (fun i hi => (hdr.cell _).trans (hb k hlt i hi))
      obtain ⟨d0, d1, d2⟩ := sp_cells (w := wr) (b := b2) (off := o2) (k := k) (l := l) (fun i hi => (hdr.cell _).trans (hb2 k hlt i hi))
      obtain ⟨⟨x0, x1, x2⟩, hx⟩ : ∃ s, spAt l k = s := ⟨_, rfl⟩
      rw [hx] at c0 c1 c2 d0 d1 d2
      dsimp only at c0 c1 c2 d0 d1 d2
      have jk : (k : Int) < (n : Int) := by omega
      replace hx := Lib.hid hx
      replace hdr := Lib.hid hdr
      clear hb hb2
      go_wp2
      go_big_quiet (fail)
      go_wp2
      go_roundw
      case rel => exact ⟨k + 1, by omega, by go_num, hdr.out.drewN _⟩
      case measure => simp [intOf]; omega
    · obtain rfl : k = n := by omega
      replace hdr := Lib.hid hdr
      clear hlt
      go_wp2
      go_ret
      exact ⟨rfl, hdr.out⟩
end Go.Proofs.Ytickckehhfdoeaa

namespace Go.Sv
open Go.RowKit
theorem al_sz {w : World} {o : Obj} {n : Nat} (h : w.heap.size = n) : (w.alloc o).heap.size = n + 1 := by rw [← h]; exact Array.size_push _
theorem arr2 {w : World} {B b : Nat} {x y : Value} {f : Nat → Value} (hb : b < B) (h0 : w.cell? ⟨b, 0, none⟩ = some x) (h1 : w.cell? ⟨b, 1, none⟩ = some y) (e0 : f 0 = x) (e1 : f 1 = y) : Arr w B (some ⟨b, 0, none⟩) 2 f := fun _ => by
  refine ⟨b, 0, rfl, hb, fun k hk => ?_⟩
  rcases k with _ | _ | k
  · rw [h0, e0]
  · rw [h1, e1]
  · omega
theorem arr6 {w : World} {B b : Nat} {f : Nat → Nat → Value} (hb : b < B) (h0 : w.cell? ⟨b, 0, none⟩ = some (f 0 0)) (h1 : w.cell? ⟨b, 1, none⟩ = some (f 0 1)) (h2 : w.cell? ⟨b, 2, none⟩ = some (f 0 2)) (h3 : w.cell? ⟨b, 3, none⟩ = some (f 0 3)) (h4 : w.cell? ⟨b, 4, none⟩ = some (f 0 4)) (h5 : w.cell? ⟨b, 5, none⟩ = some (f 0 5)) : ArrN w B 6 (some ⟨b, 0, none⟩) 1 f := fun _ => by
  refine ⟨b, 0, rfl, hb, fun k hk i hi => ?_⟩
  obtain rfl : k = 0 := by omega
  rcases i with _ | _ | _ | _ | _ | _ | i
  · exact h0
  · exact h1
  · exact h2
  · exact h3
  · exact h4
  · exact h5
  · omega
theorem results_cell {P : Program} {fn : Func} {t : Tmp} {ty : TypeId} (h : fn.results = #[.cell t ty]) (tmps : Array Value) (w : World) (a : Addr) (v : Value) (ha : tmps.getD t undef = .pointer (some a)) (hl : (loadVar ty a).run P w = .ok v w) : (results fn tmps).run P w = .ok v w := by
  simp only [results, h, List.mapM_toArray, List.mapM_cons, List.mapM_nil, ha]
  simp [asAddr, hl]
/-- the example's problem in memory -/
def P46 (w : World) (v : Value) (W : World) : Prop := Below w.heap.size w W ∧ ∃ q : ProbP, q.a1 ≠ none ∧ v = probV p46 q ∧ RProb W W.heap.size p46 q
theorem p46_mem {w W : World} {s : Nat} (S : Fm w W [⟨s + 1 + 1 + 1 + 1 + 1 + 1 + 1 + 1, 47, [.int .i64 1, .int .i64 0, .int .i64 1, .bool false, .slice (some ⟨s + 1 + 1 + 1, 0, none⟩) 2 2, .slice none 0 0]⟩, ⟨s + 1 + 1 + 1 + 1 + 1 + 1 + 1, 3, [.int .i64 1, .int .i64 1]⟩, ⟨s + 1 + 1 + 1 + 1 + 1 + 1, 3, [.int .i64 0, .int .i64 0]⟩, ⟨s + 1 + 1 + 1 + 1 + 1, 3, [.int .i64 2, .int .i64 2]⟩, ⟨s + 1 + 1 + 1 + 1, 47, [.int .i64 1, .int .i64 0, .int .i64 1, .bool false, .slice (some ⟨s + 1 + 1 + 1, 0, none⟩) 2 2, .slice none 0 0]⟩, ⟨s + 1 + 1 + 1, 48, [.slice (some ⟨s + 1, 0, none⟩) 2 2, .slice (some ⟨s + 1 + 1, 0, none⟩) 2 2]⟩, ⟨s + 1 + 1, 4, [.bool false, .bool true]⟩, ⟨s + 1, 4, [.bool true, .bool true]⟩, ⟨s, 39, [.slice (some ⟨s + 1 + 1 + 1 + 1 + 1, 0, none⟩) 2 2, .slice (some ⟨s + 1 + 1 + 1 + 1 + 1 + 1, 0, none⟩) 2 2, .slice (some ⟨s + 1 + 1 + 1 + 1 + 1 + 1 + 1, 0, none⟩) 2 2, .slice (some ⟨s + 1 + 1 + 1 + 1 + 1 + 1 + 1 + 1, 0, none⟩) 1 1]⟩] []) :
    P46 w (.agg #[.slice (some ⟨s + 1 + 1 + 1 + 1 + 1, 0, none⟩) 2 2, .slice (some ⟨s + 1 + 1 + 1 + 1 + 1 + 1, 0, none⟩) 2 2, .slice (some ⟨s + 1 + 1 + 1 + 1 + 1 + 1 + 1, 0, none⟩) 2 2, .slice (some ⟨s + 1 + 1 + 1 + 1 + 1 + 1 + 1 + 1, 0, none⟩) 1 1]) W := by
  refine ⟨S.bel, ⟨some ⟨s + 1 + 1 + 1 + 1 + 1, 0, none⟩, 2, some ⟨s + 1 + 1 + 1 + 1 + 1 + 1, 0, none⟩, 2, some ⟨s + 1 + 1 + 1 + 1 + 1 + 1 + 1, 0, none⟩, 2, some ⟨s + 1 + 1 + 1 + 1 + 1 + 1 + 1 + 1, 0, none⟩, 1⟩, (fun h => by cases h), rfl, ?_⟩
  obtain ⟨⟨l8, -, t0, t1, t2, t3, t4, t5, -⟩, ⟨l7, -, n0, n1, -⟩, ⟨l6, -, o0, o1, -⟩, ⟨l5, -, v0, v1, -⟩, -, ⟨l3, -, m0, m1, -⟩, ⟨l2, -, b0, b1, -⟩, ⟨l1, -, a0, a1, -⟩, -⟩ := S.facts
  refine ⟨arr2 l5 v0 v1 rfl rfl, arr2 l6 o0 o1 rfl rfl, arr2 l7 n0 n1 rfl rfl, ?_⟩
  refine ⟨fun _ => ⟨some ⟨s + 1 + 1 + 1, 0, none⟩, 2, none, 0⟩, arr6 l8 t0 t1 t2 t3 t4 t5, fun k hk => ?_⟩
  obtain rfl : k = 0 := by have : k < 1 := hk; omega
  refine ⟨⟨fun i => if i = 0 then (some ⟨s + 1, 0, none⟩, 2) else (some ⟨s + 1 + 1, 0, none⟩, 2), arr2 l3 m0 m1 rfl rfl, fun i hi => ?_⟩, ⟨fun _ => (none, 0), fun h => absurd h (by decide), fun i hi => absurd hi (Nat.not_lt_zero i)⟩⟩
  rcases i with _ | _ | i
  · exact arr2 l1 a0 a1 rfl rfl
  · exact arr2 l2 b0 b1 rfl rfl
  · have : i + 1 + 1 < 2 := hi
    omega
theorem p46_bd : PBd p46 := ⟨by decide, by decide, by decide, by decide, fun k hk => by
  obtain rfl : k = 0 := by have : k < 1 := hk; omega
  exact ⟨by decide, by decide⟩⟩
end Go.Sv
namespace Go.Proofs.Ytickckehhfdoeaa
open Go.RowKit Go.Sv
set_option maxHeartbeats 2000000 in
set_option maxRecDepth 100000 in
theorem p46_any (w : World) : Calls Try.prog 21 #[] w (Ret (P46 w)) := by
  obtain ⟨s, hs⟩ : ∃ s, w.heap.size = s := ⟨_, rfl⟩
  have S0 := (Fm.init w).box' 39 [.slice (some ⟨s + 1 + 1 + 1 + 1 + 1, 0, none⟩) 2 2, .slice (some ⟨s + 1 + 1 + 1 + 1 + 1 + 1, 0, none⟩) 2 2, .slice (some ⟨s + 1 + 1 + 1 + 1 + 1 + 1 + 1, 0, none⟩) 2 2, .slice (some ⟨s + 1 + 1 + 1 + 1 + 1 + 1 + 1 + 1, 0, none⟩) 1 1] hs
  have S1 := S0.box' 4 [.bool true, .bool true] (al_sz hs)
  have S2 := S1.box' 4 [.bool false, .bool true] (al_sz (al_sz hs))
  have S3 := S2.box' 48 [.slice (some ⟨s + 1, 0, none⟩) 2 2, .slice (some ⟨s + 1 + 1, 0, none⟩) 2 2] (al_sz (al_sz (al_sz hs)))
  have S4 := S3.box' 47 [.int .i64 1, .int .i64 0, .int .i64 1, .bool false, .slice (some ⟨s + 1 + 1 + 1, 0, none⟩) 2 2, .slice none 0 0] (al_sz (al_sz (al_sz (al_sz hs))))
  have S5 := S4.box' 3 [.int .i64 2, .int .i64 2] (al_sz (al_sz (al_sz (al_sz (al_sz hs)))))
  have S6 := S5.box' 3 [.int .i64 0, .int .i64 0] (al_sz (al_sz (al_sz (al_sz (al_sz (al_sz hs))))))
  have S7 := S6.box' 3 [.int .i64 1, .int .i64 1] (al_sz (al_sz (al_sz (al_sz (al_sz (al_sz (al_sz hs)))))))
  have S8 := S7.box' 47 [.int .i64 1, .int .i64 0, .int .i64 1, .bool false, .slice (some ⟨s + 1 + 1 + 1, 0, none⟩) 2 2, .slice none 0 0] (al_sz (al_sz (al_sz (al_sz (al_sz (al_sz (al_sz (al_sz hs))))))))
  clear S0 S1 S2 S3 S4 S5 S6 S7
  have H := p46_mem S8
  have HC : _ ∧ _ := ⟨S8.facts.2.2.2.2.2.2.2.2.1, trivial⟩
  replace H := Lib.hid H
  replace HC := Lib.hid HC
  clear S8
  subst hs
  go_enter Try.func21, Try.ntmps21
  go_wp2
  obtain ⟨⟨-, -, k0, k1, k2, k3, -⟩, -⟩ := HC.out
  refine bodyPost_ret (results_cell rfl _ _ _ _ rfl (run_loadVar_mid _ w.heap.size 0 39 [.slice (some ⟨w.heap.size + 1 + 1 + 1 + 1 + 1, 0, none⟩) 2 2, .slice (some ⟨w.heap.size + 1 + 1 + 1 + 1 + 1 + 1, 0, none⟩) 2 2, .slice (some ⟨w.heap.size + 1 + 1 + 1 + 1 + 1 + 1 + 1, 0, none⟩) 2 2, .slice (some ⟨w.heap.size + 1 + 1 + 1 + 1 + 1 + 1 + 1 + 1, 0, none⟩) 1 1] ((Try.prog.underlying 39).getD (.array 0 0)) ?_ (by kernel_rfl) (by kernel_rfl) (by kernel_rfl))) rfl ?_
  · intro j v hj
    rcases j with _ | _ | _ | _ | j
    · cases hj; exact k0
    · cases hj; exact k1
    · cases hj; exact k2
    · cases hj; exact k3
    · cases hj
  · exact Ret.mk H.out
end Go.Proofs.Ytickckehhfdoeaa

namespace Go.Sv
open Go.RowKit
theorem p46_e : probE p46 = 0 := by
  have hv : p46.vs = [2, 2] := rfl
  have ht : tabE p46.vs (tab p46.tabs 0) = 0 := by
    refine tabE_0 (by decide) (by decide) (by decide) (by decide) (fun i hi => ?_)
    exact absurd hi (Nat.not_lt_zero i)
  rw [probE_t (by decide) (by decide) (fun i hi => by
    have : i < 2 := hi
    rcases i with _ | _ | i
    · unfold svcBad; decide
    · unfold svcBad; decide
    · omega)]
  have h1 : tabsE p46 0 p46.tabs.length = tabsE p46 1 (p46.tabs.length - 1) := tabsE_next (k := 0) (by decide) ht
  rw [h1]
  rfl
end Go.Sv
namespace Go.Proofs.Ytickckehhfdoeaa
open Go.RowKit Go.Sv
set_option maxHeartbeats 2000000 in
set_option maxRecDepth 100000 in
theorem awake_any (w : World) : Calls Try.prog 6 #[] w (fun e w' => e = .returned (.bool true) ∧ Below w.heap.size w w') := by
  have H := Lib.hid (p46_any w)
  go_enter Try.func6, Try.ntmps6
  go_wp2_with fail
  with_reducible refine H.out.mono ?_
  rintro e w1 ⟨_, rfl, hb1, q, hq1, rfl, hR⟩
  have HF := find_any p46 q w1 hR p46_bd p46_e (fun h => absurd h hq1)
  rw [fr46 p46_e] at HF
  replace HF := Lib.hid HF
  replace hR := Lib.hid hR
  obtain ⟨qa0, qc0, qa1, qc1, qa2, qc2, qa3, qc3⟩ := q
  dsimp only at HF
  go_wp2_with fail
  with_reducible refine HF.out.mono ?_
  rintro e w2 ⟨_, rfl, hb2, A, c, rfl, hown⟩
  replace hown := Lib.hid hown
  have hb := Lib.hid (hb1.trans (hb2.mono hb1.size))
  clear HF H hR hb1 hb2
  obtain ⟨A', c', hv, -, -, harr⟩ := own_arrN hown.out (fun k hk i hi => spRow_get hk hi)
  cases hv
  have S := (Fm.init w2).box 63 [.int .i64 1, .int .i64 1, .int .i64 1, .int .i64 2, .int .i64 1, .int .i64 0, .int .i64 1, .int .i64 0, .int .i64 1, .int .i64 2, .int .i64 0, .int .i64 0]
  obtain ⟨W, hW, S⟩ : ∃ W, w2.alloc (.cells #[.int .i64 1, .int .i64 1, .int .i64 1, .int .i64 2, .int .i64 1, .int .i64 0, .int .i64 1, .int .i64 0, .int .i64 1, .int .i64 2, .int .i64 0, .int .i64 0] 63) = W ∧ Fm w2 W _ _ := ⟨_, rfl, S⟩
  have hz : w2.heap.size ≤ W.heap.size := S.size
  have hL : ArrN W W.heap.size 3 A 4 (spF [⟨1, 1, 1⟩, ⟨2, 1, 0⟩, ⟨1, 0, 1⟩, ⟨2, 0, 0⟩]) := (ArrN.below harr S.bel).more hz
  have hM : ArrN W W.heap.size 3 (some ⟨w2.heap.size, 0, none⟩) 4 (spF [⟨1, 1, 1⟩, ⟨2, 1, 0⟩, ⟨1, 0, 1⟩, ⟨2, 0, 0⟩]) := fun _ => by
    have h := S.bx.1
    refine ⟨_, 0, rfl, h.lt, fun k hk i hi => ?_⟩
    rcases k with _ | _ | _ | _ | k
    · rcases i with _ | _ | _ | i
      · exact h.cell 0
      · exact h.cell 1
      · exact h.cell 2
      · omega
    · rcases i with _ | _ | _ | i
      · exact h.cell 3
      · exact h.cell 4
      · exact h.cell 5
      · omega
    · rcases i with _ | _ | _ | i
      · exact h.cell 6
      · exact h.cell 7
      · exact h.cell 8
      · omega
    · rcases i with _ | _ | _ | i
      · exact h.cell 9
      · exact h.cell 10
      · exact h.cell 11
      · omega
    · omega
  have HE : Hid (Calls Try.prog 22 #[.slice A 4 c, .slice (some ⟨w2.heap.size, 0, none⟩) 4 4] W fun e w' => e = .returned (.bool true) ∧ Drawn W w') := Lib.hid (eqS_any A (some ⟨w2.heap.size, 0, none⟩) c 4 [⟨1, 1, 1⟩, ⟨2, 1, 0⟩, ⟨1, 0, 1⟩, ⟨2, 0, 0⟩] W W.heap.size hL hM (by decide))
  have HC := Lib.hid (scnt_ok 2 5 5 W (by unfold okSp; omega) (by omega) (by omega))
  have hbW : Hid (Below w.heap.size w W) := Lib.hid (hb.out.trans (S.bel.mono hb.out.size))
  clear hL hM S harr hown hb hz
  go_wp2_with fail
  clear hW
  with_reducible refine HC.out.mono ?_
  rintro e w3 ⟨rfl, rfl⟩
  clear HC
  have e2 : (5 * 2 / 5 : Int) = 2 := by decide
  rw [e2]
  go_wp2_with fail
  with_reducible refine HE.out.mono ?_
  rintro e w4 ⟨rfl, hd⟩
  clear HE
  go_wp2
  go_ret
  exact ⟨rfl, hbW.out.trans (hd.below.mono hbW.out.size)⟩
end Go.Proofs.Ytickckehhfdoeaa

namespace Go.Proofs.Ytickckehhfdoeaa
open Go.RowKit Go.Sv
theorem dVs_le (d : Dra) (i : Nat) : (gi (dVs d) i).toNat ≤ 3 := by
  by_cases h : i < d.vs.length
  · have := dVs_bd h; omega
  · have : gi (dVs d) i = 0 := by simp [gi, dVs, h]
    omega
theorem dProb_bd {d : Dra} (h3 : d.vs.length ≤ 3) (h4 : d.lk.length ≤ 4) : PBd (dProb d) := by
  obtain ⟨a, b, c, e⟩ := prob_small (dProb_ok h3 h4)
  refine ⟨by omega, by omega, by omega, by omega, fun k hk => ?_⟩
  have key : ∀ t, t ∈ (dProb d).tabs → t.ok.length ≤ 9223372036854775807 ∧ t.rw.length ≤ 9223372036854775807 := by
    intro t ht
    unfold dProb at ht
    dsimp only at ht
    split at ht
    · cases ht
    · obtain ⟨l, -, rfl⟩ := List.mem_map.1 ht
      unfold dTab
      dsimp only
      rw [bitsM_len]
      have h1 := dVs_le d (l.src % ((dVs d).length : Int)).toNat
      refine ⟨by omega, ?_⟩
      split
      · rw [bitsM_len]; omega
      · simp
  have hm : tab (dProb d).tabs k ∈ (dProb d).tabs := by
    have e : tab (dProb d).tabs k = (dProb d).tabs[k] := by simp [tab, hk]
    rw [e]
    exact List.getElem_mem hk
  exact key _ hm
theorem own_none {w : World} {base : Nat} {e : TypeId} {size n c : Nat} {xs : List Value} (h : w.ownsRow base e size (.slice none n c) n xs) : n = 0 ∧ c = 0 := by
  obtain ⟨hl, h⟩ := h
  rcases h with ⟨h1, -⟩ | ⟨g, cap, cur, h1, -⟩
  · cases h1
    exact ⟨rfl, rfl⟩
  · cases h1
theorem en_len {p : Prob} {m : Mx} (h : MOk p m) : ((allL p).filter (aftB p m)).length ≤ 100 := Nat.le_trans (List.length_filter_le _ _) (allL_len h.pr)
theorem en_at {p : Prob} {m : Mx} {j : Nat} (hj : j < ((allL p).filter (aftB p m)).length) : appE p m (spAt ((allL p).filter (aftB p m)) j) = 0 ∧ (spAt ((allL p).filter (aftB p m)) j).kind ≠ 4 := by
  have e : spAt ((allL p).filter (aftB p m)) j = ((allL p).filter (aftB p m))[j] := by simp [spAt, hj]
  rw [e]
  exact en_step (List.getElem_mem hj)
theorem spOwn_arr {W : World} {B c : Nat} {A : Option Addr} {l : List Sp} (h : W.ownsRow B 63 3 (.slice A l.length c) l.length (spRow l)) : ArrN W W.heap.size 3 A l.length (spF l) := by
  obtain ⟨A', c', hv, _, _, ha⟩ := own_arrN (f := spF l) h (fun k hk i hi => spRow_get hk hi)
  injection hv with h1
  rw [h1]; exact ha
theorem AO.push {W W' : World} {B B' s n : Nat} {m : Mx} {q : MixP} {u : Value} {ys : List Value} (h : AO W B m q) (hu : W.ownsRow B' 63 s u n ys) (hg : W.grownBy W' u.ownBlock) : AO W' B m q :=
  ⟨ownO_other h.o0 hu (by decide) hg, ownO_other h.o1 hu (by decide) hg, ownO_other h.o2 hu (by decide) hg, h.d01, h.d02, h.d12⟩
theorem fm_under {w W W' : World} {bs : List Bx} (h : Fm w W bs []) {B : Nat} (hB : ∀ x ∈ bs, x.b < B) (hw : w.heap.size ≤ B) (hb : Below B W W') : Fm w W' bs [] :=
  ⟨h.bel.trans (hb.mono hw), allB_of fun x hx => (allB_at h.bx x hx).below hb (hB x hx), trivial, h.lo, (fun r hr => by cases hr), h.dis⟩
end Go.Proofs.Ytickckehhfdoeaa

namespace Go.Sv
open Go.RowKit
section
variable {st : Mx → List Sp} {ap : Mx → Sp → Mx} {rob : Mx → Bool} {most : Nat} {m0 : Mx}
/-- a walk of possible robust steps -/
inductive Pth (st : Mx → List Sp) (ap : Mx → Sp → Mx) (rob : Mx → Bool) (m0 : Mx) : List Sp → Mx → Prop
  | nil : Pth st ap rob m0 [] m0
  | snoc {l : List Sp} {m : Mx} {s : Sp} : Pth st ap rob m0 l m → s ∈ st m → rob (ap m s) = true → Pth st ap rob m0 (l ++ [s]) (ap m s)
/-- each node but the first was found from one ahead of it -/
def RgI (st : Mx → List Sp) (ap : Mx → Sp → Mx) (rob : Mx → Bool) (m0 : Mx) (l : List Nd) : Prop :=
  ∀ k, k < l.length → ((ndAt l k).frm = -1 ∧ (ndAt l k).m = m0) ∨ ∃ j : Nat, j < k ∧ (ndAt l k).frm = (j : Int) ∧ (ndAt l k).by_ ∈ st (ndAt l j).m ∧ (ndAt l k).m = ap (ndAt l j).m (ndAt l k).by_ ∧ rob (ndAt l k).m = true
theorem nd_lt {l : List Nd} {x : Nd} {k : Nat} (h : k < l.length) : ndAt (l ++ [x]) k = ndAt l k := by simp [ndAt, List.getElem?_append_left h]
theorem nd_at {l : List Nd} {x : Nd} : ndAt (l ++ [x]) l.length = x := by simp [ndAt]
theorem RgI.snoc {l : List Nd} {i : Nat} {s : Sp} (h : RgI st ap rob m0 l) (hi : i < l.length) (hs : s ∈ st (ndAt l i).m) (hr : rob (ap (ndAt l i).m s) = true) : RgI st ap rob m0 (l ++ [⟨ap (ndAt l i).m s, (i : Int), s⟩]) := fun k hk => by
  rw [List.length_append, List.length_singleton] at hk
  by_cases c : k < l.length
  · rw [nd_lt c]
    rcases h k c with h1 | ⟨j, hj, h2⟩
    · exact Or.inl h1
    · refine Or.inr ⟨j, hj, ?_⟩
      rw [nd_lt (by omega)]
      exact h2
  · obtain rfl : k = l.length := by omega
    refine Or.inr ⟨i, hi, ?_⟩
    rw [nd_at, nd_lt hi]
    exact ⟨rfl, hs, rfl, hr⟩
theorem RgI.step {i : Nat} {g : Rg} {s : Sp} (h : RgI st ap rob m0 g.nds) (hi : i < g.nds.length) (hs : s ∈ st (ndAt g.nds i).m) : RgI st ap rob m0 (rgStep ap rob i g s).nds ∧ i < (rgStep ap rob i g s).nds.length ∧ ndAt (rgStep ap rob i g s).nds i = ndAt g.nds i := by
  unfold rgStep
  dsimp only
  split
  · exact ⟨h, hi, rfl⟩
  · split
    · rename_i hr
      exact ⟨h.snoc hi hs hr, by simp; omega, nd_lt hi⟩
    · exact ⟨h, hi, rfl⟩
theorem RgI.row {i : Nat} : ∀ (l : List Sp) (g k : Rg), RgI st ap rob m0 g.nds → i < g.nds.length → (∀ s ∈ l, s ∈ st (ndAt g.nds i).m) → rgRow ap rob most i g l = some k → RgI st ap rob m0 k.nds
  | [], g, k, h, hi, hs, e => by
    rw [rgRow] at e
    cases e
    exact h
  | s :: r, g, k, h, hi, hs, e => by
    obtain ⟨h1, h2, h3⟩ := h.step hi (hs s (List.mem_cons_self ..))
    rw [rgRow] at e
    split at e
    · cases e
    · exact RgI.row r _ k h1 h2 (fun t ht => by rw [h3]; exact hs t (List.mem_cons_of_mem _ ht)) e
theorem RgI.all : ∀ (f i : Nat) (g k : Rg), RgI st ap rob m0 g.nds → rgAll st ap rob most f i g = some k → RgI st ap rob m0 k.nds
  | 0, i, g, k, h, e => by
    rw [rgAll] at e
    cases e
    exact h
  | f + 1, i, g, k, h, e => by
    rw [rgAll] at e
    split at e
    · rename_i hi
      cases hr : rgRow ap rob most i g (st (ndAt g.nds i).m) with
      | none => rw [hr] at e; cases e
      | some x =>
        rw [hr] at e
        exact RgI.all f (i + 1) x k (RgI.row _ g x h hi (fun s hs => hs) hr) e
    · cases e
      exact h
theorem RgI.start : RgI st ap rob m0 (rgStart m0).nds := fun k hk => by
  have : k < 1 := hk
  obtain rfl : k = 0 := by omega
  exact Or.inl ⟨rfl, rfl⟩
theorem way_pth {l : List Nd} (h : RgI st ap rob m0 l) : ∀ (f k : Nat), k < l.length → k < f → Pth st ap rob m0 (wayB l f (k : Int)).reverse (ndAt l k).m
  | 0, k, _, hf => by omega
  | f + 1, k, hk, hf => by
    rw [wayB, Int.toNat_natCast]
    rcases h k hk with ⟨h1, h2⟩ | ⟨j, hj, h1, h2, h3, h4⟩
    · rw [if_pos (by rw [h1]; decide), h2]
      exact Pth.nil
    · rw [if_neg (by rw [h1]; omega), List.reverse_cons, h1]
      have hp := way_pth h f j (by omega) (by omega)
      have := hp.snoc h2 (by rw [← h3]; exact h4)
      rw [← h3] at this
      exact this
/-- such a walk is accepted by a problem that allows as much -/
theorem pth_ck {q : Prob} (h1 : ∀ m s, s ∈ st m → appE q m s = 0 ∧ s.kind ≠ 4 ∧ apM q m s = ap m s) (h2 : ∀ m, rob m = true → robB q m = true) {l : List Sp} {m : Mx} (h : Pth st ap rob m0 l m) : ∀ r, ckB q m0 (l ++ r) = ckB q m r := by
  induction h with
  | nil => exact fun r => rfl
  | snoc hl hs hr ih =>
    intro r
    rename_i l m s
    rw [List.append_assoc, ih]
    obtain ⟨a, b, c⟩ := h1 m s hs
    show ckB q m (s :: r) = _
    rw [ckB, if_neg (fun hx => hx.elim (fun x => x a) (fun x => x.elim b (fun y => by rw [c, h2 _ hr] at y; cases y))), c]
end
end Go.Sv

namespace Go.Sv
open Go.RowKit
/-- q is p with more entries OK -/
structure Rlx (p q : Prob) : Prop where
  vs : q.vs = p.vs
  now : q.now = p.now
  tgt : q.tgt = p.tgt
  tl : q.tabs.length = p.tabs.length
  tt : ∀ i, i < p.tabs.length → (tab q.tabs i).kind = (tab p.tabs i).kind ∧ (tab q.tabs i).src = (tab p.tabs i).src ∧ (tab q.tabs i).dst = (tab p.tabs i).dst ∧ (tab q.tabs i).aware = (tab p.tabs i).aware ∧ ∀ u v, mat (tab p.tabs i).ok u v = true → mat (tab q.tabs i).ok u v = true
  rw : ∀ i, i < p.tabs.length → (tab q.tabs i).rw = (tab p.tabs i).rw
section
variable {p q : Prob}
theorem Rlx.all (h : Rlx p q) (i : Nat) : (tab q.tabs i).kind = (tab p.tabs i).kind ∧ (tab q.tabs i).src = (tab p.tabs i).src ∧ (tab q.tabs i).rw = (tab p.tabs i).rw := by
  by_cases c : i < p.tabs.length
  · exact ⟨(h.tt i c).1, (h.tt i c).2.1, h.rw i c⟩
  · have e1 : tab p.tabs i = default := by simp [tab, List.getD, List.getElem?_eq_none (Nat.le_of_not_lt c)]
    have e2 : tab q.tabs i = default := by simp [tab, List.getD, List.getElem?_eq_none (by rw [h.tl]; exact Nat.le_of_not_lt c : q.tabs.length ≤ i)]
    rw [e1, e2]
    exact ⟨rfl, rfl, rfl⟩
theorem Rlx.stored (h : Rlx p q) (i : Nat) : Go.Sv.stored (tab q.tabs i) = Go.Sv.stored (tab p.tabs i) := by
  unfold Go.Sv.stored
  rw [(h.all i).1]
theorem Rlx.heldS (h : Rlx p q) (m : Mx) (i v : Int) : Go.Sv.heldS q m i v = Go.Sv.heldS p m i v := by
  unfold Go.Sv.heldS
  apply List.map_congr_left
  intro k _
  rw [h.tl, (h.all k).2.1, h.stored k]
theorem Rlx.rewB (h : Rlx p q) (m : Mx) (i : Nat) : Go.Sv.rewB q m i = Go.Sv.rewB p m i := by
  unfold Go.Sv.rewB
  rw [(h.all i).2.1, (h.all i).2.2]
theorem Rlx.aft (h : Rlx p q) (m : Mx) (s : Sp) : Go.Sv.aft q m s = Go.Sv.aft p m s := by
  unfold Go.Sv.aft
  dsimp only
  rw [h.heldS, h.stored, (h.all s.ix.toNat).1, (h.all s.ix.toNat).2.1, h.rewB]
theorem Rlx.existsB (h : Rlx p q) (s : Sp) : Go.Sv.existsB q s = Go.Sv.existsB p s := by
  unfold Go.Sv.existsB
  rw [h.tl, h.vs]
theorem Rlx.appE (h : Rlx p q) (m : Mx) (s : Sp) : Go.Sv.appE q m s = Go.Sv.appE p m s := by
  unfold Go.Sv.appE
  rw [h.existsB, h.aft]
theorem Rlx.apM (h : Rlx p q) (m : Mx) (s : Sp) : Go.Sv.apM q m s = Go.Sv.apM p m s := by
  unfold Go.Sv.apM
  rw [h.appE, h.aft]
theorem Rlx.rob (h : Rlx p q) (m : Mx) (hr : robB p m = true) : robB q m = true := rob_relaxed h.vs h.tl h.tt hr
theorem Rlx.stMx (h : Rlx p q) : Go.Sv.stMx q = Go.Sv.stMx p := by
  unfold Go.Sv.stMx
  rw [h.now, h.tl]
  congr 1
  apply List.map_congr_left
  intro k _
  unfold stHd
  rw [h.stored, h.now, (h.all k).2.1]
theorem Rlx.goal (h : Rlx p q) (m : Mx) : goalB q m = goalB p m := by
  unfold goalB
  rw [h.tgt]
/-- a way through p's region to a goal is a plan of q -/
theorem Rlx.plan {st : Mx → List Sp} (h : Rlx p q) (hst : ∀ m s, s ∈ st m → Go.Sv.appE p m s = 0 ∧ s.kind ≠ 4) {l : List Sp} {m : Mx} (hp : Pth st (Go.Sv.apM p) (robB p) (Go.Sv.stMx p) l m) (h0 : robB p (Go.Sv.stMx p) = true) (hg : goalB p m = true) : chkB q l = true := by
  unfold chkB
  have h1 := pth_ck (q := q) (fun m s hs => ⟨by rw [h.appE]; exact (hst m s hs).1, (hst m s hs).2, h.apM m s⟩) h.rob hp []
  rw [List.append_nil] at h1
  rw [h.stMx, h.rob _ h0, h1, ckB, h.goal, hg]
  rfl
/-- the same for the plan that Find gives -/
theorem find_plan {st : Mx → List Sp} {most f : Nat} {g : Rg} {i : Nat} (h : Rlx p q) (hst : ∀ m s, s ∈ st m → Go.Sv.appE p m s = 0 ∧ s.kind ≠ 4) (h0 : robB p (Go.Sv.stMx p) = true) (hr : rgAll st (Go.Sv.apM p) (robB p) most f 0 (rgStart (Go.Sv.stMx p)) = some g) (hi : i < g.nds.length) (hg : goalB p (ndAt g.nds i).m = true) : chkB q (wayB g.nds g.nds.length (i : Int)).reverse = true :=
  h.plan hst (way_pth (RgI.all f 0 _ g RgI.start hr) g.nds.length i hi hi) h0 hg
/-- clearing in a robust mix leads to a robust mix -/
theorem clear_rob {i : Nat} {m : Mx} (hm : MOk p m) (ha : Go.Sv.appE p m ⟨3, i, 0⟩ = 0) (hr : robB p m = true) : robB p (Go.Sv.apM p m ⟨3, i, 0⟩) = true := by
  obtain ⟨h1, h2, x, h3⟩ := appE_ok.1 ha
  rw [apM_ok h1 h2 h3]
  have hl := fun k hk => held_less hm h1 h2 h3 (Or.inl rfl) k hk
  have hb : x.base = m.base ∧ x.next = m.next := by
    unfold Go.Sv.aft at h3
    dsimp only at h3
    rw [if_neg (by decide), if_pos rfl] at h3
    split at h3
    · cases h3
    · cases h3
      exact ⟨rfl, rfl⟩
  exact rob_less hb.1 hb.2 hl hr
end
end Go.Sv
