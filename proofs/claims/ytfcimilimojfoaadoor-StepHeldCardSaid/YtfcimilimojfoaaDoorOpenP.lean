/-
  ARGUMENTS OPENED: problems (services, versions, tables).
  Conditions: none.
-/
import Derived.Test.YtfcimilimojfoaaDoorOpenG
import Derived.Test.YtfcimilimojfoaaDoorProb
import Derived.Lib.SmallJoins
namespace Go.Proofs.YtfcimilimojfoaaDoor
open Go.ChangeShapes Go.WideShapes Go.ChangeAt Go.RowKit Go.Sv

section
variable {H : Type} {enc : TypeId × Value → H} {W : World}

set_option maxRecDepth 100000 in
theorem trod_mat {fuel : Nat} {cs : List Value} {x : DataW H × List MemPlace} (hf : DataW.trod enc Tryd.prog W 0 (fun _ => true) true fuel 96 cs = some x) (hlt : ∀ y ∈ x.2, y.block < W.heap.size) :
    ∃ (A : Option Addr) (m : List (List Bool)) (c : Nat), cs = [.slice A m.length c] ∧ m.length ≤ 9223372036854775807 ∧ RMat W W.heap.size A m := by
  have k1 : Tryd.prog.cellsOf 104 = 1 := by kernel_rfl
  have k0 : Tryd.prog.cellsOf 4 = 1 := by kernel_rfl
  obtain ⟨A, n, c, rfl, hnc, hcm, hA, hrow⟩ := open_trod Tryd.underlying96 k1 (by omega) hf hlt
  have hex : ∃ l : List (Option Addr × List Bool × Nat), l.length = n ∧ ∀ (j : Nat) (x : Option Addr × List Bool × Nat), l[j]? = some x →
      Arr W W.heap.size x.1 x.2.1.length (fun i => .bool (x.2.1.getD i false)) ∧ ∀ b off, A = some ⟨b, off, none⟩ → W.cell? ⟨b, off + j, none⟩ = some (.slice x.1 x.2.1.length x.2.2) := by
    refine exists_list (fun j (x : Option Addr × List Bool × Nat) => Arr W W.heap.size x.1 x.2.1.length (fun i => .bool (x.2.1.getD i false)) ∧
      ∀ b off, A = some ⟨b, off, none⟩ → W.cell? ⟨b, off + j, none⟩ = some (.slice x.1 x.2.1.length x.2.2)) n (fun j hj => ?_)
    obtain ⟨b, off, rfl, hb, hcells⟩ := hrow (by omega)
    obtain ⟨cs, fuel', x', hl, hc, htr, hlt'⟩ := hcells j hj
    obtain ⟨A', l', c', rfl, _, _, _, harr⟩ := trod_barr Tryd.underlying104 Tryd.underlying4 k0 htr hlt'
    refine ⟨(A', l', c'), harr, fun b' off' heq => ?_⟩
    injection heq with heq
    injection heq with q1 q2
    subst q1 q2
    simpa using hc 0 (by omega)
  obtain ⟨l, hl, hq⟩ := hex
  have hrow' : ∀ k, k < n → ∃ x, l[k]? = some x := fun k hk => ⟨l[k], List.getElem?_eq_getElem (by omega)⟩
  unfold maxLen at hcm
  have hm : (l.map (·.2.1)).length = n := by simp [hl]
  refine ⟨A, l.map (·.2.1), c, by rw [hm], by omega, fun i => ((l.getD i (none, [], 0)).1, (l.getD i (none, [], 0)).2.2), ?_, fun i hi => ?_⟩
  · rw [hm]
    intro hn
    obtain ⟨b, off, hAe, hb, _⟩ := hrow (by omega)
    refine ⟨b, off, hAe, hb, fun k hk => ?_⟩
    obtain ⟨x, hx⟩ := hrow' k hk
    have := (hq k x hx).2 b off hAe
    simpa [mlen, mrow, hx] using this
  · rw [hm] at hi
    obtain ⟨x, hx⟩ := hrow' i hi
    have := (hq i x hx).1
    simpa [mlen, mrow, mat, hx] using this

set_option maxRecDepth 100000 in
theorem trod_tab {fuel : Nat} {cs : List Value} {x : DataW H × List MemPlace} (hf : DataW.trod enc Tryd.prog W 0 (fun _ => true) true fuel 98 cs = some x) (hlt : ∀ y ∈ x.2, y.block < W.heap.size) (hl : cs.length = 6) :
    ∃ (t : Tab) (q : TabP), (∀ i, i < 6 → cs[i]? = some (tabCells t q i)) ∧ RTab W W.heap.size t q ∧ t.ok.length ≤ 9223372036854775807 ∧ t.rw.length ≤ 9223372036854775807 := by
  obtain ⟨c0, c1, c2, c3, c4, c5, rfl⟩ : ∃ c0 c1 c2 c3 c4 c5, cs = [c0, c1, c2, c3, c4, c5] := by
    match cs, hl with
    | [c0, c1, c2, c3, c4, c5], _ => exact ⟨c0, c1, c2, c3, c4, c5, rfl⟩
  have k3 : Tryd.prog.cellsOf 3 = 1 := by kernel_rfl
  have k4 : Tryd.prog.cellsOf 4 = 1 := by kernel_rfl
  have k5 : Tryd.prog.cellsOf 96 = 1 := by kernel_rfl
  obtain ⟨_, _, h0, _⟩ := open_field Tryd.underlying98 hf hlt 0 3 0 1 rfl k3
  obtain ⟨_, _, h1, _⟩ := open_field Tryd.underlying98 hf hlt 1 3 1 1 rfl k3
  obtain ⟨_, _, h2, _⟩ := open_field Tryd.underlying98 hf hlt 2 3 2 1 rfl k3
  obtain ⟨_, _, h3, _⟩ := open_field Tryd.underlying98 hf hlt 3 4 3 1 rfl k4
  obtain ⟨_, _, h4, g4⟩ := open_field Tryd.underlying98 hf hlt 4 96 4 1 rfl k5
  obtain ⟨_, _, h5, g5⟩ := open_field Tryd.underlying98 hf hlt 5 96 5 1 rfl k5
  obtain ⟨z0, e0, _⟩ := DataW.trod_int Tryd.underlying3 h0
  obtain ⟨z1, e1, _⟩ := DataW.trod_int Tryd.underlying3 h1
  obtain ⟨z2, e2, _⟩ := DataW.trod_int Tryd.underlying3 h2
  obtain ⟨z3, e3, _⟩ := DataW.trod_bool Tryd.underlying4 h3
  obtain ⟨A4, m4, q4, e4, n4, r4⟩ := trod_mat h4 g4
  obtain ⟨A5, m5, q5, e5, n5, r5⟩ := trod_mat h5 g5
  simp at e0 e1 e2 e3 e4 e5
  subst e0 e1 e2 e3 e4 e5
  refine ⟨⟨z0, z1, z2, z3, m4, m5⟩, ⟨A4, q4, A5, q5⟩, fun i hi => ?_, ⟨r4, r5⟩, n4, n5⟩
  match i, hi with
  | 0, _ => rfl
  | 1, _ => rfl
  | 2, _ => rfl
  | 3, _ => rfl
  | 4, _ => rfl
  | 5, _ => rfl

set_option maxRecDepth 100000 in
theorem trod_tabs {fuel : Nat} {cs : List Value} {x : DataW H × List MemPlace} (hf : DataW.trod enc Tryd.prog W 0 (fun _ => true) true fuel 31 cs = some x) (hlt : ∀ y ∈ x.2, y.block < W.heap.size) :
    ∃ (A : Option Addr) (ts : List Tab) (c : Nat), cs = [.slice A ts.length c] ∧ ts.length ≤ 9223372036854775807 ∧ RTabs W W.heap.size A ts ∧
      ∀ k, k < ts.length → (tab ts k).ok.length ≤ 9223372036854775807 ∧ (tab ts k).rw.length ≤ 9223372036854775807 := by
  have k6 : Tryd.prog.cellsOf 98 = 6 := by kernel_rfl
  obtain ⟨A, n, c, rfl, hnc, hcm, hA, hrow⟩ := open_trod Tryd.underlying31 k6 (by omega) hf hlt
  have hex : ∃ l : List (Tab × TabP), l.length = n ∧ ∀ (j : Nat) (x : Tab × TabP), l[j]? = some x →
      (RTab W W.heap.size x.1 x.2 ∧ x.1.ok.length ≤ 9223372036854775807 ∧ x.1.rw.length ≤ 9223372036854775807) ∧ ∀ b off, A = some ⟨b, off, none⟩ → ∀ i, i < 6 → W.cell? ⟨b, off + j * 6 + i, none⟩ = some (tabCells x.1 x.2 i) := by
    refine exists_list (fun j (x : Tab × TabP) => (RTab W W.heap.size x.1 x.2 ∧ x.1.ok.length ≤ 9223372036854775807 ∧ x.1.rw.length ≤ 9223372036854775807) ∧
      ∀ b off, A = some ⟨b, off, none⟩ → ∀ i, i < 6 → W.cell? ⟨b, off + j * 6 + i, none⟩ = some (tabCells x.1 x.2 i)) n (fun j hj => ?_)
    obtain ⟨b, off, rfl, hb, hcells⟩ := hrow (by omega)
    obtain ⟨cs, fuel', x', hl, hc, htr, hlt'⟩ := hcells j hj
    obtain ⟨t, q, hcc, hr, n1, n2⟩ := trod_tab htr hlt' hl
    refine ⟨(t, q), ⟨hr, n1, n2⟩, fun b' off' heq i hi => ?_⟩
    injection heq with heq
    injection heq with q1 q2
    subst q1 q2
    rw [hc i hi, hcc i hi]
  obtain ⟨l, hl, hq⟩ := hex
  have hrow' : ∀ k, k < n → ∃ x, l[k]? = some x := fun k hk => ⟨l[k], List.getElem?_eq_getElem (by omega)⟩
  unfold maxLen at hcm
  have hm : (l.map (·.1)).length = n := by simp [hl]
  have hto : ∀ k x, l[k]? = some x → tab (l.map (·.1)) k = x.1 ∧ l.getD k (default, ⟨none, 0, none, 0⟩) = x := fun k x hx => ⟨by simp [tab, hx], by simp [hx]⟩
  refine ⟨A, l.map (·.1), c, by rw [hm], by omega, ⟨fun k => (l.getD k (default, ⟨none, 0, none, 0⟩)).2, ?_, fun i hi => ?_⟩, fun i hi => ?_⟩
  · rw [hm]
    intro hn
    obtain ⟨b, off, hAe, hb, _⟩ := hrow (by omega)
    refine ⟨b, off, hAe, hb, fun k hk i hi => ?_⟩
    obtain ⟨x, hx⟩ := hrow' k hk
    have := (hq k x hx).2 b off hAe i hi
    have e1 := (hto k x hx).1
    have e2 := (hto k x hx).2
    show W.cell? _ = some (tabCells (tab (l.map (·.1)) k) (l.getD k (default, ⟨none, 0, none, 0⟩)).2 i)
    rw [e1, e2]
    exact this
  · rw [hm] at hi
    obtain ⟨x, hx⟩ := hrow' i hi
    have := (hq i x hx).1.1
    have e1 := (hto i x hx).1
    have e2 := (hto i x hx).2
    show RTab W W.heap.size (tab (l.map (·.1)) i) (l.getD i (default, ⟨none, 0, none, 0⟩)).2
    rw [e1, e2]
    exact this
  · rw [hm] at hi
    obtain ⟨x, hx⟩ := hrow' i hi
    have := (hq i x hx).1.2
    rw [(hto i x hx).1]
    exact this

set_option maxRecDepth 100000 in
theorem open_prob {v : Value} {d : DataW H} {p : List MemPlace} {base : Nat} (hv : Value.okWide Tryd.prog W .any base 33 v) (h : DataW.Trod enc Tryd.prog W 0 (fun _ => true) true 33 v d p) (hlt : ∀ x ∈ p, x.block < W.heap.size) :
    ∃ (P : Prob) (q : ProbP), v = probV P q ∧ RProb W W.heap.size P q ∧ PBd P := by
  have k1 : Tryd.prog.cellsOf 3 = 1 := by kernel_rfl
  obtain ⟨v0, v1, v2, v3, y0, y1, y2, y3, n, rfl, rfl, rfl, h0, h1, h2, h3⟩ := Joins.open_agg4 Tryd.underlying33 (by kernel_rfl) (by kernel_rfl) hv h
  obtain ⟨A0, l0, c0, e0, n0, m0, _, r0, _⟩ := trod_iarr Tryd.underlying30 Tryd.underlying3 k1 h0 (fun y hy => hlt y (by simp [hy]))
  obtain ⟨A1, l1, c1, e1, n1, m1, _, r1, _⟩ := trod_iarr Tryd.underlying30 Tryd.underlying3 k1 h1 (fun y hy => hlt y (by simp [hy]))
  obtain ⟨A2, l2, c2, e2, n2, m2, _, r2, _⟩ := trod_iarr Tryd.underlying30 Tryd.underlying3 k1 h2 (fun y hy => hlt y (by simp [hy]))
  obtain ⟨A3, l3, c3, e3, n3, r3, b3⟩ := trod_tabs h3 (fun y hy => hlt y (by simp [hy]))
  simp at e0 e1 e2 e3
  subst e0 e1 e2 e3
  unfold maxLen at m0 m1 m2
  exact ⟨⟨l0, l1, l2, l3⟩, ⟨A0, c0, A1, c1, A2, c2, A3, c3⟩, rfl, ⟨r0, r1, r2, r3⟩, ⟨show l0.length ≤ _ by omega, show l1.length ≤ _ by omega, show l2.length ≤ _ by omega, n3, b3⟩⟩
end
end Go.Proofs.YtfcimilimojfoaaDoor
