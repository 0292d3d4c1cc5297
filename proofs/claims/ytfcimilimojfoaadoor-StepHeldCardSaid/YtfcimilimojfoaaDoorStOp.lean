/-
  ARGUMENTS OPENED: drafts of problems and mixes, steps.
  Conditions: none.
-/
import Derived.Test.YtfcimilimojfoaaDoorOpenP
import Derived.Test.YtfcimilimojfoaaDoorSb13
namespace Go.Proofs.YtfcimilimojfoaaDoor
open Go.ChangeShapes Go.WideShapes Go.ChangeAt Go.RowKit Go.Sv

section
variable {H : Type} {enc : TypeId × Value → H} {W : World}

set_option maxRecDepth 100000 in
theorem trod_bytes {fuel : Nat} {cs : List Value} {x : DataW H × List MemPlace} (hf : DataW.trod enc Tryd.prog W 0 (fun _ => true) true fuel 22 cs = some x) (hlt : ∀ y ∈ x.2, y.block < W.heap.size) :
    ∃ (A : Option Addr) (l : List Int) (c : Nat), cs = [.slice A l.length c] ∧ Bt8 l ∧ Arr W W.heap.size A l.length (u8v l) := by
  have k : Tryd.prog.cellsOf 5 = 1 := by kernel_rfl
  obtain ⟨A, l, c, e, h1, h2, _, h4, h5⟩ := trod_iarr Tryd.underlying22 Tryd.underlying5 k hf hlt
  unfold maxLen at h2
  refine ⟨A, l, c, e, ⟨fun i hi => ?_, by omega⟩, h4⟩
  have := h5 i hi
  simp [Lit.wf, IntKind.min, IntKind.max, IntKind.signed, IntKind.bits] at this
  omega

set_option maxRecDepth 100000 in
theorem trod_link {fuel : Nat} {cs : List Value} {x : DataW H × List MemPlace} (hf : DataW.trod enc Tryd.prog W 0 (fun _ => true) true fuel 118 cs = some x) (hlt : ∀ y ∈ x.2, y.block < W.heap.size) (hl : cs.length = 6) :
    ∃ t : Lnk, (∀ i, i < 6 → cs[i]? = some (lkC t i)) ∧ (0 ≤ t.kind ∧ t.kind < 256) ∧ (0 ≤ t.src ∧ t.src < 256) ∧ (0 ≤ t.dst ∧ t.dst < 256) ∧ (0 ≤ t.bad ∧ t.bad < 65536) ∧ (0 ≤ t.lost ∧ t.lost < 65536) := by
  obtain ⟨c0, c1, c2, c3, c4, c5, rfl⟩ : ∃ c0 c1 c2 c3 c4 c5, cs = [c0, c1, c2, c3, c4, c5] := by
    match cs, hl with
    | [c0, c1, c2, c3, c4, c5], _ => exact ⟨c0, c1, c2, c3, c4, c5, rfl⟩
  have k3 : Tryd.prog.cellsOf 5 = 1 := by kernel_rfl
  have k4 : Tryd.prog.cellsOf 4 = 1 := by kernel_rfl
  have k5 : Tryd.prog.cellsOf 116 = 1 := by kernel_rfl
  obtain ⟨_, _, h0, _⟩ := open_field Tryd.underlying118 hf hlt 0 5 0 1 rfl k3
  obtain ⟨_, _, h1, _⟩ := open_field Tryd.underlying118 hf hlt 1 5 1 1 rfl k3
  obtain ⟨_, _, h2, _⟩ := open_field Tryd.underlying118 hf hlt 2 5 2 1 rfl k3
  obtain ⟨_, _, h3, _⟩ := open_field Tryd.underlying118 hf hlt 3 4 3 1 rfl k4
  obtain ⟨_, _, h4, _⟩ := open_field Tryd.underlying118 hf hlt 4 116 4 1 rfl k5
  obtain ⟨_, _, h5, _⟩ := open_field Tryd.underlying118 hf hlt 5 116 5 1 rfl k5
  obtain ⟨z0, e0, _, w0⟩ := DataW.trod_int Tryd.underlying5 h0
  obtain ⟨z1, e1, _, w1⟩ := DataW.trod_int Tryd.underlying5 h1
  obtain ⟨z2, e2, _, w2⟩ := DataW.trod_int Tryd.underlying5 h2
  obtain ⟨z3, e3, _⟩ := DataW.trod_bool Tryd.underlying4 h3
  obtain ⟨z4, e4, _, w4⟩ := DataW.trod_int Tryd.underlying116 h4
  obtain ⟨z5, e5, _, w5⟩ := DataW.trod_int Tryd.underlying116 h5
  simp at e0 e1 e2 e3 e4 e5
  subst e0 e1 e2 e3 e4 e5
  simp [Lit.wf, IntKind.min, IntKind.max, IntKind.signed, IntKind.bits] at w0 w1 w2 w4 w5
  refine ⟨⟨z0, z1, z2, z3, z4, z5⟩, fun i hi => ?_, ⟨w0.1, by dsimp only; omega⟩, ⟨w1.1, by dsimp only; omega⟩, ⟨w2.1, by dsimp only; omega⟩, ⟨w4.1, by dsimp only; omega⟩, ⟨w5.1, by dsimp only; omega⟩⟩
  match i, hi with
  | 0, _ => rfl
  | 1, _ => rfl
  | 2, _ => rfl
  | 3, _ => rfl
  | 4, _ => rfl
  | 5, _ => rfl

set_option maxRecDepth 100000 in
theorem trod_links {fuel : Nat} {cs : List Value} {x : DataW H × List MemPlace} (hf : DataW.trod enc Tryd.prog W 0 (fun _ => true) true fuel 23 cs = some x) (hlt : ∀ y ∈ x.2, y.block < W.heap.size) :
    ∃ (A : Option Addr) (ts : List Lnk) (c : Nat), cs = [.slice A ts.length c] ∧ ts.length ≤ 9223372036854775807 ∧ ArrN W W.heap.size 6 A ts.length (fun k i => lkC (lkAt ts k) i) ∧
      ∀ k, k < ts.length → (0 ≤ (lkAt ts k).kind ∧ (lkAt ts k).kind < 256) ∧ (0 ≤ (lkAt ts k).src ∧ (lkAt ts k).src < 256) ∧ (0 ≤ (lkAt ts k).dst ∧ (lkAt ts k).dst < 256) ∧ (0 ≤ (lkAt ts k).bad ∧ (lkAt ts k).bad < 65536) ∧ (0 ≤ (lkAt ts k).lost ∧ (lkAt ts k).lost < 65536) := by
  have k6 : Tryd.prog.cellsOf 118 = 6 := by kernel_rfl
  obtain ⟨A, n, c, rfl, hnc, hcm, hA, hrow⟩ := open_trod Tryd.underlying23 k6 (by omega) hf hlt
  have hex : ∃ l : List Lnk, l.length = n ∧ ∀ (j : Nat) (x : Lnk), l[j]? = some x →
      ((0 ≤ x.kind ∧ x.kind < 256) ∧ (0 ≤ x.src ∧ x.src < 256) ∧ (0 ≤ x.dst ∧ x.dst < 256) ∧ (0 ≤ x.bad ∧ x.bad < 65536) ∧ (0 ≤ x.lost ∧ x.lost < 65536)) ∧ ∀ b off, A = some ⟨b, off, none⟩ → ∀ i, i < 6 → W.cell? ⟨b, off + j * 6 + i, none⟩ = some (lkC x i) := by
    refine exists_list (fun j (x : Lnk) => ((0 ≤ x.kind ∧ x.kind < 256) ∧ (0 ≤ x.src ∧ x.src < 256) ∧ (0 ≤ x.dst ∧ x.dst < 256) ∧ (0 ≤ x.bad ∧ x.bad < 65536) ∧ (0 ≤ x.lost ∧ x.lost < 65536)) ∧
      ∀ b off, A = some ⟨b, off, none⟩ → ∀ i, i < 6 → W.cell? ⟨b, off + j * 6 + i, none⟩ = some (lkC x i)) n (fun j hj => ?_)
    obtain ⟨b, off, rfl, hb, hcells⟩ := hrow (by omega)
    obtain ⟨cs, fuel', x', hl, hc, htr, hlt'⟩ := hcells j hj
    obtain ⟨t, hcc, hr⟩ := trod_link htr hlt' hl
    refine ⟨t, hr, fun b' off' heq i hi => ?_⟩
    injection heq with heq
    injection heq with q1 q2
    subst q1 q2
    rw [hc i hi, hcc i hi]
  obtain ⟨l, hl, hq⟩ := hex
  subst hl
  have hrow' : ∀ k, k < l.length → l[k]? = some (lkAt l k) := fun k hk => by unfold lkAt; rw [List.getElem?_eq_getElem hk]; rfl
  unfold maxLen at hcm
  refine ⟨A, l, c, rfl, by omega, fun hn => ?_, fun i hi => (hq i _ (hrow' i hi)).1⟩
  obtain ⟨b, off, hAe, hb, _⟩ := hrow (by omega)
  exact ⟨b, off, hAe, hb, fun k hk i hi => (hq k _ (hrow' k hk)).2 b off hAe i hi⟩

set_option maxRecDepth 100000 in
theorem open_case {v : Value} {d : DataW H} {p : List MemPlace} {base : Nat} (hv : Value.okWide Tryd.prog W .any base 29 v) (h : DataW.Trod enc Tryd.prog W 0 (fun _ => true) true 29 v d p) (hlt : ∀ x ∈ p, x.block < W.heap.size) :
    ∃ (d : Dra) (q : ProbP) (e : DMx) (r : MixP), v = caseV d q e r ∧ RDra W W.heap.size d q ∧ DBd d ∧ RDmx W W.heap.size e r ∧ MDBd e := by
  have k1 : Tryd.prog.cellsOf 25 = 4 := by kernel_rfl
  have k2 : Tryd.prog.cellsOf 27 = 3 := by kernel_rfl
  have k3 : Tryd.prog.cellsOf 22 = 1 := by kernel_rfl
  have k4 : Tryd.prog.cellsOf 23 = 1 := by kernel_rfl
  have k7 : Tryd.prog.cellsOf 29 = 7 := by kernel_rfl
  obtain ⟨cs, rfl, hsz⟩ := okWide_struct Tryd.underlying29 hv
  obtain ⟨fuel, hf⟩ := h
  have hl : cs.toList.length = 7 := by rw [Array.length_toList, hsz, k7]
  obtain ⟨c0, c1, c2, c3, c4, c5, c6, hcs⟩ : ∃ c0 c1 c2 c3 c4 c5 c6, cs.toList = [c0, c1, c2, c3, c4, c5, c6] := by
    match cs.toList, hl with
    | [c0, c1, c2, c3, c4, c5, c6], _ => exact ⟨c0, c1, c2, c3, c4, c5, c6, rfl⟩
  have hc : cs = #[c0, c1, c2, c3, c4, c5, c6] := by rw [← Array.toArray_toList (xs := cs), hcs]
  subst hc
  have hf : DataW.trod enc Tryd.prog W 0 (fun _ => true) true fuel 29 [c0, c1, c2, c3, c4, c5, c6] = some (d, p) := by simpa [Value.cells] using hf
  obtain ⟨_, _, h0, g0⟩ := open_field Tryd.underlying29 hf hlt 0 25 0 4 rfl k1
  obtain ⟨_, _, h1, g1⟩ := open_field Tryd.underlying29 hf hlt 1 27 4 3 rfl k2
  obtain ⟨_, _, x0, y0⟩ := open_field Tryd.underlying25 h0 g0 0 22 0 1 rfl k3
  obtain ⟨_, _, x1, y1⟩ := open_field Tryd.underlying25 h0 g0 1 22 1 1 rfl k3
  obtain ⟨_, _, x2, y2⟩ := open_field Tryd.underlying25 h0 g0 2 22 2 1 rfl k3
  obtain ⟨_, _, x3, y3⟩ := open_field Tryd.underlying25 h0 g0 3 23 3 1 rfl k4
  obtain ⟨_, _, x4, y4⟩ := open_field Tryd.underlying27 h1 g1 0 22 0 1 rfl k3
  obtain ⟨_, _, x5, y5⟩ := open_field Tryd.underlying27 h1 g1 1 22 1 1 rfl k3
  obtain ⟨_, _, x6, y6⟩ := open_field Tryd.underlying27 h1 g1 2 22 2 1 rfl k3
  obtain ⟨A0, l0, n0, e0, b0, r0⟩ := trod_bytes x0 y0
  obtain ⟨A1, l1, n1, e1, b1, r1⟩ := trod_bytes x1 y1
  obtain ⟨A2, l2, n2, e2, b2, r2⟩ := trod_bytes x2 y2
  obtain ⟨A3, l3, n3, e3, b3, r3, q3⟩ := trod_links x3 y3
  obtain ⟨A4, l4, n4, e4, b4, r4⟩ := trod_bytes x4 y4
  obtain ⟨A5, l5, n5, e5, b5, r5⟩ := trod_bytes x5 y5
  obtain ⟨A6, l6, n6, e6, b6, r6⟩ := trod_bytes x6 y6
  simp at e0 e1 e2 e3 e4 e5 e6
  subst e0 e1 e2 e3 e4 e5 e6
  exact ⟨⟨l0, l1, l2, l3⟩, ⟨A0, n0, A1, n1, A2, n2, A3, n3⟩, ⟨l4, l5, l6⟩, ⟨A4, n4, A5, n5, A6, n6⟩, rfl, ⟨r0, r1, r2, r3⟩, ⟨b0, b1, b2, b3, q3⟩, ⟨r4, r5, r6⟩, ⟨b4, b5, b6⟩⟩

set_option maxRecDepth 100000 in
theorem open_step {v : Value} {d : DataW H} {p : List MemPlace} {base : Nat} (hv : Value.okWide Tryd.prog W .any base 52 v) (h : DataW.Trod enc Tryd.prog W 0 (fun _ => true) true 52 v d p) :
    ∃ s : Sp, v = stepV s ∧ (-9223372036854775808 ≤ s.kind ∧ s.kind ≤ 9223372036854775807) ∧ (-9223372036854775808 ≤ s.ix ∧ s.ix ≤ 9223372036854775807) ∧ (-9223372036854775808 ≤ s.ver ∧ s.ver ≤ 9223372036854775807) := by
  obtain ⟨v0, v1, v2, y0, y1, y2, n, rfl, rfl, rfl, h0, h1, h2⟩ := Joins.open_agg3 Tryd.underlying52 (by kernel_rfl) (by kernel_rfl) hv h
  obtain ⟨z0, e0, _, w0⟩ := DataW.trod_int Tryd.underlying3 h0
  obtain ⟨z1, e1, _, w1⟩ := DataW.trod_int Tryd.underlying3 h1
  obtain ⟨z2, e2, _, w2⟩ := DataW.trod_int Tryd.underlying3 h2
  simp at e0 e1 e2
  subst e0 e1 e2
  simp [Lit.wf, IntKind.min, IntKind.max, IntKind.signed, IntKind.bits] at w0 w1 w2
  exact ⟨⟨z0, z1, z2⟩, rfl, w0, w1, w2⟩

set_option maxRecDepth 100000 in
theorem trod_step {fuel : Nat} {cs : List Value} {x : DataW H × List MemPlace} (hf : DataW.trod enc Tryd.prog W 0 (fun _ => true) true fuel 52 cs = some x) (hlt : ∀ y ∈ x.2, y.block < W.heap.size) (hl : cs.length = 3) :
    ∃ s : Sp, ∀ i, i < 3 → cs[i]? = some (spC s i) := by
  obtain ⟨c0, c1, c2, rfl⟩ : ∃ c0 c1 c2, cs = [c0, c1, c2] := by
    match cs, hl with
    | [c0, c1, c2], _ => exact ⟨c0, c1, c2, rfl⟩
  have k3 : Tryd.prog.cellsOf 3 = 1 := by kernel_rfl
  obtain ⟨_, _, h0, _⟩ := open_field Tryd.underlying52 hf hlt 0 3 0 1 rfl k3
  obtain ⟨_, _, h1, _⟩ := open_field Tryd.underlying52 hf hlt 1 3 1 1 rfl k3
  obtain ⟨_, _, h2, _⟩ := open_field Tryd.underlying52 hf hlt 2 3 2 1 rfl k3
  obtain ⟨z0, e0, _⟩ := DataW.trod_int Tryd.underlying3 h0
  obtain ⟨z1, e1, _⟩ := DataW.trod_int Tryd.underlying3 h1
  obtain ⟨z2, e2, _⟩ := DataW.trod_int Tryd.underlying3 h2
  simp at e0 e1 e2
  subst e0 e1 e2
  refine ⟨⟨z0, z1, z2⟩, fun i hi => ?_⟩
  match i, hi with
  | 0, _ => rfl
  | 1, _ => rfl
  | 2, _ => rfl

set_option maxRecDepth 100000 in
theorem open_steps {v : Value} {d : DataW H} {p : List MemPlace} {base : Nat} (hv : Value.okWide Tryd.prog W .any base 40 v) (h : DataW.Trod enc Tryd.prog W 0 (fun _ => true) true 40 v d p) (hlt : ∀ x ∈ p, x.block < W.heap.size) :
    ∃ (A : Option Addr) (l : List Sp) (c : Nat), v = .slice A l.length c ∧ l.length ≤ 9223372036854775807 ∧ (A = none → l.length = 0 ∧ c = 0) ∧ ArrN W W.heap.size 3 A l.length (spF l) := by
  have k4 : Tryd.prog.cellsOf 52 = 3 := by kernel_rfl
  obtain ⟨a0, n0, c0, rfl⟩ := okWide_slice Tryd.underlying40 hv
  obtain ⟨fuel, hf⟩ := h
  obtain ⟨A, n, c, hcs, hnc, hcm, hA, hrow⟩ := open_trod Tryd.underlying40 k4 (by omega) hf hlt
  have hcs' : [Value.slice a0 n0 c0] = [.slice A n c] := hcs
  injection hcs' with hcs' _
  injection hcs' with e1 e2 e3
  subst e1 e2 e3
  have hex : ∃ l : List Sp, l.length = n0 ∧ ∀ (j : Nat) (x : Sp), l[j]? = some x → ∀ b off, a0 = some ⟨b, off, none⟩ → ∀ i, i < 3 → W.cell? ⟨b, off + j * 3 + i, none⟩ = some (spC x i) := by
    refine exists_list (fun j (x : Sp) => ∀ b off, a0 = some ⟨b, off, none⟩ → ∀ i, i < 3 → W.cell? ⟨b, off + j * 3 + i, none⟩ = some (spC x i)) n0 (fun j hj => ?_)
    obtain ⟨b, off, rfl, hb, hcells⟩ := hrow (by omega)
    obtain ⟨cs, fuel', x', hl, hc, htr, hlt'⟩ := hcells j hj
    obtain ⟨r, hr⟩ := trod_step htr hlt' hl
    refine ⟨r, fun b' off' heq i hi => ?_⟩
    injection heq with heq
    injection heq with q1 q2
    subst q1 q2
    rw [hc i hi, hr i hi]
  obtain ⟨l, hl, hq⟩ := hex
  subst hl
  have hrow' : ∀ k, k < l.length → l[k]? = some (spAt l k) := fun k hk => spAt_get hk
  unfold maxLen at hcm
  refine ⟨a0, l, c0, rfl, by omega, hA, fun hn => ?_⟩
  obtain ⟨b, off, hAe, hb, _⟩ := hrow (by omega)
  exact ⟨b, off, hAe, hb, fun k hk i hi => hq k _ (hrow' k hk) b off hAe i hi⟩

set_option maxRecDepth 100000 in
theorem open_mix {v : Value} {d : DataW H} {p : List MemPlace} {base : Nat} (hv : Value.okWide Tryd.prog W .any base 36 v) (h : DataW.Trod enc Tryd.prog W 0 (fun _ => true) true 36 v d p) (hlt : ∀ x ∈ p, x.block < W.heap.size) :
    ∃ (m : Mx) (q : MixP), v = mixV m q ∧ RMix W W.heap.size m q ∧ MBd m q := by
  have k1 : Tryd.prog.cellsOf 3 = 1 := by kernel_rfl
  have k2 : Tryd.prog.cellsOf 64 = 1 := by kernel_rfl
  obtain ⟨v0, v1, v2, y0, y1, y2, n, rfl, rfl, rfl, h0, h1, h2⟩ := Joins.open_agg3 Tryd.underlying36 (by kernel_rfl) (by kernel_rfl) hv h
  obtain ⟨A0, l0, c0, e0, n0, m0, z0, r0, _⟩ := trod_iarr Tryd.underlying30 Tryd.underlying3 k1 h0 (fun y hy => hlt y (by simp [hy]))
  obtain ⟨A1, l1, c1, e1, n1, m1, z1, r1, _⟩ := trod_iarr Tryd.underlying30 Tryd.underlying3 k1 h1 (fun y hy => hlt y (by simp [hy]))
  obtain ⟨A2, l2, c2, e2, n2, m2, z2, r2, w2⟩ := trod_iarr Tryd.underlying34 Tryd.underlying64 k2 h2 (fun y hy => hlt y (by simp [hy]))
  simp at e0 e1 e2
  subst e0 e1 e2
  unfold maxLen at m0 m1 m2
  refine ⟨⟨l0, l1, l2⟩, ⟨A0, c0, A1, c1, A2, c2⟩, rfl, ⟨r0, r1, r2⟩, ⟨show l0.length ≤ _ by omega, show l1.length ≤ _ by omega, show l2.length ≤ _ by omega, z0, z1, z2, fun i hi => ?_⟩⟩
  have := w2 i hi
  simp [Lit.wf, IntKind.min, IntKind.max, IntKind.signed, IntKind.bits] at this
  dsimp only
  omega
end
end Go.Proofs.YtfcimilimojfoaaDoor
