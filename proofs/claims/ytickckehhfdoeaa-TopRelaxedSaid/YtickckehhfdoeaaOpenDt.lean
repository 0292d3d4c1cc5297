/-
  ARGUMENTS OPENED: drafts of problems, codes.
  Conditions: none.
-/
import Derived.Test.YtickckehhfdoeaaOpenG
import Derived.Test.YtickckehhfdoeaaStOc
import Derived.Lib.SmallJoins
namespace Go.Proofs.Ytickckehhfdoeaa
open Go.ChangeShapes Go.WideShapes Go.ChangeAt Go.RowKit Go.Sv

section
variable {H : Type} {enc : TypeId × Value → H} {W : World}

set_option maxRecDepth 100000 in
theorem trod_bytes {fuel : Nat} {cs : List Value} {x : DataW H × List MemPlace} (hf : DataW.trod enc Try.prog W 0 (fun _ => true) true fuel 29 cs = some x) (hlt : ∀ y ∈ x.2, y.block < W.heap.size) :
    ∃ (A : Option Addr) (l : List Int) (c : Nat), cs = [.slice A l.length c] ∧ Bt8 l ∧ Arr W W.heap.size A l.length (u8v l) := by
  have k : Try.prog.cellsOf 5 = 1 := by kernel_rfl
  obtain ⟨A, l, c, e, h1, h2, _, h4, h5⟩ := trod_iarr Try.underlying29 Try.underlying5 k hf hlt
  unfold maxLen at h2
  refine ⟨A, l, c, e, ⟨fun i hi => ?_, by omega⟩, h4⟩
  have := h5 i hi
  simp [Lit.wf, IntKind.min, IntKind.max, IntKind.signed, IntKind.bits] at this
  omega

set_option maxRecDepth 100000 in
theorem trod_link {fuel : Nat} {cs : List Value} {x : DataW H × List MemPlace} (hf : DataW.trod enc Try.prog W 0 (fun _ => true) true fuel 91 cs = some x) (hlt : ∀ y ∈ x.2, y.block < W.heap.size) (hl : cs.length = 6) :
    ∃ t : Lnk, (∀ i, i < 6 → cs[i]? = some (lkC t i)) ∧ (0 ≤ t.kind ∧ t.kind < 256) ∧ (0 ≤ t.src ∧ t.src < 256) ∧ (0 ≤ t.dst ∧ t.dst < 256) ∧ (0 ≤ t.bad ∧ t.bad < 65536) ∧ (0 ≤ t.lost ∧ t.lost < 65536) := by
  obtain ⟨c0, c1, c2, c3, c4, c5, rfl⟩ : ∃ c0 c1 c2 c3 c4 c5, cs = [c0, c1, c2, c3, c4, c5] := by
    match cs, hl with
    | [c0, c1, c2, c3, c4, c5], _ => exact ⟨c0, c1, c2, c3, c4, c5, rfl⟩
  have k3 : Try.prog.cellsOf 5 = 1 := by kernel_rfl
  have k4 : Try.prog.cellsOf 4 = 1 := by kernel_rfl
  have k5 : Try.prog.cellsOf 49 = 1 := by kernel_rfl
  obtain ⟨_, _, h0, _⟩ := open_field Try.underlying91 hf hlt 0 5 0 1 rfl k3
  obtain ⟨_, _, h1, _⟩ := open_field Try.underlying91 hf hlt 1 5 1 1 rfl k3
  obtain ⟨_, _, h2, _⟩ := open_field Try.underlying91 hf hlt 2 5 2 1 rfl k3
  obtain ⟨_, _, h3, _⟩ := open_field Try.underlying91 hf hlt 3 4 3 1 rfl k4
  obtain ⟨_, _, h4, _⟩ := open_field Try.underlying91 hf hlt 4 49 4 1 rfl k5
  obtain ⟨_, _, h5, _⟩ := open_field Try.underlying91 hf hlt 5 49 5 1 rfl k5
  obtain ⟨z0, e0, _, w0⟩ := DataW.trod_int Try.underlying5 h0
  obtain ⟨z1, e1, _, w1⟩ := DataW.trod_int Try.underlying5 h1
  obtain ⟨z2, e2, _, w2⟩ := DataW.trod_int Try.underlying5 h2
  obtain ⟨z3, e3, _⟩ := DataW.trod_bool Try.underlying4 h3
  obtain ⟨z4, e4, _, w4⟩ := DataW.trod_int Try.underlying49 h4
  obtain ⟨z5, e5, _, w5⟩ := DataW.trod_int Try.underlying49 h5
  simp at e0 e1 e2 e3 e4 e5
  subst e0 e1 e2 e3 e4 e5
  simp [Lit.wf, IntKind.min, IntKind.max, IntKind.signed, IntKind.bits] at w0 w1 w2 w4 w5
  refine ⟨⟨z0, z1, z2, z3, z4, z5⟩, fun i hi => ?_, ⟨w0.1, by dsimp only; omega⟩, ⟨w1.1, by dsimp only; omega⟩, ⟨w2.1, by dsimp only; omega⟩, ⟨w4.1, by dsimp only; omega⟩, ⟨w5.1, by dsimp only; omega⟩⟩
  match i, hi with
  | 0, _ => rfl
  | 1, _ => rfl
  | 2, _ => rfl
  | 3, _ => rfl
  | 4, _ => rfl
  | 5, _ => rfl

set_option maxRecDepth 100000 in
theorem trod_links {fuel : Nat} {cs : List Value} {x : DataW H × List MemPlace} (hf : DataW.trod enc Try.prog W 0 (fun _ => true) true fuel 30 cs = some x) (hlt : ∀ y ∈ x.2, y.block < W.heap.size) :
    ∃ (A : Option Addr) (ts : List Lnk) (c : Nat), cs = [.slice A ts.length c] ∧ ts.length ≤ 9223372036854775807 ∧ ArrN W W.heap.size 6 A ts.length (fun k i => lkC (lkAt ts k) i) ∧
      ∀ k, k < ts.length → (0 ≤ (lkAt ts k).kind ∧ (lkAt ts k).kind < 256) ∧ (0 ≤ (lkAt ts k).src ∧ (lkAt ts k).src < 256) ∧ (0 ≤ (lkAt ts k).dst ∧ (lkAt ts k).dst < 256) ∧ (0 ≤ (lkAt ts k).bad ∧ (lkAt ts k).bad < 65536) ∧ (0 ≤ (lkAt ts k).lost ∧ (lkAt ts k).lost < 65536) := by
  have k6 : Try.prog.cellsOf 91 = 6 := by kernel_rfl
  obtain ⟨A, n, c, rfl, hnc, hcm, hA, hrow⟩ := open_trod Try.underlying30 k6 (by omega) hf hlt
  have hex : ∃ l : List Lnk, l.length = n ∧ ∀ (j : Nat) (x : Lnk), l[j]? = some x →
      ((0 ≤ x.kind ∧ x.kind < 256) ∧ (0 ≤ x.src ∧ x.src < 256) ∧ (0 ≤ x.dst ∧ x.dst < 256) ∧ (0 ≤ x.bad ∧ x.bad < 65536) ∧ (0 ≤ x.lost ∧ x.lost < 65536)) ∧ ∀ b off, A = some ⟨b, off, none⟩ → ∀ i, i < 6 → W.cell? ⟨b, off + j * 6 + i, none⟩ = some (lkC x i) := by
    refine exists_list (fun j (x : Lnk) => ((0 ≤ x.kind ∧ x.kind < 256) ∧ (0 ≤ x.src ∧ x.src < 256) ∧ (0 ≤ x.dst ∧ x.dst < 256) ∧ (0 ≤ x.bad ∧ x.bad < 65536) ∧ (0 ≤ x.lost ∧ x.lost < 65536)) ∧
      ∀ b off, A = some ⟨b, off, none⟩ → ∀ i, i < 6 → W.cell? ⟨b, off + j * 6 + i, none⟩ = some (lkC x i)) n (fun j hj => ?_)
    obtain ⟨b, off, rfl, hb, hcells⟩ := hrow (by omega)
    obtain ⟨cs, fuel', x', hl, hc, htr, hlt'⟩ := hcells j hj
    obtain ⟨t, hcc, hr⟩ := trod_link htr hlt' hl
    refine ⟨t, hr, fun b' off' heq i hi => ?_⟩
    injection heq with heq
    injection heq with q1 q2
    subst q1 q2
    rw [hc i hi, hcc i hi]
  obtain ⟨l, hl, hq⟩ := hex
  subst hl
  have hrow' : ∀ k, k < l.length → l[k]? = some (lkAt l k) := fun k hk => by unfold lkAt; rw [List.getElem?_eq_getElem hk]; rfl
  unfold maxLen at hcm
  refine ⟨A, l, c, rfl, by omega, fun hn => ?_, fun i hi => (hq i _ (hrow' i hi)).1⟩
  obtain ⟨b, off, hAe, hb, _⟩ := hrow (by omega)
  exact ⟨b, off, hAe, hb, fun k hk i hi => (hq k _ (hrow' k hk)).2 b off hAe i hi⟩

set_option maxRecDepth 100000 in
theorem open_dra {v : Value} {d : DataW H} {p : List MemPlace} {base : Nat} (hv : Value.okWide Try.prog W .any base 32 v) (h : DataW.Trod enc Try.prog W 0 (fun _ => true) true 32 v d p) (hlt : ∀ x ∈ p, x.block < W.heap.size) :
    ∃ (d : Dra) (q : ProbP), v = draV d q ∧ RDra W W.heap.size d q ∧ DBd d := by
  obtain ⟨v0, v1, v2, v3, y0, y1, y2, y3, n, rfl, rfl, rfl, h0, h1, h2, h3⟩ := Joins.open_agg4 Try.underlying32 (by kernel_rfl) (by kernel_rfl) hv h
  obtain ⟨A0, l0, c0, e0, b0, r0⟩ := trod_bytes h0 (fun y hy => hlt y (by simp [hy]))
  obtain ⟨A1, l1, c1, e1, b1, r1⟩ := trod_bytes h1 (fun y hy => hlt y (by simp [hy]))
  obtain ⟨A2, l2, c2, e2, b2, r2⟩ := trod_bytes h2 (fun y hy => hlt y (by simp [hy]))
  obtain ⟨A3, l3, c3, e3, b3, r3, q3⟩ := trod_links h3 (fun y hy => hlt y (by simp [hy]))
  simp at e0 e1 e2 e3
  subst e0 e1 e2 e3
  exact ⟨⟨l0, l1, l2, l3⟩, ⟨A0, c0, A1, c1, A2, c2, A3, c3⟩, rfl, ⟨r0, r1, r2, r3⟩, ⟨b0, b1, b2, b3, q3⟩⟩
end
end Go.Proofs.Ytickckehhfdoeaa
