/-
  ARGUMENTS OPENED: replicas.
  Conditions: none.
-/
import Derived.Test.YtcjnfciemangkaaOpenG
import Derived.Test.YtcjnfciemangkaaRepP
namespace Go.Proofs.Ytcjnfciemangkaa
open Go.ChangeShapes Go.WideShapes Go.ChangeAt Go.RowKit Go.Sv

section
variable {H : Type} {enc : TypeId × Value → H} {W : World}

theorem trod_rep {fuel : Nat} {cs : List Value} {x : DataW H × List MemPlace} (hf : DataW.trod enc Try.prog W 0 (fun _ => true) true fuel 40 cs = some x) (hlt : ∀ y ∈ x.2, y.block < W.heap.size) (hl : cs.length = 4) :
    ∃ r : Rep, ∀ i, i < 4 → cs[i]? = some (rpCell r i) := by
  obtain ⟨c0, c1, c2, c3, rfl⟩ : ∃ c0 c1 c2 c3, cs = [c0, c1, c2, c3] := by
    match cs, hl with
    | [c0, c1, c2, c3], _ => exact ⟨c0, c1, c2, c3, rfl⟩
  have k3 : Try.prog.cellsOf 3 = 1 := by kernel_rfl
  have k4 : Try.prog.cellsOf 4 = 1 := by kernel_rfl
  obtain ⟨_, _, h0, _⟩ := open_field Try.underlying40 hf hlt 0 3 0 1 rfl k3
  obtain ⟨_, _, h1, _⟩ := open_field Try.underlying40 hf hlt 1 3 1 1 rfl k3
  obtain ⟨_, _, h2, _⟩ := open_field Try.underlying40 hf hlt 2 4 2 1 rfl k4
  obtain ⟨_, _, h3, _⟩ := open_field Try.underlying40 hf hlt 3 3 3 1 rfl k3
  obtain ⟨z0, e0, _⟩ := DataW.trod_int Try.underlying3 h0
  obtain ⟨z1, e1, _⟩ := DataW.trod_int Try.underlying3 h1
  obtain ⟨z2, e2, _⟩ := DataW.trod_bool Try.underlying4 h2
  obtain ⟨z3, e3, _⟩ := DataW.trod_int Try.underlying3 h3
  simp at e0 e1 e2 e3
  subst e0 e1 e2 e3
  refine ⟨⟨z0, z1, z2, z3⟩, fun i hi => ?_⟩
  match i, hi with
  | 0, _ => rfl
  | 1, _ => rfl
  | 2, _ => rfl
  | 3, _ => rfl

theorem open_reps {v : Value} {d : DataW H} {p : List MemPlace} {base : Nat} (hv : Value.okWide Try.prog W .any base 28 v) (h : DataW.Trod enc Try.prog W 0 (fun _ => true) true 28 v d p) (hlt : ∀ x ∈ p, x.block < W.heap.size) :
    ∃ (A : Option Addr) (l : List Rep) (c : Nat), v = .slice A l.length c ∧ l.length ≤ 9223372036854775807 ∧ (A = none → l.length = 0 ∧ c = 0) ∧ RReps W W.heap.size A l := by
  have k4 : Try.prog.cellsOf 40 = 4 := by kernel_rfl
  obtain ⟨a0, n0, c0, rfl⟩ := okWide_slice Try.underlying28 hv
  obtain ⟨fuel, hf⟩ := h
  obtain ⟨A, n, c, hcs, hnc, hcm, hA, hrow⟩ := open_trod Try.underlying28 k4 (by omega) hf hlt
  have hcs' : [Value.slice a0 n0 c0] = [.slice A n c] := hcs
  injection hcs' with hcs' _
  injection hcs' with e1 e2 e3
  subst e1 e2 e3
  have hex : ∃ l : List Rep, l.length = n0 ∧ ∀ (j : Nat) (x : Rep), l[j]? = some x → ∀ b off, a0 = some ⟨b, off, none⟩ → ∀ i, i < 4 → W.cell? ⟨b, off + j * 4 + i, none⟩ = some (rpCell x i) := by
    refine exists_list (fun j (x : Rep) => ∀ b off, a0 = some ⟨b, off, none⟩ → ∀ i, i < 4 → W.cell? ⟨b, off + j * 4 + i, none⟩ = some (rpCell x i)) n0 (fun j hj => ?_)
    obtain ⟨b, off, rfl, hb, hcells⟩ := hrow (by omega)
    obtain ⟨cs, fuel', x', hl, hc, htr, hlt'⟩ := hcells j hj
    obtain ⟨r, hr⟩ := trod_rep htr hlt' hl
    refine ⟨r, fun b' off' heq i hi => ?_⟩
    injection heq with heq
    injection heq with q1 q2
    subst q1 q2
    rw [hc i hi, hr i hi]
  obtain ⟨l, hl, hq⟩ := hex
  subst hl
  unfold maxLen at hcm
  refine ⟨a0, l, c0, rfl, by omega, hA, fun hn => ?_⟩
  obtain ⟨b, off, hAe, hb, _⟩ := hrow (by omega)
  exact ⟨b, off, hAe, hb, fun k hk i hi => hq k _ (rp_get hk) b off hAe i hi⟩
end
end Go.Proofs.Ytcjnfciemangkaa
