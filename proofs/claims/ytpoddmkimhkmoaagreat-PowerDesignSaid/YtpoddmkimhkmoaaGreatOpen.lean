/-
  GENERAL: an argument that is a slice, opened: where its elements lie, and how each reads.
  Conditions: none of its own.
-/
import Derived.Test.YtpoddmkimhkmoaaGreatLaw
import Derived.Test.YtpoddmkimhkmoaaGreatSl
import Derived.Deep.Slices
import Derived.SizedLaws
namespace Go.Sv
open Go.ChangeShapes Go.WideShapes Go.ChangeAt Go.RowKit

theorem exists_list {α : Type} (Q : Nat → α → Prop) : ∀ n : Nat, (∀ k, k < n → ∃ x, Q k x) → ∃ l : List α, l.length = n ∧ ∀ (k : Nat) (x : α), l[k]? = some x → Q k x
  | 0, _ => ⟨[], rfl, fun k x h => by simp at h⟩
  | n + 1, h => by
    obtain ⟨l, hl, hq⟩ := exists_list Q n (fun k hk => h k (by omega))
    obtain ⟨x, hx⟩ := h n (by omega)
    refine ⟨l ++ [x], by simp [hl], fun k y hy => ?_⟩
    by_cases hk : k < l.length
    · rw [List.getElem?_append_left hk] at hy
      exact hq k y hy
    · rw [List.getElem?_append_right (by omega)] at hy
      by_cases e : k = l.length
      · subst e
        rw [Nat.sub_self] at hy
        injection hy with hy
        subst hy
        rw [hl]; exact hx
      · have : k - l.length ≠ 0 := by omega
        obtain ⟨m, hm⟩ : ∃ m, k - l.length = m + 1 := ⟨k - l.length - 1, by omega⟩
        rw [hm] at hy
        simp at hy

section
variable {H : Type} {enc : TypeId × Value → H} {P : Program} {W : World}

/-- A slice that came in: its elements, each by its cells. -/
theorem open_rows {t e : TypeId} {s b0 : Nat} {r : Reach} {v : Value} {d : DataW H} {p : List MemPlace} (ht : P.underlying t = some (.slice e)) (hs : P.cellsOf e = s) (hs0 : 0 < s)
    (hv : Value.okWide P W r b0 t v) (h : DataW.Trod enc P W 0 (fun _ => true) true t v d p) (hlt : ∀ x ∈ p, x.block < W.heap.size) :
    ∃ (A : Option Addr) (n c : Nat), v = .slice A n c ∧ n ≤ c ∧ c ≤ maxLen ∧ (A = none → n = 0 ∧ c = 0) ∧
      (∀ (ts : List TypeId) (ds : List (DataW H)) (j : Nat), ts[j]? = some t → ds[j]? = some d → (DataW.weightsEach P ts ds).all (· ≤ reachBytes) = true → c * P.bytesOf e ≤ reachBytes) ∧
      (0 < c → ∃ b off, A = some ⟨b, off, none⟩ ∧ b < W.heap.size ∧ ∀ k, k < c → ∃ (cs : List Value) (fuel : Nat) (x : DataW H × List MemPlace), cs.length = s ∧
        (∀ i, i < s → W.cell? ⟨b, off + k * s + i, none⟩ = cs[i]?) ∧ DataW.trod enc P W 0 (fun _ => true) true fuel e cs = some x) := by
  obtain ⟨a0, n0, c0, rfl⟩ := okWide_slice ht hv
  obtain ⟨fuel, hf⟩ := h
  have hcs : (Value.slice a0 n0 c0).cells.toList = [.slice a0 n0 c0] := rfl
  rw [hcs] at hf
  rcases Deep.open_slice ht hf with ⟨h1, h2⟩ | ⟨a, len, cap, m, n, D, Pl, h1, _, hl, hm, hmm, hx, hi⟩
  · injection h1 with h1 _
    injection h1 with e1 e2 e3
    subst e1 e2 e3
    exact ⟨none, 0, 0, rfl, Nat.le_refl _, Nat.zero_le _, fun _ => ⟨rfl, rfl⟩, fun _ _ _ _ _ _ => by simp, fun h => by omega⟩
  · injection h1 with h1 _
    injection h1 with e1 e2 e3
    subst e1 e2 e3
    have hm' : m = c0 := by simpa using hmm
    subst hm'
    simp only [Prod.mk.injEq] at hx
    obtain ⟨rfl, rfl⟩ := hx
    refine ⟨some a, n0, m, rfl, hl, hm, (fun h => by cases h), fun ts ds j hts hds hw => ?_, fun hpos => ?_⟩
    · have := sized_slice hw hts hds ht
      simp only [List.length_map, List.length_range] at this
      have e : n0 + (m - n0) = m := by omega
      rw [e] at this
      exact this
    · obtain ⟨cs0, hc0, _⟩ := hi 0 hpos
      obtain ⟨_, hl0, hcell0⟩ := World.cells?_some hc0
      have h00 := hcell0 0 (by rw [hs]; exact hs0)
      have hsome : ∃ u, cs0[0]? = some u := ⟨cs0[0]'(by rw [hl0, hs]; exact hs0), List.getElem?_eq_getElem _⟩
      obtain ⟨u, hu⟩ := hsome
      obtain ⟨b, off, spot⟩ := a
      have hspot : spot = none := by
        have h3 := h00.trans hu
        simp only [Nat.zero_mul, Addr.add, if_true] at h3
        simpa using World.cell?_spot h3
      subst hspot
      refine ⟨b, off, rfl, ?_, fun k hk => ?_⟩
      · have : MemPlace.cell b off ∈ MemPlace.row ⟨b, off, none⟩ (m * P.cellsOf e) ++ (List.range m).flatMap Pl := by
          refine List.mem_append.2 (Or.inl ?_)
          unfold MemPlace.row
          refine List.mem_map.2 ⟨0, ?_, by simp⟩
          rw [List.mem_range, hs]
          exact Nat.mul_pos hpos hs0
        exact hlt _ this
      · obtain ⟨cs, hc, htr⟩ := hi k hk
        obtain ⟨_, hl1, hcell⟩ := World.cells?_some hc
        refine ⟨cs, n, _, hl1.trans hs, fun i hi => ?_, htr⟩
        have h4 := hcell i (by rw [hs]; exact hi)
        rw [Go.WideShapes.add_plain, Go.WideShapes.add_plain, hs] at h4
        exact h4

/-- A slice of integers that came in. -/
theorem open_iarr {t e : TypeId} {k : IntKind} {b0 : Nat} {r : Reach} {v : Value} {d : DataW H} {p : List MemPlace} (ht : P.underlying t = some (.slice e)) (he : P.underlying e = some (.int k)) (hs : P.cellsOf e = 1)
    (hv : Value.okWide P W r b0 t v) (h : DataW.Trod enc P W 0 (fun _ => true) true t v d p) (hlt : ∀ x ∈ p, x.block < W.heap.size) :
    ∃ (A : Option Addr) (l : List Int) (c : Nat), v = .slice A l.length c ∧ l.length ≤ c ∧ c ≤ maxLen ∧ (A = none → l.length = 0 ∧ c = 0) ∧
      (∀ (ts : List TypeId) (ds : List (DataW H)) (j : Nat), ts[j]? = some t → ds[j]? = some d → (DataW.weightsEach P ts ds).all (· ≤ reachBytes) = true → c * P.bytesOf e ≤ reachBytes) ∧
      Arr W W.heap.size A l.length (fun j => .int k (gi l j)) ∧ ∀ j, j < l.length → (Lit.int k (gi l j)).wf = true := by
  obtain ⟨A, n, c, rfl, hnc, hcm, hA, hw, hrow⟩ := open_rows ht hs (by omega) hv h hlt
  have hex : ∃ l : List Int, l.length = n ∧ ∀ (j : Nat) (x : Int), l[j]? = some x → (Lit.int k x).wf = true ∧ ∀ b off, A = some ⟨b, off, none⟩ → W.cell? ⟨b, off + j, none⟩ = some (.int k x) := by
    refine exists_list (fun j x => (Lit.int k x).wf = true ∧ ∀ b off, A = some ⟨b, off, none⟩ → W.cell? ⟨b, off + j, none⟩ = some (.int k x)) n (fun j hj => ?_)
    obtain ⟨b, off, rfl, hb, hcells⟩ := hrow (by omega)
    obtain ⟨cs, fuel, x, hl, hc, htr⟩ := hcells j (by omega)
    obtain ⟨z, e0, _, wz⟩ := DataW.trod_int he htr
    refine ⟨z, wz, fun b' off' heq => ?_⟩
    injection heq with heq
    injection heq with e1 e2
    subst e1 e2
    have h0 := hc 0 (by omega)
    rw [e0] at h0
    simpa using h0
  obtain ⟨l, hl, hq⟩ := hex
  subst hl
  refine ⟨A, l, c, rfl, hnc, hcm, hA, hw, fun hn => ?_, fun j hj => (hq j _ (gi_get hj)).1⟩
  obtain ⟨b, off, hAe, hb, _⟩ := hrow (by omega)
  exact ⟨b, off, hAe, hb, fun j hj => (hq j _ (gi_get hj)).2 b off hAe⟩
end
end Go.Sv
