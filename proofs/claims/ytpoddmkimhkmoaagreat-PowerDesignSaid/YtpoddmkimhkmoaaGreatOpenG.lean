/-
  GENERAL: what came in, opened from its readings: slices of anything, structs field by field, each with its places.
  Conditions: none of its own.
-/
import Derived.Test.YtpoddmkimhkmoaaGreatOpen
namespace Go.Sv
open Go.ChangeShapes Go.WideShapes Go.ChangeAt Go.RowKit

section
variable {H : Type} {enc : TypeId × Value → H} {P : Program} {W : World}

/-- A slice that came in, from its reading. -/
theorem open_trod {t e : TypeId} {s fuel : Nat} {cs : List Value} {x : DataW H × List MemPlace} (ht : P.underlying t = some (.slice e)) (hs : P.cellsOf e = s) (hs0 : 0 < s)
    (hf : DataW.trod enc P W 0 (fun _ => true) true fuel t cs = some x) (hlt : ∀ y ∈ x.2, y.block < W.heap.size) :
    ∃ (A : Option Addr) (n c : Nat), cs = [.slice A n c] ∧ n ≤ c ∧ c ≤ maxLen ∧ (A = none → n = 0 ∧ c = 0) ∧
      (0 < n → ∃ b off, A = some ⟨b, off, none⟩ ∧ b < W.heap.size ∧ ∀ k, k < n → ∃ (cs' : List Value) (fuel' : Nat) (x' : DataW H × List MemPlace), cs'.length = s ∧
        (∀ i, i < s → W.cell? ⟨b, off + k * s + i, none⟩ = cs'[i]?) ∧ DataW.trod enc P W 0 (fun _ => true) true fuel' e cs' = some x' ∧ ∀ y ∈ x'.2, y.block < W.heap.size) := by
  rcases Deep.open_slice ht hf with ⟨h1, h2⟩ | ⟨a, len, cap, m, n, D, Pl, h1, _, hl, hm, hmm, hx, hi⟩
  · exact ⟨none, 0, 0, h1, Nat.le_refl _, Nat.zero_le _, fun _ => ⟨rfl, rfl⟩, fun h => by omega⟩
  · have hm' : m = cap := by simpa using hmm
    subst hm'
    subst hx
    refine ⟨some a, len, m, h1, hl, hm, (fun h => by cases h), fun hpos => ?_⟩
    obtain ⟨cs0, hc0, _⟩ := hi 0 (by omega)
    obtain ⟨_, hl0, hcell0⟩ := World.cells?_some hc0
    have h00 := hcell0 0 (by rw [hs]; exact hs0)
    have hsome : ∃ u, cs0[0]? = some u := ⟨cs0[0]'(by rw [hl0, hs]; exact hs0), List.getElem?_eq_getElem _⟩
    obtain ⟨u, hu⟩ := hsome
    obtain ⟨b, off, spot⟩ := a
    have hspot : spot = none := by
      have h3 := h00.trans hu
      simp only [Nat.zero_mul, Addr.add, if_true] at h3
      simpa using World.cell?_spot h3
    subst hspot
    refine ⟨b, off, rfl, ?_, fun k hk => ?_⟩
    · have : MemPlace.cell b off ∈ MemPlace.row ⟨b, off, none⟩ (m * P.cellsOf e) ++ (List.range m).flatMap Pl := by
        refine List.mem_append.2 (Or.inl ?_)
        unfold MemPlace.row
        refine List.mem_map.2 ⟨0, ?_, by simp⟩
        rw [List.mem_range, hs]
        exact Nat.mul_pos (by omega) hs0
      exact hlt _ this
    · obtain ⟨cs', hc, htr⟩ := hi k (by omega)
      obtain ⟨_, hl1, hcell⟩ := World.cells?_some hc
      refine ⟨cs', n, _, hl1.trans hs, fun i hi => ?_, htr, fun y hy => hlt y (List.mem_append.2 (Or.inr (List.mem_flatMap.2 ⟨k, List.mem_range.2 (by omega), hy⟩)))⟩
      have h4 := hcell i (by rw [hs]; exact hi)
      rw [Go.WideShapes.add_plain, Go.WideShapes.add_plain, hs] at h4
      exact h4

/-- A struct that came in, from its reading: each field's reading. -/
theorem open_field {fs : Array Field} {t : TypeId} {fuel : Nat} {cs : List Value} {x : DataW H × List MemPlace} (ht : P.underlying t = some (.struct fs))
    (hf : DataW.trod enc P W 0 (fun _ => true) true fuel t cs = some x) (hlt : ∀ y ∈ x.2, y.block < W.heap.size) (i : Nat) (ty : TypeId) (off sz : Nat)
    (hi : fs[i]?.map (fun f => (f.type, f.offset)) = some (ty, off)) (hs : P.cellsOf ty = sz) :
    ∃ (n : Nat) (y : DataW H × List MemPlace), DataW.trod enc P W 0 (fun _ => true) true n ty ((cs.drop off).take sz) = some y ∧ ∀ z ∈ y.2, z.block < W.heap.size := by
  obtain ⟨xs, n, _, hx, _, hlen, hfs⟩ := DataW.trod_struct ht hf
  cases hfi : fs[i]? with
  | none => rw [hfi] at hi; cases hi
  | some f =>
    rw [hfi] at hi
    simp only [Option.map_some, Option.some.injEq, Prod.mk.injEq] at hi
    obtain ⟨rfl, rfl⟩ := hi
    subst hs
    have h := hfs i f hfi
    have hlt' : i < xs.length := by
      rw [hlen]
      exact (Array.getElem?_eq_some_iff.1 hfi).1
    rw [List.getElem?_eq_getElem hlt'] at h
    refine ⟨n, _, h, fun z hz => hlt z ?_⟩
    rw [hx]
    exact List.mem_flatMap.2 ⟨_, List.getElem_mem hlt', hz⟩

/-- A slice of integers, from its reading. -/
theorem trod_iarr {t e : TypeId} {k : IntKind} {fuel : Nat} {cs : List Value} {x : DataW H × List MemPlace} (ht : P.underlying t = some (.slice e)) (he : P.underlying e = some (.int k)) (hs : P.cellsOf e = 1)
    (hf : DataW.trod enc P W 0 (fun _ => true) true fuel t cs = some x) (hlt : ∀ y ∈ x.2, y.block < W.heap.size) :
    ∃ (A : Option Addr) (l : List Int) (c : Nat), cs = [.slice A l.length c] ∧ l.length ≤ c ∧ c ≤ maxLen ∧ (A = none → l.length = 0 ∧ c = 0) ∧
      Arr W W.heap.size A l.length (fun j => .int k (gi l j)) ∧ ∀ j, j < l.length → (Lit.int k (gi l j)).wf = true := by
  obtain ⟨A, n, c, rfl, hnc, hcm, hA, hrow⟩ := open_trod ht hs (by omega) hf hlt
  have hex : ∃ l : List Int, l.length = n ∧ ∀ (j : Nat) (x : Int), l[j]? = some x → (Lit.int k x).wf = true ∧ ∀ b off, A = some ⟨b, off, none⟩ → W.cell? ⟨b, off + j, none⟩ = some (.int k x) := by
    refine exists_list (fun j x => (Lit.int k x).wf = true ∧ ∀ b off, A = some ⟨b, off, none⟩ → W.cell? ⟨b, off + j, none⟩ = some (.int k x)) n (fun j hj => ?_)
    obtain ⟨b, off, rfl, hb, hcells⟩ := hrow (by omega)
    obtain ⟨cs, fuel, x, hl, hc, htr, _⟩ := hcells j (by omega)
    obtain ⟨z, e0, _, wz⟩ := DataW.trod_int he htr
    refine ⟨z, wz, fun b' off' heq => ?_⟩
    injection heq with heq
    injection heq with e1 e2
    subst e1 e2
    have h0 := hc 0 (by omega)
    rw [e0] at h0
    simpa using h0
  obtain ⟨l, hl, hq⟩ := hex
  subst hl
  refine ⟨A, l, c, rfl, hnc, hcm, hA, fun hn => ?_, fun j hj => (hq j _ (gi_get hj)).1⟩
  obtain ⟨b, off, hAe, hb, _⟩ := hrow (by omega)
  exact ⟨b, off, hAe, hb, fun j hj => (hq j _ (gi_get hj)).2 b off hAe⟩

/-- A slice of truth values, from its reading. -/
theorem trod_barr {t e : TypeId} {fuel : Nat} {cs : List Value} {x : DataW H × List MemPlace} (ht : P.underlying t = some (.slice e)) (he : P.underlying e = some .bool) (hs : P.cellsOf e = 1)
    (hf : DataW.trod enc P W 0 (fun _ => true) true fuel t cs = some x) (hlt : ∀ y ∈ x.2, y.block < W.heap.size) :
    ∃ (A : Option Addr) (l : List Bool) (c : Nat), cs = [.slice A l.length c] ∧ l.length ≤ c ∧ c ≤ maxLen ∧ (A = none → l.length = 0 ∧ c = 0) ∧
      Arr W W.heap.size A l.length (fun j => .bool (l.getD j false)) := by
  obtain ⟨A, n, c, rfl, hnc, hcm, hA, hrow⟩ := open_trod ht hs (by omega) hf hlt
  have hex : ∃ l : List Bool, l.length = n ∧ ∀ (j : Nat) (x : Bool), l[j]? = some x → ∀ b off, A = some ⟨b, off, none⟩ → W.cell? ⟨b, off + j, none⟩ = some (.bool x) := by
    refine exists_list (fun j x => ∀ b off, A = some ⟨b, off, none⟩ → W.cell? ⟨b, off + j, none⟩ = some (.bool x)) n (fun j hj => ?_)
    obtain ⟨b, off, rfl, hb, hcells⟩ := hrow (by omega)
    obtain ⟨cs, fuel, x, hl, hc, htr, _⟩ := hcells j (by omega)
    obtain ⟨z, e0, _⟩ := DataW.trod_bool he htr
    refine ⟨z, fun b' off' heq => ?_⟩
    injection heq with heq
    injection heq with e1 e2
    subst e1 e2
    have h0 := hc 0 (by omega)
    rw [e0] at h0
    simpa using h0
  obtain ⟨l, hl, hq⟩ := hex
  subst hl
  refine ⟨A, l, c, rfl, hnc, hcm, hA, fun hn => ?_⟩
  obtain ⟨b, off, hAe, hb, _⟩ := hrow (by omega)
  exact ⟨b, off, hAe, hb, fun j hj => hq j _ (by simp [hj]) b off hAe⟩
end
end Go.Sv
