/-
  LISTS of steps that a call owns; the built-in clear; CONTRACT of step.all.
  Conditions: those that each theorem names.
-/
import Derived.Test.YtickckehhfdoeaaSb5

namespace Go.Sv
open Go.RowKit
def spC (s : Sp) : Nat → Value
  | 0 => .int .i64 s.kind
  | 1 => .int .i64 s.ix
  | _ => .int .i64 s.ver
def spF (l : List Sp) (k i : Nat) : Value := spC (spAt l k) i
def spRow (l : List Sp) : List Value := rowN 3 l.length (spF l)
theorem rowN_snoc {s n : Nat} (hs : 0 < s) {f g : Nat → Nat → Value} (h : ∀ k, k < n → ∀ i, i < s → g k i = f k i) : rowN s (n + 1) g = rowN s n f ++ (List.range s).map (g n) := by
  unfold rowN
  rw [Nat.succ_mul, List.range_add, List.map_append, List.map_map]
  congr 1
  · apply List.map_congr_left
    intro j hj
    have hj := List.mem_range.1 hj
    exact h _ (Nat.div_lt_of_lt_mul (by rw [Nat.mul_comm]; exact hj)) _ (Nat.mod_lt _ hs)
  · apply List.map_congr_left
    intro j hj
    have hj := List.mem_range.1 hj
    show g ((n * s + j) / s) ((n * s + j) % s) = g n j
    rw [Nat.mul_comm, Nat.mul_add_div hs, Nat.div_eq_of_lt hj, Nat.mul_add_mod, Nat.mod_eq_of_lt hj, Nat.add_zero]
theorem spAt_snoc_lt {l : List Sp} {x : Sp} {k : Nat} (h : k < l.length) : spAt (l ++ [x]) k = spAt l k := by simp [spAt, List.getElem?_append_left h]
theorem spAt_snoc_last {l : List Sp} {x : Sp} : spAt (l ++ [x]) l.length = x := by simp [spAt]
theorem spRow_snoc (l : List Sp) (s : Sp) : spRow (l ++ [s]) = spRow l ++ [.int .i64 s.kind, .int .i64 s.ix, .int .i64 s.ver] := by
  unfold spRow
  rw [List.length_append, List.length_singleton, rowN_snoc (f := spF l) (by decide) (fun k hk i _ => by unfold spF; rw [spAt_snoc_lt hk])]
  unfold spF
  rw [spAt_snoc_last]
  rfl
theorem spRow_len (l : List Sp) : (spRow l).length = l.length * 3 := rowN_length ..
theorem spRow_get {l : List Sp} {k i : Nat} (hk : k < l.length) (hi : i < 3) : (spRow l)[k * 3 + i]? = some (spF l k i) := rowN_get hk hi
theorem sp_cells {w : World} {b off k : Nat} {l : List Sp} (h : ∀ i, i < 3 → w.cell? ⟨b, off + k * 3 + i, none⟩ = some (spF l k i)) :
    w.cell? ⟨b, off + k * 3, none⟩ = some (.int .i64 (spAt l k).kind) ∧ w.cell? ⟨b, off + k * 3 + 1, none⟩ = some (.int .i64 (spAt l k).ix) ∧ w.cell? ⟨b, off + k * 3 + 2, none⟩ = some (.int .i64 (spAt l k).ver) := ⟨h 0 (by decide), h 1 (by decide), h 2 (by decide)⟩
/-- a store into a row of the call's own, elements of more cells -/
theorem ownN_store {w : World} {B s : Nat} {e : TypeId} {A : Option Addr} {n c : Nat} {xs : List Value} (h : w.ownsRow B e s (.slice A n c) n xs) {i : Nat} (hi : i < n * s) :
    ∃ g, A = some ⟨g, 0, none⟩ ∧ B ≤ g ∧ g < w.heap.size ∧ (∀ o, w.frozen? ⟨g, o, none⟩ = false) ∧ (∀ i, i < n * s → w.cell? ⟨g, i, none⟩ = xs[i]?) ∧ ∀ u, (w.setCell ⟨g, i, none⟩ u).ownsRow B e s (.slice A n c) n (xs.set i u) := by
  rcases h.2 with ⟨_, h0⟩ | ⟨g, cap, cur, hv, hb, hg, hn, hm, hs, ht⟩
  · subst h0; rw [Nat.zero_mul] at hi; omega
  · injection hv with h1 h2 h3
    subst h1 h3
    have hwh : Whole w g e cur := hg
    refine ⟨g, rfl, hb, hwh.lt, fun o => hwh.frozen o, fun i hi => ?_, fun u => ⟨?_, Or.inr ⟨g, c, cur.setIfInBounds i u, rfl, hb, hwh.set i u, hn, hm, by rw [Array.size_setIfInBounds]; exact hs, ?_⟩⟩⟩
    · rw [hwh.cell i, ← ht, List.getElem?_take, if_pos hi, Array.getElem?_toList]
    · rw [List.length_set]; exact h.1
    · rw [Array.toList_setIfInBounds, List.take_set, ht]
/-- the first elements of a row -/
theorem ownN_cut {w : World} {B s : Nat} {e : TypeId} {A : Option Addr} {n c : Nat} {xs : List Value} (h : w.ownsRow B e s (.slice A n c) n xs) {i : Nat} (hi : i ≤ n) : w.ownsRow B e s (.slice A i c) i (xs.take (i * s)) := by
  refine ⟨by rw [List.length_take, h.1]; exact Nat.min_eq_left (Nat.mul_le_mul_right _ hi), ?_⟩
  rcases h.2 with ⟨hv, h0⟩ | ⟨g, cap, cur, hv, hb, hg, hn, hm, hs, ht⟩
  · subst h0
    obtain rfl : i = 0 := by omega
    exact Or.inl ⟨hv, rfl⟩
  · injection hv with h1 h2 h3
    subst h1 h3
    exact Or.inr ⟨g, c, cur, rfl, hb, hg, Nat.le_trans hi hn, hm, hs, by rw [← ht, List.take_take, Nat.min_eq_left (Nat.mul_le_mul_right _ hi)]⟩
/-- stores behind a row -/
theorem ownN_behind {w : World} {B s g : Nat} {e : TypeId} {n c : Nat} {xs : List Value} (h : w.ownsRow B e s (.slice (some ⟨g, 0, none⟩) n c) n xs) {o : Nat} (ho : n * s ≤ o) (u : Value) : (w.setCell ⟨g, o, none⟩ u).ownsRow B e s (.slice (some ⟨g, 0, none⟩) n c) n xs := by
  rcases h.2 with ⟨hv, h0⟩ | ⟨g', cap, cur, hv, hb, hg, hn, hm, hs, ht⟩
  · cases hv
  · injection hv with h1 h2 h3
    injection h1 with h1
    injection h1 with h1
    subst h1 h3
    have hwh : Whole w g e cur := hg
    exact ⟨h.1, Or.inr ⟨g, c, cur.setIfInBounds o u, rfl, hb, hwh.set o u, hn, hm, by rw [Array.size_setIfInBounds]; exact hs, by rw [Array.toList_setIfInBounds, List.take_set_of_le ho, ht]⟩⟩
theorem ownN_cells {B s g : Nat} {e : TypeId} {n c : Nat} {xs : List Value} : ∀ (vs : List Value) (o : Nat) {w : World}, w.ownsRow B e s (.slice (some ⟨g, 0, none⟩) n c) n xs → n * s ≤ o → (w.setCells g o vs).ownsRow B e s (.slice (some ⟨g, 0, none⟩) n c) n xs
  | [], _, _, h, _ => h
  | v :: r, o, _, h, ho => ownN_cells r (o + 1) (ownN_behind h ho v) (Nat.le_succ_of_le ho)
theorem below_cells {B g : Nat} {a : World} (hb : B ≤ g) : ∀ (vs : List Value) (o : Nat) {w : World}, Below B a w → Below B a (w.setCells g o vs)
  | [], _, _, h => h
  | v :: r, o, _, h => below_cells hb r (o + 1) (h.setCell hb v)
/-- the built-in clear on a slice of structs -/
theorem run_clearN {P : Program} (w : World) (t e ty : TypeId) (z : Value) (ht : P.underlying t = some (.slice e)) (hv : ∀ w, (zeroValue e).run P w = .ok z w) (h1 : ∀ u ∈ z.cells.toList, u.oneCell' = true) (b o n c : Nat) (hn : 0 < n)
    (hc : ∀ j, j < n * z.cells.size → (w.cell? ⟨b, o + j, none⟩).isSome = true) (hf : ∀ j, j < n * z.cells.size → w.frozen? ⟨b, o + j, none⟩ = false) :
    (Builtin.clear_ #[t] ty #[.slice (some ⟨b, o, none⟩) n c]).run P w = .ok (.tuple #[]) (w.setCells b o (Builtin.zeroCells z.cells n).toList) := by
  have hl : (Builtin.zeroCells z.cells n).toList.length = n * z.cells.size := by simp [Builtin.zeroCells]
  have hall : ∀ u ∈ (Builtin.zeroCells z.cells n).toList, u.oneCell' = true := fun u hu => by
    simp only [Builtin.zeroCells, Array.toList_map, List.mem_map, Array.toList_range, List.mem_range] at hu
    obtain ⟨i, hi, rfl⟩ := hu
    have hs : 0 < z.cells.size := by
      rcases Nat.eq_zero_or_pos z.cells.size with h | h
      · rw [h, Nat.mul_zero] at hi; omega
      · exact h
    have := Nat.mod_lt i hs
    rw [getElem!_pos z.cells _ this]
    exact h1 _ (by simp)
  have hst := run_storeCells_cells (P := P) b o (Builtin.zeroCells z.cells n).toList 0 w (by rw [hl]; simpa using hc) (by rw [hl]; simpa using hf) hall
  simp only [Nat.add_zero] at hst
  obtain ⟨m, rfl⟩ : ∃ m, n = m + 1 := ⟨n - 1, by omega⟩
  simp [Builtin.clear_, run_underlying ht, hv, hst]
end Go.Sv
namespace Go.Proofs.Ytickckehhfdoeaa
open Go.RowKit Go.Sv
theorem elStep : ElemT Try.prog 50 63 (.agg #[.int .i64 0, .int .i64 0, .int .i64 0]) 3 24 := ⟨Try.underlying50, by kernel_rfl, by kernel_rfl, by omega⟩
/-- a list of steps of the call's own -/
def OwnS (w : World) (l : List Sp) (v : Value) (w' : World) : Prop := Below w.heap.size w w' ∧ ∃ A c, v = .slice A l.length c ∧ w'.ownsRow w.heap.size 63 3 (.slice A l.length c) l.length (spRow l)
theorem OwnS.of {w w' : World} {l : List Sp} {v : Value} (h : w'.ownsRow w.heap.size 63 3 v l.length (spRow l)) (hb : Below w.heap.size w w') : OwnS w l v w' := by
  obtain ⟨A, c, rfl, _⟩ := own_form h
  exact ⟨hb, A, c, rfl, h⟩
end Go.Proofs.Ytickckehhfdoeaa

namespace Go.Sv
open Go.RowKit
def al1 (p : Prob) (k j : Nat) : List Sp := ((List.range k).flatMap fun (i : Nat) => (List.range (gi p.vs i).toNat).map fun (v : Nat) => (⟨1, i, v⟩ : Sp)) ++ (List.range j).map fun (v : Nat) => (⟨1, k, v⟩ : Sp)
def al2 (p : Prob) (k : Nat) : List Sp := al1 p p.vs.length 0 ++ (List.range k).map fun (i : Nat) => (⟨2, i, 0⟩ : Sp)
def al3 (p : Prob) (k : Nat) : List Sp := al2 p p.vs.length ++ (List.range k).map fun (i : Nat) => (⟨3, i, 0⟩ : Sp)
theorem al1_snoc (p : Prob) (k j : Nat) : al1 p k (j + 1) = al1 p k j ++ [⟨1, k, j⟩] := by unfold al1; rw [List.range_succ, List.map_append, List.append_assoc]; rfl
theorem al1_next (p : Prob) (k : Nat) : al1 p (k + 1) 0 = al1 p k (gi p.vs k).toNat := by
  unfold al1
  rw [List.range_succ, List.flatMap_append]
  simp
theorem al2_0 (p : Prob) : al2 p 0 = al1 p p.vs.length 0 := by unfold al2; simp
theorem al2_snoc (p : Prob) (k : Nat) : al2 p (k + 1) = al2 p k ++ [⟨2, k, 0⟩] := by unfold al2; rw [List.range_succ, List.map_append, List.append_assoc]; rfl
theorem al3_0 (p : Prob) : al3 p 0 = al2 p p.vs.length := by unfold al3; simp
theorem al3_snoc (p : Prob) (k : Nat) : al3 p (k + 1) = al3 p k ++ [⟨3, k, 0⟩] := by unfold al3; rw [List.range_succ, List.map_append, List.append_assoc]; rfl
theorem al3_all (p : Prob) : al3 p p.tabs.length = allL p := by
  unfold al3 al2 al1 allL
  simp
theorem al1_len {p : Prob} (h : probE p = 0) : ∀ k j, k ≤ p.vs.length → j ≤ 6 → (al1 p k j).length ≤ 6 * k + 6
  | 0, j, _, hj => by unfold al1; simp; omega
  | k + 1, j, hk, hj => by
    have e : (al1 p (k + 1) j).length = (al1 p (k + 1) 0).length + j := by unfold al1; simp
    have := vs_le h (i := k) (by omega)
    have h2 := al1_len h k 0 (by omega) (by omega)
    have h3 : (al1 p k (gi p.vs k).toNat).length = (al1 p k 0).length + (gi p.vs k).toNat := by unfold al1; simp
    have h4 : (al1 p k 0).length ≤ 6 * k := by
      cases k with
      | zero => simp [al1]
      | succ k =>
        have := al1_len h k (gi p.vs k).toNat (by omega) (by have := vs_le h (i := k) (by omega); omega)
        rw [← al1_next] at this
        omega
    rw [e, al1_next, h3]
    omega
theorem al_len {p : Prob} (h : probE p = 0) : (∀ k j, k ≤ p.vs.length → j ≤ 6 → (al1 p k j).length ≤ 100) ∧ (∀ k, k ≤ p.vs.length → (al2 p k).length ≤ 100) ∧ (∀ k, k ≤ p.tabs.length → (al3 p k).length ≤ 100) := by
  obtain ⟨h1, h2, _⟩ := prob_small h
  have a1 : ∀ k j, k ≤ p.vs.length → j ≤ 6 → (al1 p k j).length ≤ 42 := fun k j hk hj => by have := al1_len h k j hk hj; omega
  have a2 : ∀ k, k ≤ p.vs.length → (al2 p k).length ≤ 48 := fun k hk => by
    have := a1 p.vs.length 0 (Nat.le_refl _) (by omega)
    unfold al2
    simp only [List.length_append, List.length_map, List.length_range]
    omega
  refine ⟨fun k j hk hj => by have := a1 k j hk hj; omega, fun k hk => by have := a2 k hk; omega, fun k hk => ?_⟩
  have := a2 p.vs.length (Nat.le_refl _)
  unfold al3
  simp only [List.length_append, List.length_map, List.length_range]
  omega
end Go.Sv
namespace Go.Proofs.Ytickckehhfdoeaa
open Go.RowKit Go.Sv
/-- the list so far -/
abbrev LS (w wr : World) (l : List Sp) (v : Value) : Prop := wr.ownsRow w.heap.size 63 3 v l.length (spRow l)
theorem ls_next {w wr : World} {l l' : List Sp} {s : Sp} {v : Value} (h : wr.ownsRow w.heap.size 63 3 v (l.length + 1) (spRow l ++ [.int .i64 s.kind, .int .i64 s.ix, .int .i64 s.ver])) (he : l' = l ++ [s]) : LS w wr l' v := by
  subst he
  show World.ownsRow _ _ _ _ _ (l ++ [s]).length _
  rw [List.length_append, spRow_snoc]
  exact h
set_option maxHeartbeats 4000000 in
set_option maxRecDepth 100000 in
theorem all_any (p : Prob) (q : ProbP) (w : World) (hp : RProb w w.heap.size p q) (hok : probE p = 0) :
    Calls Try.prog 42 #[probV p q] w (Ret (OwnS w (allL p))) := by
  obtain ⟨hv6, ht12, -⟩ := prob_small hok
  obtain ⟨L1, L2, L3⟩ := al_len hok
  replace L1 := Lib.hid L1
  replace L2 := Lib.hid L2
  replace L3 := Lib.hid L3
  obtain ⟨qa0, qc0, qa1, qc1, qa2, qc2, qa3, qc3⟩ := q
  obtain ⟨W, (hW : w.alloc (.cells #[.slice qa0 p.vs.length qc0, .slice qa1 p.now.length qc1, .slice qa2 p.tgt.length qc2, .slice qa3 p.tabs.length qc3] 39) = W), S, hB⟩ := fm_boxE (Fm.init w) 39 [.slice qa0 p.vs.length qc0, .slice qa1 p.now.length qc1, .slice qa2 p.tgt.length qc2, .slice qa3 p.tabs.length qc3]
  have hp0 := Lib.hid (hp.to hB)
  replace hok := Lib.hid hok
  clear hp hB
  obtain ⟨⟨r1, f1, r10, r11, r12, r13, -⟩, -⟩ := S.facts
  have SW := Lib.hid S
  clear S
  go_enter Try.func42, Try.ntmps42
  go_wp2
  go_loopw [3, 4, 5, 6, 12, 18] (fun v _ _ _ i _ wr => ∃ k : Nat, k ≤ p.vs.length ∧ i = .int .i64 k ∧ LS W wr (al1 p k 0) v ∧ Below W.heap.size W wr) (fun _ _ _ _ i _ _ => p.vs.length - (intOf i).toNat)
  case atStart => exact ⟨0, Nat.zero_le _, rfl, World.ownsRow_nil _ _ _ _, Below.refl _ _⟩
  case round =>
    obtain ⟨k, hk, rfl, hown, hbel⟩ := hrel
    have T := Lib.hid (SW.out.call hbel)
    clear r1 f1 r10 r11 r12 r13
    obtain ⟨⟨r1, f1, r10, r11, r12, r13, -⟩, -⟩ := T.out.facts
    by_cases hlt : k < p.vs.length
    · obtain ⟨b0, o0, e0, hb0, hc0⟩ := (hp0.out.to hbel).r0 (by omega)
      have d0 := hc0 k hlt
      unfold iv at d0
      dsimp only at e0
      subst e0
      obtain ⟨vv0, vv1⟩ := vs_le hok.out hlt
      have jk : (k : Int) < (p.vs.length : Int) := by omega
      have hNx := Lib.hid (al1_next p k)
      clear hc0
      replace hbel := Lib.hid hbel
      go_wp2
      rename World => wo
      go_loopw [3, 6, 18] (fun v _ i wr => ∃ j : Nat, (j : Int) ≤ gi p.vs k ∧ i = .int .i64 j ∧ LS W wr (al1 p k j) v ∧ Below W.heap.size W wr) (fun _ _ i _ => (gi p.vs k).toNat - (intOf i).toNat)
      case atStart => exact ⟨0, by omega, rfl, hown, hbel.out⟩
      case round =>
        obtain ⟨j, hj, rfl, hown, hbel⟩ := hrel
        by_cases hlt2 : (j : Int) < gi p.vs k
        · have hLn := Lib.hid (L1.out k j (by omega) (by omega))
          have hO := Lib.hid hown
          have hBs : W.heap.size ≤ wr.heap.size := hbel.size
          have hSn := Lib.hid (al1_snoc p k j)
          clear hown
          go_wp2_with (at_builtin; refine push_own elStep rfl _ _ rfl W.heap.size _ (al1 p k j).length (spRow (al1 p k j)) hO.out rfl [.int .i64 1, .int .i64 k, .int .i64 j] rfl rfl rfl (by have := hLn.out; omega) (by omega) hBs ?_)
          intro v' w3 hown3 hgr hb3 hs3 _
          have hO3 := Lib.hid (ls_next (s := ⟨1, k, j⟩) hown3 hSn.out)
          have hb4 := Lib.hid (hbel.trans hb3)
          clear hown3 hgr hb3 hs3
          go_wp2
          go_roundw
          case rel => exact ⟨j + 1, by omega, by go_num, hO3.out, hb4.out⟩
          case measure => simp [intOf]; omega
        · obtain ⟨j', hj'⟩ : ∃ j' : Nat, (gi p.vs k).toNat = j' := ⟨_, rfl⟩
          obtain rfl : j = j' := by omega
          rw [hj'] at hNx
          have hO := Lib.hid hown
          have hOn : Hid (LS W wr (al1 p (k + 1) 0) _) := Lib.hid (by rw [hNx.out]; exact hown)
          clear hj' hown hO
          go_wp2
          go_roundw
          case rel => exact ⟨k + 1, by omega, by go_num, hOn.out, hbel⟩
          case measure => simp [intOf]; omega
    · obtain rfl : k = p.vs.length := by omega
      rename World => wo
      have hO := Lib.hid hown
      replace hbel := Lib.hid hbel
      clear hown hlt
      go_wp2
      clear r1 f1 r10 r11 r12 r13
      go_loopw [3, 7, 32] (fun v _ i wr => ∃ k : Nat, k ≤ p.vs.length ∧ i = .int .i64 k ∧ LS W wr (al2 p k) v ∧ Below W.heap.size W wr) (fun _ _ i _ => p.vs.length - (intOf i).toNat)
      case atStart => exact ⟨0, Nat.zero_le _, rfl, by rw [al2_0]; exact hO.out, hbel.out⟩
      case round =>
        clear T hbel hO
        obtain ⟨k, hk, rfl, hown, hbel⟩ := hrel
        by_cases hlt : k < p.vs.length
        · have hLn := Lib.hid (L2.out k (by omega))
          have hO := Lib.hid hown
          have hBs : W.heap.size ≤ wr.heap.size := hbel.size
          have hSn := Lib.hid (al2_snoc p k)
          have jk : (k : Int) < (p.vs.length : Int) := by omega
          clear hown
          go_wp2_with (at_builtin; refine push_own elStep rfl _ _ rfl W.heap.size _ (al2 p k).length (spRow (al2 p k)) hO.out rfl [.int .i64 2, .int .i64 k, .int .i64 0] rfl rfl rfl (by have := hLn.out; omega) (by omega) hBs ?_)
          intro v' w3 hown3 hgr hb3 hs3 _
          have hO3 := Lib.hid (ls_next (s := ⟨2, k, 0⟩) hown3 hSn.out)
          have hb4 := Lib.hid (hbel.trans hb3)
          clear hown3 hgr hb3 hs3
          go_wp2
          go_roundw
          case rel => exact ⟨k + 1, by omega, by go_num, hO3.out, hb4.out⟩
          case measure => simp [intOf]; omega
        · obtain rfl : k = p.vs.length := by omega
          rename World => wq
          have T := Lib.hid (SW.out.call hbel)
          have hO := Lib.hid hown
          replace hbel := Lib.hid hbel
          clear hown hlt
          obtain ⟨⟨r1, f1, r10, r11, r12, r13, -⟩, -⟩ := T.out.facts
          go_wp2
          clear r1 f1 r10 r11 r12 r13
          go_loopw [3, 8, 44] (fun v _ i wr => ∃ k : Nat, k ≤ p.tabs.length ∧ i = .int .i64 k ∧ LS W wr (al3 p k) v ∧ Below W.heap.size W wr) (fun _ _ i _ => p.tabs.length - (intOf i).toNat)
          case atStart => exact ⟨0, Nat.zero_le _, rfl, by rw [al3_0]; exact hO.out, hbel.out⟩
          case round =>
            clear T hbel hO
            obtain ⟨k, hk, rfl, hown, hbel⟩ := hrel
            by_cases hlt : k < p.tabs.length
            · have hLn := Lib.hid (L3.out k (by omega))
              have hO := Lib.hid hown
              have hBs : W.heap.size ≤ wr.heap.size := hbel.size
              have hSn := Lib.hid (al3_snoc p k)
              have jk : (k : Int) < (p.tabs.length : Int) := by omega
              clear hown
              go_wp2_with (at_builtin; refine push_own elStep rfl _ _ rfl W.heap.size _ (al3 p k).length (spRow (al3 p k)) hO.out rfl [.int .i64 3, .int .i64 k, .int .i64 0] rfl rfl rfl (by have := hLn.out; omega) (by omega) hBs ?_)
              intro v' w3 hown3 hgr hb3 hs3 _
              have hO3 := Lib.hid (ls_next (s := ⟨3, k, 0⟩) hown3 hSn.out)
              have hb4 := Lib.hid (hbel.trans hb3)
              clear hown3 hgr hb3 hs3
              go_wp2
              go_roundw
              case rel => exact ⟨k + 1, by omega, by go_num, hO3.out, hb4.out⟩
              case measure => simp [intOf]; omega
            · obtain rfl : k = p.tabs.length := by omega
              have hAll := al3_all p
              have T := Lib.hid (SW.out.call hbel)
              have hR := Lib.hid (OwnS.of (w := w) (own_base (hAll ▸ hown) SW.out.size) T.out.bel)
              clear hown hlt hAll hbel
              go_wp2
              go_ret
              exact Ret.mk hR.out
end Go.Proofs.Ytickckehhfdoeaa

namespace Go.Sv
open Go.RowKit
theorem spRow_set {l : List Sp} {i : Nat} (hi : i < l.length) (s : Sp) : (((spRow l).set (i * 3) (.int .i64 s.kind)).set (i * 3 + 1) (.int .i64 s.ix)).set (i * 3 + 2) (.int .i64 s.ver) = spRow (l.set i s) := by
  have hat : ∀ k, spAt (l.set i s) k = if k = i then s else spAt l k := fun k => by
    unfold spAt
    by_cases e : k = i
    · subst e; simp [hi]
    · rw [if_neg e]; simp [List.getElem?_set_ne (Ne.symm e)]
  apply List.ext_getElem?
  intro k
  by_cases hk : k < l.length * 3
  · obtain ⟨a, b, hb, rfl⟩ : ∃ a b, b < 3 ∧ k = a * 3 + b := ⟨k / 3, k % 3, Nat.mod_lt _ (by decide), by omega⟩
    have ha : a < l.length := by omega
    rw [spRow_get (l := l.set i s) (by rw [List.length_set]; exact ha) hb]
    unfold spF
    rw [hat]
    simp only [List.getElem?_set, List.length_set, spRow_len]
    have hq := spRow_get (l := l) ha hb
    unfold spF at hq
    by_cases e : a = i
    · subst e
      rw [if_pos rfl]
      match b, hb with
      | 0, _ => rw [if_neg (by omega), if_neg (by omega), if_pos (by omega), if_pos (by omega)]; rfl
      | 1, _ => rw [if_neg (by omega), if_pos (by omega), if_pos (by omega)]; rfl
      | 2, _ => rw [if_pos (by omega), if_pos (by omega)]; rfl
    · rw [if_neg e, if_neg (by omega), if_neg (by omega), if_neg (by omega), hq]
  · rw [List.getElem?_eq_none (by simp [spRow_len]; omega), List.getElem?_eq_none (by rw [spRow_len, List.length_set]; omega)]
/-- the list while elements are struck -/
structure DelI (q : Sp → Bool) (l cur : List Sp) (i j : Nat) : Prop where
  len : cur.length = l.length
  ij : i < j
  jl : j ≤ l.length
  pre : cur.take i = (l.take j).filter q
  suf : ∀ k, j ≤ k → k < l.length → spAt cur k = spAt l k
theorem take_at {l : List Sp} {j : Nat} (hj : j < l.length) : l.take (j + 1) = l.take j ++ [spAt l j] := by
  rw [List.take_succ_eq_append_getElem hj]
  simp [spAt, hj]
theorem DelI.start {q : Sp → Bool} {l : List Sp} {k : Nat} (hk : k < l.length) (h : q (spAt l k) = false) (ha : ∀ j, j < k → q (spAt l j) = true) : DelI q l l k (k + 1) := by
  refine ⟨rfl, by omega, hk, ?_, fun _ _ _ => rfl⟩
  rw [take_at hk, List.filter_append, List.filter_cons, if_neg (by rw [h]; decide), List.filter_nil, List.append_nil]
  symm
  rw [List.filter_eq_self]
  intro x hx
  obtain ⟨j, hj, rfl⟩ := List.mem_iff_getElem.1 hx
  rw [List.length_take] at hj
  have := ha j (by omega)
  rw [List.getElem_take]
  have e : spAt l j = l[j]'(by omega) := by simp [spAt, (by omega : j < l.length)]
  rwa [e] at this
theorem DelI.skip {q : Sp → Bool} {l cur : List Sp} {i j : Nat} (h : DelI q l cur i j) (hj : j < l.length) (hq : q (spAt l j) = false) : DelI q l cur i (j + 1) :=
  ⟨h.len, Nat.lt_succ_of_lt h.ij, hj, by rw [take_at hj, List.filter_append, List.filter_cons, if_neg (by rw [hq]; decide), List.filter_nil, List.append_nil]; exact h.pre, fun k a b => h.suf k (by omega) b⟩
theorem DelI.keep {q : Sp → Bool} {l cur : List Sp} {i j : Nat} (h : DelI q l cur i j) (hj : j < l.length) (hq : q (spAt l j) = true) : DelI q l (cur.set i (spAt l j)) (i + 1) (j + 1) := by
  have hij := h.ij
  have hl := h.len
  refine ⟨by rw [List.length_set]; exact h.len, by omega, hj, ?_, fun k a b => ?_⟩
  · rw [take_at hj, List.filter_append, List.filter_cons, if_pos hq, List.filter_nil, ← h.pre, List.take_succ_eq_append_getElem (by rw [List.length_set]; omega), List.take_set_of_le (Nat.le_refl _)]
    simp
  · rw [← h.suf k (by omega) b]
    simp [spAt, List.getElem?_set_ne (by omega : i ≠ k)]
theorem DelI.done {q : Sp → Bool} {l cur : List Sp} {i : Nat} (h : DelI q l cur i l.length) : cur.take i = l.filter q := by
  rw [h.pre, List.take_length]
theorem filter_all {q : Sp → Bool} {l : List Sp} (h : ∀ j, j < l.length → q (spAt l j) = true) : l.filter q = l := by
  rw [List.filter_eq_self]
  intro x hx
  obtain ⟨j, hj, rfl⟩ := List.mem_iff_getElem.1 hx
  have := h j hj
  have e : spAt l j = l[j]'hj := by simp [spAt, hj]
  rwa [e] at this
theorem spRow_take {l : List Sp} {i : Nat} (hi : i ≤ l.length) : (spRow l).take (i * 3) = spRow (l.take i) := by
  apply List.ext_getElem?
  intro k
  by_cases hk : k < i * 3
  · obtain ⟨a, b, hb, rfl⟩ : ∃ a b, b < 3 ∧ k = a * 3 + b := ⟨k / 3, k % 3, Nat.mod_lt _ (by decide), by omega⟩
    have hl : (l.take i).length = i := by rw [List.length_take]; omega
    rw [List.getElem?_take, if_pos hk, spRow_get (by omega) hb, spRow_get (by omega) hb]
    unfold spF spAt
    congr 2
    simp [(by omega : a < i)]
  · rw [List.getElem?_eq_none (by rw [List.length_take]; omega), List.getElem?_eq_none (by rw [spRow_len, List.length_take]; omega)]
end Go.Sv
namespace Go.Proofs.Ytickckehhfdoeaa
open Go.RowKit Go.Sv
set_option maxHeartbeats 4000000 in
set_option maxRecDepth 100000 in
theorem en1_any (p : Prob) (q : ProbP) (m : Mx) (qm : MixP) (s : Sp) (w : World) (pb mb : Nat) (hp : RProb w w.heap.size p q) (hbd : PBd p) (hm : RMix w w.heap.size m qm) (hmb : MBd m qm) (hok : MOk p m) (hs : spB s = true) (he : existsB p s = true)
    (hP : Whole w pb 39 #[.slice q.a0 p.vs.length q.c0, .slice q.a1 p.now.length q.c1, .slice q.a2 p.tgt.length q.c2, .slice q.a3 p.tabs.length q.c3]) (hM : Whole w mb 56 #[.slice qm.a0 m.base.length qm.c0, .slice qm.a1 m.next.length qm.c1, .slice qm.a2 m.held.length qm.c2]) :
    Calls Try.prog 43 #[stepV s, .pointer (some ⟨pb, 0, none⟩), .pointer (some ⟨mb, 0, none⟩)] w fun e w' => e = .returned (.bool (!aftB p m s)) ∧ Below w.heap.size w w' := by
  obtain ⟨W, (hW : w.alloc (.cells #[.int .i64 s.kind, .int .i64 s.ix, .int .i64 s.ver] 63) = W), S, hB⟩ := fm_boxE (Fm.init w) 63 [.int .i64 s.kind, .int .i64 s.ix, .int .i64 s.ver]
  have HA := Lib.hid (after_any p q m qm s W (hp.to hB) hbd (hm.to hB) hmb hok hs he)
  have hP2 := hP.below hB hP.lt
  have hM2 := hM.below hB hM.lt
  obtain ⟨qa0, qc0, qa1, qc1, qa2, qc2, qa3, qc3⟩ := q
  obtain ⟨ma0, mc0, ma1, mc1, ma2, mc2⟩ := qm
  obtain ⟨kd, ix, v⟩ := s
  dsimp only at hP hM hP2 hM2 hW S HA ⊢
  obtain ⟨p0, p1, p2, p3⟩ := And.intro (hP.cell 0) (And.intro (hP.cell 1) (And.intro (hP.cell 2) (hP.cell 3)))
  obtain ⟨n0, n1, n2⟩ := And.intro (hM.cell 0) (And.intro (hM.cell 1) (hM.cell 2))
  obtain ⟨u0, u1, u2, u3⟩ := And.intro (hP2.cell 0) (And.intro (hP2.cell 1) (And.intro (hP2.cell 2) (hP2.cell 3)))
  obtain ⟨v0, v1, v2⟩ := And.intro (hM2.cell 0) (And.intro (hM2.cell 1) (hM2.cell 2))
  obtain ⟨⟨r1, f1, r10, r11, r12, -⟩, -⟩ := S.facts
  have lP := hP.lt
  have lM := hM.lt
  have lP2 := hP2.lt
  have lM2 := hM2.lt
  have SW := Lib.hid S
  obtain ⟨ab, hab⟩ : ∃ ab, aftB p m ⟨kd, ix, v⟩ = ab := ⟨_, rfl⟩
  rw [hab]
  clear hp hbd hm hmb hok hs he hP hM hP2 hM2 S
  go_enter Try.func43, Try.ntmps43
  go_wp2_with fail
  clear hW
  with_reducible refine HA.out.mono ?_
  rintro e w1 ⟨_, rfl, hb1, x, ⟨x0, y0, x1, y1, x2, y2⟩, rfl, -⟩
  rw [hab]
  have S1 := Lib.hid (SW.out.call hb1)
  have S2 := Lib.hid (S1.out.box 56 [.slice x0 x.base.length y0, .slice x1 x.next.length y1, .slice x2 x.held.length y2])
  clear p0 p1 p2 p3 n0 n1 n2 u0 u1 u2 u3 v0 v1 v2 r1 f1 r10 r11 r12
  go_wp2
  go_ret
  exact ⟨rfl, S2.out.bel⟩
/-- what the search hands back -/
def IxS (w : World) (q : Sp → Bool) (l : List Sp) (e : Ending) (w' : World) : Prop := Below w.heap.size w w' ∧ ∃ z : Int, e = .returned (.int .i64 z) ∧ ((z = -1 ∧ ∀ j, j < l.length → q (spAt l j) = true) ∨ ∃ k : Nat, k < l.length ∧ z = (k : Int) ∧ q (spAt l k) = false ∧ ∀ j, j < k → q (spAt l j) = true)
/-- the predicate at the list's elements, in whatever world that keeps what lies below B -/
def PredS (w : World) (B pb mb : Nat) (q : Sp → Bool) (l : List Sp) : Prop := ∀ W, Below B w W → ∀ k, k < l.length → Calls Try.prog 43 #[stepV (spAt l k), .pointer (some ⟨pb, 0, none⟩), .pointer (some ⟨mb, 0, none⟩)] W fun e w' => e = .returned (.bool (!q (spAt l k))) ∧ Below W.heap.size W w'
set_option maxHeartbeats 4000000 in
set_option maxRecDepth 100000 in
theorem ixs_any (A : Option Addr) (c : Nat) (l : List Sp) (q : Sp → Bool) (pb mb B : Nat) (w : World) (hB : B ≤ w.heap.size) (ha : ArrN w w.heap.size 3 A l.length (spF l)) (hl : l.length ≤ 1000000) (HP : PredS w B pb mb q l) :
    Calls Try.prog 68 #[.slice A l.length c, .func (.func 43) #[] #[.pointer (some ⟨pb, 0, none⟩), .pointer (some ⟨mb, 0, none⟩)]] w (IxS w q l) := by
  replace HP := Lib.hid HP
  replace ha := Lib.hid ha
  go_enter Try.func68, Try.ntmps68
  go_wp2
  go_loopw [5, 8] (fun _ s8 wr => ∃ k : Nat, k ≤ l.length ∧ s8 = .int .i64 k ∧ (∀ j, j < k → q (spAt l j) = true) ∧ Below w.heap.size w wr) (fun _ s8 _ => l.length - (intOf s8).toNat)
  case atStart => exact ⟨0, Nat.zero_le _, rfl, fun j hj => by omega, Below.refl _ _⟩
  case round =>
    obtain ⟨k, hk, rfl, hall, hbel⟩ := hrel
    replace hall := Lib.hid hall
    by_cases hlt : k < l.length
    · obtain ⟨g, o, rfl, hg, hc⟩ := (ha.out.below hbel) (by omega)
      obtain ⟨c0, c1, c2⟩ := sp_cells (hc k hlt)
      have HC := Lib.hid (HP.out wr (hbel.mono hB) k hlt)
      clear hc
      obtain ⟨x, hx⟩ : ∃ x, spAt l k = x := ⟨_, rfl⟩
      rw [hx] at c0 c1 c2 HC
      obtain ⟨kd, ix, v⟩ := x
      dsimp only at c0 c1 c2
      have jk : (k : Int) < (l.length : Int) := by omega
      replace hbel := Lib.hid hbel
      cases hq : q ⟨kd, ix, v⟩ with
      | true =>
        have hn : Hid (∀ j, j < k + 1 → q (spAt l j) = true) := Lib.hid fun j hj => by
          rcases Nat.lt_succ_iff_lt_or_eq.1 hj with h | h
          · exact hall.out j h
          · rw [h, hx]; exact hq
        rw [hq] at HC
        replace hx := Lib.hid hx
        clear hq
        go_wp2_with fail
        with_reducible refine HC.out.mono ?_
        rintro e w1 ⟨rfl, hb1⟩
        have hb2 := Lib.hid (hbel.out.trans (hb1.mono hbel.out.size))
        clear hb1
        go_wp2
        go_roundw
        case rel => exact ⟨k + 1, by omega, by go_num, hn.out, hb2.out⟩
        case measure => simp [intOf]; omega
      | false =>
        have hn : Hid (q (spAt l k) = false) := Lib.hid (by rw [hx]; exact hq)
        rw [hq] at HC
        replace hx := Lib.hid hx
        clear hq
        go_wp2_with fail
        with_reducible refine HC.out.mono ?_
        rintro e w1 ⟨rfl, hb1⟩
        have hb2 := Lib.hid (hbel.out.trans (hb1.mono hbel.out.size))
        clear hb1
        go_wp2
        go_ret
        exact ⟨hb2.out, _, rfl, Or.inr ⟨k, hlt, rfl, hn.out, hall.out⟩⟩
    · obtain rfl : k = l.length := by omega
      replace hbel := Lib.hid hbel
      clear hlt
      go_wp2
      go_ret
      exact ⟨hbel.out, _, rfl, Or.inl ⟨rfl, hall.out⟩⟩
end Go.Proofs.Ytickckehhfdoeaa

namespace Go.Proofs.Ytickckehhfdoeaa
open Go.RowKit Go.Sv
/-- a list of steps in rows from block B on -/
def OwnB (w : World) (B : Nat) (l : List Sp) (v : Value) (w' : World) : Prop := Below B w w' ∧ ∃ A c, v = .slice A l.length c ∧ w'.ownsRow B 63 3 (.slice A l.length c) l.length (spRow l)
theorem own_putS {W : World} {B g n c i : Nat} {cur : List Sp} (h : W.ownsRow B 63 3 (.slice (some ⟨g, 0, none⟩) n c) n (spRow cur)) (hn : cur.length = n) (hi : i < n) (s : Sp) :
    (((W.setCell ⟨g, i * 3, none⟩ (.int .i64 s.kind)).setCell ⟨g, i * 3 + 1, none⟩ (.int .i64 s.ix)).setCell ⟨g, i * 3 + 2, none⟩ (.int .i64 s.ver)).ownsRow B 63 3 (.slice (some ⟨g, 0, none⟩) n c) n (spRow (cur.set i s)) := by
  obtain ⟨g1, e1, -, -, -, -, h1⟩ := ownN_store h (i := i * 3) (by omega)
  obtain rfl : g = g1 := by injection e1 with e; injection e
  obtain ⟨g2, e2, -, -, -, -, h2⟩ := ownN_store (h1 (.int .i64 s.kind)) (i := i * 3 + 1) (by omega)
  obtain rfl : g = g2 := by injection e2 with e; injection e
  obtain ⟨g3, e3, -, -, -, -, h3⟩ := ownN_store (h2 (.int .i64 s.ix)) (i := i * 3 + 2) (by omega)
  obtain rfl : g = g3 := by injection e3 with e; injection e
  have := h3 (.int .i64 s.ver)
  rwa [spRow_set (by omega)] at this
set_option maxHeartbeats 4000000 in
set_option maxRecDepth 100000 in
theorem del_any (A : Option Addr) (c : Nat) (l : List Sp) (q : Sp → Bool) (pb mb B : Nat) (w : World) (hB : B ≤ w.heap.size) (ho : w.ownsRow B 63 3 (.slice A l.length c) l.length (spRow l)) (hl : l.length ≤ 1000000) (HP : PredS w B pb mb q l) :
    Calls Try.prog 41 #[.slice A l.length c, .func (.func 43) #[] #[.pointer (some ⟨pb, 0, none⟩), .pointer (some ⟨mb, 0, none⟩)]] w (Ret (OwnB w B (l.filter q))) := by
  have hA : ArrN w w.heap.size 3 A l.length (spF l) := by
    obtain ⟨A', c', hv, _, _, ha⟩ := own_arrN (f := spF l) ho (fun k hk i hi => spRow_get hk hi)
    injection hv with h1
    rw [h1]
    exact ha
  have HI := Lib.hid (ixs_any A c l q pb mb B w hB hA hl HP)
  replace HP := Lib.hid HP
  replace ho := Lib.hid ho
  clear hA
  go_enter Try.func41, Try.ntmps41
  go_wp2_with fail
  with_reducible refine HI.out.mono ?_
  rintro e w1 ⟨hb1, z, rfl, ⟨rfl, hall⟩ | ⟨k0, hk0, rfl, hqk, hall⟩⟩
  · have hR := Lib.hid (show OwnB w B (l.filter q) (.slice A l.length c) w1 from ⟨hb1.mono hB, A, c, by rw [filter_all hall], by rw [filter_all hall]; exact own_to ho.out hb1⟩)
    clear hall hb1
    go_wp2
    go_ret
    exact Ret.mk hR.out
  · have hne : ((k0 : Int) == -1) = false := beq_eq_false_iff_ne.2 (by omega)
    have hD := Lib.hid (DelI.start hk0 hqk hall)
    have hO1 := Lib.hid (own_to ho.out hb1)
    have hb1' := Lib.hid (hb1.mono hB)
    have hw1 : w.heap.size ≤ w1.heap.size := hb1.size
    clear hqk hall hb1
    obtain ⟨g, rfl, hgB, -⟩ := ownN_store ho.out (i := 0) (by omega)
    go_wp2
    go_loopw [5, 6, 7] (fun s5 s6 _ wr => ∃ (i j : Nat) (cur : List Sp), s5 = .int .i64 i ∧ s6 = .int .i64 j ∧ Hid (DelI q l cur i j) ∧ wr.ownsRow B 63 3 (.slice (some ⟨g, 0, none⟩) l.length c) l.length (spRow cur) ∧ Below B w wr ∧ w.heap.size ≤ wr.heap.size) (fun _ s6 _ _ => l.length - (intOf s6).toNat)
    case atStart => exact ⟨k0, k0 + 1, l, rfl, by go_num, hD, hO1.out, hb1'.out, hw1⟩
    case round =>
      obtain ⟨i, j, cur, rfl, rfl, hD, hown, hbel, hsz⟩ := hrel
      have hij := hD.out.ij
      have hjl := hD.out.jl
      have hcl := Lib.hid hD.out.len
      by_cases hlt : j < l.length
      · obtain ⟨g', e', -, hglt, hgf, hgc, -⟩ := ownN_store hown (i := 0) (by omega)
        obtain rfl : g = g' := by injection e' with e; injection e
        clear e'
        have hsf := hD.out.suf j (Nat.le_refl _) hlt
        have cell : ∀ b, b < 3 → wr.cell? ⟨g, j * 3 + b, none⟩ = some (spF cur j b) := fun b hb => by
          rw [hgc (j * 3 + b) (by omega)]
          exact spRow_get (by rw [hcl.out]; exact hlt) hb
        obtain ⟨c0, c1, c2⟩ := And.intro (cell 0 (by decide)) (And.intro (cell 1 (by decide)) (cell 2 (by decide)))
        unfold spF at c0 c1 c2
        rw [hsf] at c0 c1 c2
        have ci : ∀ b, b < 3 → wr.cell? ⟨g, i * 3 + b, none⟩ = some (spF cur i b) := fun b hb => by
          rw [hgc (i * 3 + b) (by omega)]
          exact spRow_get (by rw [hcl.out]; omega) hb
        obtain ⟨x, hx⟩ : ∃ x, spAt l j = x := ⟨_, rfl⟩
        rw [hx] at c0 c1 c2
        have HC0 := HP.out
        obtain ⟨kd, ix, v⟩ := x
        replace c0 : wr.cell? ⟨g, j * 3, none⟩ = some (.int .i64 kd) := c0
        replace c1 : wr.cell? ⟨g, j * 3 + 1, none⟩ = some (.int .i64 ix) := c1
        replace c2 : wr.cell? ⟨g, j * 3 + 2, none⟩ = some (.int .i64 v) := c2
        obtain ⟨W2, (hW2 : wr.alloc (.cells #[.int .i64 kd, .int .i64 ix, .int .i64 v] 63) = W2), S2, hB2⟩ := fm_boxE (Fm.init wr) 63 [.int .i64 kd, .int .i64 ix, .int .i64 v]
        have HC := Lib.hid (HC0 W2 (hbel.trans (hB2.mono (Nat.le_trans hB hsz))) j hlt)
        rw [hx] at HC
        clear HC0
        obtain ⟨⟨r1, f1, r10, r11, r12, -⟩, -⟩ := S2.facts
        have hO2 := Lib.hid (own_to hown hB2)
        have hbel2 := Lib.hid (hbel.trans (hB2.mono (Nat.le_trans hB hsz)))
        have hsz2 : w.heap.size ≤ W2.heap.size := Nat.le_trans hsz hB2.size
        have jl : (j : Int) < (l.length : Int) := by omega
        have ji : (i : Int) < (l.length : Int) := by omega
        have SW := Lib.hid S2
        have hwW : wr.heap.size < W2.heap.size := by rw [← hW2]; simp
        clear cell hgc hown hbel hB2 S2
        cases hq : q ⟨kd, ix, v⟩ with
        | false =>
          have hD2 := Lib.hid (hD.out.skip hlt (by rw [hx]; exact hq))
          rw [hq] at HC
          replace hx := Lib.hid hx
          clear hq hsf ci
          go_wp2_with fail
          clear hW2
          with_reducible refine HC.out.mono ?_
          rintro e w3 ⟨rfl, hb3⟩
          have hO3 := Lib.hid (own_to hO2.out hb3)
          have hbel3 := Lib.hid (hbel2.out.trans (hb3.mono (Nat.le_trans hB hsz2)))
          have hsz3 := Nat.le_trans hsz2 hb3.size
          clear hb3 r1 f1 r10 r11 r12
          go_wp2
          go_roundw
          case rel => exact ⟨i, j + 1, cur, rfl, by go_num, hD2, hO3.out, hbel3.out, hsz3⟩
          case measure => simp [intOf]; omega
        | true =>
          have hD2 := Lib.hid (hD.out.keep hlt (by rw [hx]; exact hq))
          rw [hq] at HC
          rw [hx] at hD2
          replace hx := Lib.hid hx
          clear hq hsf ci
          go_wp2_with fail
          clear hW2
          with_reducible refine HC.out.mono ?_
          rintro e w3 ⟨rfl, hb3⟩
          have hO3 := Lib.hid (own_to hO2.out hb3)
          have S3 := Lib.hid (SW.out.call hb3)
          have hbel3 := Lib.hid (hbel2.out.trans (hb3.mono (Nat.le_trans hB hsz2)))
          have hsz3 := Nat.le_trans hsz2 hb3.size
          clear hb3 r1 f1 r10 r11 r12
          obtain ⟨⟨r1, f1, r10, r11, r12, -⟩, -⟩ := S3.out.facts
          obtain ⟨g', e', -, hglt3, hgf3, hgc3, -⟩ := ownN_store hO3.out (i := 0) (by omega)
          obtain rfl : g = g' := by injection e' with e; injection e
          clear e'
          obtain ⟨d0, d1, d2⟩ := And.intro (hgc3 (i * 3 + 0) (by omega)) (And.intro (hgc3 (i * 3 + 1) (by omega)) (hgc3 (i * 3 + 2) (by omega)))
          rw [spRow_get (by rw [hcl.out]; omega) (by decide)] at d0 d1 d2
          rw [Nat.add_zero] at d0
          have hO4 := Lib.hid (own_putS hO3.out hcl.out (show i < l.length by omega) ⟨kd, ix, v⟩)
          have hbel4 := Lib.hid (((hbel3.out.setCell (p := ⟨g, i * 3, none⟩) hgB (.int .i64 kd)).setCell (p := ⟨g, i * 3 + 1, none⟩) hgB (.int .i64 ix)).setCell (p := ⟨g, i * 3 + 2, none⟩) hgB (.int .i64 v))
          clear hgc3
          go_wp2
          go_roundw
          case rel => exact ⟨i + 1, j + 1, _, by go_num, by go_num, hD2, hO4.out, hbel4.out, by simpa [World.setCell] using hsz3⟩
          case measure => simp [intOf]; omega
      · obtain rfl : j = l.length := by omega
        obtain ⟨g', e', -, hglt, hgf, hgc, -⟩ := ownN_store hown (i := 0) (by omega)
        obtain rfl : g = g' := by injection e' with e; injection e
        clear e'
        have hz : ∀ w, (zeroValue 63).run Try.prog w = .ok (.agg #[.int .i64 0, .int .i64 0, .int .i64 0]) w := fun w => by kernel_rfl
        have hclr : ∀ ty, (Builtin.clear_ #[50] ty #[.slice (some ⟨g, i * 3, none⟩) (l.length - i) (c - i)]).run Try.prog wr = .ok (.tuple #[]) (wr.setCells g (i * 3) (Builtin.zeroCells #[.int .i64 0, .int .i64 0, .int .i64 0] (l.length - i)).toList) := fun ty =>
          run_clearN wr _ _ ty _ Try.underlying50 hz (by decide) g (i * 3) (l.length - i) (c - i) (by omega) (fun j hj => by
            have hj : j < (l.length - i) * 3 := hj
            rw [hgc (i * 3 + j) (by omega)]
            have : i * 3 + j < (spRow cur).length := by rw [spRow_len, hcl.out]; omega
            simp [this]) (fun j _ => hgf _)
        obtain ⟨zs, hzs⟩ : ∃ zs, (Builtin.zeroCells #[.int .i64 0, .int .i64 0, .int .i64 0] (l.length - i)).toList = zs := ⟨_, rfl⟩
        rw [hzs] at hclr
        have hpre := hD.out.done
        have hlen : (l.filter q).length = i := by rw [← hpre, List.length_take, hcl.out]; omega
        have hcut := ownN_cells zs (i * 3) (ownN_cut hown (Nat.le_of_lt hij)) (Nat.le_refl _)
        rw [spRow_take (by rw [hcl.out]; omega), hpre] at hcut
        have hR := Lib.hid (show OwnB w B (l.filter q) (.slice (some ⟨g, 0, none⟩) i c) (wr.setCells g (i * 3) zs) from ⟨below_cells hgB zs _ hbel, some ⟨g, 0, none⟩, c, by rw [hlen], by rw [hlen]; exact hcut⟩)
        have ji : (i : Int) ≤ (l.length : Int) := by omega
        have hnc : l.length ≤ c := by
          rcases hown.2 with ⟨hv, h0⟩ | ⟨g', cap, cur', hv, -, -, hn, -⟩
          · cases hv
          · injection hv with _ _ h3
            omega
        have jc : (i : Int) ≤ (c : Int) := by omega
        clear hcut hpre hgc hown hz hD hbel
        replace hlen := Lib.hid hlen
        go_wp2
        go_ret
        exact Ret.mk hR.out
/-- what Enabled hands back -/
noncomputable def enE (p : Prob) (m : Mx) : Int := mixE p m
noncomputable def enL (p : Prob) (m : Mx) : List Sp := if mixE p m = 0 then (allL p).filter (aftB p m) else []
/-- steps and an error -/
def StR (w : World) (l : List Sp) (e : Int) (v : Value) (w' : World) : Prop := Below w.heap.size w w' ∧ ∃ A c, v = .tuple #[.slice A l.length c, .int .i64 e] ∧ w'.ownsRow w.heap.size 63 3 (.slice A l.length c) l.length (spRow l)
theorem allL_ok {p : Prob} (_h : probE p = 0) : ∀ k, k < (allL p).length → spB (spAt (allL p) k) = true ∧ existsB p (spAt (allL p) k) = true := by
  have key : ∀ s ∈ allL p, spB s = true ∧ existsB p s = true := by
    intro s hs
    unfold allL at hs
    simp only [List.mem_append, List.mem_flatMap, List.mem_map, List.mem_range] at hs
    rcases hs with (⟨i, hi, v, hv, rfl⟩ | ⟨i, hi, rfl⟩) | ⟨i, hi, rfl⟩
    · refine ⟨by unfold spB; simp, ?_⟩
      unfold existsB
      rw [if_neg (by simp)]
      simp only [Int.toNat_natCast, decide_true, Bool.not_true, Bool.false_or, Bool.and_eq_true, decide_eq_true_eq]
      omega
    · refine ⟨by unfold spB; simp, ?_⟩
      unfold existsB
      rw [if_neg (by simp)]
      simp
      omega
    · refine ⟨by unfold spB; simp, ?_⟩
      unfold existsB
      rw [if_pos rfl]
      simp
      omega
  intro k hk
  have e : spAt (allL p) k = (allL p)[k] := by simp [spAt, hk]
  rw [e]
  exact key _ (List.getElem_mem hk)
theorem allL_len {p : Prob} (h : probE p = 0) : (allL p).length ≤ 100 := by
  rw [← al3_all]
  exact (al_len h).2.2 _ (Nat.le_refl _)
set_option maxHeartbeats 4000000 in
set_option maxRecDepth 100000 in
theorem Enabled_any (p : Prob) (q : ProbP) (m : Mx) (qm : MixP) (w : World) (hp : RProb w w.heap.size p q) (hbd : PBd p) (hm : RMix w w.heap.size m qm) (hmb : MBd m qm) :
    Calls Try.prog 18 #[probV p q, mixV m qm] w (Ret (StR w (enL p m) (enE p m))) := by
  obtain ⟨W, hW, S⟩ := pm_boxes p q m qm w
  have HV := Lib.hid (mvalid_any p q m qm W (hp.to S.bel) hbd (hm.to S.bel) hmb)
  have hsz : W.heap.size = w.heap.size + 2 := by rw [← hW]; simp
  unfold enL enE
  by_cases h0 : mixE p m = 0
  · rw [if_pos h0]
    have hok := mixE_ok.1 h0
    have HAl := Lib.hid (fun W2 (h : Below W.heap.size W W2) => all_any p q W2 ((hp.to S.bel).to h) hok.pr)
    have HD := Lib.hid (fun (A : Option Addr) (c : Nat) (W1 W2 : World) (h1 : Below W.heap.size W W1) (h : Below W1.heap.size W1 W2) (ho : W2.ownsRow W1.heap.size 63 3 (.slice A (allL p).length c) (allL p).length (spRow (allL p))) =>
      del_any A c (allL p) (aftB p m) w.heap.size (w.heap.size + 1) W1.heap.size W2 h.size ho (by have := allL_len hok.pr; omega) (fun W3 h3 k hk => by
        have hb3 := (h1.trans ((h.trans h3).mono h1.size))
        have S3 := S.call hb3
        exact en1_any p q m qm (spAt (allL p) k) W3 w.heap.size (w.heap.size + 1) ((hp.to S.bel).to hb3) hbd ((hm.to S.bel).to hb3) hmb hok (allL_ok hok.pr k hk).1 (allL_ok hok.pr k hk).2 S3.bx.2.1 S3.bx.1))
    rw [h0] at HV ⊢
    obtain ⟨qa0, qc0, qa1, qc1, qa2, qc2, qa3, qc3⟩ := q
    obtain ⟨ma0, mc0, ma1, mc1, ma2, mc2⟩ := qm
    dsimp only at HV HAl HD hW S ⊢
    obtain ⟨⟨r1, f1, r10, r11, r12, -⟩, ⟨r2, f2, r20, r21, r22, r23, -⟩, -⟩ := S.facts
    have SW := Lib.hid S
    clear S hp hbd hm hmb hok h0
    obtain ⟨L, hL⟩ : ∃ L, allL p = L := ⟨_, rfl⟩
    rw [hL] at HAl HD ⊢
    go_enter Try.func18, Try.ntmps18
    go_wp2_with fail
    clear hW
    with_reducible refine HV.out.mono ?_
    rintro e w1 ⟨rfl, hb1⟩
    clear r1 f1 r10 r11 r12 r2 f2 r20 r21 r22 r23
    have S1 := Lib.hid (SW.out.call hb1)
    replace hb1 := Lib.hid hb1
    obtain ⟨⟨r1, f1, r10, r11, r12, -⟩, ⟨r2, f2, r20, r21, r22, r23, -⟩, -⟩ := S1.out.facts
    go_wp2_with fail
    with_reducible refine (HAl.out w1 hb1.out).mono ?_
    rintro e w2 ⟨_, rfl, hb2, A, c, rfl, ho2⟩
    clear r1 f1 r10 r11 r12 r2 f2 r20 r21 r22 r23
    have S2 := Lib.hid (S1.out.call hb2)
    replace hb2 := Lib.hid hb2
    replace ho2 := Lib.hid ho2
    go_wp2_with fail
    with_reducible refine (HD.out A c w1 w2 hb1.out hb2.out ho2.out).mono ?_
    rintro e w3 ⟨_, rfl, hb3, A', c', rfl, ho3⟩
    have S3 := Lib.hid (S1.out.call (hb2.out.trans hb3))
    have hs1 := S1.out.size
    replace hb3 := Lib.hid hb3
    replace ho3 := Lib.hid (own_base ho3 hs1)
    go_wp2
    refine bodyPost_ret (v := .tuple #[.slice A' (L.filter (aftB p m)).length c', .int .i64 0]) (by simp [results, Try.results18, go_sem]) rfl ?_
    exact Ret.mk ⟨S3.out.bel, A', c', rfl, ho3.out⟩
  · rw [if_neg h0]
    obtain ⟨er, her⟩ : ∃ er, mixE p m = er := ⟨_, rfl⟩
    rw [her] at HV h0 ⊢
    have hne : (er != 0) = true := by simpa using h0
    obtain ⟨qa0, qc0, qa1, qc1, qa2, qc2, qa3, qc3⟩ := q
    obtain ⟨ma0, mc0, ma1, mc1, ma2, mc2⟩ := qm
    dsimp only at HV hW S ⊢
    obtain ⟨⟨r1, f1, r10, r11, r12, -⟩, ⟨r2, f2, r20, r21, r22, r23, -⟩, -⟩ := S.facts
    have SW := Lib.hid S
    clear S hp hbd hm hmb her h0
    go_enter Try.func18, Try.ntmps18
    go_wp2_with fail
    clear hW
    with_reducible refine HV.out.mono ?_
    rintro e w1 ⟨rfl, hb1⟩
    have S1 := Lib.hid (SW.out.call hb1)
    clear r1 f1 r10 r11 r12 r2 f2 r20 r21 r22 r23 hb1
    go_wp2
    refine bodyPost_ret (v := .tuple #[.slice none 0 0, .int .i64 er]) (by simp [results, Try.results18, go_sem]) rfl ?_
    exact Ret.mk ⟨S1.out.bel, none, 0, rfl, World.ownsRow_nil _ _ _ _⟩
end Go.Proofs.Ytickckehhfdoeaa
