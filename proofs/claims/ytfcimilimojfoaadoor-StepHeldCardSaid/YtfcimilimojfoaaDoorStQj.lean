/-
  CONTRACT of sheaveref36.Found.
  Conditions: those that each theorem names.
-/
import Derived.Test.YtfcimilimojfoaaDoorSb12
namespace Go.Sv
open Go.RowKit
def fdA (p : Prob) (m : Mx) (i u k : Nat) : List Cf := if (tab p.tabs i).aware = true then [] else ((List.range k).filter (fun v => (rds p m i).testBit v && !mat (tab p.tabs i).ok u v)).map fun (v : Nat) => ⟨i, u, v⟩
def rdB (p : Prob) (m : Mx) (i u k : Nat) : Bool := (List.range k).any (fun v => (rds p m i).testBit v && mat (tab p.tabs i).ok u v)
theorem fdA_0 (p : Prob) (m : Mx) (i u : Nat) : fdA p m i u 0 = [] := by unfold fdA; split <;> rfl
theorem fdA_same {p : Prob} {m : Mx} {i u k : Nat} (h : ((tab p.tabs i).aware || (!(rds p m i).testBit k || mat (tab p.tabs i).ok u k)) = true) : fdA p m i u (k + 1) = fdA p m i u k := by
  unfold fdA
  split
  · rfl
  · rename_i ha
    have ha : (tab p.tabs i).aware = false := by simpa using ha
    rw [ha, Bool.false_or] at h
    rw [List.range_succ, List.filter_append]
    have : ((rds p m i).testBit k && !mat (tab p.tabs i).ok u k) = false := by
      rcases Bool.or_eq_true _ _ ▸ h with h | h
      · have : (rds p m i).testBit k = false := by simpa using h
        rw [this]; rfl
      · rw [h]; simp
    simp [this]
theorem fdA_more {p : Prob} {m : Mx} {i u k : Nat} (ha : (tab p.tabs i).aware = false) (hr : (rds p m i).testBit k = true) (hm : mat (tab p.tabs i).ok u k = false) : fdA p m i u (k + 1) = fdA p m i u k ++ [⟨i, u, k⟩] := by
  unfold fdA
  rw [ha, if_neg (by decide), if_neg (by decide), List.range_succ, List.filter_append, List.map_append]
  simp [hr, hm]
theorem rdB_succ (p : Prob) (m : Mx) (i u k : Nat) : rdB p m i u (k + 1) = (rdB p m i u k || ((rds p m i).testBit k && mat (tab p.tabs i).ok u k)) := by
  unfold rdB
  rw [List.range_succ, List.any_append]
  simp
def nvN (p : Prob) (i : Nat) : Nat := (gi p.vs (tab p.tabs i).dst.toNat).toNat
theorem fU_no {p : Prob} {m : Mx} {i u : Nat} (h : (wrs p m i).testBit u = false) : foundU p m i u = [] := by unfold foundU; rw [if_pos h]
theorem fU_yes {p : Prob} {m : Mx} {i u : Nat} (h : (wrs p m i).testBit u = true) : foundU p m i u = fdA p m i u (nvN p i) ++ (if ((tab p.tabs i).aware && !rdB p m i u (nvN p i)) = true then [⟨i, u, -1⟩] else []) := by
  unfold foundU fdA rdB nvN
  rw [if_neg (by rw [h]; decide)]
  by_cases ha : (tab p.tabs i).aware = true
  · rw [if_pos ha, if_pos ha, ha, Bool.true_and, List.nil_append]
    split
    · rename_i hh; rw [hh, if_neg (by decide)]
    · rename_i hh
      have hh : ((List.range (gi p.vs (tab p.tabs i).dst.toNat).toNat).any fun v => (rds p m i).testBit v && mat (tab p.tabs i).ok u v) = false := by simpa using hh
      rw [hh, if_pos (by decide)]
  · have ha' : (tab p.tabs i).aware = false := by simpa using ha
    rw [if_neg ha, if_neg ha, ha', Bool.false_and, if_neg (by decide), List.append_nil]
def fd1 (p : Prob) (m : Mx) (i : Nat) : List Cf := (List.range i).flatMap (foundT p m)
def fd2 (p : Prob) (m : Mx) (i u : Nat) : List Cf := fd1 p m i ++ (List.range u).flatMap (foundU p m i)
theorem fd2_0 (p : Prob) (m : Mx) (i : Nat) : fd2 p m i 0 = fd1 p m i := by unfold fd2; simp
theorem fd2_next (p : Prob) (m : Mx) (i u : Nat) : fd2 p m i (u + 1) = fd2 p m i u ++ foundU p m i u := by
  unfold fd2
  rw [List.range_succ, List.flatMap_append]
  simp
theorem fd2_all {p : Prob} {m : Mx} {i n : Nat} (h : (gi p.vs (tab p.tabs i).src.toNat).toNat = n) : fd2 p m i n = fd1 p m (i + 1) := by
  unfold fd2 fd1
  rw [List.range_succ, List.flatMap_append]
  simp [foundT, h]
theorem fd1_0 (p : Prob) (m : Mx) : fd1 p m 0 = [] := rfl
theorem fdA_len (p : Prob) (m : Mx) (i u k : Nat) : (fdA p m i u k).length ≤ k := by
  unfold fdA
  split
  · simp
  · rw [List.length_map]; exact Nat.le_trans (List.length_filter_le _ _) (by simp)
theorem gi6 {p : Prob} (h : probE p = 0) (j : Nat) : (gi p.vs j).toNat ≤ 6 := by
  by_cases hj : j < p.vs.length
  · have := vs_le h hj; omega
  · have : gi p.vs j = 0 := by simp [gi, hj]
    omega
theorem fU_len {p : Prob} (h : probE p = 0) (m : Mx) (i u : Nat) : (foundU p m i u).length ≤ 7 := by
  have := gi6 h (tab p.tabs i).dst.toNat
  cases hb : (wrs p m i).testBit u with
  | false => rw [fU_no hb]; simp
  | true =>
    rw [fU_yes hb, List.length_append]
    have h1 := fdA_len p m i u (nvN p i)
    unfold nvN at h1
    unfold nvN
    split <;> simp <;> omega
theorem flat_len {α β : Type} (f : α → List β) (c : Nat) : ∀ l : List α, (∀ a, (f a).length ≤ c) → (l.flatMap f).length ≤ l.length * c
  | [], _ => by simp
  | a :: l, h => by
    have := flat_len f c l h
    have := h a
    rw [List.flatMap_cons, List.length_append, List.length_cons, Nat.succ_mul]
    omega
theorem fd2_len {p : Prob} (h : probE p = 0) (m : Mx) (i u : Nat) : (fd2 p m i u).length ≤ i * 42 + u * 7 := by
  unfold fd2 fd1
  rw [List.length_append]
  have a := flat_len (foundU p m i) 7 (List.range u) (fun x => fU_len h m i x)
  have b := flat_len (foundT p m) 42 (List.range i) (fun x => by
    unfold foundT
    have := flat_len (foundU p m x) 7 (List.range (gi p.vs (tab p.tabs x).src.toNat).toNat) (fun y => fU_len h m x y)
    have := gi6 h (tab p.tabs x).src.toNat
    rw [List.length_range] at *
    omega)
  rw [List.length_range] at a b
  omega
end Go.Sv
namespace Go.Proofs.YtfcimilimojfoaaDoor
open Go.RowKit Go.Sv
def cfC (c : Cf) : Nat → Value
  | 0 => .int .i64 c.table
  | 1 => .int .i64 c.writer
  | _ => .int .i64 c.reader
def cfAt (l : List Cf) (k : Nat) : Cf := l.getD k ⟨0, 0, 0⟩
def cfF (l : List Cf) (k i : Nat) : Value := cfC (cfAt l k) i
def cfRow (l : List Cf) : List Value := rowN 3 l.length (cfF l)
theorem cfAt_lt {l : List Cf} {x : Cf} {k : Nat} (h : k < l.length) : cfAt (l ++ [x]) k = cfAt l k := by simp [cfAt, List.getElem?_append_left h]
theorem cfAt_last {l : List Cf} {x : Cf} : cfAt (l ++ [x]) l.length = x := by simp [cfAt]
theorem cfRow_snoc (l : List Cf) (c : Cf) : cfRow (l ++ [c]) = cfRow l ++ [.int .i64 c.table, .int .i64 c.writer, .int .i64 c.reader] := by
  unfold cfRow
  rw [List.length_append, List.length_singleton, rowN_snoc (f := cfF l) (by decide) (fun k hk i _ => by unfold cfF; rw [cfAt_lt hk])]
  unfold cfF
  rw [cfAt_last]
  rfl
theorem cfRow_get {l : List Cf} {k i : Nat} (hk : k < l.length) (hi : i < 3) : (cfRow l)[k * 3 + i]? = some (cfF l k i) := rowN_get hk hi
theorem elCf : ElemT Tryd.prog 65 68 (.agg #[.int .i64 0, .int .i64 0, .int .i64 0]) 3 24 := ⟨Tryd.underlying65, by kernel_rfl, by kernel_rfl, by omega⟩
def LC (W wr : World) (l : List Cf) (v : Value) : Prop := wr.ownsRow W.heap.size 68 3 v l.length (cfRow l)
theorem lc_next {w wr : World} {l l' : List Cf} {c : Cf} {v : Value} (h : wr.ownsRow w.heap.size 68 3 v (l.length + 1) (cfRow l ++ [.int .i64 c.table, .int .i64 c.writer, .int .i64 c.reader])) (he : l' = l ++ [c]) : LC w wr l' v := by
  subst he
  show World.ownsRow _ _ _ _ _ (l ++ [c]).length _
  rw [List.length_append, cfRow_snoc]
  exact h
def OwnC (w : World) (l : List Cf) (v : Value) (w' : World) : Prop := Below w.heap.size w w' ∧ ∃ A c, v = .slice A l.length c ∧ w'.ownsRow w.heap.size 68 3 (.slice A l.length c) l.length (cfRow l)
theorem OwnC.of {w w' : World} {l : List Cf} {v : Value} (h : w'.ownsRow w.heap.size 68 3 v l.length (cfRow l)) (hb : Below w.heap.size w w') : OwnC w l v w' := by
  obtain ⟨A, c, rfl, _⟩ := own_form h
  exact ⟨hb, A, c, rfl, h⟩
end Go.Proofs.YtfcimilimojfoaaDoor
