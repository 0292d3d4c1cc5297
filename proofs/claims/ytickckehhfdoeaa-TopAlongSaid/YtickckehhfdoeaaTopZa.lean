/-
  What the law sheavetop.TopAlong leans on.
  Conditions: those that each theorem names.
-/
import Derived.Test.YtickckehhfdoeaaStOc
import Derived.Test.YtickckehhfdoeaaTopY
import Derived.Test.YtickckehhfdoeaaTopX
import Derived.Test.YtickckehhfdoeaaTopO
namespace Go.Proofs.Ytickckehhfdoeaa
open Go.RowKit Go.Sv
theorem dVs_le (d : Dra) (i : Nat) : (gi (dVs d) i).toNat ≤ 3 := by
  by_cases h : i < d.vs.length
  · have := dVs_bd h; omega
  · have : gi (dVs d) i = 0 := by simp [gi, dVs, h]
    omega
theorem dProb_bd {d : Dra} (h3 : d.vs.length ≤ 3) (h4 : d.lk.length ≤ 4) : PBd (dProb d) := by
  obtain ⟨a, b, c, e⟩ := prob_small (dProb_ok h3 h4)
  refine ⟨by omega, by omega, by omega, by omega, fun k hk => ?_⟩
  have key : ∀ t, t ∈ (dProb d).tabs → t.ok.length ≤ 9223372036854775807 ∧ t.rw.length ≤ 9223372036854775807 := by
    intro t ht
    unfold dProb at ht
    dsimp only at ht
    split at ht
    · cases ht
    · obtain ⟨l, -, rfl⟩ := List.mem_map.1 ht
      unfold dTab
      dsimp only
      rw [bitsM_len]
      have h1 := dVs_le d (l.src % ((dVs d).length : Int)).toNat
      refine ⟨by omega, ?_⟩
      split
      · rw [bitsM_len]; omega
      · simp
  have hm : tab (dProb d).tabs k ∈ (dProb d).tabs := by
    have e : tab (dProb d).tabs k = (dProb d).tabs[k] := by simp [tab, hk]
    rw [e]
    exact List.getElem_mem hk
  exact key _ hm
theorem own_none {w : World} {base : Nat} {e : TypeId} {size n c : Nat} {xs : List Value} (h : w.ownsRow base e size (.slice none n c) n xs) : n = 0 ∧ c = 0 := by
  obtain ⟨hl, h⟩ := h
  rcases h with ⟨h1, -⟩ | ⟨g, cap, cur, h1, -⟩
  · cases h1
    exact ⟨rfl, rfl⟩
  · cases h1
theorem en_ok {p : Prob} {m : Mx} (h : MOk p m) : enL p m = (allL p).filter (aftB p m) ∧ enE p m = 0 := by
  have h0 := mixE_ok.2 h
  unfold enL enE
  exact ⟨if_pos h0, h0⟩
theorem en_len {p : Prob} {m : Mx} (h : MOk p m) : ((allL p).filter (aftB p m)).length ≤ 100 := Nat.le_trans (List.length_filter_le _ _) (allL_len h.pr)
theorem en_at {p : Prob} {m : Mx} {j : Nat} (hj : j < ((allL p).filter (aftB p m)).length) : appE p m (spAt ((allL p).filter (aftB p m)) j) = 0 ∧ (spAt ((allL p).filter (aftB p m)) j).kind ≠ 4 := by
  have e : spAt ((allL p).filter (aftB p m)) j = ((allL p).filter (aftB p m))[j] := by simp [spAt, hj]
  rw [e]
  exact en_step (List.getElem_mem hj)
theorem tmod_in {v : Int} {n : Nat} (hv : 0 ≤ v) (hn : 0 < n) : ∃ j : Nat, v.tmod (n : Int) = (j : Int) ∧ j < n := by
  refine ⟨(v.tmod (n : Int)).toNat, ?_, ?_⟩
  · rw [Int.tmod_eq_emod_of_nonneg hv]
    have := Int.emod_nonneg v (show (n : Int) ≠ 0 by omega)
    omega
  · rw [Int.tmod_eq_emod_of_nonneg hv]
    have := Int.emod_nonneg v (show (n : Int) ≠ 0 by omega)
    have := Int.emod_lt_of_pos v (show (0 : Int) < n by omega)
    omega
theorem spOwn_arr {W : World} {B c : Nat} {A : Option Addr} {l : List Sp} (h : W.ownsRow B 63 3 (.slice A l.length c) l.length (spRow l)) : ArrN W W.heap.size 3 A l.length (spF l) := by
  obtain ⟨A', c', hv, _, _, ha⟩ := own_arrN (f := spF l) h (fun k hk i hi => spRow_get hk hi)
  injection hv with h1
  rw [h1]; exact ha
theorem AO.push {W W' : World} {B B' s n : Nat} {m : Mx} {q : MixP} {u : Value} {ys : List Value} (h : AO W B m q) (hu : W.ownsRow B' 63 s u n ys) (hg : W.grownBy W' u.ownBlock) : AO W' B m q :=
  ⟨ownO_other h.o0 hu (by decide) hg, ownO_other h.o1 hu (by decide) hg, ownO_other h.o2 hu (by decide) hg, h.d01, h.d02, h.d12⟩
theorem fm_under {w W W' : World} {bs : List Bx} (h : Fm w W bs []) {B : Nat} (hB : ∀ x ∈ bs, x.b < B) (hw : w.heap.size ≤ B) (hb : Below B W W') : Fm w W' bs [] :=
  ⟨h.bel.trans (hb.mono hw), allB_of fun x hx => (allB_at h.bx x hx).below hb (hB x hx), trivial, h.lo, (fun r hr => by cases hr), h.dis⟩
theorem spF_one (l : List Sp) (k i : Nat) : (spF l k i).oneCell' = true := by
  unfold spF spC
  split <;> rfl
theorem spRow_one_cell (l : List Sp) : ∀ u ∈ spRow l, u.oneCell' = true := fun u hu => by
  unfold spRow rowN at hu
  obtain ⟨k, hk, rfl⟩ := List.mem_map.1 hu
  exact spF_one _ _ _
theorem spRow_one (x : Sp) : spRow [x] = [.int .i64 x.kind, .int .i64 x.ix, .int .i64 x.ver] := by
  have h := spRow_snoc [] x
  have e : spRow [] = [] := by simp [spRow, rowN]
  rw [e] at h
  exact h
theorem spRow_app : ∀ (r l : List Sp), spRow (l ++ r) = spRow l ++ spRow r
  | [], l => by simp [spRow, rowN]
  | x :: r, l => by
    have e : l ++ x :: r = (l ++ [x]) ++ r := by simp
    have e2 : spRow (x :: r) = spRow [x] ++ spRow r := spRow_app r [x]
    rw [e, spRow_app r (l ++ [x]), spRow_snoc l x, e2, spRow_one, List.append_assoc]
end Go.Proofs.Ytickckehhfdoeaa
