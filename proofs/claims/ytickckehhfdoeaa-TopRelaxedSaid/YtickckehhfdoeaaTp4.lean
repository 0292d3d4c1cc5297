/-
  CONTRACTS of plan.way and of slices.Reverse at steps.
  Conditions: those that each theorem names.
-/
import Derived.Test.YtickckehhfdoeaaTopJ
import Derived.Deep.RegionLaw

namespace Go.Sv
open Go.RowKit
/-! ### plain: nodes lead back to earlier ones -/
def NdOk (l : List Nd) : Prop := ∀ k, k < l.length → -1 ≤ (ndAt l k).frm ∧ (ndAt l k).frm < k
theorem ndok_snoc {l : List Nd} {x : Nd} (h : NdOk l) (h1 : -1 ≤ x.frm) (h2 : x.frm < l.length) : NdOk (l ++ [x]) := fun k hk => by
  rw [List.length_append, List.length_singleton] at hk
  by_cases e : k = l.length
  · subst e
    have : ndAt (l ++ [x]) l.length = x := by simp [ndAt]
    rw [this]; exact ⟨h1, h2⟩
  · have : ndAt (l ++ [x]) k = ndAt l k := by simp [ndAt, List.getElem?_append_left (show k < l.length by omega)]
    rw [this]; exact h k (by omega)
section
variable {st : Mx → List Sp} {ap : Mx → Sp → Mx} {rob : Mx → Bool} {most : Nat}
theorem step_len (i : Nat) (g : Rg) (s : Sp) : g.nds.length ≤ (rgStep ap rob i g s).nds.length := by
  unfold rgStep
  dsimp only
  split
  · exact Nat.le_refl _
  · split
    · simp
    · exact Nat.le_refl _
theorem step_ok {i : Nat} {g : Rg} {s : Sp} (h : NdOk g.nds) (hi : i < g.nds.length) : NdOk (rgStep ap rob i g s).nds := by
  unfold rgStep
  dsimp only
  split
  · exact h
  · split
    · exact ndok_snoc h (by dsimp only; omega) (by dsimp only; omega)
    · exact h
theorem row_ok : ∀ (l : List Sp) (i : Nat) (g k : Rg), NdOk g.nds → i < g.nds.length → rgRow ap rob most i g l = some k → NdOk k.nds
  | [], i, g, k, h, _, e => by rw [rgRow] at e; injection e with e; subst e; exact h
  | s :: r, i, g, k, h, hi, e => by
    rw [rgRow] at e
    split at e
    · cases e
    · exact row_ok r i _ k (step_ok h hi) (Nat.lt_of_lt_of_le hi (step_len i g s)) e
theorem all_ok : ∀ (f i : Nat) (g k : Rg), NdOk g.nds → rgAll st ap rob most f i g = some k → NdOk k.nds
  | 0, i, g, k, h, e => by rw [rgAll] at e; injection e with e; subst e; exact h
  | f + 1, i, g, k, h, e => by
    rw [rgAll] at e
    split at e
    · rename_i hi
      cases hr : rgRow ap rob most i g (st (ndAt g.nds i).m) with
      | none => rw [hr] at e; cases e
      | some x => rw [hr] at e; exact all_ok f (i + 1) x k (row_ok _ i g x h hi hr) e
    · injection e with e; subst e; exact h
end
theorem way_fuel {l : List Nd} (h : NdOk l) : ∀ (f f' k : Nat), k < l.length → k < f → k < f' → wayB l f k = wayB l f' k
  | 0, _, k, _, h1, _ => by omega
  | _, 0, k, _, _, h1 => by omega
  | f + 1, f' + 1, k, hk, h1, h2 => by
    rw [wayB, wayB]
    rw [Int.toNat_natCast]
    split
    · rfl
    · rename_i hn
      obtain ⟨a, b⟩ := h k hk
      obtain ⟨j, hj⟩ : ∃ j : Nat, (ndAt l k).frm = j := ⟨(ndAt l k).frm.toNat, by omega⟩
      rw [hj]
      rw [hj] at b
      rw [way_fuel h f f' j (by omega) (by omega) (by omega)]
theorem way_end {l : List Nd} {f k : Nat} (h : (ndAt l k).frm < 0) : wayB l (f + 1) k = [] := by rw [wayB, Int.toNat_natCast, if_pos h]
theorem way_go {l : List Nd} {f k : Nat} (h : ¬ (ndAt l k).frm < 0) : wayB l (f + 1) k = (ndAt l k).by_ :: wayB l f (ndAt l k).frm := by rw [wayB, Int.toNat_natCast, if_neg h]
theorem way_len {l : List Nd} : ∀ (f : Nat) (k : Int), (wayB l f k).length ≤ f
  | 0, k => Nat.le_refl _
  | f + 1, k => by
    rw [wayB]
    split
    · exact Nat.zero_le _
    · rw [List.length_cons]; have := way_len (l := l) f (ndAt l k.toNat).frm; omega
/-! ### plain: reversing step by step -/
/-- k pairs are exchanged -/
def revK (l : List Sp) (k : Nat) : List Sp := (List.range l.length).map fun j => if j < k ∨ l.length - 1 - j < k then spAt l (l.length - 1 - j) else spAt l j
theorem revK_len (l : List Sp) (k : Nat) : (revK l k).length = l.length := by simp [revK]
theorem revK_at {l : List Sp} {k j : Nat} (h : j < l.length) : spAt (revK l k) j = if j < k ∨ l.length - 1 - j < k then spAt l (l.length - 1 - j) else spAt l j := by simp [spAt, revK, h]
theorem sp_ext {l m : List Sp} (hl : l.length = m.length) (h : ∀ k, k < l.length → spAt l k = spAt m k) : l = m := by
  apply List.ext_getElem hl
  intro k h1 h2
  have := h k h1
  simpa [spAt, h1, h2] using this
theorem revK_0 (l : List Sp) : revK l 0 = l := sp_ext (revK_len l 0) fun k hk => by
  rw [revK_len] at hk
  rw [revK_at hk, if_neg (by omega)]
theorem spAt_set {l : List Sp} {i k : Nat} {x : Sp} (hi : i < l.length) : spAt (l.set i x) k = if k = i then x else spAt l k := by
  by_cases e : k = i
  · subst e; rw [if_pos rfl]; simp [spAt, hi]
  · rw [if_neg e]; simp [spAt, List.getElem?_set_ne (Ne.symm e)]
theorem revK_next {l : List Sp} {k : Nat} (h : k < l.length - 1 - k) : ((revK l k).set k (spAt (revK l k) (l.length - 1 - k))).set (l.length - 1 - k) (spAt (revK l k) k) = revK l (k + 1) := by
  refine sp_ext (by simp [revK]) fun j hj => ?_
  have hj : j < l.length := by simpa [revK] using hj
  rw [spAt_set (by rw [List.length_set, revK_len]; omega), spAt_set (by rw [revK_len]; omega), revK_at hj, revK_at (by omega), revK_at (by omega), revK_at hj]
  by_cases e1 : j = l.length - 1 - k
  · subst e1
    rw [if_pos rfl, if_neg (by omega), if_pos (by omega), show l.length - 1 - (l.length - 1 - k) = k by omega]
  · rw [if_neg e1]
    by_cases e2 : j = k
    · subst e2; rw [if_pos rfl, if_neg (by omega), if_pos (by omega)]
    · rw [if_neg e2]
      by_cases e3 : j < k ∨ l.length - 1 - j < k
      · rw [if_pos e3, if_pos (by omega)]
      · rw [if_neg e3, if_neg (by omega)]
theorem revK_end {l : List Sp} {k : Nat} (h : ¬ k < l.length - 1 - k) : revK l k = l.reverse := by
  refine sp_ext (by simp [revK]) fun j hj => ?_
  have hj : j < l.length := by simpa [revK] using hj
  rw [revK_at hj]
  have hr : spAt l.reverse j = spAt l (l.length - 1 - j) := by
    unfold spAt
    simp only [List.getD_eq_getElem?_getD]
    rw [List.getElem?_reverse hj]
  rw [hr]
  split
  · rfl
  · rw [show l.length - 1 - j = j by omega]
end Go.Sv
namespace Go.Proofs.Ytickckehhfdoeaa
open Go.RowKit Go.Sv
theorem spRow_set3 {l : List Sp} {k : Nat} (hk : k < l.length) (s : Sp) : (((spRow l).set (k * 3) (.int .i64 s.kind)).set (k * 3 + 1) (.int .i64 s.ix)).set (k * 3 + 2) (.int .i64 s.ver) = spRow (l.set k s) := by
  apply List.ext_getElem?
  intro j
  by_cases hj : j < l.length * 3
  · have h1 : j / 3 < l.length := Nat.div_lt_of_lt_mul (by omega)
    have h2 : j % 3 < 3 := Nat.mod_lt _ (by decide)
    have h3 : j / 3 * 3 + j % 3 = j := by omega
    have hr : (spRow (l.set k s))[j]? = some (spF (l.set k s) (j / 3) (j % 3)) := by
      have := spRow_get (l := l.set k s) (k := j / 3) (i := j % 3) (by rw [List.length_set]; exact h1) h2
      rwa [h3] at this
    have hl : (spRow l)[j]? = some (spF l (j / 3) (j % 3)) := by
      have := spRow_get (l := l) (k := j / 3) (i := j % 3) h1 h2
      rwa [h3] at this
    rw [hr]
    unfold spF at hl ⊢
    rw [spAt_set hk]
    by_cases e : j / 3 = k
    · rw [if_pos e]
      have hc : j % 3 = 0 ∨ j % 3 = 1 ∨ j % 3 = 2 := by omega
      rcases hc with c | c | c
      · have : j = k * 3 := by omega
        subst this
        rw [List.getElem?_set_ne (by omega), List.getElem?_set_ne (by omega), List.getElem?_set_self (by rw [spRow_len]; omega), c]; rfl
      · have : j = k * 3 + 1 := by omega
        subst this
        rw [List.getElem?_set_ne (by omega), List.getElem?_set_self (by rw [List.length_set, spRow_len]; omega), c]; rfl
      · have : j = k * 3 + 2 := by omega
        subst this
        rw [List.getElem?_set_self (by rw [List.length_set, List.length_set, spRow_len]; omega), c]; rfl
    · rw [if_neg e, List.getElem?_set_ne (by omega), List.getElem?_set_ne (by omega), List.getElem?_set_ne (by omega), hl]
  · rw [List.getElem?_eq_none (by rw [List.length_set, List.length_set, List.length_set, spRow_len]; omega), List.getElem?_eq_none (by rw [spRow_len, List.length_set]; omega)]
def RvS (w : World) (B : Nat) (A : Option Addr) (c : Nat) (l : List Sp) (w' : World) : Prop := w'.ownsRow B 63 3 (.slice A l.length c) l.length (spRow l) ∧ Below B w w'
theorem rv_drew {w w' : World} {B c : Nat} {A : Option Addr} {l : List Sp} (h : RvS w B A c l w') : RvS w B A c l w'.drew := ⟨own_to h.1 (Below.refl _ _).drew, h.2.drew⟩
/-- a step is stored -/
theorem rv_set {w w' : World} {B g c : Nat} {l : List Sp} (h : RvS w B (some ⟨g, 0, none⟩) c l w') (hB : B ≤ g) {k : Nat} (hk : k < l.length) (s : Sp) :
    RvS w B (some ⟨g, 0, none⟩) c (l.set k s) (((w'.setCell ⟨g, k * 3, none⟩ (.int .i64 s.kind)).setCell ⟨g, k * 3 + 1, none⟩ (.int .i64 s.ix)).setCell ⟨g, k * 3 + 2, none⟩ (.int .i64 s.ver)) := by
  have hl : k * 3 + 2 < l.length * 3 := by omega
  obtain ⟨g1, e1, _, _, _, _, s1⟩ := ownN_store h.1 (i := k * 3) (by omega)
  injection e1 with e1; injection e1 with e1; subst e1
  obtain ⟨g2, e2, _, _, _, _, s2⟩ := ownN_store (s1 (.int .i64 s.kind)) (i := k * 3 + 1) (by omega)
  injection e2 with e2; injection e2 with e2; subst e2
  obtain ⟨g3, e3, _, _, _, _, s3⟩ := ownN_store (s2 (.int .i64 s.ix)) (i := k * 3 + 2) (by omega)
  injection e3 with e3; injection e3 with e3; subst e3
  have h3 := s3 (.int .i64 s.ver)
  rw [spRow_set3 hk] at h3
  refine ⟨?_, ((h.2.setCell hB _).setCell hB _).setCell hB _⟩
  rw [List.length_set]; exact h3
set_option maxHeartbeats 4000000 in
set_option maxRecDepth 100000 in
theorem reverse_any (B g c : Nat) (l : List Sp) (w : World) (h : w.ownsRow B 63 3 (.slice (some ⟨g, 0, none⟩) l.length c) l.length (spRow l)) (hB : B ≤ g) (hl : l.length ≤ 1000000) :
    Calls Try.prog 83 #[.slice (some ⟨g, 0, none⟩) l.length c] w fun e w' => e = .returned (.tuple #[]) ∧ RvS w B (some ⟨g, 0, none⟩) c l.reverse w' := by
  have h0 : Hid (RvS w B (some ⟨g, 0, none⟩) c (revK l 0) w) := Lib.hid (by rw [revK_0]; exact ⟨h, Below.refl _ _⟩)
  obtain ⟨n, hn⟩ : ∃ n, l.length = n := ⟨_, rfl⟩
  rw [hn] at hl
  rw [hn]
  have hnx := Lib.hid (fun k h => revK_next (l := l) (k := k) h)
  have hen := Lib.hid (fun k h => revK_end (l := l) (k := k) h)
  have hln := Lib.hid (fun k => revK_len l k)
  rw [hn] at hnx hen hln
  replace hn := Lib.hid hn
  clear h
  go_enter Try.func83, Try.ntmps83
  go_wp2
  go_loopw [2, 3] (fun s2 s3 wr => ∃ (k : Nat) (j : Int), s2 = .int .i64 (k : Int) ∧ s3 = .int .i64 j ∧ j = (n : Int) - 1 - k ∧ k ≤ n ∧ Hid (RvS w B (some ⟨g, 0, none⟩) c (revK l k) wr)) (fun s2 _ _ => n - (intOf s2).toNat)
  case atStart => exact ⟨0, _, rfl, rfl, by omega, Nat.zero_le _, h0⟩
  case round =>
    obtain ⟨k, j, rfl, rfl, hj, hk, hR⟩ := hrel
    by_cases hlt : k < n - 1 - k
    · obtain ⟨jj, rfl⟩ : ∃ jj : Nat, j = (jj : Int) := ⟨j.toNat, by omega⟩
      have ejj : jj = n - 1 - k := by omega
      have hX := hR.out.1
      rw [hln.out] at hX
      have hlk : (revK l k).length = n := hln.out k
      obtain ⟨A', c', hv, _, _, hc⟩ := own_form hX
      injection hv with e1 e2 e3
      subst e3
      clear e2
      obtain ⟨g', e4, _, hgl, hcc⟩ := hc (by omega)
      rw [e4] at e1
      injection e1 with e1
      injection e1 with e1
      subst e1
      have hfr : ∀ o, wr.frozen? ⟨g, o, none⟩ = false := by
        obtain ⟨g3, e5, _, _, hf, _⟩ := ownN_store hX (i := 0) (by omega)
        injection e5 with e5; injection e5 with e5; subst e5
        exact hf
      have gt : ∀ t, t < n → ∀ i, i < 3 → wr.cell? ⟨g, t * 3 + i, none⟩ = some (spF (revK l k) t i) := fun t ht i hi => (hcc (t * 3 + i) (by omega)).trans (spRow_get (by rw [hlk]; exact ht) hi)
      have a0 : wr.cell? ⟨g, k * 3, none⟩ = some (.int .i64 (spAt (revK l k) k).kind) := gt k (by omega) 0 (by decide)
      have a1 : wr.cell? ⟨g, k * 3 + 1, none⟩ = some (.int .i64 (spAt (revK l k) k).ix) := gt k (by omega) 1 (by decide)
      have a2 : wr.cell? ⟨g, k * 3 + 2, none⟩ = some (.int .i64 (spAt (revK l k) k).ver) := gt k (by omega) 2 (by decide)
      have b0 : wr.cell? ⟨g, jj * 3, none⟩ = some (.int .i64 (spAt (revK l k) jj).kind) := gt jj (by omega) 0 (by decide)
      have b1 : wr.cell? ⟨g, jj * 3 + 1, none⟩ = some (.int .i64 (spAt (revK l k) jj).ix) := gt jj (by omega) 1 (by decide)
      have b2 : wr.cell? ⟨g, jj * 3 + 2, none⟩ = some (.int .i64 (spAt (revK l k) jj).ver) := gt jj (by omega) 2 (by decide)
      have f0 := hfr (k * 3)
      have f1 := hfr (k * 3 + 1)
      have f2 := hfr (k * 3 + 2)
      have f3 := hfr (jj * 3)
      have f4 := hfr (jj * 3 + 1)
      have f5 := hfr (jj * 3 + 2)
      have hB' : B ≤ g := hB
      have hR2 := Lib.hid (rv_set (rv_set hR.out hB (k := k) (by rw [hlk]; omega) (spAt (revK l k) jj)) hB (k := jj) (by rw [List.length_set, hlk]; omega) (spAt (revK l k) k))
      have hN := hnx.out k hlt
      rw [← ejj] at hN
      rw [hN] at hR2
      obtain ⟨⟨x0, x1, x2⟩, hx⟩ : ∃ s, spAt (revK l k) k = s := ⟨_, rfl⟩
      obtain ⟨⟨y0, y1, y2⟩, hy⟩ : ∃ s, spAt (revK l k) jj = s := ⟨_, rfl⟩
      rw [hx] at a0 a1 a2 hR2
      rw [hy] at b0 b1 b2 hR2
      dsimp only at a0 a1 a2 b0 b1 b2 hR2
      have j1 : (k : Int) < (n : Int) := by omega
      have j2 : (jj : Int) < (n : Int) := by omega
      have j3 : (k : Int) < (jj : Int) := by omega
      have d0 : ¬ k * 3 = jj * 3 := by omega
      have d1 : ¬ jj * 3 = k * 3 := by omega
      replace hj := Lib.hid hj
      replace hN := Lib.hid hN
      replace hlk := Lib.hid hlk
      replace hx := Lib.hid hx
      replace hy := Lib.hid hy
      replace ejj := Lib.hid ejj
      clear hc hcc gt hfr hX hR
      have hR3 := Lib.hid (rv_drew hR2.out)
      have nl : (n : Int) ≤ 1000000 := by omega
      go_wp2
      go_region_law ((fail))
      all_goals go_wp2_with fail
      all_goals go_roundw
      all_goals first
        | (case measure => simp [intOf]; omega)
        | (case rel => exact ⟨k + 1, (jj : Int) - 1, by go_num, by go_num, by have := hj.out; omega, by omega, hR3⟩)
    · have hR2 := hR.out
      rw [hen.out k hlt] at hR2
      replace hR2 := Lib.hid hR2
      have j1 : decide ((k : Int) < j) = false := decide_eq_false (by omega)
      clear hR hj hlt
      go_wp2
      go_end0
      exact ⟨rfl, hR2.out⟩
theorem reverse_nil (A : Option Addr) (c : Nat) (w : World) : Calls Try.prog 83 #[.slice A 0 c] w fun e w' => e = .returned (.tuple #[]) ∧ w = w' := by
  go_enter Try.func83, Try.ntmps83
  go_wp2
  go_loopw [2, 3] (fun s2 s3 wr => s2 = .int .i64 0 ∧ s3 = .int .i64 (-1) ∧ Hid (w = wr)) (fun _ _ _ => 0)
  case atStart => exact ⟨rfl, rfl, Lib.hid rfl⟩
  case round =>
    obtain ⟨rfl, rfl, hw⟩ := hrel
    go_wp2
    go_end0
    exact ⟨rfl, hw.out⟩
set_option maxHeartbeats 4000000 in
set_option maxRecDepth 100000 in
theorem way_any (nds : List Nd) (Q : Nat → MixP) (nx : Nat → Value) (A : Option Addr) (c i : Nat) (w : World) (ha : ArrN w w.heap.size 8 A nds.length (ndF nds Q nx)) (hi : i < nds.length) (hok : NdOk nds) (hl : nds.length ≤ 1000000) :
    Calls Try.prog 59 #[.slice A nds.length c, .int .i64 (i : Int)] w (Ret (OwnS w (wayB nds nds.length i).reverse)) := by
  obtain ⟨b, off, rfl, hb, hc⟩ := ha (by omega)
  have hF := Lib.hid (fun (k : Nat) (hk : k < nds.length) => And.intro (show w.cell? ⟨b, off + k * 8 + 3, none⟩ = some (.int .i64 (ndAt nds k).frm) from hc k hk 3 (by decide)) (And.intro (show w.cell? ⟨b, off + k * 8 + 4, none⟩ = some (.int .i64 (ndAt nds k).by_.kind) from hc k hk 4 (by decide)) (And.intro (show w.cell? ⟨b, off + k * 8 + 5, none⟩ = some (.int .i64 (ndAt nds k).by_.ix) from hc k hk 5 (by decide)) (show w.cell? ⟨b, off + k * 8 + 6, none⟩ = some (.int .i64 (ndAt nds k).by_.ver) from hc k hk 6 (by decide)))))
  have hfu := Lib.hid (fun k (h : k < nds.length) => way_fuel hok nds.length (k + 1) k h h (Nat.lt_succ_self _))
  have hfG := Lib.hid (fun k f (h : f < nds.length) (h2 : f < k) => way_fuel hok k nds.length f h h2 h)
  have hgo := Lib.hid (fun k h => way_go (l := nds) (f := k) (k := k) h)
  have hend := Lib.hid (fun k h => way_end (l := nds) (f := k) (k := k) h)
  have hwl := Lib.hid (way_len (l := nds) nds.length i)
  replace hok := Lib.hid hok
  obtain ⟨n, hn⟩ : ∃ n, nds.length = n := ⟨_, rfl⟩
  rw [hn] at hF hfu hfG hi hl hwl
  rw [hn]
  obtain ⟨R, hR⟩ : ∃ R, wayB nds n i = R := ⟨_, rfl⟩
  rw [hR] at hwl ⊢
  clear ha hc
  go_enter Try.func59, Try.ntmps59
  go_wp2
  go_loopw [1, 5] (fun s1 v wr => ∃ (k : Nat) (l : List Sp), s1 = .int .i64 (k : Int) ∧ k < n ∧ wr.ownsRow w.heap.size 63 3 v l.length (spRow l) ∧ Hid (l ++ wayB nds n k = R) ∧ Below w.heap.size w wr) (fun s1 _ _ => (intOf s1).toNat)
  case atStart => exact ⟨i, [], rfl, hi, World.ownsRow_nil _ _ _ _, Lib.hid hR, Below.refl _ _⟩
  case round =>
    obtain ⟨k, l, rfl, hk, hown, hl2, hbe⟩ := hrel
    have hwB : w.heap.size ≤ wr.heap.size := hbe.size
    obtain ⟨c3, c4, c5, c6⟩ := hF.out k hk
    have c3 := (hbe.cell (p := ⟨b, off + k * 8 + 3, none⟩) hb).trans c3
    have c4 := (hbe.cell (p := ⟨b, off + k * 8 + 4, none⟩) hb).trans c4
    have c5 := (hbe.cell (p := ⟨b, off + k * 8 + 5, none⟩) hb).trans c5
    have c6 := (hbe.cell (p := ⟨b, off + k * 8 + 6, none⟩) hb).trans c6
    have hfk := hfu.out k hk
    have hok1 := hok.out k (by rw [hn]; exact hk)
    have jk : (k : Int) < (n : Int) := by omega
    have hlen : Hid (l.length ≤ n) := Lib.hid (by have h1 := congrArg List.length hl2.out; rw [List.length_append] at h1; have := hwl.out; omega)
    replace hbe := Lib.hid hbe
    have hO := Lib.hid hown
    by_cases hneg : (ndAt nds k).frm < 0
    · have hRl : Hid (l = R) := Lib.hid (by
        have h1 := hl2.out
        rw [hfk, hend.out k hneg, List.append_nil] at h1
        exact h1)
      have j0 : decide (0 ≤ (ndAt nds k).frm) = false := decide_eq_false (by omega)
      obtain ⟨f, hf⟩ : ∃ f, (ndAt nds k).frm = f := ⟨_, rfl⟩
      rw [hf] at c3 j0
      clear hneg hown hfk hok1 hl2 c4 c5 c6 hf
      obtain ⟨A', c', rfl, _, _, hA'⟩ := own_form hO.out
      have hpl : Hid (l.length ≤ 1000000) := Lib.hid (by have := hlen.out; omega)
      by_cases hl0 : l.length = 0
      · have hl1 : l = [] := List.eq_nil_of_length_eq_zero hl0
        have hR0 : R = [] := by rw [← hRl.out]; exact hl1
        have HN := Lib.hid (reverse_nil A' c' wr)
        have hP : Hid (OwnS w R.reverse (.slice A' 0 c') wr) := Lib.hid (by rw [hR0]; have h1 := hO.out; rw [hl1] at h1; exact OwnS.of h1 hbe.out)
        rw [hl0]
        clear hO hl0 hl1 hR0 hRl
        go_wp2_with fail
        with_reducible refine HN.out.mono ?_
        rintro e w' ⟨rfl, rfl⟩
        go_wp2
        go_ret
        exact Ret.mk hP.out
      · obtain ⟨g, rfl, hgB, hgl, hgc⟩ := hA' (by omega)
        have HV := Lib.hid (reverse_any w.heap.size g c' l wr hO.out hgB hpl.out)
        have hlr := Lib.hid (show l.reverse.length = l.length from List.length_reverse)
        obtain ⟨nl, hnl⟩ : ∃ nl, l.length = nl := ⟨_, rfl⟩
        rw [hnl] at HV hlr
        rw [hnl]
        replace hnl := Lib.hid hnl
        clear hO hl0 hgc hgl
        go_wp2_with fail
        with_reducible refine HV.out.mono ?_
        rintro e w' ⟨rfl, hrv⟩
        have hP : Hid (OwnS w R.reverse (.slice (some ⟨g, 0, none⟩) nl c') w') := Lib.hid (by
          rw [← hRl.out]
          have h1 := hrv.1
          rw [hlr.out] at h1
          exact OwnS.of (by rw [hlr.out]; exact h1) (hbe.out.trans hrv.2))
        clear hrv
        go_wp2
        go_ret
        exact Ret.mk hP.out
    · obtain ⟨f, hf⟩ : ∃ f : Nat, (ndAt nds k).frm = (f : Int) := ⟨(ndAt nds k).frm.toNat, by omega⟩
      have hgo2 := hgo.out k (by omega)
      rw [hf] at c3 hok1 hgo2
      have hfk2 : f < k := by have := hok1.2; omega
      have hnx : Hid ((l ++ [(ndAt nds k).by_]) ++ wayB nds n f = R) := Lib.hid (by
        have h1 := hl2.out
        rw [hfk, hgo2, hfG.out k f (by omega) hfk2] at h1
        rw [← h1, List.append_assoc]; rfl)
      obtain ⟨⟨x0, x1, x2⟩, hx⟩ : ∃ s, (ndAt nds k).by_ = s := ⟨_, rfl⟩
      rw [hx] at c4 c5 c6 hnx
      dsimp only at c4 c5 c6
      have jf : (0 : Int) ≤ (f : Int) := by omega
      clear hneg hown hfk hok1 hl2 hf hgo2 hx
      have hln := Lib.hid (show l.length ≤ 1073741824 by have := hlen.out; omega)
      go_wp2_with
        (first
          | (at_builtin
             refine push_own elStep rfl _ _ rfl w.heap.size _ l.length (spRow l) hO.out rfl [.int .i64 x0, .int .i64 x1, .int .i64 x2] rfl rfl rfl hln.out (by omega) hwB ?_
             intro v' w8 hown8 hgr8 hb8 hs8 hob8
             have hO8 : Hid (w8.ownsRow w.heap.size 63 3 v' (l ++ [(⟨x0, x1, x2⟩ : Sp)]).length (spRow (l ++ [⟨x0, x1, x2⟩]))) := Lib.hid (by rw [List.length_append, List.length_singleton, spRow_snoc]; exact hown8)
             have c3 := (hb8.cell (p := ⟨b, off + k * 8 + 3, none⟩) hb).trans c3
             have hb9 := Lib.hid (hbe.out.trans hb8)
             clear hown8 hgr8 hb8 hs8 hob8))
      go_roundw
      case rel => exact ⟨f, _, rfl, by omega, hO8.out, hnx, hb9.out⟩
      case measure => simp [intOf]; omega
end Go.Proofs.Ytickckehhfdoeaa

namespace Go.Sv
open Go.RowKit
section
variable {st : Mx → List Sp} {ap : Mx → Sp → Mx} {rob : Mx → Bool} {most : Nat}
theorem row_le : ∀ (l : List Sp) (i : Nat) (g k : Rg), g.nds.length ≤ most → rgRow ap rob most i g l = some k → k.nds.length ≤ most
  | [], i, g, k, h, e => by rw [rgRow] at e; injection e with e; subst e; exact h
  | s :: r, i, g, k, h, e => by
    rw [rgRow] at e
    split at e
    · cases e
    · rename_i hn; exact row_le r i _ k (Nat.not_lt.1 hn) e
theorem all_le : ∀ (f i : Nat) (g k : Rg), g.nds.length ≤ most → rgAll st ap rob most f i g = some k → k.nds.length ≤ most
  | 0, i, g, k, h, e => by rw [rgAll] at e; injection e with e; subst e; exact h
  | f + 1, i, g, k, h, e => by
    rw [rgAll] at e
    split at e
    · cases hr : rgRow ap rob most i g (st (ndAt g.nds i).m) with
      | none => rw [hr] at e; cases e
      | some x => rw [hr] at e; exact all_le f (i + 1) x k (row_le _ i g x h hr) e
    · injection e with e; subst e; exact h
end
theorem stMx_ok {p : Prob} (h : probE p = 0) : MOk p (stMx p) := by
  have hnl := (prob_small h).2.2.1
  refine ⟨h, hnl, by simp [stMx, hnl], by simp [stMx], fun i hi => ?_, fun i hi hs => ?_, fun i hi hs => ?_⟩
  · obtain ⟨a, b, _⟩ := now_in h hi
    have e : gi (stMx p).next i = -1 := by simp [stMx, gi, hnl, hi]
    rw [e]
    exact ⟨a, b, by omega, by omega, by show gi p.now i ≠ -1; omega⟩
  · have hsrc := tab_src h hi
    obtain ⟨a, b, _⟩ := now_in h (i := (tab p.tabs i).src.toNat) (by omega)
    have e : hd (stMx p) i = 2 ^ (gi p.now (tab p.tabs i).src.toNat).toNat := by
      unfold hd stMx
      rw [gi_map hi]
      unfold stHd
      rw [if_pos hs, Int.toNat_natCast]
    rw [e]
    refine ⟨sub_all (by omega), ?_⟩
    have er : run (stMx p) (tab p.tabs i).src.toNat = 2 ^ (gi p.now (tab p.tabs i).src.toNat).toNat := by
      unfold run
      have e2 : gi (stMx p).next (tab p.tabs i).src.toNat = -1 := by
        have : (tab p.tabs i).src.toNat < p.now.length := by omega
        simp [stMx, gi, this]
      rw [e2, if_neg (by omega), Nat.or_zero]
      rfl
    rw [er]
    exact sub_refl _
  · show gi ((List.range p.tabs.length).map (stHd p)) i = 0
    rw [gi_map hi]
    unfold stHd
    rw [if_neg (by rw [hs]; decide)]
theorem stMx_h8 {p : Prob} (h : probE p = 0) : H8 (stMx p) := h8_of (stMx_ok h) fun i hi => by
  have hi : i < p.tabs.length := by simpa [stMx] using hi
  show 0 ≤ gi ((List.range p.tabs.length).map (stHd p)) i
  rw [gi_map hi]
  unfold stHd
  split
  · exact Int.natCast_nonneg _
  · exact Int.le_refl _
/-- the first node that is a goal -/
def ixO (p : Prob) (l : List Nd) : Option Nat := l.findIdx? fun n => goalB p n.m
def ixI (p : Prob) (l : List Nd) : Int := match ixO p l with | some i => (i : Int) | none => -1
theorem ix_hit {p : Prob} {l : List Nd} {k : Nat} (h : k < l.length) (hk : goalB p (ndAt l k).m = true) (hall : ∀ j, j < k → goalB p (ndAt l j).m = false) : ixO p l = some k := by
  unfold ixO
  rw [List.findIdx?_eq_some_iff_getElem]
  refine ⟨h, by simpa [ndAt, h] using hk, fun j hj => ?_⟩
  have := hall j hj
  have hj2 : j < l.length := by omega
  simpa [ndAt, hj2] using this
theorem ix_none {p : Prob} {l : List Nd} (hall : ∀ j, j < l.length → goalB p (ndAt l j).m = false) : ixO p l = none := by
  unfold ixO
  rw [List.findIdx?_eq_none_iff]
  intro x hx
  obtain ⟨j, hj, rfl⟩ := List.getElem_of_mem hx
  have := hall j hj
  simpa [ndAt, hj] using this
theorem ix_lt {p : Prob} {l : List Nd} {k : Nat} (h : ixO p l = some k) : k < l.length := by
  unfold ixO at h
  rw [List.findIdx?_eq_some_iff_getElem] at h
  exact h.1
end Go.Sv
namespace Go.Proofs.Ytickckehhfdoeaa
open Go.RowKit Go.Sv
theorem reg_ok {p : Prob} {m : Mx} {g : Rg} (h : regL p m = some g) : NdOk g.nds ∧ g.nds.length ≤ mostN :=
  ⟨all_ok _ _ (rgStart m) _ (fun k hk => by
    have hk : k < 1 := hk
    obtain rfl : k = 0 := by omega
    exact ⟨show (-1 : Int) ≤ -1 by decide, show (-1 : Int) < 0 by decide⟩) h, all_le _ _ (rgStart m) _ (show (1 : Nat) ≤ 20000 by decide) h⟩
/-- what From hands back -/
noncomputable def frO (p : Prob) (m : Mx) : List Sp × Int :=
  if robB p m = false then ([], 13) else
    match regL p m with
    | none => ([], 3)
    | some g => match ixO p g.nds with
      | none => ([], 14)
      | some i => ((wayB g.nds g.nds.length i).reverse, 0)
abbrev ndV (x : Nd) (q : MixP) (u : Value) : Value := .agg #[.slice q.a0 x.m.base.length q.c0, .slice q.a1 x.m.next.length q.c1, .slice q.a2 x.m.held.length q.c2, .int .i64 x.frm, .int .i64 x.by_.kind, .int .i64 x.by_.ix, .int .i64 x.by_.ver, u]
set_option maxHeartbeats 2000000 in
set_option maxRecDepth 100000 in
theorem fr1_any (p : Prob) (q : ProbP) (x : Nd) (qx : MixP) (u : Value) (pb : Nat) (w : World) (hp : RProb w w.heap.size p q) (hbd : PBd p) (hm : RMix w w.heap.size x.m qx) (hmb : MBd x.m qx) (hok : MOk p x.m)
    (hP : Whole w pb 39 #[.slice q.a0 p.vs.length q.c0, .slice q.a1 p.now.length q.c1, .slice q.a2 p.tgt.length q.c2, .slice q.a3 p.tabs.length q.c3]) :
    Calls Try.prog 57 #[ndV x qx u, .pointer (some ⟨pb, 0, none⟩)] w fun e w' => e = .returned (.bool (goalB p x.m)) ∧ Below w.heap.size w w' := by
  obtain ⟨W, (hW : w.alloc (.cells #[.slice qx.a0 x.m.base.length qx.c0, .slice qx.a1 x.m.next.length qx.c1, .slice qx.a2 x.m.held.length qx.c2, .int .i64 x.frm, .int .i64 x.by_.kind, .int .i64 x.by_.ix, .int .i64 x.by_.ver, u] 115) = W), S, hB⟩ := fm_boxE (Fm.init w) 115 [.slice qx.a0 x.m.base.length qx.c0, .slice qx.a1 x.m.next.length qx.c1, .slice qx.a2 x.m.held.length qx.c2, .int .i64 x.frm, .int .i64 x.by_.kind, .int .i64 x.by_.ix, .int .i64 x.by_.ver, u]
  have HG := Lib.hid (goal_any p q x.m qx W (hp.to hB) hbd (hm.to hB) hmb)
  rw [mixE_ok.2 hok] at HG
  have hP2 := hP.below hB hP.lt
  have p0 : W.cell? ⟨pb, 0, none⟩ = some _ := hP2.cell 0
  have p1 : W.cell? ⟨pb, 1, none⟩ = some _ := hP2.cell 1
  have p2 : W.cell? ⟨pb, 2, none⟩ = some _ := hP2.cell 2
  have p3 : W.cell? ⟨pb, 3, none⟩ = some _ := hP2.cell 3
  obtain ⟨qa0, qc0, qa1, qc1, qa2, qc2, qa3, qc3⟩ := q
  obtain ⟨ma0, mc0, ma1, mc1, ma2, mc2⟩ := qx
  obtain ⟨m, fr, ⟨kd, ix, vr⟩⟩ := x
  dsimp only at p0 p1 p2 p3 hW S HG ⊢
  obtain ⟨⟨z, f, c0, c1, c2, c3, c4, c5, c6, c7, -⟩, -⟩ := S.facts
  have hb := Lib.hid hB
  clear hP hP2 hp hm hmb hok S hB
  go_enter Try.func57, Try.ntmps57
  go_wp2_with fail
  clear hW
  with_reducible refine HG.out.mono ?_
  rintro e w1 ⟨rfl, hb1⟩
  have hb2 := Lib.hid (hb.out.trans (hb1.mono hb.out.size))
  clear hb1 HG p0 p1 p2 p3 z f c0 c1 c2 c3 c4 c5 c6 c7
  go_wp2
  go_ret
  exact ⟨by simp, hb2.out⟩
set_option maxHeartbeats 2000000 in
set_option maxRecDepth 100000 in
theorem ixn2_any (p : Prob) (q : ProbP) (nds : List Nd) (Q : Nat → MixP) (nx : Nat → Value) (A : Option Addr) (c pb : Nat) (w : World) (hp : RProb w w.heap.size p q) (hbd : PBd p) (ha : ArrN w w.heap.size 8 A nds.length (ndF nds Q nx))
    (hm : ∀ k, k < nds.length → RMix w w.heap.size (ndAt nds k).m (Q k) ∧ MBd (ndAt nds k).m (Q k) ∧ MOk p (ndAt nds k).m) (hl : nds.length ≤ 1000000)
    (hP : Whole w pb 39 #[.slice q.a0 p.vs.length q.c0, .slice q.a1 p.now.length q.c1, .slice q.a2 p.tgt.length q.c2, .slice q.a3 p.tabs.length q.c3]) :
    Calls Try.prog 56 #[.slice A nds.length c, .func (.func 57) #[] #[.pointer (some ⟨pb, 0, none⟩)]] w fun e w' => e = .returned (.int .i64 (ixI p nds)) ∧ Below w.heap.size w w' := by
  have HF := Lib.hid (fun (k : Nat) (hk : k < nds.length) (u : Value) (w' : World) (hb : Below w.heap.size w w') => fr1_any p q (ndAt nds k) (Q k) u pb w' (hp.to hb) hbd ((hm k hk).1.to hb) (hm k hk).2.1 (hm k hk).2.2 (hP.below hb hP.lt))
  have hhit := Lib.hid (fun k h1 h2 h3 => ix_hit (p := p) (l := nds) (k := k) h1 h2 h3)
  have hnone := Lib.hid (fun h => ix_none (p := p) (l := nds) h)
  obtain ⟨n, hn⟩ : ∃ n, nds.length = n := ⟨_, rfl⟩
  rw [hn] at hl ha HF hhit hnone
  rw [hn]
  replace hn := Lib.hid hn
  replace ha := Lib.hid ha
  clear hp hm hP
  go_enter Try.func56, Try.ntmps56
  go_wp2
  go_loopw [8] (fun s8 wr => ∃ k : Nat, s8 = .int .i64 (k : Int) ∧ k ≤ n ∧ (∀ j, j < k → goalB p (ndAt nds j).m = false) ∧ Below w.heap.size w wr) (fun s8 _ => n - (intOf s8).toNat)
  case atStart => exact ⟨0, rfl, Nat.zero_le _, fun j hj => by omega, Below.refl _ _⟩
  case round =>
    obtain ⟨k, rfl, hk, hall, hbe⟩ := hrel
    replace hall := Lib.hid hall
    by_cases hlt : k < n
    · obtain ⟨b, o, rfl, hb, hc⟩ := ha.out (by omega)
      have d : ∀ i, i < 8 → wr.cell? ⟨b, o + k * 8 + i, none⟩ = some (ndF nds Q nx k i) := fun i hi => (hbe.cell (p := ⟨b, o + k * 8 + i, none⟩) hb).trans (hc k hlt i hi)
      have d0 : wr.cell? ⟨b, o + k * 8, none⟩ = some (.slice (Q k).a0 (ndAt nds k).m.base.length (Q k).c0) := d 0 (by decide)
      have d1 : wr.cell? ⟨b, o + k * 8 + 1, none⟩ = some (.slice (Q k).a1 (ndAt nds k).m.next.length (Q k).c1) := d 1 (by decide)
      have d2 : wr.cell? ⟨b, o + k * 8 + 2, none⟩ = some (.slice (Q k).a2 (ndAt nds k).m.held.length (Q k).c2) := d 2 (by decide)
      have d3 : wr.cell? ⟨b, o + k * 8 + 3, none⟩ = some (.int .i64 (ndAt nds k).frm) := d 3 (by decide)
      have d4 : wr.cell? ⟨b, o + k * 8 + 4, none⟩ = some (.int .i64 (ndAt nds k).by_.kind) := d 4 (by decide)
      have d5 : wr.cell? ⟨b, o + k * 8 + 5, none⟩ = some (.int .i64 (ndAt nds k).by_.ix) := d 5 (by decide)
      have d6 : wr.cell? ⟨b, o + k * 8 + 6, none⟩ = some (.int .i64 (ndAt nds k).by_.ver) := d 6 (by decide)
      have d7 : wr.cell? ⟨b, o + k * 8 + 7, none⟩ = some (nx k) := d 7 (by decide)
      have HF1 := Lib.hid (HF.out k hlt (nx k) wr hbe)
      have hk1 := Lib.hid (fun h => hhit.out k hlt h hall.out)
      obtain ⟨g, hg⟩ : ∃ g, goalB p (ndAt nds k).m = g := ⟨_, rfl⟩
      rw [hg] at HF1 hk1
      have hall2 : Hid (g = false → ∀ j, j < k + 1 → goalB p (ndAt nds j).m = false) := Lib.hid (fun h j hj => by
        rcases Nat.lt_succ_iff_lt_or_eq.1 hj with h1 | h1
        · exact hall.out j h1
        · rw [h1, hg]; exact h)
      obtain ⟨⟨m, fr, ⟨kd, ix, vr⟩⟩, hx⟩ : ∃ x, ndAt nds k = x := ⟨_, rfl⟩
      rw [hx] at d0 d1 d2 d3 d4 d5 d6 HF1
      dsimp only at d0 d1 d2 d3 d4 d5 d6 HF1
      have jk : (k : Int) < (n : Int) := by omega
      replace hbe := Lib.hid hbe
      replace hx := Lib.hid hx
      replace hg := Lib.hid hg
      clear d hc
      go_wp2_with fail
      with_reducible refine HF1.out.mono ?_
      rintro e w' ⟨rfl, hb1⟩
      have hb2 := Lib.hid (hbe.out.trans (hb1.mono hbe.out.size))
      clear hb1 d0 d1 d2 d3 d4 d5 d6 d7
      cases g with
      | true =>
        have hI : Hid (ixI p nds = (k : Int)) := Lib.hid (by unfold ixI; rw [hk1.out rfl])
        go_wp2
        go_ret
        exact ⟨by rw [hI.out]; rfl, hb2.out⟩
      | false =>
        have hall3 := Lib.hid (hall2.out rfl)
        go_wp2
        go_roundw
        case rel => exact ⟨k + 1, by go_num, by omega, hall3.out, hb2.out⟩
        case measure => simp [intOf]; omega
    · obtain rfl : k = n := by omega
      have hI : Hid (ixI p nds = -1) := Lib.hid (by unfold ixI; rw [hnone.out hall.out])
      have hb2 := Lib.hid hbe
      clear hlt hbe
      go_wp2
      go_ret
      exact ⟨by rw [hI.out]; rfl, hb2.out⟩
theorem StR.err {w w' : World} {e : Int} (h : Below w.heap.size w w') : StR w [] e (.tuple #[.slice none 0 0, .int .i64 e]) w' := ⟨h, none, 0, rfl, World.ownsRow_nil _ _ _ _⟩
set_option maxHeartbeats 4000000 in
set_option maxRecDepth 100000 in
theorem from_any (p : Prob) (q : ProbP) (m : Mx) (qm : MixP) (w : World) (hp : RProb w w.heap.size p q) (hbd : PBd p) (hm : RMix w w.heap.size m qm) (hmb : MBd m qm) (hok : MOk p m) :
    Calls Try.prog 27 #[probV p q, mixV m qm] w (Ret (StR w (frO p m).1 (frO p m).2)) := by
  obtain ⟨W, hW, S⟩ := pm_boxes p q m qm w
  have hsz : w.heap.size + 2 ≤ W.heap.size := by rw [← hW]; simp
  have HR := Lib.hid (robust_any p q m qm W (hp.to S.bel) hbd (hm.to S.bel) hmb hok)
  have HG := Lib.hid (fun W2 (h : Below W.heap.size W W2) => region_any p q m qm W2 ((hp.to S.bel).to h) hbd ((hm.to S.bel).to h) hmb hok)
  have HI := Lib.hid (fun (nds : List Nd) (Q : Nat → MixP) (nx : Nat → Value) (A : Option Addr) (c : Nat) (W2 : World) (h : Below W.heap.size W W2) => ixn2_any p q nds Q nx A c w.heap.size W2 ((hp.to S.bel).to h) hbd)
  obtain ⟨qa0, qc0, qa1, qc1, qa2, qc2, qa3, qc3⟩ := q
  obtain ⟨ma0, mc0, ma1, mc1, ma2, mc2⟩ := qm
  dsimp only at HR HG HI hW S ⊢
  obtain ⟨⟨r1, f1, r10, r11, r12, -⟩, ⟨r2, f2, r20, r21, r22, r23, -⟩, -⟩ := S.facts
  have SW := Lib.hid S
  have hPW : Hid (Whole W w.heap.size 39 #[.slice qa0 p.vs.length qc0, .slice qa1 p.now.length qc1, .slice qa2 p.tgt.length qc2, .slice qa3 p.tabs.length qc3]) := Lib.hid (allB_at S.bx ⟨w.heap.size, 39, _⟩ (by simp))
  clear S hp hbd hm hmb hok
  go_enter Try.func27, Try.ntmps27
  go_wp2_with fail
  clear hW
  with_reducible refine HR.out.mono ?_
  rintro e w1 ⟨rfl, hb1⟩
  have S1 := Lib.hid (SW.out.call hb1)
  replace hb1 := Lib.hid hb1
  clear r1 f1 r10 r11 r12 r2 f2 r20 r21 r22 r23 HR
  obtain ⟨⟨r1, f1, r10, r11, r12, -⟩, ⟨r2, f2, r20, r21, r22, r23, -⟩, -⟩ := S1.out.facts
  cases hrob : robB p m with
  | false =>
    have hF : Hid (frO p m = ([], 13)) := Lib.hid (by unfold frO; rw [if_pos hrob])
    replace hrob := Lib.hid hrob
    clear HG HI
    go_wp2
    go_ret2
    exact Ret.mk (by rw [hF.out]; exact StR.err S1.out.bel)
  | true =>
    replace hrob := Lib.hid hrob
    go_wp2_with fail
    with_reducible refine (HG.out w1 hb1.out).mono ?_
    rintro e w2 ⟨_, rfl, hb2, hv⟩
    have S2 := Lib.hid (S1.out.call hb2)
    have hbW2 := Lib.hid (hb1.out.trans (hb2.mono hb1.out.size))
    clear r1 f1 r10 r11 r12 r2 f2 r20 r21 r22 r23 HG hb2
    obtain ⟨⟨r1, f1, r10, r11, r12, -⟩, ⟨r2, f2, r20, r21, r22, r23, -⟩, -⟩ := S2.out.facts
    cases hg : regL p m with
    | none =>
      rw [hg] at hv
      dsimp only at hv
      subst hv
      have hF : Hid (frO p m = ([], 3)) := Lib.hid (by unfold frO; rw [if_neg (by rw [hrob.out]; decide), hg])
      clear HI
      go_wp2
      go_ret2
      exact Ret.mk (by rw [hF.out]; exact StR.err S2.out.bel)
    | some g =>
      rw [hg] at hv
      have hF0 : Hid (frO p m = match ixO p g.nds with
        | none => ([], 14)
        | some i => ((wayB g.nds g.nds.length i).reverse, 0)) := Lib.hid (by unfold frO; rw [if_neg (by rw [hrob.out]; decide), hg])
      dsimp only at hv
      obtain ⟨hok1, hle⟩ := reg_ok hg
      obtain ⟨A, c, Q, nx, rfl, ha, hms⟩ := hv
      have hl6 : g.nds.length ≤ 1000000 := Nat.le_trans hle (show (20000 : Nat) ≤ 1000000 by decide)
      have HI2 := Lib.hid (HI.out g.nds Q nx A c w2 hbW2.out ha hms hl6 (hPW.out.below hbW2.out hPW.out.lt))
      have HWy := Lib.hid (fun (i : Nat) (w' : World) (hb : Below w2.heap.size w2 w') (hi : i < g.nds.length) => way_any g.nds Q nx A c i w' (fun h0 => by
        obtain ⟨b, off, e, h1, h2⟩ := ha h0
        exact ⟨b, off, e, Nat.lt_of_lt_of_le h1 hb.size, fun k hk j hj => (hb.cell (p := ⟨b, off + k * 8 + j, none⟩) h1).trans (h2 k hk j hj)⟩) hi hok1 hl6)
      have hixI : Hid (ixI p g.nds = match ixO p g.nds with | some i => (i : Int) | none => -1) := Lib.hid rfl
      have hixl := Lib.hid (fun k h => ix_lt (p := p) (l := g.nds) (k := k) h)
      obtain ⟨z, hz⟩ : ∃ z, ixI p g.nds = z := ⟨_, rfl⟩
      rw [hz] at HI2 hixI
      obtain ⟨n, hn⟩ : ∃ n, g.nds.length = n := ⟨_, rfl⟩
      rw [hn] at HI2 HWy hF0 hixl hl6
      rw [hn]
      replace hn := Lib.hid hn
      replace hz := Lib.hid hz
      clear ha hms HI hok1 hle hg
      go_wp2_with fail
      with_reducible refine HI2.out.mono ?_
      rintro e w3 ⟨rfl, hb3⟩
      have S3 := Lib.hid (S2.out.call hb3)
      have HW3 := Lib.hid (fun i h => HWy.out i w3 hb3 h)
      clear r1 f1 r10 r11 r12 r2 f2 r20 r21 r22 r23 HI2 hb3 HWy
      cases hi : ixO p g.nds with
      | none =>
        rw [hi] at hixI hF0
        have e : z = -1 := hixI.out
        subst e
        have hF : Hid (frO p m = ([], 14)) := Lib.hid hF0.out
        clear HW3
        go_wp2
        go_ret2
        exact Ret.mk (by rw [hF.out]; exact StR.err S3.out.bel)
      | some i =>
        rw [hi] at hixI hF0
        have e : z = (i : Int) := hixI.out
        subst e
        have hF : Hid (frO p m = ((wayB g.nds n i).reverse, 0)) := Lib.hid hF0.out
        have HW4 := Lib.hid (HW3.out i (hixl.out i hi))
        have in0 : (0 : Int) ≤ (i : Int) := by omega
        replace hi := Lib.hid hi
        clear HW3
        go_wp2_with fail
        with_reducible refine HW4.out.mono ?_
        rintro e w4 ⟨_, rfl, hb4, A4, c4, rfl, hown⟩
        have hP : Hid (StR w (frO p m).1 (frO p m).2 (.tuple #[.slice A4 (wayB g.nds n i).reverse.length c4, .int .i64 0]) w4) := Lib.hid (by
          rw [hF.out]
          exact ⟨S3.out.bel.trans (hb4.mono S3.out.bel.size), A4, c4, rfl, own_base hown S3.out.bel.size⟩)
        obtain ⟨L, hL⟩ : ∃ L, (wayB g.nds n i).reverse = L := ⟨_, rfl⟩
        rw [hL] at hP
        rw [hL]
        clear hown hb4
        go_wp2
        go_ret2
        exact Ret.mk hP.out
end Go.Proofs.Ytickckehhfdoeaa
