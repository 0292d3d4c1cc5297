/-
  PLAIN: what the law ReplicaLast keeps beside; CONTRACT of slices.Clone at things that happen.
  Conditions: those that each theorem names.
-/
import Derived.Test.YtcjnfciemangkaaRepX
namespace Go.Sv
open Go.RowKit
def zop (o : Opp) : Opp := { o with kind := 0 }
def zOps (os : List Opp) (i : Nat) : List Opp := (os.take i).map zop ++ os.drop i
theorem zOps_len (os : List Opp) (i : Nat) : (zOps os i).length = os.length := by simp [zOps]; omega
theorem zOps_0 (os : List Opp) : zOps os 0 = os := by simp [zOps]
theorem zOps_all (os : List Opp) : zOps os os.length = os.map zop := by simp [zOps]
theorem zOps_at {os : List Opp} {i k : Nat} (hk : k < os.length) : oppAt (zOps os i) k = if k < i then zop (oppAt os k) else oppAt os k := by
  unfold oppAt zOps
  by_cases h : k < i
  · rw [if_pos h, List.getD_eq_getElem?_getD, List.getElem?_append_left (by simp; omega)]
    simp [h, hk]
  · rw [if_neg h, List.getD_eq_getElem?_getD, List.getElem?_append_right (by simp; omega)]
    simp only [List.length_map, List.length_take, List.getElem?_drop]
    rw [show i + (k - min i os.length) = k by omega]
    simp [hk]
def opRow (os : List Opp) : List Value := rowN 4 os.length (opF os)
theorem opRow_length (os : List Opp) : (opRow os).length = os.length * 4 := rowN_length ..
theorem opRow_get {os : List Opp} {k i : Nat} (hk : k < os.length) (hi : i < 4) : (opRow os)[k * 4 + i]? = some (opC (oppAt os k) i) := rowN_get hk hi
theorem opRow_step {os : List Opp} {i : Nat} (h : i < os.length) : (opRow (zOps os i)).set (i * 4) (.int .u8 0) = opRow (zOps os (i + 1)) := by
  apply row_ext (n := os.length)
  · rw [List.length_set, opRow_length, zOps_len]
  · rw [opRow_length, zOps_len]
  · intro k j hk hj
    rw [opRow_get (by rw [zOps_len]; exact hk) hj, zOps_at hk]
    by_cases e : i * 4 = k * 4 + j
    · have e1 : i = k := by omega
      have e2 : j = 0 := by omega
      subst e1 e2
      rw [e, List.getElem?_set_self (by rw [opRow_length, zOps_len]; omega), if_pos (by omega)]
      rfl
    · rw [List.getElem?_set_ne e, opRow_get (by rw [zOps_len]; exact hk) hj, zOps_at hk]
      by_cases e1 : k < i
      · rw [if_pos e1, if_pos (by omega)]
      · rw [if_neg e1]
        by_cases e2 : k < i + 1
        · rw [if_pos e2]
          match j, hj with
          | 0, _ => omega
          | 1, _ => rfl
          | 2, _ => rfl
          | 3, _ => rfl
        · rw [if_neg e2]
def wntL (p : Prob) (l : List Rep) (os : List Opp) : List Rep := os.foldl (wantL p) l
theorem wnt_snoc {p : Prob} {l : List Rep} {os : List Opp} {k : Nat} (h : k < os.length) : wntL p l (os.take (k + 1)) = wantL p (wntL p l (os.take k)) (oppAt os k) := by
  unfold wntL oppAt
  rw [List.take_add_one, List.getElem?_eq_getElem h, List.foldl_append]
  simp [h]
theorem wnt_good {p : Prob} : ∀ (os : List Opp) {l : List Rep}, Good p l → Good p (wntL p l os) ∧ (wntL p l os).length = l.length
  | [], _, g => ⟨g, rfl⟩
  | o :: os, l, g => by
    obtain ⟨h1, h2⟩ := wnt_good os (want_good (o := o) g).1
    exact ⟨h1, h2.trans (want_good (o := o) g).2⟩
theorem ops_wnt {p : Prob} (hp : probE p = 0) : ∀ (os : List Opp) {l : List Rep}, Good p l → (∀ o ∈ os, 0 ≤ o.rep ∧ 0 ≤ o.ver) → opsL p l (os.map zop) = wntL p l os
  | [], _, _, _ => rfl
  | o :: os, l, g, h => by
    have h1 := h o (List.mem_cons_self ..)
    have e : stepL p l (zop o) = wantL p l o := want_step (o := zop o) hp g h1.1 h1.2 rfl
    show opsL p (stepL p l (zop o)) (os.map zop) = wntL p (wantL p l o) os
    rw [e]
    exact ops_wnt hp os (want_good g).1 (fun x hx => h x (List.mem_cons_of_mem _ hx))
end Go.Sv
namespace Go.Proofs.Ytcjnfciemangkaa
open Go.RowKit Go.Sv
theorem elOp : ElemT Try.prog 49 59 (.agg #[.int .u8 0, .int .u8 0, .int .u8 0, .int .i8 0]) 4 4 := ⟨Try.underlying49, by kernel_rfl, by kernel_rfl, by omega⟩
def OCl (w : World) (os : List Opp) (v : Value) (w' : World) : Prop := ∃ A c, v = .slice A os.length c ∧ w'.ownsRow w.heap.size 59 4 v os.length (opRow os) ∧ Below w.heap.size w w'
set_option maxHeartbeats 2000000 in
theorem cloneO_any (A : Option Addr) (c : Nat) (os : List Opp) (w : World) (ha : ROps w w.heap.size A os) (hA : A = none → os.length = 0 ∧ c = 0) (hn : os.length ≤ 1000000) :
    Calls Try.prog 25 #[.slice A os.length c] w (Ret (OCl w os)) := by
  have hnil := fun w => Lib.run_eql_slice_nil (P := Try.prog) w 49 59 A os.length c 0 0 Try.underlying49
  have hnil0 := fun w => Lib.run_eql_slice_nil (P := Try.prog) w 49 59 none 0 0 0 0 Try.underlying49
  cases A with
  | none =>
    obtain ⟨h0, rfl⟩ := hA rfl
    have hl : os = [] := List.eq_nil_of_length_eq_zero h0
    subst hl
    clear hA ha h0 hnil
    go_enter Try.func25, Try.ntmps25
    go_wp2
    go_ret
    exact Ret.mk ⟨none, 0, rfl, World.ownsRow_nil _ _ _ _, Below.refl _ _⟩
  | some ad =>
    have HF : Hid (∀ u ∈ rowN 4 os.length (opF os), u.oneCell' = true) := Lib.hid fun u hu => by
      obtain ⟨j, _, rfl⟩ := List.mem_map.1 hu
      exact opF_one _ _ _
    clear hA hnil0
    replace ha := Lib.hid ha
    go_enter Try.func25, Try.ntmps25
    go_wp2_with (at_builtin; refine append_arr elOp rfl _ _ rfl w.heap.size _ 0 [] (World.ownsRow_made _ _ 0 (Nat.le_refl _) (Nat.zero_le _) rfl) rfl _ _ _ (rowN 4 os.length (opF os)) rfl (rowN_length ..) HF.out ?c1 ?c2 (by omega) (by omega) (by simp) ?_)
    case c1 => intro h; cases h
    case c2 => exact arrN_cells (by omega) (ha.out.below ((Below.refl _ _).alloc (Nat.le_refl _) _))
    intro v' w' hown hg hb hor
    have hb2 : Below w.heap.size w w' := ((Below.refl _ _).alloc (Nat.le_refl _) _).trans hb
    try simp only [List.nil_append, Nat.zero_add] at hown
    obtain ⟨A', c', hv, _, _, _⟩ := own_form hown
    have hR : Hid (OCl w os v' w') := Lib.hid ⟨A', c', hv, hown, hb2⟩
    clear hown hg hb hor hb2 hv
    go_wp2
    go_ret
    exact Ret.mk hR.out
theorem own_ops {w : World} {base : Nat} {e : TypeId} {A : Option Addr} {c : Nat} {os : List Opp} (h : w.ownsRow base e 4 (.slice A os.length c) os.length (opRow os)) : ROps w w.heap.size A os := by
  obtain ⟨A', c', hv, _, _, ha⟩ := own_arrN (f := opF os) h (fun k hk i hi => rowN_get hk hi)
  injection hv with e1 _ _
  subst e1
  exact ha
end Go.Proofs.Ytcjnfciemangkaa
