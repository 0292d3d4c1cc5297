/-
  CONTRACTS of Power, the program's and the reference's.
  Conditions: those that each theorem names.
-/
import Derived.Test.YtcjnfciemangkaaRepA
namespace Go.Proofs.Ytcjnfciemangkaa
open Go.RowKit Go.Sv

theorem append_rep {w : World} {ops : Array Oper} {rest : List Oper} {o : Oper} {a : Act} {Q : Exit → Act → World → Prop} (A : Option Addr) (c : Nat) (l : List Rep) (ha : RReps w w.heap.size A l) (hA : A = none → l.length = 0 ∧ c = 0) (hn : l.length ≤ 1000000)
    (hgd : o.guard = none) (s x : Operand) (ho : o.op = .call { callee := .builtin .append, args := #[s, x], argTypes := #[28, 28] })
    (hs : a.eval s = .slice (some ⟨w.heap.size, 0, none⟩) 0 0) (hx : a.eval x = .slice A l.length c)
    (h : ∀ v' w', RCl w 40 l v' w' → wpList Try.prog ops Q rest (a.put o.dst v') w') : wpList Try.prog ops Q (o :: rest) a (w.alloc (.cells #[] 40)) := by
  refine append_arr elRep hgd s x ho w.heap.size _ 0 [] (World.ownsRow_made _ _ 0 (Nat.le_refl _) (Nat.zero_le _) rfl) hs A l.length c (rowN 4 l.length (rpF l)) hx (rowN_length ..) (fun u hu => ?_) (fun e => (hA e).1)
    (arrN_cells (by omega) (ha.below ((Below.refl _ _).alloc (Nat.le_refl _) _))) (by omega) (by omega) (by simp) ?_
  · obtain ⟨j, _, rfl⟩ := List.mem_map.1 hu
    exact rpF_one _ _ _
  · intro v' w' hown hg hb hor
    have hb2 : Below w.heap.size w w' := ((Below.refl _ _).alloc (Nat.le_refl _) _).trans hb
    simp only [List.nil_append, Nat.zero_add] at hown
    rw [rpRow_is] at hown
    obtain ⟨A', c', hv, _, _, _⟩ := own_form hown
    rw [hv] at hown
    exact h v' w' ⟨A', c', hv, hown, hb2⟩

/-- a store into a copy -/
theorem copy_at {w w' : World} {e : TypeId} {l : List Rep} {A : Option Addr} {c k : Nat} (h : w'.ownsRow w.heap.size e 4 (.slice A l.length c) l.length (rpRow l)) (hk : k < l.length) :
    ∃ g, A = some ⟨g, 0, none⟩ ∧ w.heap.size ≤ g ∧ g < w'.heap.size ∧ (∀ i, i < 4 → w'.cell? ⟨g, k * 4 + i, none⟩ = some (rpF l k i)) ∧ ∀ j, w'.frozen? ⟨g, j, none⟩ = false := by
  obtain ⟨A', c', hv, _, _, hh⟩ := own_form h
  injection hv with e1 _ e3
  subst e1 e3
  obtain ⟨g, rfl, hg, hgl, hc⟩ := hh (by omega)
  exact ⟨g, rfl, hg, hgl, fun i hi => by rw [hc _ (by omega), rpRow_get _ _ _ hk hi], fun j => World.ownsRow.frozenAt h j⟩

theorem power_res {w w1 : World} {e : TypeId} {l : List Rep} {g c k : Nat} {up : Bool} (h : w1.ownsRow w.heap.size e 4 (.slice (some ⟨g, 0, none⟩) l.length c) l.length (rpRow l)) (hk : k < l.length) (hg : w.heap.size ≤ g) (hb : Below w.heap.size w w1) :
    RRes w (l.set k { rp l k with up := up }) 0 (.tuple #[.slice (some ⟨g, 0, none⟩) l.length c, .int .i64 0]) (w1.setCell ⟨g, k * 4 + 2, none⟩ (.bool up)) := by
  have h1 := (h.stored (k * 4 + 2) (.bool up)).1
  rw [rpRow_set (i := 2) (k := k) (r := { rp l k with up := up }) (u := .bool up) (by omega) rfl (fun j h1 h2 => by match j, h1, h2 with | 0, _, _ => rfl | 1, _, _ => rfl | 3, _, _ => rfl) hk] at h1
  have hlen : (l.set k { rp l k with up := up }).length = l.length := List.length_set ..
  rw [← hlen] at h1
  exact ⟨_, _, by rw [hlen], (fun h => by cases h), own_reps h1, hb.setCell hg _⟩

set_option maxHeartbeats 1000000 in
theorem power_any (A : Option Addr) (c : Nat) (l : List Rep) (i : Int) (up : Bool) (w : World) (ha : RReps w w.heap.size A l) (hA : A = none → l.length = 0 ∧ c = 0) (hn : l.length ≤ 1000000) :
    Calls Try.prog 20 #[.slice A l.length c, .int .i64 i, .bool up] w (Ret (RRes w (powerL l i up) (powerE l i up))) := by
  by_cases hi : 0 ≤ i ∧ i < l.length
  · obtain ⟨i0, i1⟩ := id hi
    by_cases hu : (rp l i.toNat).up = up
    · have E := powerE_11 hi hu
      rw [powerL_bad (by rw [E]; omega), E]
      clear E
      obtain ⟨b, off, rfl, hb, hc⟩ := ha (by omega)
      obtain ⟨c0, c1, c2, c3⟩ := rp_cells (hc i.toNat (by omega))
      rw [hu] at c2
      replace hA := Lib.hid hA
      replace ha := Lib.hid ha
      clear hc hu hi
      go_enter Try.func20, Try.ntmps20
      go_wp2
      go_ret2
      exact Ret.mk (RRes.none_ (Below.refl _ _))
    · have E := powerE_0 hi hu
      rw [powerL_ok E, E]
      clear E
      obtain ⟨b, off, rfl, hb, hc⟩ := id (ha (by omega))
      obtain ⟨c0, c1, c2, c3⟩ := rp_cells (hc i.toNat (by omega))
      have hx : ((rp l i.toNat).up == up) = false := by rw [beq_eq_false_iff_ne]; exact hu
      replace hA := Lib.hid hA
      replace ha := Lib.hid ha
      clear hc hu hi
      go_enter Try.func20, Try.ntmps20
      go_wp2_with fail
      refine (cloneR_any _ _ _ _ ha.out hA.out hn).mono ?_
      rintro e w1 ⟨v, rfl, A1, cc, rfl, hown, hb1⟩
      obtain ⟨g, rfl, hg, hgl, hcell, hfr⟩ := copy_at (k := i.toNat) hown (by omega)
      have d2 := hcell 2 (by omega)
      have f2 := hfr (i.toNat * 4 + 2)
      have hres := Lib.hid (power_res (up := up) (k := i.toNat) hown (by omega) hg hb1)
      clear hown hcell hfr
      unfold rpF rpCell at d2
      go_wp2
      go_ret2
      exact Ret.mk hres.out
  · have E := powerE_4 (up := up) hi
    rw [powerL_bad (by rw [E]; omega), E]
    clear E
    replace hA := Lib.hid hA
    replace ha := Lib.hid ha
    by_cases h0 : i < 0
    · clear hi
      go_enter Try.func20, Try.ntmps20
      go_wp2
      go_ret2
      exact Ret.mk (RRes.none_ (Below.refl _ _))
    · have h1 : (l.length : Int) ≤ i := by omega
      clear hi
      go_enter Try.func20, Try.ntmps20
      go_wp2
      go_ret2
      exact Ret.mk (RRes.none_ (Below.refl _ _))
set_option maxHeartbeats 1000000 in
theorem rpower_any (A : Option Addr) (c : Nat) (l : List Rep) (i : Int) (up : Bool) (w : World) (ha : RReps w w.heap.size A l) (hA : A = none → l.length = 0 ∧ c = 0) (hn : l.length ≤ 1000000) :
    Calls Try.prog 21 #[.slice A l.length c, .int .i64 i, .bool up] w (Ret (RRes w (powerL l i up) (powerE l i up))) := by
  by_cases hi : 0 ≤ i ∧ i < l.length
  · obtain ⟨i0, i1⟩ := id hi
    by_cases hu : (rp l i.toNat).up = up
    · have E := powerE_11 hi hu
      rw [powerL_bad (by rw [E]; omega), E]
      clear E
      obtain ⟨b, off, rfl, hb, hc⟩ := ha (by omega)
      obtain ⟨c0, c1, c2, c3⟩ := rp_cells (hc i.toNat (by omega))
      rw [hu] at c2
      replace hA := Lib.hid hA
      replace ha := Lib.hid ha
      clear hc hu hi
      go_enter Try.func21, Try.ntmps21
      go_wp2
      go_ret2
      exact Ret.mk (RRes.none_ (Below.refl _ _))
    · have E := powerE_0 hi hu
      rw [powerL_ok E, E]
      clear E
      obtain ⟨b, off, rfl, hb, hc⟩ := id (ha (by omega))
      obtain ⟨c0, c1, c2, c3⟩ := rp_cells (hc i.toNat (by omega))
      have hx : ((rp l i.toNat).up == up) = false := by rw [beq_eq_false_iff_ne]; exact hu
      replace hA := Lib.hid hA
      replace ha := Lib.hid ha
      clear hc hu hi
      go_enter Try.func21, Try.ntmps21
      go_wp2_with (at_builtin; refine append_rep _ _ l ha.out hA.out hn rfl _ _ rfl rfl rfl ?_)
      rintro v w1 ⟨A1, cc, rfl, hown, hb1⟩
      obtain ⟨g, rfl, hg, hgl, hcell, hfr⟩ := copy_at (k := i.toNat) hown (by omega)
      have d2 := hcell 2 (by omega)
      have f2 := hfr (i.toNat * 4 + 2)
      have hres := Lib.hid (power_res (up := up) (k := i.toNat) hown (by omega) hg hb1)
      clear hown hcell hfr
      unfold rpF rpCell at d2
      go_wp2
      go_ret2
      exact Ret.mk hres.out
  · have E := powerE_4 (up := up) hi
    rw [powerL_bad (by rw [E]; omega), E]
    clear E
    replace hA := Lib.hid hA
    replace ha := Lib.hid ha
    by_cases h0 : i < 0
    · clear hi
      go_enter Try.func21, Try.ntmps21
      go_wp2
      go_ret2
      exact Ret.mk (RRes.none_ (Below.refl _ _))
    · have h1 : (l.length : Int) ≤ i := by omega
      clear hi
      go_enter Try.func21, Try.ntmps21
      go_wp2
      go_ret2
      exact Ret.mk (RRes.none_ (Below.refl _ _))
end Go.Proofs.Ytcjnfciemangkaa
