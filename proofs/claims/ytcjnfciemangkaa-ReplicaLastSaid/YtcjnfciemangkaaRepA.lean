/-
  CONTRACTS of slices.Clone at replicas, of Same, and of Power (the program's and the reference's).
  Conditions: those that each theorem names.
-/
import Derived.Test.YtcjnfciemangkaaProg
import Derived.Test.YtcjnfciemangkaaRepP
import Derived.WalkSpells
import Derived.Laws.StructEq
namespace Go.Proofs.Ytcjnfciemangkaa
open Go.RowKit Go.Sv

theorem elRep : ElemT Try.prog 28 40 (.agg #[.int .i64 0, .int .i64 0, .bool false, .int .i64 0]) 4 32 := ⟨Try.underlying28, by kernel_rfl, by kernel_rfl, by omega⟩

theorem guardRep : Try.prog.eqGuardType Try.prog.depth 40 = false := by kernel_rfl
theorem eqRep (a b d a' b' d' : Int) (u u' : Bool) (w : World) : (Op.equalIn 10000 40 (.agg #[.int .i64 a, .int .i64 b, .bool u, .int .i64 d]) (.agg #[.int .i64 a', .int .i64 b', .bool u', .int .i64 d'])).run Try.prog w = .ok (decide ((⟨a, b, u, d⟩ : Rep) = ⟨a', b', u', d'⟩)) w := by
  have hS : Try.prog.underlying 40 = some (.struct (Try.prog.fieldsOf 40)) := by kernel_rfl
  have hp : Try.prog.stoodInHeld 40 = false := by kernel_rfl
  rw [show (10000 : Nat) = 9999 + 1 from rfl, run_equalIn_agg w 9999 40 _ _ hS hp]
  simp only [Program.fieldsOf, Try.underlying40]
  go_simp
  by_cases h1 : a = a' <;> by_cases h2 : b = b' <;> by_cases h3 : u = u' <;> by_cases h4 : d = d' <;> simp [h1, h2, h3, h4]

theorem cloneR_any (A : Option Addr) (c : Nat) (l : List Rep) (w : World) (ha : RReps w w.heap.size A l) (hA : A = none → l.length = 0 ∧ c = 0) (hn : l.length ≤ 1000000) :
    Calls Try.prog 17 #[.slice A l.length c] w (Ret (RCl w 40 l)) := by
  have hnil := fun w => Lib.run_eql_slice_nil (P := Try.prog) w 28 40 A l.length c 0 0 Try.underlying28
  have hnil0 := fun w => Lib.run_eql_slice_nil (P := Try.prog) w 28 40 none 0 0 0 0 Try.underlying28
  cases A with
  | none =>
    obtain ⟨h0, rfl⟩ := hA rfl
    have hl : l = [] := List.eq_nil_of_length_eq_zero h0
    subst hl
    clear hA ha h0 hnil
    go_enter Try.func17, Try.ntmps17
    go_wp2
    go_ret
    exact Ret.mk ⟨none, 0, rfl, World.ownsRow_nil _ _ _ _, Below.refl _ _⟩
  | some ad =>
    have HF : Hid (∀ u ∈ rowN 4 l.length (rpF l), u.oneCell' = true) := Lib.hid fun u hu => by
      obtain ⟨j, _, rfl⟩ := List.mem_map.1 hu
      exact rpF_one _ _ _
    clear hA hnil0
    replace ha := Lib.hid ha
    go_enter Try.func17, Try.ntmps17
    go_wp2_with (at_builtin; refine append_arr elRep rfl _ _ rfl w.heap.size _ 0 [] (World.ownsRow_made _ _ 0 (Nat.le_refl _) (Nat.zero_le _) rfl) rfl _ _ _ (rowN 4 l.length (rpF l)) rfl (rowN_length ..) HF.out ?c1 ?c2 (by omega) (by omega) (by simp) ?_)
    case c1 => intro h; cases h
    case c2 => exact arrN_cells (by omega) (ha.out.below ((Below.refl _ _).alloc (Nat.le_refl _) _))
    intro v' w' hown hg hb hor
    have hb2 : Below w.heap.size w w' := ((Below.refl _ _).alloc (Nat.le_refl _) _).trans hb
    try simp only [List.nil_append, Nat.zero_add] at hown
    rw [rpRow_is] at hown
    obtain ⟨A', c', hv, _, _, _⟩ := own_form hown
    rw [hv] at hown
    have hR : Hid (RCl w 40 l v' w') := Lib.hid ⟨A', c', hv, hown, hb2⟩
    clear hown hg hb hor hb2 hv
    go_wp2
    go_ret
    exact Ret.mk hR.out

theorem sameR_any (A C : Option Addr) (c d : Nat) (l m : List Rep) (w : World) (B : Nat) (ha : RReps w B A l) (hc : RReps w B C m) (h1 : l.length ≤ 1000000) (h2 : m.length ≤ 1000000) :
    Calls Try.prog 15 #[.slice A l.length c, .slice C m.length d] w fun e w' => e = .returned (.bool (decide (l = m))) ∧ Drawn w w' := by
  by_cases hlen : l.length = m.length
  · have z1 : ((l.length : Int) != (m.length : Int)) = false := by rw [bne_eq_false_iff_eq]; omega
    replace hlen := Lib.hid hlen
    go_enter Try.func15, Try.ntmps15
    go_wp2
    go_loopw [5] (fun i wr => ∃ k : Nat, k ≤ l.length ∧ i = .int .i64 k ∧ (∀ j, j < k → rp l j = rp m j) ∧ Drawn w wr) (fun i _ => l.length - (intOf i).toNat)
    case atStart => exact ⟨0, Nat.zero_le _, rfl, fun j hj => by omega, Drawn.refl _⟩
    case round =>
      obtain ⟨k, hk, rfl, hall, hdr⟩ := hrel
      replace hall := Lib.hid hall
      by_cases hlt : k < l.length
      · have hkm : k < m.length := by have := hlen.out; omega
        obtain ⟨b, off, rfl, hb, hcl⟩ := ha (by omega)
        obtain ⟨b2, off2, rfl, hb2, hcm⟩ := hc (by omega)
        obtain ⟨c0, c1, c2, c3⟩ := rp_cells (w := wr) (fun i hi => (hdr.cell _).trans (hcl k hlt i hi))
        obtain ⟨d0, d1, d2, d3⟩ := rp_cells (w := wr) (fun i hi => (hdr.cell _).trans (hcm k hkm i hi))
        replace hdr := Lib.hid hdr
        replace ha := Lib.hid ha
        replace hc := Lib.hid hc
        clear hcl hcm
        have j1 : (k : Int) < (l.length : Int) := by omega
        have j2 : (k : Int) < (m.length : Int) := by omega
        have hE := fun w => eqRep (rp l k).sv (rp l k).ver (rp l k).rnd (rp m k).sv (rp m k).ver (rp m k).rnd (rp l k).up (rp m k).up w
        have hg := guardRep
        by_cases he : rp l k = rp m k
        · have hd : decide ((⟨(rp l k).sv, (rp l k).ver, (rp l k).up, (rp l k).rnd⟩ : Rep) = ⟨(rp m k).sv, (rp m k).ver, (rp m k).up, (rp m k).rnd⟩) = true := decide_eq_true he
          rw [hd] at hE
          clear hd
          replace he := Lib.hid he
          go_wp2_with fail
          go_quiet (fail)
          go_wp2
          go_roundw
          case rel => exact ⟨k + 1, by omega, by go_num, fun j hj => by (rcases Nat.lt_succ_iff_lt_or_eq.1 hj with h | h; exact hall.out j h; rw [h]; exact he.out), hdr.out.drewN _⟩
          case measure => simp [intOf]; omega
        · have hd : decide ((⟨(rp l k).sv, (rp l k).ver, (rp l k).up, (rp l k).rnd⟩ : Rep) = ⟨(rp m k).sv, (rp m k).ver, (rp m k).up, (rp m k).rnd⟩) = false := decide_eq_false he
          rw [hd] at hE
          clear hd
          have hne : Hid (decide (l = m) = false) := Lib.hid (by rw [decide_eq_false_iff_not]; intro h; exact he (by rw [h]))
          clear he
          go_wp2_with fail
          go_quiet (fail)
          go_wp2
          go_ret
          exact ⟨ret_b hne.out.symm, hdr.out.drewN _⟩
      · have heq : Hid (decide (l = m) = true) := Lib.hid (decide_eq_true (rp_ext hlen.out (fun j hj => hall.out j (by omega))))
        obtain rfl : k = l.length := by omega
        replace ha := Lib.hid ha
        replace hc := Lib.hid hc
        go_wp2
        go_ret
        exact ⟨ret_b heq.out.symm, hdr⟩
  · have z1 : ((l.length : Int) != (m.length : Int)) = true := by rw [bne_iff_ne]; omega
    have hne : Hid (decide (l = m) = false) := Lib.hid (by rw [decide_eq_false_iff_not]; intro h; exact hlen (by rw [h]))
    clear hlen
    go_enter Try.func15, Try.ntmps15
    go_wp2
    go_ret
    exact ⟨ret_b hne.out.symm, Drawn.refl _⟩
end Go.Proofs.Ytcjnfciemangkaa
