/-
  Cut out of the texts Sb12 StRc StRd LexP LexQ Sq1 StQk: what this seat needs of them.
  Conditions: those that each theorem names.
-/
import Derived.Test.YtickckehhfdoeaaTp6
import Derived.Test.YtickckehhfdoeaaRegK
import Derived.Test.YtickckehhfdoeaaStB
import Derived.Test.YtickckehhfdoeaaStOd
import Derived.Test.YtickckehhfdoeaaMxC
import Derived.Deep.RegionLaw
import Derived.Deep.DeepCutAuto
import Derived.Deep.RegionHeld3

namespace Go.Proofs.Ytickckehhfdoeaa
open Go.RowKit Go.Sv
structure RSt (w W : World) (gB : Nat) (bs : List Bx) (m : Mx) (q : MixP) (wr : World) : Prop where
  fm : Fm w wr (⟨gB, 56, [.slice q.a0 m.base.length q.c0, .slice q.a1 m.next.length q.c1, .slice q.a2 m.held.length q.c2]⟩ :: bs) []
  lo : ∀ x ∈ bs, x.b < W.heap.size
  ao : AO wr W.heap.size m q
  k0 : keyV (.slice q.a0 m.base.length q.c0) ≠ some gB
  k1 : keyV (.slice q.a1 m.next.length q.c1) ≠ some gB
  k2 : keyV (.slice q.a2 m.held.length q.c2) ≠ some gB
  bel : Below W.heap.size W wr
  hw : w.heap.size ≤ W.heap.size
section
variable {w W wr wr' : World} {gB : Nat} {bs : List Bx} {m : Mx} {q : MixP}
theorem RSt.to (h : RSt w W gB bs m q wr) (hb : Below wr.heap.size wr wr') : RSt w W gB bs m q wr' :=
  ⟨h.fm.call hb, h.lo, h.ao.to hb, h.k0, h.k1, h.k2, h.bel.trans (hb.mono h.bel.size), h.hw⟩
theorem RSt.put (h : RSt w W gB bs m q wr) {g i : Nat} {m' : Mx} (u : Value) (hB : W.heap.size ≤ g) (hn : gB ≠ g) (l0 : m'.base.length = m.base.length) (l1 : m'.next.length = m.next.length) (l2 : m'.held.length = m.held.length) (ha : AO (wr.setCell ⟨g, i, none⟩ u) W.heap.size m' q) : RSt w W gB bs m' q (wr.setCell ⟨g, i, none⟩ u) := by
  refine ⟨?_, h.lo, ha, by rw [l0]; exact h.k0, by rw [l1]; exact h.k1, by rw [l2]; exact h.k2, h.bel.setCell hB u, h.hw⟩
  rw [l0, l1, l2]
  exact h.fm.off (p := ⟨g, i, none⟩) (Nat.le_trans h.hw hB) (fun x hx => by
    rcases List.mem_cons.1 hx with rfl | hx
    · exact hn
    · have := h.lo x hx
      show x.b ≠ g
      omega) u
theorem RSt.set1 (h : RSt w W gB bs m q wr) {i : Nat} (hi : i < m.next.length) :
    ∃ g, q.a1 = some ⟨g, 0, none⟩ ∧ gB ≠ g ∧ W.heap.size ≤ g ∧ g < wr.heap.size ∧ (∀ o, wr.frozen? ⟨g, o, none⟩ = false) ∧ wr.cell? ⟨g, i, none⟩ = some (.int .i64 (gi m.next i)) ∧ ∀ x : Int, RSt w W gB bs { m with next := m.next.set i x } q (wr.setCell ⟨g, i, none⟩ (.int .i64 x)) := by
  obtain ⟨g, e, hb, hl, hf, hc, hs⟩ := h.ao.set1 hi
  have hn : gB ≠ g := fun e' => h.k1 (by rw [e']; exact key_pos e (by omega))
  exact ⟨g, e, hn, hb, hl, hf, hc, fun x => h.put _ hb hn rfl (List.length_set ..) rfl (hs x)⟩
theorem RSt.set0 (h : RSt w W gB bs m q wr) {i : Nat} (hi : i < m.base.length) :
    ∃ g, q.a0 = some ⟨g, 0, none⟩ ∧ gB ≠ g ∧ W.heap.size ≤ g ∧ g < wr.heap.size ∧ (∀ o, wr.frozen? ⟨g, o, none⟩ = false) ∧ wr.cell? ⟨g, i, none⟩ = some (.int .i64 (gi m.base i)) ∧ ∀ x : Int, RSt w W gB bs { m with base := m.base.set i x } q (wr.setCell ⟨g, i, none⟩ (.int .i64 x)) := by
  obtain ⟨g, e, hb, hl, hf, hc, hs⟩ := h.ao.set0 hi
  have hn : gB ≠ g := fun e' => h.k0 (by rw [e']; exact key_pos e (by omega))
  exact ⟨g, e, hn, hb, hl, hf, hc, fun x => h.put _ hb hn (List.length_set ..) rfl rfl (hs x)⟩
theorem RSt.set2 (h : RSt w W gB bs m q wr) {i : Nat} (hi : i < m.held.length) :
    ∃ g, q.a2 = some ⟨g, 0, none⟩ ∧ gB ≠ g ∧ W.heap.size ≤ g ∧ g < wr.heap.size ∧ (∀ o, wr.frozen? ⟨g, o, none⟩ = false) ∧ wr.cell? ⟨g, i, none⟩ = some (.int .u8 (gi m.held i)) ∧ ∀ x : Int, RSt w W gB bs { m with held := m.held.set i x } q (wr.setCell ⟨g, i, none⟩ (.int .u8 x)) := by
  obtain ⟨g, e, hb, hl, hf, hc, hs⟩ := h.ao.set2 hi
  have hn : gB ≠ g := fun e' => h.k2 (by rw [e']; exact key_pos e (by omega))
  exact ⟨g, e, hn, hb, hl, hf, hc, fun x => h.put _ hb hn rfl rfl (List.length_set ..) (hs x)⟩
theorem RSt.put1 (h : RSt w W gB bs m q wr) (hd : Drawn wr wr') {i g : Nat} (hi : i < m.next.length) (hg : q.a1 = some ⟨g, 0, none⟩) (x : Int) : RSt w W gB bs { m with next := m.next.set i x } q (wr'.setCell ⟨g, i, none⟩ (.int .i64 x)) := by
  obtain ⟨g', e, _, _, _, _, _, hs⟩ := (h.to hd.below).set1 hi
  rw [hg] at e
  injection e with e
  injection e with e
  subst e
  exact hs x
theorem RSt.put0 (h : RSt w W gB bs m q wr) (hd : Drawn wr wr') {i g : Nat} (hi : i < m.base.length) (hg : q.a0 = some ⟨g, 0, none⟩) (x : Int) : RSt w W gB bs { m with base := m.base.set i x } q (wr'.setCell ⟨g, i, none⟩ (.int .i64 x)) := by
  obtain ⟨g', e, _, _, _, _, _, hs⟩ := (h.to hd.below).set0 hi
  rw [hg] at e
  injection e with e
  injection e with e
  subst e
  exact hs x
theorem RSt.put2 (h : RSt w W gB bs m q wr) (hd : Drawn wr wr') {i g : Nat} (hi : i < m.held.length) (hg : q.a2 = some ⟨g, 0, none⟩) (x : Int) : RSt w W gB bs { m with held := m.held.set i x } q (wr'.setCell ⟨g, i, none⟩ (.int .u8 x)) := by
  obtain ⟨g', e, _, _, _, _, _, hs⟩ := (h.to hd.below).set2 hi
  rw [hg] at e
  injection e with e
  injection e with e
  subst e
  exact hs x
end
/-- the bit of a set -/
theorem rhas_any (x v : Nat) (hx : x < 256) (hv : v < 8) (w : World) : Calls Try.prog 77 #[.int .u8 (x : Int), .int .i64 (v : Int)] w fun e w' => e = .returned (.bool (x.testBit v)) ∧ w = w' := by
  have h1 : IntKind.u8.wrap ((x : Int) / 2 ^ v) = ((x / 2 ^ v : Nat) : Int) := by
    have : (x : Int) / 2 ^ v = ((x / 2 ^ v : Nat) : Int) := by simp
    rw [this]
    exact back8 (Nat.lt_of_le_of_lt (Nat.div_le_self _ _) hx)
  have hlt : x / 2 ^ v < 256 := Nat.lt_of_le_of_lt (Nat.div_le_self _ _) hx
  have h2 := bits_and8 (a := x / 2 ^ v) (b := 1) hlt (by decide)
  have h3 : (((x / 2 ^ v &&& 1 : Nat) : Int) == 1) = x.testBit v := by
    rw [Nat.testBit_eq_decide_div_mod_eq, Nat.and_one_is_mod]
    generalize x / 2 ^ v = y
    rcases Nat.mod_two_eq_zero_or_one y with h | h <;> rw [h] <;> rfl
  have j1 : (v : Int) ≤ 8 := by omega
  go_enter Try.func77, Try.ntmps77
  have h4 : (bits .and .u8 ((x : Int) / 2 ^ v) 1 == 1) = x.testBit v := by
    have e : (x : Int) / 2 ^ v = ((x / 2 ^ v : Nat) : Int) := by simp
    rw [e]
    exact (congrArg (fun z : Int => z == 1) h2).trans h3
  go_wp2
  go_ret
  exact ⟨rfl, rfl⟩
end Go.Proofs.Ytickckehhfdoeaa
namespace Go.Sv
open Go.RowKit
section
variable {P : Program} {K : Act → World → Prop} {Q : Exit → Act → World → Prop}
theorem oper_build0 {o : Oper} {a : Act} {w : World} {ty e : TypeId} {d : Nat} {z : Value} {bytes : Nat} (E : ElemT P ty e z 1 bytes) (ho : o.op = .buildSlice ty 0 #[]) (hd : o.dst = some d)
    (h : K (a.put (some d) (.slice (some ⟨w.heap.size, 0, none⟩) 0 0)) (w.alloc (.cells #[] e))) : o.wp P a w K Q := by
  obtain ⟨i, hi, e1, e2, e3⟩ := info_parts E.hi
  have hu := run_underlying (P := P) E.ht w
  unfold Oper.wp execOp
  simp only [ho, hd, Oper.upon, List.map_toArray, List.map_nil]
  have hr : Array.map (fun _ => (default : Value)) (Array.range 0) = #[] := Array.ext' (by simp)
  simp [Instr.buildSlice, hu, sizeOf, typeInfo, hi, Instr.fill, newRow, hr]
  exact h
/-- what a copied row's value says -/
def RowJ (e : TypeId) (n : Nat) (f : Nat → Value) (v : Value) (bs : List Bx) : Prop := ∃ g c cs, v = .slice (some ⟨g, 0, none⟩) n c ∧ (⟨g, e, cs⟩ : Bx) ∈ bs ∧ cs.length = c ∧ n ≤ c ∧ c ≤ maxLen ∧ cs.take n = (List.range n).map f
theorem RowJ.mono {e : TypeId} {n : Nat} {f : Nat → Value} {v : Value} {bs bs' : List Bx} (h : RowJ e n f v bs) (hb : ∀ x ∈ bs, x ∈ bs') : RowJ e n f v bs' := by
  obtain ⟨g, c, cs, h1, h2, h3⟩ := h
  exact ⟨g, c, cs, h1, hb _ h2, h3⟩
theorem RowJ.key {e : TypeId} {n : Nat} {f : Nat → Value} {v : Value} {bs : List Bx} (h : RowJ e n f v bs) : ∀ g, keyV v = some g → ∃ x ∈ bs, x.b = g := by
  obtain ⟨g, c, cs, rfl, h2, _⟩ := h
  intro g' hg
  cases n with
  | zero => cases hg
  | succ n =>
    have e : g = g' := by injection hg
    exact ⟨_, h2, e⟩
theorem Fm.newbox {w W W' : World} {bs : List Bx} {rs : List Rd} (h : Fm w W bs rs) (hb : Below W.heap.size W W') {g : Nat} {t : TypeId} {cs : List Value} (hw : Whole W' g t cs.toArray) (hg : W.heap.size ≤ g) : Fm w W' (⟨g, t, cs⟩ :: bs) rs := by
  have k := h.call hb
  refine ⟨k.bel, ⟨hw, k.bx⟩, k.rd, fun x hx => ?_, fun r hr g' hg' => ⟨(k.far r hr g' hg').1, fun x hx => ?_⟩, List.Pairwise.cons (fun x hx e => ?_) k.dis⟩
  · rcases List.mem_cons.1 hx with rfl | hx
    · exact Nat.le_trans h.size hg
    · exact k.lo x hx
  · rcases List.mem_cons.1 hx with rfl | hx
    · have := (h.far r hr g' hg').1
      show g ≠ g'
      omega
    · exact (k.far r hr g' hg').2 x hx
  · have := h.b_lt hx
    have e : g = x.b := e
    omega
theorem job_copy {w0 w : World} {bs : List Bx} {rs : List Rd} {t e : TypeId} {z : Value} {bytes : Nat} (E : ElemT P t e z 1 bytes) {o : Oper} {a : Act} {d : Nat} (s x : Operand) (ho : o.op = .call { callee := .builtin .append, args := #[s, x], argTypes := #[t, t] }) (hd : o.dst = some d)
    (S : Fm w0 w bs rs) {g : Nat} (hs : a.eval s = .slice (some ⟨g, 0, none⟩) 0 0) (hg : (⟨g, e, []⟩ : Bx) ∈ bs) (A : Option Addr) (n c : Nat) (f : Nat → Value) (hx : a.eval x = .slice A n c) (ha : Arr w w.heap.size A n f) (hA : A = none → n = 0 ∧ c = 0)
    (hn : n ≤ 1000000) (hby : bytes ≤ 4096)
    (hK : ∀ v w' bs', Fm w0 w' bs' rs → (∀ x ∈ bs, x ∈ bs') → RowJ e n f v bs' → (∀ x ∈ bs, keyV v ≠ some x.b) → K (a.put (some d) v) w') : o.wp P a w K Q := by
  obtain ⟨i, hi, e1, e2, e3⟩ := info_parts E.hi
  rcases Nat.eq_zero_or_pos n with h0 | h0
  · subst h0
    have hr : (Builtin.append_ #[t, t] o.type #[.slice (some ⟨g, 0, none⟩) 0 0, .slice A 0 c]).run P w = .ok (.slice (some ⟨g, 0, none⟩) 0 0) w := by
      cases A <;> simp [Builtin.append_, run_underlying E.ht, sizeOf, typeInfo, hi, Builtin.lenOf, Builtin.firstCells, storeCells, loadCells, loadCellsFrom]
    unfold Oper.wp execOp
    simp only [ho, hd, resolve, invoke, builtin, Sem.run_bind, Sem.run_pure, Result.andThen_ok, List.map_toArray, List.map_cons, List.map_nil, hs, hx, hr, Oper.upon]
    exact hK _ _ bs S (fun _ h => h) ⟨g, 0, [], rfl, hg, rfl, Nat.le_refl _, by unfold maxLen; omega, rfl⟩ (fun x _ h => by cases h)
  · obtain ⟨ad, rfl⟩ : ∃ ad, A = some ad := by
      cases A with
      | none => have := (hA rfl).1; omega
      | some ad => exact ⟨ad, rfl⟩
    obtain ⟨v', w', hr, h2, h3⟩ := run_append_arg_grows (P := P) (w := w) t o.type e i z 1 bytes E.ht hi e1 e2 e3 E.hz E.hs ⟨g, 0, none⟩ 0 0 [] rfl (fun j u hj => by simp at hj) ad n c ((List.range n).map f) (by simp) (arr_cells ha ad rfl) (by omega) (by unfold maxLen; omega) (by
      have : (0 + n) * bytes ≤ 1000000 * 4096 := Nat.mul_le_mul (by omega) hby
      omega)
    have hb : Below w.heap.size w w' := (Below.refl _ _).grown h3 (Nat.le_refl _) (fun k hk => by cases hk)
    rw [Nat.zero_add, List.nil_append] at h2
    unfold Oper.wp execOp
    simp only [ho, hd, resolve, invoke, builtin, Sem.run_bind, Sem.run_pure, Result.andThen_ok, List.map_toArray, List.map_cons, List.map_nil, hs, hx, hr, Oper.upon]
    rcases h2.2 with ⟨_, hz⟩ | ⟨g', cap, cur, rfl, hbb, hgg, hnc, hm, hsz, ht⟩
    · omega
    · have hw : Whole w' g' e cur := hgg
      refine hK _ _ (⟨g', e, cur.toList⟩ :: bs) (S.newbox hb hw hbb) (fun _ h => List.mem_cons_of_mem _ h) ⟨g', cap, cur.toList, rfl, List.mem_cons_self .., by simpa using hsz, hnc, hm, by simpa using ht⟩ (fun x hx h => ?_)
      have h1 := S.b_lt hx
      obtain ⟨k, rfl⟩ : ∃ k, n = k + 1 := ⟨n - 1, by omega⟩
      injection h with h
      have h : g' = x.b := h
      omega
end
end Go.Sv
namespace Go.Proofs.Ytickckehhfdoeaa
open Go.RowKit Go.Sv
/-- a comparison: 0 exactly if equal -/
def CmpR (w : World) (b : Bool) (e : Ending) (w' : World) : Prop := Below w.heap.size w w' ∧ ∃ z : Int, e = .returned (.int .i64 z) ∧ (z == 0) = b
set_option maxRecDepth 100000 in
theorem rints_any (A C : Option Addr) (c d : Nat) (l m : List Int) (w : World) (B : Nat) (ha : Arr w B A l.length (iv l)) (hc : Arr w B C m.length (iv m)) (hl : l.length ≤ 1000000) (hm : m.length ≤ 1000000) :
    Calls Try.prog 96 #[.slice A l.length c, .slice C m.length d] w (CmpR w (decide (l = m))) := by
  replace ha := Lib.hid ha
  replace hc := Lib.hid hc
  go_enter Try.func96, Try.ntmps96
  go_wp2
  go_loopw [5] (fun i wr => ∃ k : Nat, i = .int .i64 k ∧ k ≤ l.length ∧ k ≤ m.length ∧ (∀ j, j < k → gi l j = gi m j) ∧ Drawn w wr) (fun i _ => l.length - (intOf i).toNat)
  case atStart => exact ⟨0, rfl, Nat.zero_le _, Nat.zero_le _, fun j hj => by omega, Drawn.refl _⟩
  case round =>
    obtain ⟨k, rfl, hkl, hkm, hall, hdr⟩ := hrel
    replace hall := Lib.hid hall
    by_cases h1 : k < l.length
    · have j1 : (k : Int) < (l.length : Int) := by omega
      by_cases h2 : k < m.length
      · have j2 : (k : Int) < (m.length : Int) := by omega
        obtain ⟨b, o, rfl, -, hb⟩ := (ha.out.drawn hdr) (by omega)
        obtain ⟨b2, o2, rfl, -, hb2⟩ := (hc.out.drawn hdr) (by omega)
        have x := hb k h1
        have y := hb2 k h2
        unfold iv at x y
        replace hdr := Lib.hid hdr
        clear hb hb2
        obtain ⟨u, hu⟩ : ∃ u, gi l k = u := ⟨_, rfl⟩
        obtain ⟨v, hv⟩ : ∃ v, gi m k = v := ⟨_, rfl⟩
        rw [hu] at x
        rw [hv] at y
        have hne : Hid (u ≠ v → decide (l = m) = false) := Lib.hid fun h => by rw [decide_eq_false_iff_not]; intro e; subst e; exact h (hu.symm.trans hv)
        have heq : Hid (u = v → ∀ j, j < k + 1 → gi l j = gi m j) := Lib.hid fun h j hj => by
          rcases Nat.lt_succ_iff_lt_or_eq.1 hj with h' | h'
          · exact hall.out j h'
          · rw [h', hu, hv]; exact h
        replace hu := Lib.hid hu
        replace hv := Lib.hid hv
        cases g1 : decide (u < v) with
        | true =>
          have hF := Lib.hid (hne.out (by have := of_decide_eq_true g1; omega))
          go_wp2_with fail
          go_big_quiet (fail)
          go_wp2
          go_ret
          exact ⟨(hdr.out.drewN _).below, _, rfl, by rw [hF.out]; rfl⟩
        | false =>
          cases g2 : decide (v < u) with
          | true =>
            have hF := Lib.hid (hne.out (by have := of_decide_eq_true g2; omega))
            go_wp2_with fail
            go_big_quiet (fail)
            go_wp2_with fail
            go_big_quiet (fail)
            go_wp2
            go_ret
            exact ⟨((hdr.out.drewN _).drewN _).below, _, rfl, by rw [hF.out]; rfl⟩
          | false =>
            have hF := Lib.hid (heq.out (by have := of_decide_eq_false g1; have := of_decide_eq_false g2; omega))
            go_wp2_with fail
            go_big_quiet (fail)
            go_wp2_with fail
            go_big_quiet (fail)
            go_wp2
            go_roundw
            case rel => exact ⟨k + 1, by go_num, by omega, by omega, hF.out, hdr.out.drewN _⟩
            case measure => simp [intOf]; omega
      · obtain rfl : k = m.length := by omega
        have hF : Hid (decide (l = m) = false) := Lib.hid (by rw [decide_eq_false_iff_not]; intro e; subst e; omega)
        have j3 : ¬ ((l.length : Int) < (m.length : Int)) := by omega
        replace hdr := Lib.hid hdr
        go_wp2
        go_ret
        exact ⟨hdr.out.below, _, rfl, by rw [hF.out]; rfl⟩
    · obtain rfl : k = l.length := by omega
      by_cases h3 : l.length < m.length
      · have hF : Hid (decide (l = m) = false) := Lib.hid (by rw [decide_eq_false_iff_not]; intro e; subst e; omega)
        have j3 : (l.length : Int) < (m.length : Int) := by omega
        replace hdr := Lib.hid hdr
        go_wp2
        go_ret
        exact ⟨hdr.out.below, _, rfl, by rw [hF.out]; rfl⟩
      · have hF : Hid (decide (l = m) = true) := Lib.hid (decide_eq_true (gi_ext (by omega) hall.out))
        have j3 : ¬ ((l.length : Int) < (m.length : Int)) := by omega
        have j4 : ¬ ((m.length : Int) < (l.length : Int)) := by omega
        replace hdr := Lib.hid hdr
        go_wp2
        go_ret
        exact ⟨hdr.out.below, _, rfl, by rw [hF.out]; rfl⟩
/-- a list of numbers of the call's own -/
def OwnI (w : World) (l : List Int) (v : Value) (w' : World) : Prop := Below w.heap.size w w' ∧ ∃ A c, v = .slice A l.length c ∧ Arr w' w'.heap.size A l.length (iv l)
set_option maxRecDepth 100000 in
theorem rnumbers_any (A : Option Addr) (c : Nat) (l : List Int) (w : World) (ha : Arr w w.heap.size A l.length (u8v l)) (hl : l.length ≤ 1000000) (h8 : ∀ i, i < l.length → 0 ≤ gi l i ∧ gi l i < 256) :
    Calls Try.prog 97 #[.slice A l.length c] w (Ret (OwnI w l)) := by
  replace ha := Lib.hid ha
  replace h8 := Lib.hid h8
  go_enter Try.func97, Try.ntmps97
  go_wp2
  go_loopw [3, 4] (fun v i wr => ∃ k : Nat, i = .int .i64 k ∧ k ≤ l.length ∧ wr.ownsRow w.heap.size 3 1 v k (rowM k (iv l)) ∧ Below w.heap.size w wr) (fun _ i _ => l.length - (intOf i).toNat)
  case atStart => exact ⟨0, rfl, Nat.zero_le _, World.ownsRow_nil _ _ _ _, Below.refl _ _⟩
  case round =>
    obtain ⟨k, rfl, hk, hown, hbel⟩ := hrel
    by_cases hlt : k < l.length
    · obtain ⟨b, o, rfl, -, hb⟩ := (ha.out.below hbel) (by omega)
      have x := hb k hlt
      unfold u8v at x
      have hv := h8.out k hlt
      obtain ⟨v, hvv⟩ : ∃ v, gi l k = v := ⟨_, rfl⟩
      rw [hvv] at x hv
      have w1 : IntKind.i64.wrap v = v := by simp [IntKind.wrap, IntKind.bits, IntKind.signed]; omega
      have jk : (k : Int) < (l.length : Int) := by omega
      have hO := Lib.hid hown
      have hs := hbel.size
      have hS : Hid (rowM (k + 1) (iv l) = rowM k (iv l) ++ [.int .i64 v]) := Lib.hid (by rw [rowM_snoc]; unfold iv; rw [hvv])
      replace hbel := Lib.hid hbel
      replace hvv := Lib.hid hvv
      clear hb hown
      go_wp2_with (at_builtin; refine push_own elInt rfl _ _ rfl w.heap.size _ k _ hO.out rfl [.int .i64 v] rfl rfl rfl (by omega) (by omega) hs ?_)
      intro v' w3 hown3 hgr hb3 hs3 _
      have hO3 : Hid (w3.ownsRow w.heap.size 3 1 v' (k + 1) (rowM (k + 1) (iv l))) := Lib.hid (by rw [hS.out]; exact hown3)
      have hb4 := Lib.hid (hbel.out.trans hb3)
      clear hown3 hgr hb3 hs3
      go_wp2
      go_roundw
      case rel => exact ⟨k + 1, by go_num, by omega, hO3.out, hb4.out⟩
      case measure => simp [intOf]; omega
    · obtain rfl : k = l.length := by omega
      obtain ⟨A', c', hv, _, _, ha'⟩ := own_arr hown (fun k hk => rowM_get hk)
      subst hv
      have hR := Lib.hid (show OwnI w l (.slice A' l.length c') wr from ⟨hbel, A', c', rfl, ha'⟩)
      clear hlt hown hbel ha'
      go_wp2
      go_ret
      exact Ret.mk hR.out
theorem eqMx (a b : Mx) : decide (a = b) = (decide (a.base = b.base) && (decide (a.next = b.next) && decide (a.held = b.held))) := by
  obtain ⟨a1, a2, a3⟩ := a
  obtain ⟨b1, b2, b3⟩ := b
  rw [Bool.eq_iff_iff]
  simp
/-- the boxes of a function of two mixes -/
theorem mm_boxes (m n : Mx) (qm qn : MixP) (w : World) : ∃ W, (w.alloc (.cells #[.slice qm.a0 m.base.length qm.c0, .slice qm.a1 m.next.length qm.c1, .slice qm.a2 m.held.length qm.c2] 56)).alloc (.cells #[.slice qn.a0 n.base.length qn.c0, .slice qn.a1 n.next.length qn.c1, .slice qn.a2 n.held.length qn.c2] 56) = W ∧
    Fm w W [⟨w.heap.size + 1, 56, [.slice qn.a0 n.base.length qn.c0, .slice qn.a1 n.next.length qn.c1, .slice qn.a2 n.held.length qn.c2]⟩, ⟨w.heap.size, 56, [.slice qm.a0 m.base.length qm.c0, .slice qm.a1 m.next.length qm.c1, .slice qm.a2 m.held.length qm.c2]⟩] [] :=
  ⟨_, rfl, ((Fm.init w).box 56 _).box' 56 _ (by simp)⟩
structure MSm (m : Mx) : Prop where
  l0 : m.base.length ≤ 1000000
  l1 : m.next.length ≤ 1000000
  l2 : m.held.length ≤ 1000000
  h8 : H8 m
set_option maxHeartbeats 2000000 in
set_option maxRecDepth 100000 in
theorem rcompare_any (m n : Mx) (qm qn : MixP) (w : World) (hm : RMix w w.heap.size m qm) (hn : RMix w w.heap.size n qn) (sm : MSm m) (sn : MSm n) :
    Calls Try.prog 78 #[mixV m qm, mixV n qn] w (CmpR w (decide (m = n))) := by
  obtain ⟨W, hW, S⟩ := mm_boxes m n qm qn w
  have I0 := Lib.hid (rints_any qm.a0 qn.a0 qm.c0 qn.c0 m.base n.base W W.heap.size (hm.to S.bel).r0 (hn.to S.bel).r0 sm.l0 sn.l0)
  have I1 := Lib.hid (fun W2 (h : Below W.heap.size W W2) => rints_any qm.a1 qn.a1 qm.c1 qn.c1 m.next n.next W2 W2.heap.size ((hm.to S.bel).to h).r1 ((hn.to S.bel).to h).r1 sm.l1 sn.l1)
  have NA := Lib.hid (fun W2 (h : Below W.heap.size W W2) => rnumbers_any qm.a2 qm.c2 m.held W2 ((hm.to S.bel).to h).r2 sm.l2 sm.h8)
  have NB := Lib.hid (fun W2 (h : Below W.heap.size W W2) => rnumbers_any qn.a2 qn.c2 n.held W2 ((hn.to S.bel).to h).r2 sn.l2 sn.h8)
  have I2 := Lib.hid (fun A c A' c' W2 (h1 : Arr W2 W2.heap.size A m.held.length (iv m.held)) (h2 : Arr W2 W2.heap.size A' n.held.length (iv n.held)) => rints_any A A' c c' m.held n.held W2 W2.heap.size h1 h2 sm.l2 sn.l2)
  rw [eqMx]
  obtain ⟨e0, he0⟩ : ∃ e0, decide (m.base = n.base) = e0 := ⟨_, rfl⟩
  obtain ⟨e1, he1⟩ : ∃ e1, decide (m.next = n.next) = e1 := ⟨_, rfl⟩
  obtain ⟨e2, he2⟩ : ∃ e2, decide (m.held = n.held) = e2 := ⟨_, rfl⟩
  rw [he0] at I0
  rw [he1] at I1
  rw [he2] at I2
  rw [he0, he1, he2]
  obtain ⟨ma0, mc0, ma1, mc1, ma2, mc2⟩ := qm
  obtain ⟨na0, nc0, na1, nc1, na2, nc2⟩ := qn
  dsimp only at I0 I1 NA NB I2 hW S ⊢
  obtain ⟨⟨r1, f1, r10, r11, r12, -⟩, ⟨r2, f2, r20, r21, r22, -⟩, -⟩ := S.facts
  have SW := Lib.hid S
  clear S hm hn sm sn he0 he1 he2
  go_enter Try.func78, Try.ntmps78
  go_wp2_with fail
  clear hW
  with_reducible refine I0.out.mono ?_
  rintro e w1 ⟨hb1, z, rfl, hz⟩
  have S1 := Lib.hid (SW.out.call hb1)
  replace hb1 := Lib.hid hb1
  clear r1 f1 r10 r11 r12 r2 f2 r20 r21 r22
  obtain ⟨⟨r1, f1, r10, r11, r12, -⟩, ⟨r2, f2, r20, r21, r22, -⟩, -⟩ := S1.out.facts
  cases e0 with
  | false =>
    have hne : (z != 0) = true := by rw [bne, hz]; rfl
    replace hz := Lib.hid hz
    go_wp2
    go_ret
    exact ⟨S1.out.bel, z, rfl, by rw [hz.out]; rfl⟩
  | true =>
    have hne : (z != 0) = false := by rw [bne, hz]; rfl
    clear hz
    go_wp2_with fail
    with_reducible refine (I1.out w1 hb1.out).mono ?_
    rintro e w2 ⟨hb2, z2, rfl, hz2⟩
    have S2 := Lib.hid (S1.out.call hb2)
    replace hb2 := Lib.hid (hb1.out.trans (hb2.mono hb1.out.size))
    clear r1 f1 r10 r11 r12 r2 f2 r20 r21 r22
    obtain ⟨⟨r1, f1, r10, r11, r12, -⟩, ⟨r2, f2, r20, r21, r22, -⟩, -⟩ := S2.out.facts
    cases e1 with
    | false =>
      have hne2 : (z2 != 0) = true := by rw [bne, hz2]; rfl
      replace hz2 := Lib.hid hz2
      go_wp2
      go_ret
      exact ⟨S2.out.bel, z2, rfl, by rw [hz2.out]; rfl⟩
    | true =>
      have hne2 : (z2 != 0) = false := by rw [bne, hz2]; rfl
      clear hz2
      go_wp2_with fail
      go_region_held3 (fun w' => w'.cell? ⟨w.heap.size, 2, none⟩ = some (.slice ma2 m.held.length mc2) ∧ w'.cell? ⟨w.heap.size + 1, 2, none⟩ = some (.slice na2 n.held.length nc2)) (go_keep)
        (first
          | ((with_reducible refine (NA.out w2.drew (hb2.out.drawn ((Drawn.refl _).drew))).mono ?_)
             rintro e w3 ⟨_, rfl, hb3, A3, c3, rfl, ha3⟩
             have hb3' : Hid (Below w2.heap.size w2 w3) := Lib.hid (((Drawn.refl w2).drew).below.trans hb3)
             have hAa := Lib.hid ha3
             have S3 := Lib.hid (S2.out.call hb3'.out)
             clear hb3 ha3 r1 f1 r10 r11 r12 r2 f2 r20 r21 r22
             obtain ⟨⟨r1, f1, r10, r11, r12, -⟩, ⟨r2, f2, r20, r21, r22, -⟩, -⟩ := S3.out.facts)
          | ((with_reducible refine (NB.out w2.drew (hb2.out.drawn ((Drawn.refl _).drew))).mono ?_)
             rintro e w3 ⟨_, rfl, hb3, A3, c3, rfl, ha3⟩
             have hb3' : Hid (Below w2.heap.size w2 w3) := Lib.hid (((Drawn.refl w2).drew).below.trans hb3)
             have hAb := Lib.hid ha3
             have S3 := Lib.hid (S2.out.call hb3'.out)
             clear hb3 ha3 r1 f1 r10 r11 r12 r2 f2 r20 r21 r22
             obtain ⟨⟨r1, f1, r10, r11, r12, -⟩, ⟨r2, f2, r20, r21, r22, -⟩, -⟩ := S3.out.facts)
          | ((with_reducible refine (NB.out w3 (hb2.out.trans (hb3'.out.mono hb2.out.size))).mono ?_)
             rintro e w4 ⟨_, rfl, hb4, A4, c4, rfl, ha4⟩
             have hL := Lib.hid ((hAa.out.below hb4).more hb4.size)
             have hR := Lib.hid ha4
             have S4 := Lib.hid (S3.out.call hb4)
             clear hb4 ha4 r1 f1 r10 r11 r12 r2 f2 r20 r21 r22
             obtain ⟨⟨r1, f1, r10, r11, r12, -⟩, ⟨r2, f2, r20, r21, r22, -⟩, -⟩ := S4.out.facts)
          | ((with_reducible refine (NA.out w3 (hb2.out.trans (hb3'.out.mono hb2.out.size))).mono ?_)
             rintro e w4 ⟨_, rfl, hb4, A4, c4, rfl, ha4⟩
             have hL := Lib.hid ha4
             have hR := Lib.hid ((hAb.out.below hb4).more hb4.size)
             have S4 := Lib.hid (S3.out.call hb4)
             clear hb4 ha4 r1 f1 r10 r11 r12 r2 f2 r20 r21 r22
             obtain ⟨⟨r1, f1, r10, r11, r12, -⟩, ⟨r2, f2, r20, r21, r22, -⟩, -⟩ := S4.out.facts)
          | ((with_reducible refine (I2.out _ _ _ _ w4 hL.out hR.out).mono ?_)
             rintro e w5 ⟨hb5, z3, rfl, hz3⟩
             have S5 := Lib.hid (S4.out.call hb5)
             replace hz3 := Lib.hid hz3
             clear hb5 r1 f1 r10 r11 r12 r2 f2 r20 r21 r22
             obtain ⟨⟨r1, f1, r10, r11, r12, -⟩, ⟨r2, f2, r20, r21, r22, -⟩, -⟩ := S5.out.facts))
      all_goals (try go_wp2)
      all_goals (go_ret; exact ⟨S5.out.bel, z3, rfl, by rw [hz3.out]; rfl⟩)
end Go.Proofs.Ytickckehhfdoeaa
namespace Go.Proofs.Ytickckehhfdoeaa
open Go.RowKit Go.Sv
def emptyN (e : TypeId) : Value → List Bx → List Rd → Prop := fun v bs _ => ∃ g, v = .slice (some ⟨g, 0, none⟩) 0 0 ∧ (⟨g, e, []⟩ : Bx) ∈ bs
/-- the copy's three rows -/
def triN (m : Mx) : Value → List Bx → List Rd → Prop := fun v bs _ => ∃ u0 u1 u2, v = .agg #[u0, u1, u2] ∧ RowJ 3 m.base.length (iv m.base) u0 bs ∧ RowJ 3 m.next.length (iv m.next) u1 bs ∧ RowJ 84 m.held.length (u8v m.held) u2 bs ∧
  (∀ g, keyV u0 = some g → keyV u1 ≠ some g) ∧ (∀ g, keyV u0 = some g → keyV u2 ≠ some g) ∧ ∀ g, keyV u1 = some g → keyV u2 ≠ some g
theorem triN.mono {m : Mx} {v : Value} {bs bs' : List Bx} {rs rs' : List Rd} (h : triN m v bs rs) (hb : ∀ x ∈ bs, x ∈ bs') : triN m v bs' rs' := by
  obtain ⟨u0, u1, u2, e, r0, r1, r2, d⟩ := h
  exact ⟨u0, u1, u2, e, r0.mono hb, r1.mono hb, r2.mono hb, d⟩
theorem RowJ.own {w W : World} {bs : List Bx} {rs : List Rd} (S : Fm w W bs rs) {e : TypeId} {n : Nat} {f : Nat → Value} {v : Value} (h : RowJ e n f v bs) : ∃ A c, v = .slice A n c ∧ W.ownsRow w.heap.size e 1 (.slice A n c) n (rowM n f) := by
  obtain ⟨g, c, cs, rfl, hm, hl, hn, hc, ht⟩ := h
  have hw := allB_at S.bx _ hm
  exact ⟨_, c, rfl, by rw [rowM_len, Nat.mul_one], Or.inr ⟨g, c, cs.toArray, rfl, S.lo _ hm, hw, hn, hc, by simpa using hl, by rw [Nat.mul_one]; exact ht⟩⟩
theorem RowJ.ne {w W : World} {bs : List Bx} {rs : List Rd} (S : Fm w W bs rs) {e t : TypeId} {n : Nat} {f : Nat → Value} {v : Value} (h : RowJ e n f v bs) {gB : Nat} {cs : List Value} (hm : (⟨gB, t, cs⟩ : Bx) ∈ bs) (he : e ≠ t) : keyV v ≠ some gB := by
  obtain ⟨g, c, cs', rfl, hm', _⟩ := h
  intro hk
  cases n with
  | zero => cases hk
  | succ n =>
    have hk : g = gB := by injection hk
    subst hk
    have h1 : W.heap[g]? = _ := allB_at S.bx _ hm
    have h2 : W.heap[g]? = _ := allB_at S.bx _ hm'
    rw [h1] at h2
    injection h2 with h2
    injection h2 with _ h3 _
    exact he h3.symm
theorem AO.else_ {W : World} {B : Nat} {m : Mx} {q : MixP} (h : AO W B m q) {g i : Nat} (k0 : keyV (.slice q.a0 m.base.length q.c0) ≠ some g) (k1 : keyV (.slice q.a1 m.next.length q.c1) ≠ some g) (k2 : keyV (.slice q.a2 m.held.length q.c2) ≠ some g) (u : Value) : AO (W.setCell ⟨g, i, none⟩ u) B m q :=
  ⟨own_else h.o0 k0 u, own_else h.o1 k1 u, own_else h.o2 k2 u, h.d01, h.d02, h.d12⟩
set_option maxHeartbeats 4000000 in
set_option maxRecDepth 100000 in
theorem rafter_any (p : Prob) (q : ProbP) (m : Mx) (qm : MixP) (s : Sp) (w : World) (hp : RProb w w.heap.size p q) (_hbd : PBd p) (hm : RMix w w.heap.size m qm) (hmb : MBd m qm) (hok : MOk p m)
    (hs : spB s = true) (he : existsB p s = true) :
    Calls Try.prog 51 #[probV p q, mixV m qm, stepV s] w (Ret (AftR w p m s)) := by
  have h8 : H8 m := hmb.h8
  have hps := prob_small hok.pr
  have lb := hok.lb
  have ln := hok.ln
  have lh := hok.lh
  have b0 : m.base.length ≤ 1000000 := by omega
  have b1 : m.next.length ≤ 1000000 := by omega
  have b2 : m.held.length ≤ 1000000 := by omega
  obtain ⟨W, hW, hsz, S⟩ := pms_boxes p q m qm s w
  have hmW := Lib.hid (fun W2 (h : Below W.heap.size W W2) => (hm.to S.bel).to h)
  have hpW := Lib.hid (fun W2 (h : Below W.heap.size W W2) => (hp.to S.bel).to h)
  have SW := Lib.hid S
  obtain ⟨hN0, hN1, hN2⟩ := And.intro hmb.n0 (And.intro hmb.n1 hmb.n2)
  obtain ⟨qa0, qc0, qa1, qc1, qa2, qc2, qa3, qc3⟩ := q
  obtain ⟨ma0, mc0, ma1, mc1, ma2, mc2⟩ := qm
  obtain ⟨kd, ix, v⟩ := s
  dsimp only at hW S hN0 hN1 hN2 hmW ⊢
  replace hps := Lib.hid hps
  replace lb := Lib.hid lb
  replace ln := Lib.hid ln
  replace lh := Lib.hid lh
  obtain ⟨⟨r1, f1, r10, r11, r12, -⟩, ⟨r2, f2, r20, r21, r22, -⟩, ⟨zm1, f3, n0, n1, n2, -⟩, ⟨r4, f4, r40, r41, r42, r43, -⟩, -⟩ := S.facts
  clear S hm hp hmb
  go_enter Try.func51, Try.ntmps51
  go_wp2_with fail
  clear hW
  refine wp_region_any (by kernel_rfl) ?_
  change wpAny _ _ _ _ _ #[false, false, false, false, false, false, false, false, false, false, false, false, false, false, false] _ (World.drew _)
  have S0 := Lib.hid ((Fm.init W).drew)
  generalize hJ : ([⟨0, 15, false, emptyN 3⟩, ⟨1, 16, false, valN (.pointer (some ⟨w.heap.size + 1, 0, none⟩))⟩, ⟨2, 17, false, valN (.slice ma0 m.base.length mc0)⟩, ⟨3, 18, true, fun v bs _ => RowJ 3 m.base.length (iv m.base) v bs⟩, ⟨4, 19, false, emptyN 3⟩, ⟨5, 20, false, valN (.pointer (some ⟨w.heap.size + 1, 1, none⟩))⟩, ⟨6, 21, false, valN (.slice ma1 m.next.length mc1)⟩, ⟨7, 22, true, fun v bs _ => RowJ 3 m.next.length (iv m.next) v bs⟩, ⟨8, 23, false, emptyN 84⟩, ⟨9, 24, false, valN (.pointer (some ⟨w.heap.size + 1, 2, none⟩))⟩, ⟨10, 25, false, valN (.slice ma2 m.held.length mc2)⟩, ⟨11, 26, true, fun v bs _ => RowJ 84 m.held.length (u8v m.held) v bs⟩, ⟨12, 27, false, triN m⟩, ⟨13, 8, true, boxN 56 [.slice none 0 0, .slice none 0 0, .slice none 0 0]⟩] : List Jc) = J
  have hI : J.map Jc.i = [0, 1, 2, 3, 4, 5, 6, 7, 8, 9, 10, 11, 12, 13] := by subst hJ; rfl
  have hD : J.map Jc.d = [15, 16, 17, 18, 19, 20, 21, 22, 23, 24, 25, 26, 27, 8] := by subst hJ; rfl
  refine regk_go (T := [14]) [0, 1, 2, 3, 4, 5, 6, 7, 8, 9, 10, 11, 12, 13] [15, 16, 17, 18, 19, 20, 21, 22, 23, 24, 25, 26, 27, 8] hI hD 14 _ #[true, true, true, true, true, true, true, true, true, true, true, true, true, true, false] (by decide) (by decide) (by kernel_rfl) (by decide) (by decide) (by kernel_rfl) (by kernel_rfl) (by decide) (by decide) (by decide) (by decide) rfl (by decide) (by kernel_rfl) (by decide) (by decide) S0.out ?hmono ?hbx ?hstep ?hrest
  all_goals clear hI hD
  case hmono =>
    subst hJ
    intro j hj v bs bs' rs rs' hb hr hN
    simp only [List.mem_cons, List.not_mem_nil, or_false] at hj
    rcases hj with rfl | rfl | rfl | rfl | rfl | rfl | rfl | rfl | rfl | rfl | rfl | rfl | rfl | rfl
    · obtain ⟨g, e, mm⟩ := hN; exact ⟨g, e, hb _ mm⟩
    · exact hN
    · exact hN
    · exact RowJ.mono hN hb
    · obtain ⟨g, e, mm⟩ := hN; exact ⟨g, e, hb _ mm⟩
    · exact hN
    · exact hN
    · exact RowJ.mono hN hb
    · obtain ⟨g, e, mm⟩ := hN; exact ⟨g, e, hb _ mm⟩
    · exact hN
    · exact hN
    · exact RowJ.mono hN hb
    · exact triN.mono (rs := rs) (rs' := rs') hN hb
    · obtain ⟨g, e, mm⟩ := hN; exact ⟨g, e, hb _ mm⟩
  case hbx =>
    subst hJ
    intro j hj hx v bs rs hN
    simp only [List.mem_cons, List.not_mem_nil, or_false] at hj
    rcases hj with rfl | rfl | rfl | rfl | rfl | rfl | rfl | rfl | rfl | rfl | rfl | rfl | rfl | rfl
    · cases hx
    · cases hx
    · cases hx
    · exact RowJ.key hN
    · cases hx
    · cases hx
    · cases hx
    · exact RowJ.key hN
    · cases hx
    · cases hx
    · cases hx
    · exact RowJ.key hN
    · cases hx
    · obtain ⟨g, rfl, mm⟩ := hN; intro g' hg; exact ⟨_, mm, by injection hg⟩
  case hstep =>
    subst hJ
    intro j hj
    simp only [List.mem_cons, List.not_mem_nil, or_false] at hj
    rcases hj with rfl | rfl | rfl | rfl | rfl | rfl | rfl | rfl | rfl | rfl | rfl | rfl | rfl | rfl
    · refine ⟨_, rfl, rfl, fun a wq bs rs K hag hS hb0 hr0 hw hne hK => ?_⟩
      exact oper_build0 elInt rfl rfl (hK _ _ _ _ (hS.box 3 []) (fun _ h => List.mem_cons_of_mem _ h) (fun _ h => h) ⟨_, rfl, List.mem_cons_self ..⟩ (fun h => by cases h))
    · refine ⟨_, rfl, rfl, fun a wq bs rs K hag hS hb0 hr0 hw hne hK => ?_⟩
      have e4 : a.tmps[4]?.getD undef = .pointer (some ⟨w.heap.size + 1, 0, none⟩) := eval_raw ((hag.eval (by decide)).trans rfl)
      clear hag hw hb0 hr0 hne
      replace hS := Lib.hid hS
      replace hK := Lib.hid hK
      go_simp
      exact hK.out _ _ _ _ hS.out (fun _ h => h) (fun _ h => h) rfl (fun h => by cases h)
    · refine ⟨_, rfl, rfl, fun a wq bs rs K hag hS hb0 hr0 hw hne hK => ?_⟩
      have e2 : a.eval (.tmp 16) = .pointer (some ⟨w.heap.size + 1, 0, none⟩) := hw _ (List.Mem.tail _ (List.Mem.head _)) (by kernel_rfl)
      have yy : wq.cell? ⟨w.heap.size + 1, 0, none⟩ = some (.slice ma0 m.base.length mc0) := (hS.bel.cell (p := ⟨w.heap.size + 1, 0, none⟩) zm1).trans n0
      exact oper_load rfl rfl e2 Try.underlying36 yy (hK _ _ _ _ hS (fun _ h => h) (fun _ h => h) rfl (fun h => by cases h))
    · refine ⟨_, rfl, rfl, fun a wq bs rs K hag hS hb0 hr0 hw hne hK => ?_⟩
      obtain ⟨g, e1, m1⟩ : emptyN 3 (a.eval (.tmp 15)) bs rs := hw _ (List.Mem.head _) (by kernel_rfl)
      have e2 : a.eval (.tmp 17) = .slice ma0 m.base.length mc0 := hw _ (List.Mem.tail _ (List.Mem.tail _ (List.Mem.head _))) (by kernel_rfl)
      exact job_copy elInt (.tmp 15) (.tmp 17) rfl rfl hS e1 m1 ma0 m.base.length mc0 (iv m.base) e2 (hmW.out wq hS.bel).r0 hN0 (by omega) (by decide) (fun v w' bs' hS' hbb hR hf => hK _ _ _ _ hS' hbb (fun _ h => h) hR (fun _ => hf))
    · refine ⟨_, rfl, rfl, fun a wq bs rs K hag hS hb0 hr0 hw hne hK => ?_⟩
      exact oper_build0 elInt rfl rfl (hK _ _ _ _ (hS.box 3 []) (fun _ h => List.mem_cons_of_mem _ h) (fun _ h => h) ⟨_, rfl, List.mem_cons_self ..⟩ (fun h => by cases h))
    · refine ⟨_, rfl, rfl, fun a wq bs rs K hag hS hb0 hr0 hw hne hK => ?_⟩
      have e4 : a.tmps[4]?.getD undef = .pointer (some ⟨w.heap.size + 1, 0, none⟩) := eval_raw ((hag.eval (by decide)).trans rfl)
      clear hag hw hb0 hr0 hne
      replace hS := Lib.hid hS
      replace hK := Lib.hid hK
      go_simp
      exact hK.out _ _ _ _ hS.out (fun _ h => h) (fun _ h => h) rfl (fun h => by cases h)
    · refine ⟨_, rfl, rfl, fun a wq bs rs K hag hS hb0 hr0 hw hne hK => ?_⟩
      have e2 : a.eval (.tmp 20) = .pointer (some ⟨w.heap.size + 1, 1, none⟩) := hw _ (List.Mem.tail _ (List.Mem.tail _ (List.Mem.tail _ (List.Mem.tail _ (List.Mem.tail _ (List.Mem.head _)))))) (by kernel_rfl)
      have yy : wq.cell? ⟨w.heap.size + 1, 1, none⟩ = some (.slice ma1 m.next.length mc1) := (hS.bel.cell (p := ⟨w.heap.size + 1, 1, none⟩) zm1).trans n1
      exact oper_load rfl rfl e2 Try.underlying36 yy (hK _ _ _ _ hS (fun _ h => h) (fun _ h => h) rfl (fun h => by cases h))
    · refine ⟨_, rfl, rfl, fun a wq bs rs K hag hS hb0 hr0 hw hne hK => ?_⟩
      obtain ⟨g, e1, m1⟩ : emptyN 3 (a.eval (.tmp 19)) bs rs := hw _ (List.Mem.tail _ (List.Mem.tail _ (List.Mem.tail _ (List.Mem.tail _ (List.Mem.head _))))) (by kernel_rfl)
      have e2 : a.eval (.tmp 21) = .slice ma1 m.next.length mc1 := hw _ (List.Mem.tail _ (List.Mem.tail _ (List.Mem.tail _ (List.Mem.tail _ (List.Mem.tail _ (List.Mem.tail _ (List.Mem.head _))))))) (by kernel_rfl)
      exact job_copy elInt (.tmp 19) (.tmp 21) rfl rfl hS e1 m1 ma1 m.next.length mc1 (iv m.next) e2 (hmW.out wq hS.bel).r1 hN1 (by omega) (by decide) (fun v w' bs' hS' hbb hR hf => hK _ _ _ _ hS' hbb (fun _ h => h) hR (fun _ => hf))
    · refine ⟨_, rfl, rfl, fun a wq bs rs K hag hS hb0 hr0 hw hne hK => ?_⟩
      exact oper_build0 elSet rfl rfl (hK _ _ _ _ (hS.box 84 []) (fun _ h => List.mem_cons_of_mem _ h) (fun _ h => h) ⟨_, rfl, List.mem_cons_self ..⟩ (fun h => by cases h))
    · refine ⟨_, rfl, rfl, fun a wq bs rs K hag hS hb0 hr0 hw hne hK => ?_⟩
      have e4 : a.tmps[4]?.getD undef = .pointer (some ⟨w.heap.size + 1, 0, none⟩) := eval_raw ((hag.eval (by decide)).trans rfl)
      clear hag hw hb0 hr0 hne
      replace hS := Lib.hid hS
      replace hK := Lib.hid hK
      go_simp
      exact hK.out _ _ _ _ hS.out (fun _ h => h) (fun _ h => h) rfl (fun h => by cases h)
    · refine ⟨_, rfl, rfl, fun a wq bs rs K hag hS hb0 hr0 hw hne hK => ?_⟩
      have e2 : a.eval (.tmp 24) = .pointer (some ⟨w.heap.size + 1, 2, none⟩) := hw _ (List.Mem.tail _ (List.Mem.tail _ (List.Mem.tail _ (List.Mem.tail _ (List.Mem.tail _ (List.Mem.tail _ (List.Mem.tail _ (List.Mem.tail _ (List.Mem.tail _ (List.Mem.head _)))))))))) (by kernel_rfl)
      have yy : wq.cell? ⟨w.heap.size + 1, 2, none⟩ = some (.slice ma2 m.held.length mc2) := (hS.bel.cell (p := ⟨w.heap.size + 1, 2, none⟩) zm1).trans n2
      exact oper_load rfl rfl e2 Try.underlying54 yy (hK _ _ _ _ hS (fun _ h => h) (fun _ h => h) rfl (fun h => by cases h))
    · refine ⟨_, rfl, rfl, fun a wq bs rs K hag hS hb0 hr0 hw hne hK => ?_⟩
      obtain ⟨g, e1, m1⟩ : emptyN 84 (a.eval (.tmp 23)) bs rs := hw _ (List.Mem.tail _ (List.Mem.tail _ (List.Mem.tail _ (List.Mem.tail _ (List.Mem.tail _ (List.Mem.tail _ (List.Mem.tail _ (List.Mem.tail _ (List.Mem.head _))))))))) (by kernel_rfl)
      have e2 : a.eval (.tmp 25) = .slice ma2 m.held.length mc2 := hw _ (List.Mem.tail _ (List.Mem.tail _ (List.Mem.tail _ (List.Mem.tail _ (List.Mem.tail _ (List.Mem.tail _ (List.Mem.tail _ (List.Mem.tail _ (List.Mem.tail _ (List.Mem.tail _ (List.Mem.head _))))))))))) (by kernel_rfl)
      exact job_copy elSet (.tmp 23) (.tmp 25) rfl rfl hS e1 m1 ma2 m.held.length mc2 (u8v m.held) e2 (hmW.out wq hS.bel).r2 hN2 (by omega) (by decide) (fun v w' bs' hS' hbb hR hf => hK _ _ _ _ hS' hbb (fun _ h => h) hR (fun _ => hf))
    · refine ⟨_, rfl, rfl, fun a wq bs rs K hag hS hb0 hr0 hw hne hK => ?_⟩
      have r0 : RowJ 3 m.base.length (iv m.base) (a.eval (.tmp 18)) bs := hw _ (List.Mem.tail _ (List.Mem.tail _ (List.Mem.tail _ (List.Mem.head _)))) (by kernel_rfl)
      have r1 : RowJ 3 m.next.length (iv m.next) (a.eval (.tmp 22)) bs := hw _ (List.Mem.tail _ (List.Mem.tail _ (List.Mem.tail _ (List.Mem.tail _ (List.Mem.tail _ (List.Mem.tail _ (List.Mem.tail _ (List.Mem.head _)))))))) (by kernel_rfl)
      have r2 : RowJ 84 m.held.length (u8v m.held) (a.eval (.tmp 26)) bs := hw _ (List.Mem.tail _ (List.Mem.tail _ (List.Mem.tail _ (List.Mem.tail _ (List.Mem.tail _ (List.Mem.tail _ (List.Mem.tail _ (List.Mem.tail _ (List.Mem.tail _ (List.Mem.tail _ (List.Mem.tail _ (List.Mem.head _)))))))))))) (by kernel_rfl)
      have d01 := hne _ (List.Mem.tail _ (List.Mem.tail _ (List.Mem.tail _ (List.Mem.head _)))) _ (List.Mem.tail _ (List.Mem.tail _ (List.Mem.tail _ (List.Mem.tail _ (List.Mem.tail _ (List.Mem.tail _ (List.Mem.tail _ (List.Mem.head _)))))))) (by kernel_rfl) (by kernel_rfl) rfl rfl (by show (3 : Nat) ≠ 7; decide)
      have d02 := hne _ (List.Mem.tail _ (List.Mem.tail _ (List.Mem.tail _ (List.Mem.head _)))) _ (List.Mem.tail _ (List.Mem.tail _ (List.Mem.tail _ (List.Mem.tail _ (List.Mem.tail _ (List.Mem.tail _ (List.Mem.tail _ (List.Mem.tail _ (List.Mem.tail _ (List.Mem.tail _ (List.Mem.tail _ (List.Mem.head _)))))))))))) (by kernel_rfl) (by kernel_rfl) rfl rfl (by show (3 : Nat) ≠ 11; decide)
      have d12 := hne _ (List.Mem.tail _ (List.Mem.tail _ (List.Mem.tail _ (List.Mem.tail _ (List.Mem.tail _ (List.Mem.tail _ (List.Mem.tail _ (List.Mem.head _)))))))) _ (List.Mem.tail _ (List.Mem.tail _ (List.Mem.tail _ (List.Mem.tail _ (List.Mem.tail _ (List.Mem.tail _ (List.Mem.tail _ (List.Mem.tail _ (List.Mem.tail _ (List.Mem.tail _ (List.Mem.tail _ (List.Mem.head _)))))))))))) (by kernel_rfl) (by kernel_rfl) rfl rfl (by show (7 : Nat) ≠ 11; decide)
      dsimp only at d01 d02 d12
      obtain ⟨u0, h0⟩ : ∃ u, a.eval (.tmp 18) = u := ⟨_, rfl⟩
      obtain ⟨u1, h1⟩ : ∃ u, a.eval (.tmp 22) = u := ⟨_, rfl⟩
      obtain ⟨u2, h2⟩ : ∃ u, a.eval (.tmp 26) = u := ⟨_, rfl⟩
      rw [h0] at r0 d01 d02
      rw [h1] at r1 d01 d12
      rw [h2] at r2 d02 d12
      have e0 := eval_raw h0
      have e1 := eval_raw h1
      have e2 := eval_raw h2
      have hT := Lib.hid (show triN m (.agg #[u0, u1, u2]) bs rs from ⟨u0, u1, u2, rfl, r0, r1, r2, d01, d02, d12⟩)
      obtain ⟨g0, c0, cs0, rfl, -⟩ := r0
      obtain ⟨g1, c1, cs1, rfl, -⟩ := r1
      obtain ⟨g2, c2, cs2, rfl, -⟩ := r2
      clear hag hw hb0 hr0 hne d01 d02 d12 h0 h1 h2
      replace hS := Lib.hid hS
      replace hK := Lib.hid hK
      go_simp
      exact hK.out _ _ _ _ hS.out (fun _ h => h) (fun _ h => h) hT.out (fun h => by cases h)
    · refine ⟨_, rfl, rfl, fun a wq bs rs K hag hS hb0 hr0 hw hne hK => ?_⟩
      clear hag hw hb0 hr0 hne
      replace hS := Lib.hid hS
      replace hK := Lib.hid hK
      go_simp
      exact hK.out _ _ _ _ (hS.out.box 56 [.slice none 0 0, .slice none 0 0, .slice none 0 0]) (fun _ h => List.mem_cons_of_mem _ h) (fun _ h => h) ⟨_, rfl, List.mem_cons_self ..⟩ (fun _ => boxN.fresh hS.out)
  case hrest =>
    subst hJ
    intro f w2 bs rs S2 hb0 hr0 hN hne
    obtain ⟨u0, u1, u2, e27, R0, R1, R2, d01, d02, d12⟩ := hN _ (List.Mem.tail _ (List.Mem.tail _ (List.Mem.tail _ (List.Mem.tail _ (List.Mem.tail _ (List.Mem.tail _ (List.Mem.tail _ (List.Mem.tail _ (List.Mem.tail _ (List.Mem.tail _ (List.Mem.tail _ (List.Mem.tail _ (List.Mem.head _)))))))))))))
    obtain ⟨gB, e8, mB⟩ := hN _ (List.Mem.tail _ (List.Mem.tail _ (List.Mem.tail _ (List.Mem.tail _ (List.Mem.tail _ (List.Mem.tail _ (List.Mem.tail _ (List.Mem.tail _ (List.Mem.tail _ (List.Mem.tail _ (List.Mem.tail _ (List.Mem.tail _ (List.Mem.tail _ (List.Mem.head _))))))))))))))
    replace e27 : f 27 = .agg #[u0, u1, u2] := e27
    replace e8 : f 8 = .pointer (some ⟨gB, 0, none⟩) := e8
    clear hN hne hb0 hr0
    obtain ⟨X15, x15⟩ : ∃ x, f 15 = x := ⟨_, rfl⟩
    obtain ⟨X16, x16⟩ : ∃ x, f 16 = x := ⟨_, rfl⟩
    obtain ⟨X17, x17⟩ : ∃ x, f 17 = x := ⟨_, rfl⟩
    obtain ⟨X18, x18⟩ : ∃ x, f 18 = x := ⟨_, rfl⟩
    obtain ⟨X19, x19⟩ : ∃ x, f 19 = x := ⟨_, rfl⟩
    obtain ⟨X20, x20⟩ : ∃ x, f 20 = x := ⟨_, rfl⟩
    obtain ⟨X21, x21⟩ : ∃ x, f 21 = x := ⟨_, rfl⟩
    obtain ⟨X22, x22⟩ : ∃ x, f 22 = x := ⟨_, rfl⟩
    obtain ⟨X23, x23⟩ : ∃ x, f 23 = x := ⟨_, rfl⟩
    obtain ⟨X24, x24⟩ : ∃ x, f 24 = x := ⟨_, rfl⟩
    obtain ⟨X25, x25⟩ : ∃ x, f 25 = x := ⟨_, rfl⟩
    obtain ⟨X26, x26⟩ : ∃ x, f 26 = x := ⟨_, rfl⟩
    simp only [List.foldl_cons, List.foldl_nil, List.drop_succ_cons, List.drop_zero, e27, e8, x15, x16, x17, x18, x19, x20, x21, x22, x23, x24, x25, x26]
    clear e27 e8 x15 x16 x17 x18 x19 x20 x21 x22 x23 x24 x25 x26
    replace R0 : RowJ 3 m.base.length (iv m.base) u0 bs := R0
    replace R1 : RowJ 3 m.next.length (iv m.next) u1 bs := R1
    replace R2 : RowJ 84 m.held.length (u8v m.held) u2 bs := R2
    have k0 := RowJ.ne S2 R0 mB (by decide)
    have k1 := RowJ.ne S2 R1 mB (by decide)
    have k2 := RowJ.ne S2 R2 mB (by decide)
    obtain ⟨A0, c0, rfl, o0⟩ := RowJ.own S2 R0
    obtain ⟨A1, c1, rfl, o1⟩ := RowJ.own S2 R1
    obtain ⟨A2, c2, rfl, o2⟩ := RowJ.own S2 R2
    have ha2 : AO w2 W.heap.size m ⟨A0, c0, A1, c1, A2, c2⟩ := ⟨o0, o1, o2, d01, d02, d12⟩
    have hgB : W.heap.size ≤ gB := S2.lo _ mB
    have hwB : Whole w2 gB 56 [.slice none 0 0, .slice none 0 0, .slice none 0 0].toArray := allB_at S2.bx _ mB
    have SB := SW.out.newbox S2.bel hwB hgB
    have S3 := Lib.hid (((SB.set 0 rfl 0 (.slice A0 m.base.length c0)).set 0 rfl 1 (.slice A1 m.next.length c1)).set 0 rfl 2 (.slice A2 m.held.length c2))
    have ha3 := Lib.hid (((ha2.else_ (i := 0) k0 k1 k2 (.slice A0 m.base.length c0)).else_ (i := 1) k0 k1 k2 (.slice A1 m.next.length c1)).else_ (i := 2) k0 k1 k2 (.slice A2 m.held.length c2))
    replace k0 := Lib.hid k0
    replace k1 := Lib.hid k1
    replace k2 := Lib.hid k2
    obtain ⟨⟨xB, fB, xB0, xB1, xB2, -⟩, -⟩ := SB.facts
    have hB3 := Lib.hid (((S2.bel.setCell (p := ⟨gB, 0, none⟩) hgB (.slice A0 m.base.length c0)).setCell (p := ⟨gB, 1, none⟩) hgB (.slice A1 m.next.length c1)).setCell (p := ⟨gB, 2, none⟩) hgB (.slice A2 m.held.length c2))
    clear R0 R1 R2 o0 o1 o2 d01 d02 d12 ha2 hwB SB S2 mB n0 n1 n2 r1 f1 r10 r11 r12 r2 f2 r20 r21 r22 zm1 f3 r4 f4 r40 r41 r42 r43
    go_upto_region 2 with fail
    generalize hW3 : ((w2.setCell ⟨gB, 0, none⟩ (.slice A0 m.base.length c0)).setCell ⟨gB, 1, none⟩ (.slice A1 m.next.length c1)).setCell ⟨gB, 2, none⟩ (.slice A2 m.held.length c2) = W3 at S3 ha3 hB3 ⊢
    have hgn : ∀ n, n < 4 → ¬ gB = w.heap.size + n := fun n hn => by omega
    have RS : RSt w W gB [⟨w.heap.size + 1 + 1 + 1, 56, [.slice none 0 0, .slice none 0 0, .slice none 0 0]⟩, ⟨w.heap.size + 1 + 1, 63, [.int .i64 kd, .int .i64 ix, .int .i64 v]⟩, ⟨w.heap.size + 1, 56, [.slice ma0 m.base.length mc0, .slice ma1 m.next.length mc1, .slice ma2 m.held.length mc2]⟩, ⟨w.heap.size, 39, [.slice qa0 p.vs.length qc0, .slice qa1 p.now.length qc1, .slice qa2 p.tgt.length qc2, .slice qa3 p.tabs.length qc3]⟩] m ⟨A0, c0, A1, c1, A2, c2⟩ W3 := ⟨S3.out, (fun x hx => by
      simp only [List.mem_cons, List.not_mem_nil, or_false] at hx
      rcases hx with rfl | rfl | rfl | rfl
      · show w.heap.size + 1 + 1 + 1 < _; omega
      · show w.heap.size + 1 + 1 < _; omega
      · show w.heap.size + 1 < _; omega
      · show w.heap.size < _; omega), ha3.out, k0.out, k1.out, k2.out, hB3.out, by omega⟩
    clear xB fB xB0 xB1 xB2 S3 ha3 hB3 k0 k1 k2 hgn hW3
    replace RS := Lib.hid RS
    obtain ⟨⟨xB, fB, xB0, xB1, xB2, -⟩, ⟨r1, f1, r10, r11, r12, -⟩, ⟨r2, f2, r20, r21, r22, -⟩, ⟨r3, f3, r30, r31, r32, -⟩, ⟨r4, f4, r40, r41, r42, r43, -⟩, -⟩ := RS.out.fm.facts
    unfold spB at hs
    have hs := of_decide_eq_true hs
    unfold existsB at he
    dsimp only at hs he
    obtain ⟨hs1, hs2, hs3, hs4, hs5⟩ := hs
    obtain ⟨i, rfl⟩ : ∃ i : Nat, ix = (i : Int) := ⟨ix.toNat, by omega⟩
    rw [Int.toNat_natCast] at he
    have hne4 : ∀ n, n = w.heap.size ∨ n = w.heap.size + 1 ∨ n = w.heap.size + 1 + 1 ∨ n = w.heap.size + 1 + 1 + 1 → ¬ gB = n := fun n hn => by omega
    cases hk1 : (kd == 1) with
    | true =>
      have hkk := beq_iff_eq.1 hk1
      subst hkk
      have he1 : (i : Int) < (p.vs.length : Int) ∧ v < gi p.vs i := by simpa using he
      have hil : i < p.vs.length := by omega
      have jn' : i < m.next.length := by have := ln.out; omega
      have jb' : i < m.base.length := by have := lb.out; omega
      have jn : (i : Int) < (m.next.length : Int) := by omega
      have jb : (i : Int) < (m.base.length : Int) := by omega
      have haft : aft p m ⟨1, (i : Int), v⟩ = if 0 ≤ gi m.next i ∨ gi m.base i = v then none else some { m with next := m.next.set i v, held := heldS p m (i : Int) v } := by
        unfold aft
        simp
      obtain ⟨bn, on, e1, hbn, hcn⟩ := (hmW.out W (Below.refl _ _)).r1 (by omega)
      obtain ⟨bb, ob, e0, hbb, hcb⟩ := (hmW.out W (Below.refl _ _)).r0 (by omega)
      have dn := (RS.out.bel.cell (p := ⟨bn, on + i, none⟩) hbn).trans (hcn i jn')
      have db := (RS.out.bel.cell (p := ⟨bb, ob + i, none⟩) hbb).trans (hcb i jb')
      unfold iv at dn db
      dsimp only at e0 e1
      subst e0 e1
      have hWs := RS.out.bel.size
      have hbn3 : bn < W3.heap.size := by omega
      have hbb3 : bb < W3.heap.size := by omega
      have vv := vs_le hok.pr hil
      have h8' := Lib.hid h8
      clear hcn hcb he hs1 hs2 hs5 hne4
      obtain ⟨x, hx⟩ : ∃ x, gi m.next i = x := ⟨_, rfl⟩
      obtain ⟨y, hy⟩ : ∃ y, gi m.base i = y := ⟨_, rfl⟩
      rw [hx] at dn haft
      rw [hy] at db haft
      cases hnx : decide (0 ≤ x) with
      | true =>
        rw [if_pos (Or.inl (of_decide_eq_true hnx))] at haft
        have hab := Lib.hid (aftB_none haft)
        replace haft := Lib.hid haft
        go_wp2_with fail
        refine wp_region_quiet_lit (by kernel_rfl) (by kernel_rfl) ?_
        repeat (go_big_quiet_step (fail))
        refine wpQuiet_nil ?_
        intro w5 hw5
        have hd5 : Drawn W3 w5 := hw5
        have RD := Lib.hid (RS.out.to hd5.below)
        clear hw5 hd5 dn db xB fB xB0 xB1 xB2 r1 f1 r10 r11 r12 r2 f2 r20 r21 r22 r3 f3 r30 r31 r32 r4 f4 r40 r41 r42 r43
        obtain ⟨⟨xB, fB, xB0, xB1, xB2, -⟩, ⟨r1, f1, r10, r11, r12, -⟩, ⟨r2, f2, r20, r21, r22, -⟩, ⟨r3, f3, r30, r31, r32, -⟩, ⟨r4, f4, r40, r41, r42, r43, -⟩, -⟩ := RD.out.fm.facts
        have S4 := Lib.hid (((RD.out.fm.set 1 rfl 0 (.slice none 0 0)).set 1 rfl 1 (.slice none 0 0)).set 1 rfl 2 (.slice none 0 0))
        go_wp2
        clear xB fB xB0 xB1 xB2 r1 f1 r10 r11 r12 r2 f2 r20 r21 r22 r3 f3 r30 r31 r32 r4 f4 r40 r41 r42 r43
        obtain ⟨-, ⟨r1, f1, r10, r11, r12, -⟩, -⟩ := S4.out.facts
        refine bodyPost_ret (v := .tuple #[.agg #[.slice none 0 0, .slice none 0 0, .slice none 0 0], .bool false]) (by simp [results, Try.results51, go_sem, r10, r11, r12]) rfl ?_
        exact Ret.mk ⟨S4.out.bel, mx0, ⟨none, 0, none, 0, none, 0⟩, by rw [hab.out]; rfl, fun x' hx => by rw [haft.out] at hx; cases hx⟩
      | false =>
        cases hv : (v == y) with
        | true =>
          rw [if_pos (Or.inr (beq_iff_eq.1 hv).symm)] at haft
          have hab := Lib.hid (aftB_none haft)
          replace haft := Lib.hid haft
          go_wp2_with fail
          refine wp_region_quiet_lit (by kernel_rfl) (by kernel_rfl) ?_
          repeat (go_big_quiet_step (fail))
          refine wpQuiet_nil ?_
          intro w5 hw5
          have hd5 : Drawn W3 w5 := hw5
          have RD := Lib.hid (RS.out.to hd5.below)
          clear hw5 hd5 dn db xB fB xB0 xB1 xB2 r1 f1 r10 r11 r12 r2 f2 r20 r21 r22 r3 f3 r30 r31 r32 r4 f4 r40 r41 r42 r43
          obtain ⟨⟨xB, fB, xB0, xB1, xB2, -⟩, ⟨r1, f1, r10, r11, r12, -⟩, ⟨r2, f2, r20, r21, r22, -⟩, ⟨r3, f3, r30, r31, r32, -⟩, ⟨r4, f4, r40, r41, r42, r43, -⟩, -⟩ := RD.out.fm.facts
          have S4 := Lib.hid (((RD.out.fm.set 1 rfl 0 (.slice none 0 0)).set 1 rfl 1 (.slice none 0 0)).set 1 rfl 2 (.slice none 0 0))
          go_wp2
          clear xB fB xB0 xB1 xB2 r1 f1 r10 r11 r12 r2 f2 r20 r21 r22 r3 f3 r30 r31 r32 r4 f4 r40 r41 r42 r43
          obtain ⟨-, ⟨r1, f1, r10, r11, r12, -⟩, -⟩ := S4.out.facts
          refine bodyPost_ret (v := .tuple #[.agg #[.slice none 0 0, .slice none 0 0, .slice none 0 0], .bool false]) (by simp [results, Try.results51, go_sem, r10, r11, r12]) rfl ?_
          exact Ret.mk ⟨S4.out.bel, mx0, ⟨none, 0, none, 0, none, 0⟩, by rw [hab.out]; rfl, fun x' hx => by rw [haft.out] at hx; cases hx⟩
        | false =>
          rw [if_neg (fun h => h.elim (fun h => by rw [decide_eq_true h] at hnx; cases hnx) (fun h => by rw [beq_iff_eq.2 h.symm] at hv; cases hv))] at haft
          have hab := Lib.hid (aftB_some haft)
          replace haft := Lib.hid haft
          go_wp2_with fail
          refine wp_region_quiet_lit (by kernel_rfl) (by kernel_rfl) ?_
          repeat (go_big_quiet_step (fail))
          refine wpQuiet_nil ?_
          intro w5 hw5
          have hd5 : Drawn W3 w5 := hw5
          have RD := Lib.hid (RS.out.to hd5.below)
          clear hw5 hd5 dn db xB fB xB0 xB1 xB2 r1 f1 r10 r11 r12 r2 f2 r20 r21 r22 r3 f3 r30 r31 r32 r4 f4 r40 r41 r42 r43
          obtain ⟨⟨xB, fB, xB0, xB1, xB2, -⟩, ⟨r1, f1, r10, r11, r12, -⟩, ⟨r2, f2, r20, r21, r22, -⟩, ⟨r3, f3, r30, r31, r32, -⟩, ⟨r4, f4, r40, r41, r42, r43, -⟩, -⟩ := RD.out.fm.facts
          obtain ⟨g1, e1, q1, gB1, gl1, gf1, gc1, gs1⟩ := RD.out.set1 (i := i) jn'
          dsimp only at e1
          subst e1
          have R1 := Lib.hid (gs1 v)
          have j1 : ¬ gB = g1 := q1
          have j2 : ¬ g1 = gB := fun h => q1 h.symm
          clear gs1 hnx hv
          go_wp2
          go_loopw [10] (fun s10 wr => ∃ k : Nat, s10 = .int .i64 k ∧ k ≤ p.tabs.length ∧ RSt w W gB [⟨w.heap.size + 1 + 1 + 1, 56, [.slice none 0 0, .slice none 0 0, .slice none 0 0]⟩, ⟨w.heap.size + 1 + 1, 63, [.int .i64 1, .int .i64 (i : Int), .int .i64 v]⟩, ⟨w.heap.size + 1, 56, [.slice (some ⟨bb, ob, none⟩) m.base.length mc0, .slice (some ⟨bn, on, none⟩) m.next.length mc1, .slice ma2 m.held.length mc2]⟩, ⟨w.heap.size, 39, [.slice qa0 p.vs.length qc0, .slice qa1 p.now.length qc1, .slice qa2 p.tgt.length qc2, .slice qa3 p.tabs.length qc3]⟩] (mixN p m i v k) ⟨A0, c0, some ⟨g1, 0, none⟩, c1, A2, c2⟩ wr) (fun s10 _ => p.tabs.length - (intOf s10).toNat)
          case atStart => exact ⟨0, rfl, Nat.zero_le _, by rw [mixN_0]; exact R1.out⟩
          case round =>
            clear R1
            obtain ⟨k, rfl, hk, T⟩ := hrel
            replace T := Lib.hid T
            obtain ⟨⟨xB, fB, xB0, xB1, xB2, -⟩, ⟨r1, f1, r10, r11, r12, -⟩, ⟨r2, f2, r20, r21, r22, -⟩, ⟨r3, f3, r30, r31, r32, -⟩, ⟨r4, f4, r40, r41, r42, r43, -⟩, -⟩ := T.out.fm.facts
            rw [mixN_hlen] at xB2
            rw [mixN_nlen] at xB1
            replace xB0 : wr.cell? ⟨gB, 0, none⟩ = some (.slice A0 m.base.length c0) := xB0
            by_cases hlt : k < p.tabs.length
            · obtain ⟨qt, hq1, hq2⟩ := (hpW.out wr T.out.bel).r3
              obtain ⟨b3, o3, e3, hb3, hc3⟩ := hq1 (by omega)
              dsimp only at e3
              subst e3
              obtain ⟨t0, t1, t2, t3, t4, t5⟩ := tab_cells (hc3 k hlt)
              have jk : (k : Int) < (p.tabs.length : Int) := by omega
              have jh' : k < m.held.length := by have := lh.out; omega
              have jh : (k : Int) < (m.held.length : Int) := by omega
              have hgk := h8_hd h8'.out jh'
              have hH := hd_lt hok hlt
              have hp12 := hps.out.2.1
              clear hc3 hq1 hq2
              have HS := Lib.hid (rstored_any (tab p.tabs k) (qt k) wr)
              unfold tabV at HS
              cases hsrc : ((tab p.tabs k).src == (i : Int)) with
              | false =>
                have hsk := Lib.hid (mixN_skip (p := p) (m := m) (i := i) (v := v) (K := k) (fun h => by rw [beq_iff_eq.2 h.1] at hsrc; cases hsrc))
                clear hgk hH
                go_wp2
                go_roundw
                case rel => exact ⟨k + 1, by go_num, by omega, by rw [hsk.out]; exact T.out⟩
                case measure => simp [intOf]; omega
              | true =>
                have hsrc' := Lib.hid (beq_iff_eq.1 hsrc)
                cases hkd : stB (tab p.tabs k).kind with
                | false =>
                  have hsk := Lib.hid (mixN_skip (p := p) (m := m) (i := i) (v := v) (K := k) (fun h => by have := h.2; unfold Go.Sv.stored at this; rw [hkd] at this; cases this))
                  rw [hkd] at HS
                  clear hgk hH hkd
                  go_wp2_with (go_at_call 30; with_reducible refine HS.out.mono ?_; rintro e w6 ⟨rfl, hb6⟩)
                  go_roundw
                  case rel => exact ⟨k + 1, by go_num, by omega, by rw [hsk.out]; exact T.out.to hb6⟩
                  case measure => simp [intOf]; omega
                | true =>
                  have htk := Lib.hid (mixN_take (p := p) (m := m) (i := i) (v := v) (K := k) jh' ⟨hsrc'.out, hkd⟩)
                  rw [hkd] at HS
                  clear hkd
                  go_wp2_with (go_at_call 30; with_reducible refine HS.out.mono ?_; rintro e w6 ⟨rfl, hb6⟩)
                  have U3 := Lib.hid (T.out.to hb6)
                  clear xB fB xB0 xB1 xB2 r1 f1 r10 r11 r12 r2 f2 r20 r21 r22 r3 f3 r30 r31 r32 r4 f4 r40 r41 r42 r43
                  clear t0 t1 t2 t3 t4 t5 hb6
                  obtain ⟨⟨xB, fB, xB0, xB1, xB2, -⟩, ⟨r1, f1, r10, r11, r12, -⟩, ⟨r2, f2, r20, r21, r22, -⟩, ⟨r3, f3, r30, r31, r32, -⟩, ⟨r4, f4, r40, r41, r42, r43, -⟩, -⟩ := U3.out.fm.facts
                  obtain ⟨g2, e2, q2, gB2, gl2, gf2, gc2, gs2⟩ := U3.out.set2 (i := k) (by rw [mixN_hlen]; exact jh')
                  rw [mixN_held jh', hgk] at gc2
                  rw [mixN_hlen] at xB2
                  rw [mixN_nlen] at xB1
                  dsimp only at e2
                  subst e2
                  obtain ⟨H, hHe⟩ : ∃ H, hd m k = H := ⟨_, rfl⟩
                  rw [hHe] at gc2 hH htk
                  clear hHe hgk
                  have w1' := shl8' hs4 (show v < 8 by omega)
                  have w2' := or8h hH (show v.toNat < 8 by omega)
                  have j8 : v ≤ 8 := by omega
                  have i1 : ¬ gB = g2 := q2
                  have i2 : ¬ g2 = gB := fun h => q2 h.symm
                  have i3 : ¬ w.heap.size + 1 + 1 = g2 := by omega
                  have i4 : ¬ g2 = w.heap.size + 1 + 1 := by omega
                  clear gs2
                  go_wp2_with fail
                  go_region_law ((fail))
                  all_goals (try go_wp2)
                  all_goals go_roundw
                  all_goals first
                    | exact ⟨k + 1, by go_num, by omega, by rw [htk.out]; exact U3.out.put2 ((Drawn.refl _).drewN _) (by rw [mixN_hlen]; exact jh') rfl _⟩
                    | (simp [intOf]; omega)
            · obtain rfl : k = p.tabs.length := by omega
              clear hlt
              have S4 := Lib.hid (((T.out.fm.set 1 rfl 0 (.slice A0 m.base.length c0)).set 1 rfl 1 (.slice (some ⟨g1, 0, none⟩) m.next.length c1)).set 1 rfl 2 (.slice A2 m.held.length c2))
              have hA4 := Lib.hid (T.out.ao.far3 (g := w.heap.size + 1 + 1 + 1) (by omega) (.slice A0 m.base.length c0) (.slice (some ⟨g1, 0, none⟩) m.next.length c1) (.slice A2 m.held.length c2))
              go_wp2
              clear xB fB xB0 xB1 xB2 r1 f1 r10 r11 r12 r2 f2 r20 r21 r22 r3 f3 r30 r31 r32 r4 f4 r40 r41 r42 r43
              obtain ⟨-, ⟨r1, f1, r10, r11, r12, -⟩, -⟩ := S4.out.facts
              refine bodyPost_ret (v := .tuple #[.agg #[.slice A0 m.base.length c0, .slice (some ⟨g1, 0, none⟩) m.next.length c1, .slice A2 m.held.length c2], .bool true]) (by simp [results, Try.results51, go_sem, r10, r11, r12]) rfl ?_
              exact Ret.mk ⟨S4.out.bel, mixN p m i v p.tabs.length, ⟨A0, c0, some ⟨g1, 0, none⟩, c1, A2, c2⟩, by rw [hab.out]; dsimp only [mixV]; rw [mixN_hlen, mixN_nlen]; rfl, fun x' hx => by
                rw [haft.out] at hx
                injection hx with hx
                rw [mixN_done]
                subst hx
                exact ⟨rfl, by have := hA4.out.base (B' := w.heap.size) (by omega); rw [mixN_done] at this; exact this⟩⟩
    | false =>
      cases hk3 : (kd == 3) with
      | true =>
        have hkk := beq_iff_eq.1 hk3
        subst hkk
        have hlt : i < p.tabs.length := by
          have : (i : Int) < (p.tabs.length : Int) := by simpa using he
          omega
        have haft := aft_clear (p := p) (m := m) (s := ⟨3, (i : Int), v⟩) rfl
        rw [show (⟨3, (i : Int), v⟩ : Sp).ix.toNat = i from Int.toNat_natCast i] at haft
        have F := tab_facts hok.pr hlt
        obtain ⟨s, hsr⟩ : ∃ s : Nat, (tab p.tabs i).src = (s : Int) := ⟨(tab p.tabs i).src.toNat, by have := F.s0; omega⟩
        have hst : (tab p.tabs i).src.toNat = s := by omega
        have hsv : s < p.vs.length := by have := F.s1; omega
        have hRw := fun hs h => rewB_of (i := i) hok hlt hs h
        have hNo := fun (u : Nat) (h1 : (hd m i).testBit u = true) (h2 : (run m (tab p.tabs i).src.toNat).testBit u = false) (h3 : mat (tab p.tabs i).rw u (gi m.base (tab p.tabs i).src.toNat).toNat = false) (hr : rewB p m i) => (show False by have := hr u h1 h2; rw [h3] at this; cases this)
        have rl := F.rl
        have rm := F.rm
        rw [hst] at haft hRw hNo rl rm
        obtain ⟨s0, s1, s2, s3, -⟩ := hok.sv s hsv
        have vv := vs_le hok.pr hsv
        have jh' : i < m.held.length := by have := lh.out; omega
        have jh : (i : Int) < (m.held.length : Int) := by omega
        have jb' : s < m.base.length := by have := lb.out; omega
        have jb : (s : Int) < (m.base.length : Int) := by omega
        have jn' : s < m.next.length := by have := ln.out; omega
        have jk : (i : Int) < (p.tabs.length : Int) := by omega
        have jsv : (s : Int) < (p.vs.length : Int) := by omega
        have hgk := h8_hd h8 jh'
        have hH := hd_lt hok hlt
        have hR8 := run_lt hok hsv
        obtain ⟨qt, hq1, hq2⟩ := (hpW.out W (Below.refl _ _)).r3
        obtain ⟨b3, o3, e3, hb3, hc3⟩ := hq1 (by omega)
        obtain ⟨bv, ov, ev, hbv, hcv⟩ := (hpW.out W (Below.refl _ _)).r0 (by omega)
        obtain ⟨bh, oh, e2, hbh, hch⟩ := (hmW.out W (Below.refl _ _)).r2 (by omega)
        obtain ⟨bb, ob, e0, hbb, hcb⟩ := (hmW.out W (Below.refl _ _)).r0 (by omega)
        have RN := Lib.hid (fun W2 (h : Below W.heap.size W W2) => rrun_any m ⟨ma0, mc0, ma1, mc1, ma2, mc2⟩ s W2 (hmW.out W2 h) jb' jn' s0 (by omega) s2 (by omega))
        obtain ⟨rr, hr1, hr2⟩ := (hq2 i hlt).2
        dsimp only at e3 ev e2 e0 hr1
        subst e3 ev e2 e0
        obtain ⟨t0, t1, t2, t3, t4, t5⟩ := tab_cells (hc3 i hlt)
        have dh := hch i jh'
        have db := hcb s jb'
        have dv := hcv s hsv
        unfold u8v at dh
        unfold iv at db dv
        rw [hgk] at dh
        obtain ⟨T0, hT0⟩ : ∃ x, tab p.tabs i = x := ⟨_, rfl⟩
        rw [hT0] at t0 t1 t2 t3 t4 t5 haft hRw hNo rl rm hr1 hr2 hsr
        obtain ⟨tk, tsrc, td, taw, tok, trw⟩ := T0
        obtain ⟨Q0, hQ0⟩ : ∃ x, qt i = x := ⟨_, rfl⟩
        rw [hQ0] at t4 t5 hr1
        obtain ⟨oA, oC, rA, rC⟩ := Q0
        dsimp only at t0 t1 t2 t3 t4 t5 haft hRw hNo rl rm hr1 hr2 hsr
        subst hsr
        clear hQ0 hT0
        have x0 := (RS.out.bel.cell (p := ⟨b3, o3 + i * 6, none⟩) hb3).trans t0
        have x1 := (RS.out.bel.cell (p := ⟨b3, o3 + i * 6 + 1, none⟩) hb3).trans t1
        have x2 := (RS.out.bel.cell (p := ⟨b3, o3 + i * 6 + 2, none⟩) hb3).trans t2
        have x3 := (RS.out.bel.cell (p := ⟨b3, o3 + i * 6 + 3, none⟩) hb3).trans t3
        have x4 := (RS.out.bel.cell (p := ⟨b3, o3 + i * 6 + 4, none⟩) hb3).trans t4
        have x5 := (RS.out.bel.cell (p := ⟨b3, o3 + i * 6 + 5, none⟩) hb3).trans t5
        have hWs := RS.out.bel.size
        have hb33 : b3 < W3.heap.size := by omega
        obtain ⟨W4, (hW4 : W3.alloc (.cells #[.int .i64 tk, .int .i64 (s : Int), .int .i64 td, .bool taw, .slice oA tok.length oC, .slice rA trw.length rC] 47) = W4), TB, hB4⟩ := fm_boxE (Fm.init W3) 47 [.int .i64 tk, .int .i64 (s : Int), .int .i64 td, .bool taw, .slice oA tok.length oC, .slice rA trw.length rC]
        have R4 := Lib.hid (RS.out.to hB4)
        replace TB := Lib.hid TB
        have HS := Lib.hid (rstored_any ⟨tk, (s : Int), td, taw, tok, trw⟩ ⟨oA, oC, rA, rC⟩ W4)
        unfold tabV at HS
        dsimp only at HS RN
        have jw : w.heap.size < W3.heap.size := by omega
        clear t0 t1 t2 t3 t4 t5 hc3 hcv hch hcb hq1 hq2 he hs1 hs2 hs5 F hne4
        obtain ⟨⟨zT, fT, zT0, zT1, zT2, zT3, zT4, zT5, -⟩, -⟩ := TB.out.facts
        obtain ⟨⟨xB4, fB4, xB04, xB14, xB24, -⟩, ⟨q1, g1, q10, q11, q12, -⟩, ⟨q2, g2, q20, q21, q22, -⟩, ⟨q3, g3, q30, q31, q32, -⟩, ⟨q4, g4, q40, q41, q42, q43, -⟩, -⟩ := R4.out.fm.facts
        cases hkd : stB tk with
        | false =>
          rw [if_pos (Or.inl (show Go.Sv.stored (⟨tk, (s : Int), td, taw, tok, trw⟩ : Tab) = false from hkd))] at haft
          have hab := Lib.hid (aftB_none haft)
          replace haft := Lib.hid haft
          rw [hkd] at HS
          clear hkd hRw rl rm
          go_wp2_with fail
          clear hW4
          with_reducible refine HS.out.mono ?_
          rintro e w6 ⟨rfl, hb6⟩
          have R6 := Lib.hid (R4.out.to hb6)
          clear xB fB xB0 xB1 xB2 r1 f1 r10 r11 r12 r2 f2 r20 r21 r22 r3 f3 r30 r31 r32 r4 f4 r40 r41 r42 r43
          clear zT fT zT0 zT1 zT2 zT3 zT4 zT5 xB4 fB4 xB04 xB14 xB24 q1 g1 q10 q11 q12 q2 g2 q20 q21 q22 q3 g3 q30 q31 q32 q4 g4 q40 q41 q42 q43 x0 x1 x2 x3 x4 x5 hb6
          obtain ⟨⟨xB, fB, xB0, xB1, xB2, -⟩, ⟨r1, f1, r10, r11, r12, -⟩, ⟨r2, f2, r20, r21, r22, -⟩, ⟨r3, f3, r30, r31, r32, -⟩, ⟨r4, f4, r40, r41, r42, r43, -⟩, -⟩ := R6.out.fm.facts
          have S4 := Lib.hid (((R6.out.fm.set 1 rfl 0 (.slice none 0 0)).set 1 rfl 1 (.slice none 0 0)).set 1 rfl 2 (.slice none 0 0))
          go_wp2
          clear xB fB xB0 xB1 xB2 r1 f1 r10 r11 r12 r2 f2 r20 r21 r22 r3 f3 r30 r31 r32 r4 f4 r40 r41 r42 r43
          obtain ⟨-, ⟨r1, f1, r10, r11, r12, -⟩, -⟩ := S4.out.facts
          refine bodyPost_ret (v := .tuple #[.agg #[.slice none 0 0, .slice none 0 0, .slice none 0 0], .bool false]) (by simp [results, Try.results51, go_sem, r10, r11, r12]) rfl ?_
          exact Ret.mk ⟨S4.out.bel, mx0, ⟨none, 0, none, 0, none, 0⟩, by rw [hab.out]; rfl, fun x' hx => by rw [haft.out] at hx; cases hx⟩
        | true =>
          rw [hkd] at HS
          have hkd' : Hid (Go.Sv.stored (⟨tk, (s : Int), td, taw, tok, trw⟩ : Tab) = true) := Lib.hid hkd
          clear hkd
          go_wp2_with fail
          clear hW4
          with_reducible refine HS.out.mono ?_
          rintro e w6 ⟨rfl, hb6⟩
          have R6 := Lib.hid (R4.out.to hb6)
          have T6 := Lib.hid (TB.out.call hb6)
          clear xB fB xB0 xB1 xB2 r1 f1 r10 r11 r12 r2 f2 r20 r21 r22 r3 f3 r30 r31 r32 r4 f4 r40 r41 r42 r43
          clear zT fT zT0 zT1 zT2 zT3 zT4 zT5 xB4 fB4 xB04 xB14 xB24 q1 g1 q10 q11 q12 q2 g2 q20 q21 q22 q3 g3 q30 q31 q32 q4 g4 q40 q41 q42 q43 x0 x1 x2 x3 x4 x5 hb6
          obtain ⟨⟨xB, fB, xB0, xB1, xB2, -⟩, ⟨r1, f1, r10, r11, r12, -⟩, ⟨r2, f2, r20, r21, r22, -⟩, ⟨r3, f3, r30, r31, r32, -⟩, ⟨r4, f4, r40, r41, r42, r43, -⟩, -⟩ := R6.out.fm.facts
          obtain ⟨⟨zT, fT, zT0, zT1, zT2, zT3, zT4, zT5, -⟩, -⟩ := T6.out.facts
          go_wp2_with fail
          with_reducible refine (RN.out w6 R6.out.bel).mono ?_
          rintro e w7 ⟨rfl, hb7⟩
          have R7 := Lib.hid (R6.out.to hb7)
          have T7 := Lib.hid (T6.out.call hb7)
          clear xB fB xB0 xB1 xB2 r1 f1 r10 r11 r12 r2 f2 r20 r21 r22 r3 f3 r30 r31 r32 r4 f4 r40 r41 r42 r43
          clear zT fT zT0 zT1 zT2 zT3 zT4 zT5 hb7
          obtain ⟨⟨xB, fB, xB0, xB1, xB2, -⟩, ⟨r1, f1, r10, r11, r12, -⟩, ⟨r2, f2, r20, r21, r22, -⟩, ⟨r3, f3, r30, r31, r32, -⟩, ⟨r4, f4, r40, r41, r42, r43, -⟩, -⟩ := R7.out.fm.facts
          obtain ⟨⟨zT, fT, zT0, zT1, zT2, zT3, zT4, zT5, -⟩, -⟩ := T7.out.facts
          have y0 := (R7.out.bel.cell (p := ⟨bh, oh + i, none⟩) hbh).trans dh
          have hW7 := R7.out.bel.size
          have hbh7 : bh < w7.heap.size := by omega
          obtain ⟨R, hRe⟩ : ∃ R, run m s = R := ⟨_, rfl⟩
          obtain ⟨H, hHe⟩ : ∃ H, hd m i = H := ⟨_, rfl⟩
          rw [hHe] at y0 hH haft hRw hNo
          rw [hRe] at hR8 haft hRw hNo
          rw [hRe]
          cases hHR : ((H : Int) == (R : Int)) with
          | true =>
            rw [if_pos (Or.inr (Or.inl (by have := beq_iff_eq.1 hHR; omega)))] at haft
            have hab := Lib.hid (aftB_none haft)
            replace haft := Lib.hid haft
            clear hRw rl rm
            have S4 := Lib.hid (((R7.out.fm.set 1 rfl 0 (.slice none 0 0)).set 1 rfl 1 (.slice none 0 0)).set 1 rfl 2 (.slice none 0 0))
            go_wp2
            clear xB fB xB0 xB1 xB2 r1 f1 r10 r11 r12 r2 f2 r20 r21 r22 r3 f3 r30 r31 r32 r4 f4 r40 r41 r42 r43
            obtain ⟨-, ⟨r1, f1, r10, r11, r12, -⟩, -⟩ := S4.out.facts
            refine bodyPost_ret (v := .tuple #[.agg #[.slice none 0 0, .slice none 0 0, .slice none 0 0], .bool false]) (by simp [results, Try.results51, go_sem, r10, r11, r12]) rfl ?_
            exact Ret.mk ⟨S4.out.bel, mx0, ⟨none, 0, none, 0, none, 0⟩, by rw [hab.out]; rfl, fun x' hx => by rw [haft.out] at hx; cases hx⟩
          | false =>
            have hne : ¬ H = R := fun h => by rw [h] at hHR; simp at hHR
            have n0 : 0 ≤ gi p.vs s := by omega
            obtain ⟨n, hn⟩ : ∃ n : Nat, gi p.vs s = (n : Int) := ⟨(gi p.vs s).toNat, by omega⟩
            rw [hn] at dv hRw rl rm vv s1
            have hbv7 : bv < w7.heap.size := by omega
            have y1 := (R7.out.bel.cell (p := ⟨bv, ov + s, none⟩) hbv).trans dv
            have hF := Lib.hid haft
            replace hRw := Lib.hid hRw
            replace hNo := Lib.hid hNo
            obtain ⟨bs, hbs⟩ : ∃ bs : Nat, gi m.base s = (bs : Int) := ⟨(gi m.base s).toNat, by omega⟩
            have hbt : (gi m.base s).toNat = bs := by omega
            rw [hbt] at hRw hNo
            rw [hbs] at db
            have hbbn : bs < n := by omega
            have hdh := dh
            rw [hHe] at hdh
            replace rl := Lib.hid rl
            replace rm := Lib.hid rm
            clear haft
            go_wp2
            go_loopw [13, 14] (fun s13 _ wr => ∃ u : Nat, s13 = .int .i64 u ∧ u ≤ n ∧ (∀ j, j < u → tk = 4 → H.testBit j = true → R.testBit j = false → mat trw j bs = true) ∧ Drawn w7 wr) (fun s13 _ _ => n - (intOf s13).toNat)
            case atStart => exact ⟨0, rfl, Nat.zero_le _, fun j hj => by omega, Drawn.refl _⟩
            case round =>
              clear xB fB xB0 xB1 xB2 r1 f1 r10 r11 r12 r2 f2 r20 r21 r22 r3 f3 r30 r31 r32 r4 f4 r40 r41 r42 r43
              clear zT fT zT0 zT1 zT2 zT3 zT4 zT5 y0 y1
              obtain ⟨u, rfl, hu, hall, hdr⟩ := hrel
              replace hall := Lib.hid hall
              have R8 := Lib.hid (R7.out.to hdr.below)
              have T8 := Lib.hid (T7.out.call hdr.below)
              obtain ⟨⟨xB, fB, xB0, xB1, xB2, -⟩, ⟨r1, f1, r10, r11, r12, -⟩, ⟨r2, f2, r20, r21, r22, -⟩, ⟨r3, f3, r30, r31, r32, -⟩, ⟨r4, f4, r40, r41, r42, r43, -⟩, -⟩ := R8.out.fm.facts
              obtain ⟨⟨zT, fT, zT0, zT1, zT2, zT3, zT4, zT5, -⟩, -⟩ := T8.out.facts
              have y0 := (R8.out.bel.cell (p := ⟨bh, oh + i, none⟩) hbh).trans hdh
              have y1 := (R8.out.bel.cell (p := ⟨bv, ov + s, none⟩) hbv).trans dv
              replace hdr := Lib.hid hdr
              by_cases hun : u < n
              · have ju : (u : Int) < (n : Int) := by omega
                have HA := Lib.hid (fun w => rhas_any H u hH (by omega) w)
                have HB := Lib.hid (fun w => rhas_any R u hR8 (by omega) w)
                have hnx : Hid ((tk = 4 → H.testBit u = true → R.testBit u = false → mat trw u bs = true) → ∀ j, j < u + 1 → tk = 4 → H.testBit j = true → R.testBit j = false → mat trw j bs = true) := Lib.hid fun h j hj => by
                  rcases Nat.lt_succ_iff_lt_or_eq.1 hj with h' | h'
                  · exact hall.out j h'
                  · rw [h']; exact h
                cases hA1 : H.testBit u with
                | false =>
                  have hN1 := Lib.hid (hnx.out (fun _ h => by rw [hA1] at h; cases h))
                  rw [hA1] at HA
                  clear hA1 HB hnx
                  go_wp2_with (first | (go_at_call 77; with_reducible refine (HA.out _).mono ?_; rintro e w6 ⟨rfl, rfl⟩) | (go_at_call 77; with_reducible refine (HB.out _).mono ?_; rintro e w6 ⟨rfl, rfl⟩))
                  refine wp_region_quiet_lit (by kernel_rfl) (by kernel_rfl) ?_
                  repeat (go_big_quiet_step (fail))
                  refine wpQuiet_nil ?_
                  intro w9 hw9
                  have hd9 : Drawn wr w9 := hw9
                  go_wp2
                  go_roundw
                  case rel => exact ⟨u + 1, by go_num, by omega, hN1.out, hdr.out.trans hd9⟩
                  case measure => simp [intOf]; omega
                | true =>
                  rw [hA1] at HA
                  cases hB1 : R.testBit u with
                  | true =>
                    have hN1 := Lib.hid (hnx.out (fun _ _ h => by rw [hB1] at h; cases h))
                    rw [hB1] at HB
                    clear hA1 hB1 hnx
                    go_wp2_with (first | (go_at_call 77; with_reducible refine (HA.out _).mono ?_; rintro e w6 ⟨rfl, rfl⟩) | (go_at_call 77; with_reducible refine (HB.out _).mono ?_; rintro e w6 ⟨rfl, rfl⟩))
                    refine wp_region_quiet_lit (by kernel_rfl) (by kernel_rfl) ?_
                    repeat (go_big_quiet_step (fail))
                    refine wpQuiet_nil ?_
                    intro w9 hw9
                    have hd9 : Drawn wr w9 := hw9
                    go_wp2
                    go_roundw
                    case rel => exact ⟨u + 1, by go_num, by omega, hN1.out, hdr.out.trans hd9⟩
                    case measure => simp [intOf]; omega
                  | false =>
                    rw [hB1] at HB
                    cases hk4 : (tk == 4) with
                    | false =>
                      have hN1 := Lib.hid (hnx.out (fun h => by rw [beq_iff_eq.2 h] at hk4; cases hk4))
                      clear hA1 hB1 hnx
                      go_wp2_with (first | (go_at_call 77; with_reducible refine (HA.out _).mono ?_; rintro e w6 ⟨rfl, rfl⟩) | (go_at_call 77; with_reducible refine (HB.out _).mono ?_; rintro e w6 ⟨rfl, rfl⟩))
                      refine wp_region_quiet_lit (by kernel_rfl) (by kernel_rfl) ?_
                      repeat (go_big_quiet_step (fail))
                      refine wpQuiet_nil ?_
                      intro w9 hw9
                      have hd9 : Drawn wr w9 := hw9
                      go_wp2
                      go_roundw
                      case rel => exact ⟨u + 1, by go_num, by omega, hN1.out, hdr.out.trans hd9⟩
                      case measure => simp [intOf]; omega
                    | true =>
                      have h4 := beq_iff_eq.1 hk4
                      have rl' := rl.out h4
                      have rm' := rm.out h4 u (by omega)
                      obtain ⟨b6, o6, e6, hb6', hc6⟩ := hr1 (by omega)
                      obtain ⟨b7, o7, e7, hb7', hc7⟩ := hr2 u (by omega) (by omega)
                      have d6 := (R8.out.bel.cell (p := ⟨b6, o6 + u, none⟩) hb6').trans (hc6 u (by omega))
                      have d7 := (R8.out.bel.cell (p := ⟨b7, o7 + bs, none⟩) hb7').trans (hc7 bs (by omega))
                      have d8 := (R8.out.bel.cell (p := ⟨bb, ob + s, none⟩) hbb).trans db
                      dsimp only at d6 d7 e6
                      rw [e7] at d6
                      subst e6
                      have ju6 : (u : Int) < (trw.length : Int) := by omega
                      have ju7 : (bs : Int) < (mlen trw u : Int) := by omega
                      have hNo1 := Lib.hid (hNo.out u hA1 hB1)
                      clear hc6 hc7 e7 h4 hA1 hB1 rl' rm'
                      cases hmm : mat trw u bs with
                      | true =>
                        have hN1 := Lib.hid (hnx.out (fun _ _ _ => hmm))
                        rw [hmm] at d7
                        clear hmm hnx
                        go_wp2_with (first | (go_at_call 77; with_reducible refine (HA.out _).mono ?_; rintro e w6 ⟨rfl, rfl⟩) | (go_at_call 77; with_reducible refine (HB.out _).mono ?_; rintro e w6 ⟨rfl, rfl⟩))
                        refine wp_region_quiet_lit (by kernel_rfl) (by kernel_rfl) ?_
                        repeat (go_big_quiet_step (fail))
                        refine wpQuiet_nil ?_
                        intro w9 hw9
                        have hd9 : Drawn wr w9 := hw9
                        go_wp2
                        go_roundw
                        case rel => exact ⟨u + 1, by go_num, by omega, hN1.out, hdr.out.trans hd9⟩
                        case measure => simp [intOf]; omega
                      | false =>
                        have haft := hF.out.trans (if_pos (Or.inr (Or.inr ⟨beq_iff_eq.1 hk4, fun hr => hNo1.out hmm hr⟩)))
                        have hab := Lib.hid (aftB_none haft)
                        replace haft := Lib.hid haft
                        rw [hmm] at d7
                        clear hmm hnx hF hNo1
                        go_wp2_with (first | (go_at_call 77; with_reducible refine (HA.out _).mono ?_; rintro e w6 ⟨rfl, rfl⟩) | (go_at_call 77; with_reducible refine (HB.out _).mono ?_; rintro e w6 ⟨rfl, rfl⟩))
                        refine wp_region_quiet_lit (by kernel_rfl) (by kernel_rfl) ?_
                        repeat (go_big_quiet_step (fail))
                        refine wpQuiet_nil ?_
                        intro w9 hw9
                        have hd9 : Drawn wr w9 := hw9
                        have R9 := Lib.hid (R8.out.to hd9.below)
                        clear xB fB xB0 xB1 xB2 r1 f1 r10 r11 r12 r2 f2 r20 r21 r22 r3 f3 r30 r31 r32 r4 f4 r40 r41 r42 r43 zT fT zT0 zT1 zT2 zT3 zT4 zT5 y0 y1 d6 d7 d8 hw9 hd9
                        obtain ⟨⟨xB, fB, xB0, xB1, xB2, -⟩, ⟨r1, f1, r10, r11, r12, -⟩, ⟨r2, f2, r20, r21, r22, -⟩, ⟨r3, f3, r30, r31, r32, -⟩, ⟨r4, f4, r40, r41, r42, r43, -⟩, -⟩ := R9.out.fm.facts
                        have S4 := Lib.hid (((R9.out.fm.set 1 rfl 0 (.slice none 0 0)).set 1 rfl 1 (.slice none 0 0)).set 1 rfl 2 (.slice none 0 0))
                        go_wp2
                        clear xB fB xB0 xB1 xB2 r1 f1 r10 r11 r12 r2 f2 r20 r21 r22 r3 f3 r30 r31 r32 r4 f4 r40 r41 r42 r43
                        obtain ⟨-, ⟨r1, f1, r10, r11, r12, -⟩, -⟩ := S4.out.facts
                        refine bodyPost_ret (v := .tuple #[.agg #[.slice none 0 0, .slice none 0 0, .slice none 0 0], .bool false]) (by simp [results, Try.results51, go_sem, r10, r11, r12]) rfl ?_
                        exact Ret.mk ⟨S4.out.bel, mx0, ⟨none, 0, none, 0, none, 0⟩, by rw [hab.out]; rfl, fun x' hx => by rw [haft.out] at hx; cases hx⟩
              · obtain rfl : u = n := by omega
                have haft := hF.out.trans (if_neg (not_or.2 ⟨by rw [hkd'.out]; decide, not_or.2 ⟨hne, fun h => h.2 (hRw.out hkd'.out (fun j hj h1 h2 => hall.out j (by omega) h.1 h1 h2))⟩⟩))
                have hab := Lib.hid (aftB_some haft)
                replace haft := Lib.hid haft
                obtain ⟨g2, e2, q2, gB2, gl2, gf2, gc2, gs2⟩ := R8.out.set2 (i := i) jh'
                dsimp only at e2
                subst e2
                have R9 := Lib.hid (gs2 (R : Int))
                have i1 : ¬ gB = g2 := q2
                have i2 : ¬ g2 = gB := fun h => q2 h.symm
                have i3 : ¬ g2 = w.heap.size + 1 + 1 + 1 := by omega
                have i4 : ¬ w.heap.size + 1 + 1 + 1 = g2 := by omega
                have S4 := Lib.hid (((R9.out.fm.set 1 rfl 0 (.slice A0 m.base.length c0)).set 1 rfl 1 (.slice A1 m.next.length c1)).set 1 rfl 2 (.slice (some ⟨g2, 0, none⟩) m.held.length c2))
                have hA4 := Lib.hid (R9.out.ao.far3 (g := w.heap.size + 1 + 1 + 1) (by omega) (.slice A0 m.base.length c0) (.slice A1 m.next.length c1) (.slice (some ⟨g2, 0, none⟩) m.held.length c2))
                clear gs2 hF
                go_wp2
                clear xB fB xB0 xB1 xB2 r1 f1 r10 r11 r12 r2 f2 r20 r21 r22 r3 f3 r30 r31 r32 r4 f4 r40 r41 r42 r43
                obtain ⟨-, ⟨r1, f1, r10, r11, r12, -⟩, -⟩ := S4.out.facts
                refine bodyPost_ret (v := .tuple #[.agg #[.slice A0 m.base.length c0, .slice A1 m.next.length c1, .slice (some ⟨g2, 0, none⟩) m.held.length c2], .bool true]) (by simp [results, Try.results51, go_sem, r10, r11, r12]) rfl ?_
                exact Ret.mk ⟨S4.out.bel, { m with held := m.held.set i (R : Int) }, ⟨A0, c0, A1, c1, some ⟨g2, 0, none⟩, c2⟩, by rw [hab.out]; dsimp only [mixV]; rw [List.length_set], fun x' hx => by
                  rw [haft.out] at hx
                  injection hx with hx
                  subst hx
                  exact ⟨rfl, hA4.out.base (by omega)⟩⟩
      | false =>
        have hne1 : ¬ kd = 1 := fun h => by rw [beq_iff_eq.2 h] at hk1; cases hk1
        have hne3 : ¬ kd = 3 := fun h => by rw [beq_iff_eq.2 h] at hk3; cases hk3
        have hil : i < p.vs.length := by
          rw [if_neg hne3] at he
          have : (i : Int) < (p.vs.length : Int) := by simpa [hne1] using he
          omega
        have jn' : i < m.next.length := by have := ln.out; omega
        have jb' : i < m.base.length := by have := lb.out; omega
        have jn : (i : Int) < (m.next.length : Int) := by omega
        have jb : (i : Int) < (m.base.length : Int) := by omega
        have haft : aft p m ⟨kd, (i : Int), v⟩ = if gi m.next i < 0 then none else if kd = 2 then some { m with base := m.base.set i (gi m.next i), next := m.next.set i (-1) } else some { m with next := m.next.set i (-1) } := by
          unfold aft
          simp [hne1, hne3]
        obtain ⟨bn, on, e1, hbn, hcn⟩ := (hmW.out W3 RS.out.bel).r1 (by omega)
        have dn := hcn i jn'
        unfold iv at dn
        dsimp only at e1
        subst e1
        obtain ⟨bW, oW, eW, hbW, -⟩ := (hmW.out W (Below.refl _ _)).r1 (by omega)
        obtain rfl : bn = bW := by injection eW with e; injection e
        clear hcn eW he hs1 hs2 hs5 hne1 hne3 hne4
        obtain ⟨x, hx⟩ : ∃ x, gi m.next i = x := ⟨_, rfl⟩
        rw [hx] at dn haft
        cases hnx : decide (x < 0) with
        | true =>
          rw [if_pos (of_decide_eq_true hnx)] at haft
          have hab := Lib.hid (aftB_none haft)
          replace haft := Lib.hid haft
          cases hk2 : (kd == 2) with
          | true =>
            have S4 := Lib.hid (((RS.out.fm.set 1 rfl 0 (.slice none 0 0)).set 1 rfl 1 (.slice none 0 0)).set 1 rfl 2 (.slice none 0 0))
            go_wp2
            clear xB fB xB0 xB1 xB2 r1 f1 r10 r11 r12 r2 f2 r20 r21 r22 r3 f3 r30 r31 r32 r4 f4 r40 r41 r42 r43
            obtain ⟨-, ⟨r1, f1, r10, r11, r12, -⟩, -⟩ := S4.out.facts
            refine bodyPost_ret (v := .tuple #[.agg #[.slice none 0 0, .slice none 0 0, .slice none 0 0], .bool false]) (by simp [results, Try.results51, go_sem, r10, r11, r12]) rfl ?_
            exact Ret.mk ⟨S4.out.bel, mx0, ⟨none, 0, none, 0, none, 0⟩, by rw [hab.out]; rfl, fun x' hx => by rw [haft.out] at hx; cases hx⟩
          | false =>
            have S4 := Lib.hid (((RS.out.fm.set 1 rfl 0 (.slice none 0 0)).set 1 rfl 1 (.slice none 0 0)).set 1 rfl 2 (.slice none 0 0))
            go_wp2
            clear xB fB xB0 xB1 xB2 r1 f1 r10 r11 r12 r2 f2 r20 r21 r22 r3 f3 r30 r31 r32 r4 f4 r40 r41 r42 r43
            obtain ⟨-, ⟨r1, f1, r10, r11, r12, -⟩, -⟩ := S4.out.facts
            refine bodyPost_ret (v := .tuple #[.agg #[.slice none 0 0, .slice none 0 0, .slice none 0 0], .bool false]) (by simp [results, Try.results51, go_sem, r10, r11, r12]) rfl ?_
            exact Ret.mk ⟨S4.out.bel, mx0, ⟨none, 0, none, 0, none, 0⟩, by rw [hab.out]; rfl, fun x' hx => by rw [haft.out] at hx; cases hx⟩
        | false =>
          rw [if_neg (of_decide_eq_false hnx)] at haft
          cases hk2 : (kd == 2) with
          | true =>
            rw [if_pos (beq_iff_eq.1 hk2)] at haft
            have hab := Lib.hid (aftB_some haft)
            replace haft := Lib.hid haft
            obtain ⟨g0, e0, q1, gB0, gl0, gf0, gc0, gs0⟩ := RS.out.set0 (i := i) jb'
            obtain ⟨g1, e1, q2, gB1, gl1, gf1, gc1, gs1⟩ := RS.out.set1 (i := i) jn'
            have hd01 := RS.out.ao.d01 g0 (key_pos e0 (by omega))
            have hd : ¬ g0 = g1 := fun h => hd01 (by rw [h]; exact key_pos e1 (by omega))
            dsimp only at e0 e1
            subst e0 e1
            have R2 := Lib.hid ((RS.out.put0 (Drawn.refl W3) jb' rfl x).put1 (Drawn.refl _) jn' rfl (-1))
            have i1 : ¬ gB = g0 := q1
            have i2 : ¬ g0 = gB := fun h => q1 h.symm
            have i3 : ¬ gB = g1 := q2
            have i4 : ¬ g1 = gB := fun h => q2 h.symm
            have i5 : ¬ w.heap.size + 1 = g0 := by omega
            have i6 : ¬ g0 = w.heap.size + 1 := by omega
            have i7 : ¬ w.heap.size + 1 = g1 := by omega
            have i8 : ¬ g1 = w.heap.size + 1 := by omega
            have i9 : ¬ bn = g0 := by omega
            have i10 : ¬ g0 = bn := by omega
            have i11 : ¬ bn = g1 := by omega
            have i12 : ¬ g1 = bn := by omega
            have i13 : ¬ g1 = g0 := fun h => hd h.symm
            clear gs0 gs1 hd01
            go_wp2_with fail
            go_region_held3 (fun w' => w'.cell? ⟨gB, 0, none⟩ = some (.slice (some ⟨g0, 0, none⟩) m.base.length c0) ∧ w'.cell? ⟨gB, 1, none⟩ = some (.slice (some ⟨g1, 0, none⟩) m.next.length c1) ∧ w'.cell? ⟨w.heap.size + 1, 1, none⟩ = some (.slice (some ⟨bn, on, none⟩) m.next.length mc1) ∧ w'.cell? ⟨bn, on + i, none⟩ = some (.int .i64 x)) (go_keep) (fail)
            have S4 := Lib.hid (((R2.out.fm.set 1 rfl 0 (.slice (some ⟨g0, 0, none⟩) m.base.length c0)).set 1 rfl 1 (.slice (some ⟨g1, 0, none⟩) m.next.length c1)).set 1 rfl 2 (.slice A2 m.held.length c2)).drew
            have hA4 := Lib.hid ((R2.out.ao.far3 (g := w.heap.size + 1 + 1 + 1) (by omega) (.slice (some ⟨g0, 0, none⟩) m.base.length c0) (.slice (some ⟨g1, 0, none⟩) m.next.length c1) (.slice A2 m.held.length c2)).to ((Drawn.refl _).drew).below)
            go_wp2
            clear xB fB xB0 xB1 xB2 r1 f1 r10 r11 r12 r2 f2 r20 r21 r22 r3 f3 r30 r31 r32 r4 f4 r40 r41 r42 r43
            obtain ⟨-, ⟨r1, f1, r10, r11, r12, -⟩, -⟩ := S4.out.facts
            refine bodyPost_ret (v := .tuple #[.agg #[.slice (some ⟨g0, 0, none⟩) m.base.length c0, .slice (some ⟨g1, 0, none⟩) m.next.length c1, .slice A2 m.held.length c2], .bool true]) (by simp [results, Try.results51, go_sem, r10, r11, r12]) rfl ?_
            exact Ret.mk ⟨S4.out.bel, { m with base := m.base.set i x, next := m.next.set i (-1) }, ⟨some ⟨g0, 0, none⟩, c0, some ⟨g1, 0, none⟩, c1, A2, c2⟩, by rw [hab.out]; unfold mixV; rw [List.length_set, List.length_set], fun x' hx => by
              rw [haft.out] at hx
              injection hx with hx
              subst hx
              exact ⟨rfl, hA4.out.base (by omega)⟩⟩
          | false =>
            rw [if_neg (fun h => by rw [beq_iff_eq.2 h] at hk2; cases hk2)] at haft
            have hab := Lib.hid (aftB_some haft)
            replace haft := Lib.hid haft
            obtain ⟨g1, e1, j1, gB1, gl1, gf1, gc1, gs1⟩ := RS.out.set1 (i := i) jn'
            dsimp only at e1
            subst e1
            have R1 := Lib.hid (gs1 (-1))
            have j2 : ¬ g1 = gB := fun h => j1 h.symm
            have j1' : ¬ gB = g1 := j1
            have j3 : ¬ w.heap.size + 1 + 1 = g1 := by omega
            have j4 : ¬ w.heap.size + 1 + 1 + 1 = g1 := by omega
            have j5 : ¬ g1 = w.heap.size + 1 + 1 + 1 := by omega
            have S4 := Lib.hid (((R1.out.fm.set 1 rfl 0 (.slice A0 m.base.length c0)).set 1 rfl 1 (.slice (some ⟨g1, 0, none⟩) m.next.length c1)).set 1 rfl 2 (.slice A2 m.held.length c2))
            have hA4 := Lib.hid (R1.out.ao.far3 (g := w.heap.size + 1 + 1 + 1) (by omega) (.slice A0 m.base.length c0) (.slice (some ⟨g1, 0, none⟩) m.next.length c1) (.slice A2 m.held.length c2))
            clear gs1
            go_wp2
            clear xB fB xB0 xB1 xB2 r1 f1 r10 r11 r12 r2 f2 r20 r21 r22 r3 f3 r30 r31 r32 r4 f4 r40 r41 r42 r43
            obtain ⟨-, ⟨r1, f1, r10, r11, r12, -⟩, -⟩ := S4.out.facts
            refine bodyPost_ret (v := .tuple #[.agg #[.slice A0 m.base.length c0, .slice (some ⟨g1, 0, none⟩) m.next.length c1, .slice A2 m.held.length c2], .bool true]) (by simp [results, Try.results51, go_sem, r10, r11, r12]) rfl ?_
            exact Ret.mk ⟨S4.out.bel, { m with next := m.next.set i (-1) }, ⟨A0, c0, some ⟨g1, 0, none⟩, c1, A2, c2⟩, by rw [hab.out]; unfold mixV; rw [List.length_set], fun x' hx => by
              rw [haft.out] at hx
              injection hx with hx
              subst hx
              exact ⟨rfl, hA4.out.base (by omega)⟩⟩
end Go.Proofs.Ytickckehhfdoeaa
namespace Go.Proofs.Ytickckehhfdoeaa
open Go.RowKit Go.Sv
set_option maxHeartbeats 4000000 in
set_option maxRecDepth 100000 in
theorem rapply_any (p : Prob) (q : ProbP) (m : Mx) (qm : MixP) (s : Sp) (w : World) (hp : RProb w w.heap.size p q) (hbd : PBd p) (hm : RMix w w.heap.size m qm) (hmb : MBd m qm) :
    Calls Try.prog 76 #[probV p q, mixV m qm, stepV s] w (Ret (ApR w (ApM p m s) (ApE p m s))) := by
  obtain ⟨W, hW, hsz, S⟩ := pms_boxes p q m qm s w
  have HV := Lib.hid (rvalidM_any p q m qm W (hp.to S.bel) hbd (hm.to S.bel) hmb)
  have HS := Lib.hid (fun W2 => rsvalid_any s W2)
  have SW := Lib.hid S
  have hb0 := hbd.b0
  have hb3' := hbd.b3
  unfold ApM ApE
  by_cases h0 : mixE p m = 0
  · rw [if_pos h0, if_pos h0]
    have hok := mixE_ok.1 h0
    have HA := Lib.hid (fun W2 (h : Below W.heap.size W W2) (hs : spB s = true) (he : existsB p s = true) => rafter_any p q m qm s W2 ((hp.to S.bel).to h) hbd ((hm.to S.bel).to h) hmb hok hs he)
    have hpW := Lib.hid (fun W2 (h : Below W.heap.size W W2) => (hp.to S.bel).to h)
    rw [h0] at HV
    obtain ⟨qa0, qc0, qa1, qc1, qa2, qc2, qa3, qc3⟩ := q
    obtain ⟨ma0, mc0, ma1, mc1, ma2, mc2⟩ := qm
    obtain ⟨kd, ix, v⟩ := s
    clear hm hmb hp hbd h0
    replace hok := Lib.hid hok
    dsimp only at HV HA HS hW S SW ⊢
    obtain ⟨⟨r1, f1, r10, r11, r12, -⟩, ⟨r2, f2, r20, r21, r22, -⟩, ⟨r3, f3, r30, r31, r32, -⟩, ⟨r4, f4, r40, r41, r42, r43, -⟩, -⟩ := S.facts
    clear S
    cases hs : spB ⟨kd, ix, v⟩ with
    | false =>
      rw [hs] at HS
      have hE := Lib.hid (appE_1 (p := p) (m := m) hs)
      have hM := Lib.hid (apM_no (p := p) (m := m) (s := ⟨kd, ix, v⟩) (by rw [hE.out]; decide))
      rw [hE.out, hM.out]
      clear hs HA
      go_enter Try.func76, Try.ntmps76
      go_wp2_with fail
      clear hW
      with_reducible refine HV.out.mono ?_
      rintro e w1 ⟨rfl, hb1⟩
      clear r1 f1 r10 r11 r12 r2 f2 r20 r21 r22 r3 f3 r30 r31 r32 r4 f4 r40 r41 r42 r43
      have S1 := Lib.hid (SW.out.call hb1)
      replace hb1 := Lib.hid hb1
      obtain ⟨⟨r1, f1, r10, r11, r12, -⟩, ⟨r2, f2, r20, r21, r22, -⟩, ⟨r3, f3, r30, r31, r32, -⟩, ⟨r4, f4, r40, r41, r42, r43, -⟩, -⟩ := S1.out.facts
      go_wp2_with fail
      with_reducible refine (HS.out w1).mono ?_
      rintro e w2 ⟨rfl, hb2⟩
      clear r1 f1 r10 r11 r12 r2 f2 r20 r21 r22 r3 f3 r30 r31 r32 r4 f4 r40 r41 r42 r43
      have S2 := Lib.hid (S1.out.call hb2)
      replace hb2 := Lib.hid (hb1.out.trans (hb2.mono hb1.out.size))
      obtain ⟨⟨r1, f1, r10, r11, r12, -⟩, ⟨r2, f2, r20, r21, r22, -⟩, ⟨r3, f3, r30, r31, r32, -⟩, ⟨r4, f4, r40, r41, r42, r43, -⟩, -⟩ := S2.out.facts
      go_wp2
      have S4 := Lib.hid (((S2.out.set 0 rfl 0 (.slice none 0 0)).set 0 rfl 1 (.slice none 0 0)).set 0 rfl 2 (.slice none 0 0))
      clear r1 f1 r10 r11 r12 r2 f2 r20 r21 r22 r3 f3 r30 r31 r32 r4 f4 r40 r41 r42 r43
      obtain ⟨⟨r1, f1, r10, r11, r12, -⟩, -⟩ := S4.out.facts
      refine bodyPost_ret (v := .tuple #[.agg #[.slice none 0 0, .slice none 0 0, .slice none 0 0], .int .i64 1]) (by simp [results, Try.results76, go_sem, r10, r11, r12]) rfl ?_
      exact Ret.mk ⟨S4.out.bel, ⟨none, 0, none, 0, none, 0⟩, rfl, ao_nil _ _⟩
    | true =>
      rw [hs] at HS
      have hix : 0 ≤ ix ∧ 0 ≤ v := by unfold spB at hs; have := of_decide_eq_true hs; dsimp only at this; omega
      cases hk3 : (kd == 3) with
      | true =>
        have hkk := beq_iff_eq.1 hk3
        subst hkk
        cases hlt : decide (ix < (p.tabs.length : Int)) with
        | false =>
          have he : existsB p ⟨3, ix, v⟩ = false := by unfold existsB; rw [if_pos rfl]; exact hlt
          have hge : decide ((p.tabs.length : Int) ≤ ix) = true := decide_eq_true (by have := of_decide_eq_false hlt; omega)
          have hE := Lib.hid (appE_4 (p := p) (m := m) hs he)
          have hM := Lib.hid (apM_no (p := p) (m := m) (s := ⟨3, ix, v⟩) (by rw [hE.out]; decide))
          rw [hE.out, hM.out]
          clear HA he
          go_enter Try.func76, Try.ntmps76
          go_wp2_with fail
          clear hW
          with_reducible refine HV.out.mono ?_
          rintro e w1 ⟨rfl, hb1⟩
          clear r1 f1 r10 r11 r12 r2 f2 r20 r21 r22 r3 f3 r30 r31 r32 r4 f4 r40 r41 r42 r43
          have S1 := Lib.hid (SW.out.call hb1)
          replace hb1 := Lib.hid hb1
          obtain ⟨⟨r1, f1, r10, r11, r12, -⟩, ⟨r2, f2, r20, r21, r22, -⟩, ⟨r3, f3, r30, r31, r32, -⟩, ⟨r4, f4, r40, r41, r42, r43, -⟩, -⟩ := S1.out.facts
          go_wp2_with fail
          with_reducible refine (HS.out w1).mono ?_
          rintro e w2 ⟨rfl, hb2⟩
          clear r1 f1 r10 r11 r12 r2 f2 r20 r21 r22 r3 f3 r30 r31 r32 r4 f4 r40 r41 r42 r43
          have S2 := Lib.hid (S1.out.call hb2)
          replace hb2 := Lib.hid (hb1.out.trans (hb2.mono hb1.out.size))
          obtain ⟨⟨r1, f1, r10, r11, r12, -⟩, ⟨r2, f2, r20, r21, r22, -⟩, ⟨r3, f3, r30, r31, r32, -⟩, ⟨r4, f4, r40, r41, r42, r43, -⟩, -⟩ := S2.out.facts
          go_wp2
          have S4 := Lib.hid (((S2.out.set 0 rfl 0 (.slice none 0 0)).set 0 rfl 1 (.slice none 0 0)).set 0 rfl 2 (.slice none 0 0))
          clear r1 f1 r10 r11 r12 r2 f2 r20 r21 r22 r3 f3 r30 r31 r32 r4 f4 r40 r41 r42 r43
          obtain ⟨⟨r1, f1, r10, r11, r12, -⟩, -⟩ := S4.out.facts
          refine bodyPost_ret (v := .tuple #[.agg #[.slice none 0 0, .slice none 0 0, .slice none 0 0], .int .i64 4]) (by simp [results, Try.results76, go_sem, r10, r11, r12]) rfl ?_
          exact Ret.mk ⟨S4.out.bel, ⟨none, 0, none, 0, none, 0⟩, rfl, ao_nil _ _⟩
        | true =>
          have he : existsB p ⟨3, ix, v⟩ = true := by unfold existsB; rw [if_pos rfl]; exact hlt
          have hge : decide ((p.tabs.length : Int) ≤ ix) = false := decide_eq_false (by have := of_decide_eq_true hlt; omega)
          cases hab : aftB p m ⟨3, ix, v⟩ with
          | false =>
            have hE := Lib.hid (appE_11 (p := p) (m := m) hs he hab)
            have hM := Lib.hid (apM_no (p := p) (m := m) (s := ⟨3, ix, v⟩) (by rw [hE.out]; decide))
            rw [hE.out, hM.out]
            go_enter Try.func76, Try.ntmps76
            go_wp2_with fail
            clear hW
            with_reducible refine HV.out.mono ?_
            rintro e w1 ⟨rfl, hb1⟩
            clear r1 f1 r10 r11 r12 r2 f2 r20 r21 r22 r3 f3 r30 r31 r32 r4 f4 r40 r41 r42 r43
            have S1 := Lib.hid (SW.out.call hb1)
            replace hb1 := Lib.hid hb1
            obtain ⟨⟨r1, f1, r10, r11, r12, -⟩, ⟨r2, f2, r20, r21, r22, -⟩, ⟨r3, f3, r30, r31, r32, -⟩, ⟨r4, f4, r40, r41, r42, r43, -⟩, -⟩ := S1.out.facts
            go_wp2_with fail
            with_reducible refine (HS.out w1).mono ?_
            rintro e w2 ⟨rfl, hb2⟩
            clear r1 f1 r10 r11 r12 r2 f2 r20 r21 r22 r3 f3 r30 r31 r32 r4 f4 r40 r41 r42 r43
            have S2 := Lib.hid (S1.out.call hb2)
            replace hb2 := Lib.hid (hb1.out.trans (hb2.mono hb1.out.size))
            obtain ⟨⟨r1, f1, r10, r11, r12, -⟩, ⟨r2, f2, r20, r21, r22, -⟩, ⟨r3, f3, r30, r31, r32, -⟩, ⟨r4, f4, r40, r41, r42, r43, -⟩, -⟩ := S2.out.facts
            go_wp2_with fail
            refine wp_region_quiet_lit (by kernel_rfl) (by kernel_rfl) ?_
            repeat (go_big_quiet_step (fail))
            refine wpQuiet_nil ?_
            intro w3 hw3
            have hd3 : Drawn w2 w3 := hw3
            have S3 := Lib.hid (S2.out.drawn hd3)
            have hb3 := Lib.hid (hb2.out.trans (hd3.below.mono hb2.out.size))
            clear r1 f1 r10 r11 r12 r2 f2 r20 r21 r22 r3 f3 r30 r31 r32 r4 f4 r40 r41 r42 r43
            clear hw3 hd3
            obtain ⟨⟨r1, f1, r10, r11, r12, -⟩, ⟨r2, f2, r20, r21, r22, -⟩, ⟨r3, f3, r30, r31, r32, -⟩, ⟨r4, f4, r40, r41, r42, r43, -⟩, -⟩ := S3.out.facts
            go_wp2_with fail
            with_reducible refine (HA.out w3 hb3.out hs he).mono ?_
            rintro e w4 ⟨_, rfl, hb4, x, ⟨x0, y0, x1, y1, x2, y2⟩, rfl, hx⟩
            rw [hab]
            clear r1 f1 r10 r11 r12 r2 f2 r20 r21 r22 r3 f3 r30 r31 r32 r4 f4 r40 r41 r42 r43
            have S5 := Lib.hid (S3.out.call hb4)
            replace hx := Lib.hid hx
            replace hb4 := Lib.hid hb4
            obtain ⟨⟨r1, f1, r10, r11, r12, -⟩, ⟨r2, f2, r20, r21, r22, -⟩, ⟨r3, f3, r30, r31, r32, -⟩, ⟨r4, f4, r40, r41, r42, r43, -⟩, -⟩ := S5.out.facts

            go_wp2
            have S4 := Lib.hid ((((S5.out.set 0 rfl 0 (.slice none 0 0)).set 0 rfl 1 (.slice none 0 0)).set 0 rfl 2 (.slice none 0 0)).box' 56 [.slice x0 x.base.length y0, .slice x1 x.next.length y1, .slice x2 x.held.length y2] (K := w4.heap.size) (by simp))
            clear r1 f1 r10 r11 r12 r2 f2 r20 r21 r22 r3 f3 r30 r31 r32 r4 f4 r40 r41 r42 r43
            obtain ⟨-, ⟨r1, f1, r10, r11, r12, -⟩, -⟩ := S4.out.facts
            refine bodyPost_ret (v := .tuple #[.agg #[.slice none 0 0, .slice none 0 0, .slice none 0 0], .int .i64 11]) (by simp [results, Try.results76, go_sem, r10, r11, r12]) rfl ?_
            exact Ret.mk ⟨S4.out.bel, ⟨none, 0, none, 0, none, 0⟩, rfl, ao_nil _ _⟩
          | true =>
            obtain ⟨x', hx'⟩ : ∃ x', aft p m ⟨3, ix, v⟩ = some x' := Option.isSome_iff_exists.1 hab
            have hE := Lib.hid (appE_ok.2 ⟨hs, he, x', hx'⟩)
            have hM := Lib.hid (apM_ok hs he hx')
            rw [hE.out, hM.out]
            replace hx' := Lib.hid hx'
            go_enter Try.func76, Try.ntmps76
            go_wp2_with fail
            clear hW
            with_reducible refine HV.out.mono ?_
            rintro e w1 ⟨rfl, hb1⟩
            clear r1 f1 r10 r11 r12 r2 f2 r20 r21 r22 r3 f3 r30 r31 r32 r4 f4 r40 r41 r42 r43
            have S1 := Lib.hid (SW.out.call hb1)
            replace hb1 := Lib.hid hb1
            obtain ⟨⟨r1, f1, r10, r11, r12, -⟩, ⟨r2, f2, r20, r21, r22, -⟩, ⟨r3, f3, r30, r31, r32, -⟩, ⟨r4, f4, r40, r41, r42, r43, -⟩, -⟩ := S1.out.facts
            go_wp2_with fail
            with_reducible refine (HS.out w1).mono ?_
            rintro e w2 ⟨rfl, hb2⟩
            clear r1 f1 r10 r11 r12 r2 f2 r20 r21 r22 r3 f3 r30 r31 r32 r4 f4 r40 r41 r42 r43
            have S2 := Lib.hid (S1.out.call hb2)
            replace hb2 := Lib.hid (hb1.out.trans (hb2.mono hb1.out.size))
            obtain ⟨⟨r1, f1, r10, r11, r12, -⟩, ⟨r2, f2, r20, r21, r22, -⟩, ⟨r3, f3, r30, r31, r32, -⟩, ⟨r4, f4, r40, r41, r42, r43, -⟩, -⟩ := S2.out.facts
            go_wp2_with fail
            refine wp_region_quiet_lit (by kernel_rfl) (by kernel_rfl) ?_
            repeat (go_big_quiet_step (fail))
            refine wpQuiet_nil ?_
            intro w3 hw3
            have hd3 : Drawn w2 w3 := hw3
            have S3 := Lib.hid (S2.out.drawn hd3)
            have hb3 := Lib.hid (hb2.out.trans (hd3.below.mono hb2.out.size))
            clear r1 f1 r10 r11 r12 r2 f2 r20 r21 r22 r3 f3 r30 r31 r32 r4 f4 r40 r41 r42 r43
            clear hw3 hd3
            obtain ⟨⟨r1, f1, r10, r11, r12, -⟩, ⟨r2, f2, r20, r21, r22, -⟩, ⟨r3, f3, r30, r31, r32, -⟩, ⟨r4, f4, r40, r41, r42, r43, -⟩, -⟩ := S3.out.facts
            go_wp2_with fail
            with_reducible refine (HA.out w3 hb3.out hs he).mono ?_
            rintro e w4 ⟨_, rfl, hb4, x, ⟨x0, y0, x1, y1, x2, y2⟩, rfl, hx⟩
            rw [hab]
            clear r1 f1 r10 r11 r12 r2 f2 r20 r21 r22 r3 f3 r30 r31 r32 r4 f4 r40 r41 r42 r43
            have S5 := Lib.hid (S3.out.call hb4)
            replace hx := Lib.hid hx
            replace hb4 := Lib.hid hb4
            obtain ⟨⟨r1, f1, r10, r11, r12, -⟩, ⟨r2, f2, r20, r21, r22, -⟩, ⟨r3, f3, r30, r31, r32, -⟩, ⟨r4, f4, r40, r41, r42, r43, -⟩, -⟩ := S5.out.facts

            obtain ⟨rfl, hax⟩ := hx.out x' hx'.out
            replace hax := Lib.hid hax
            clear hx
            go_wp2
            have S4 := Lib.hid ((((S5.out.set 0 rfl 0 (.slice x0 x.base.length y0)).set 0 rfl 1 (.slice x1 x.next.length y1)).set 0 rfl 2 (.slice x2 x.held.length y2)).box' 56 [.slice x0 x.base.length y0, .slice x1 x.next.length y1, .slice x2 x.held.length y2] (K := w4.heap.size) (by simp))
            have hz := hb3.out.size
            have ha4 := Lib.hid ((hax.out.far3 (g := w.heap.size + 1 + 1 + 1) (by omega) (.slice x0 x.base.length y0) (.slice x1 x.next.length y1) (.slice x2 x.held.length y2)).to ((Below.refl _ _).alloc (Nat.le_refl _) (.cells #[.slice x0 x.base.length y0, .slice x1 x.next.length y1, .slice x2 x.held.length y2] 56)))
            clear r1 f1 r10 r11 r12 r2 f2 r20 r21 r22 r3 f3 r30 r31 r32 r4 f4 r40 r41 r42 r43
            obtain ⟨-, ⟨r1, f1, r10, r11, r12, -⟩, -⟩ := S4.out.facts
            refine bodyPost_ret (v := .tuple #[.agg #[.slice x0 x.base.length y0, .slice x1 x.next.length y1, .slice x2 x.held.length y2], .int .i64 0]) (by simp [results, Try.results76, go_sem, r10, r11, r12]) rfl ?_
            exact Ret.mk ⟨S4.out.bel, ⟨x0, y0, x1, y1, x2, y2⟩, rfl, ha4.out.base (by omega)⟩
      | false =>
        have hk3' : (kd != 3) = true := by rw [bne, hk3]; rfl
        have hne3 : ¬ kd = 3 := fun h => by rw [beq_iff_eq.2 h] at hk3; cases hk3
        cases hlt : decide (ix < (p.vs.length : Int)) with
        | false =>
          have he : existsB p ⟨kd, ix, v⟩ = false := by unfold existsB; rw [if_neg hne3]; dsimp only; rw [hlt]; rfl
          have hge : decide ((p.vs.length : Int) ≤ ix) = true := decide_eq_true (by have := of_decide_eq_false hlt; omega)
          have hE := Lib.hid (appE_4 (p := p) (m := m) hs he)
          have hM := Lib.hid (apM_no (p := p) (m := m) (s := ⟨kd, ix, v⟩) (by rw [hE.out]; decide))
          rw [hE.out, hM.out]
          clear HA he hne3
          go_enter Try.func76, Try.ntmps76
          go_wp2_with fail
          clear hW
          with_reducible refine HV.out.mono ?_
          rintro e w1 ⟨rfl, hb1⟩
          clear r1 f1 r10 r11 r12 r2 f2 r20 r21 r22 r3 f3 r30 r31 r32 r4 f4 r40 r41 r42 r43
          have S1 := Lib.hid (SW.out.call hb1)
          replace hb1 := Lib.hid hb1
          obtain ⟨⟨r1, f1, r10, r11, r12, -⟩, ⟨r2, f2, r20, r21, r22, -⟩, ⟨r3, f3, r30, r31, r32, -⟩, ⟨r4, f4, r40, r41, r42, r43, -⟩, -⟩ := S1.out.facts
          go_wp2_with fail
          with_reducible refine (HS.out w1).mono ?_
          rintro e w2 ⟨rfl, hb2⟩
          clear r1 f1 r10 r11 r12 r2 f2 r20 r21 r22 r3 f3 r30 r31 r32 r4 f4 r40 r41 r42 r43
          have S2 := Lib.hid (S1.out.call hb2)
          replace hb2 := Lib.hid (hb1.out.trans (hb2.mono hb1.out.size))
          obtain ⟨⟨r1, f1, r10, r11, r12, -⟩, ⟨r2, f2, r20, r21, r22, -⟩, ⟨r3, f3, r30, r31, r32, -⟩, ⟨r4, f4, r40, r41, r42, r43, -⟩, -⟩ := S2.out.facts
          go_wp2
          have S4 := Lib.hid (((S2.out.set 0 rfl 0 (.slice none 0 0)).set 0 rfl 1 (.slice none 0 0)).set 0 rfl 2 (.slice none 0 0))
          clear r1 f1 r10 r11 r12 r2 f2 r20 r21 r22 r3 f3 r30 r31 r32 r4 f4 r40 r41 r42 r43
          obtain ⟨⟨r1, f1, r10, r11, r12, -⟩, -⟩ := S4.out.facts
          refine bodyPost_ret (v := .tuple #[.agg #[.slice none 0 0, .slice none 0 0, .slice none 0 0], .int .i64 4]) (by simp [results, Try.results76, go_sem, r10, r11, r12]) rfl ?_
          exact Ret.mk ⟨S4.out.bel, ⟨none, 0, none, 0, none, 0⟩, rfl, ao_nil _ _⟩
        | true =>
          have hge : decide ((p.vs.length : Int) ≤ ix) = false := decide_eq_false (by have := of_decide_eq_true hlt; omega)
          cases hk1 : (kd == 1) with
          | false =>
            have hne1 : ¬ kd = 1 := fun h => by rw [beq_iff_eq.2 h] at hk1; cases hk1
            have he : existsB p ⟨kd, ix, v⟩ = true := by unfold existsB; rw [if_neg hne3]; dsimp only; rw [hlt, decide_eq_false hne1]; rfl
            clear hne1 hne3
            cases hab : aftB p m ⟨kd, ix, v⟩ with
            | false =>
              have hE := Lib.hid (appE_11 (p := p) (m := m) hs he hab)
              have hM := Lib.hid (apM_no (p := p) (m := m) (s := ⟨kd, ix, v⟩) (by rw [hE.out]; decide))
              rw [hE.out, hM.out]
              go_enter Try.func76, Try.ntmps76
              go_wp2_with fail
              clear hW
              with_reducible refine HV.out.mono ?_
              rintro e w1 ⟨rfl, hb1⟩
              clear r1 f1 r10 r11 r12 r2 f2 r20 r21 r22 r3 f3 r30 r31 r32 r4 f4 r40 r41 r42 r43
              have S1 := Lib.hid (SW.out.call hb1)
              replace hb1 := Lib.hid hb1
              obtain ⟨⟨r1, f1, r10, r11, r12, -⟩, ⟨r2, f2, r20, r21, r22, -⟩, ⟨r3, f3, r30, r31, r32, -⟩, ⟨r4, f4, r40, r41, r42, r43, -⟩, -⟩ := S1.out.facts
              go_wp2_with fail
              with_reducible refine (HS.out w1).mono ?_
              rintro e w2 ⟨rfl, hb2⟩
              clear r1 f1 r10 r11 r12 r2 f2 r20 r21 r22 r3 f3 r30 r31 r32 r4 f4 r40 r41 r42 r43
              have S2 := Lib.hid (S1.out.call hb2)
              replace hb2 := Lib.hid (hb1.out.trans (hb2.mono hb1.out.size))
              obtain ⟨⟨r1, f1, r10, r11, r12, -⟩, ⟨r2, f2, r20, r21, r22, -⟩, ⟨r3, f3, r30, r31, r32, -⟩, ⟨r4, f4, r40, r41, r42, r43, -⟩, -⟩ := S2.out.facts
              go_wp2_with fail
              refine wp_region_quiet_lit (by kernel_rfl) (by kernel_rfl) ?_
              repeat (go_big_quiet_step (fail))
              refine wpQuiet_nil ?_
              intro w3 hw3
              have hd3 : Drawn w2 w3 := hw3
              have S3 := Lib.hid (S2.out.drawn hd3)
              have hb3 := Lib.hid (hb2.out.trans (hd3.below.mono hb2.out.size))
              clear r1 f1 r10 r11 r12 r2 f2 r20 r21 r22 r3 f3 r30 r31 r32 r4 f4 r40 r41 r42 r43
              clear hw3 hd3
              obtain ⟨⟨r1, f1, r10, r11, r12, -⟩, ⟨r2, f2, r20, r21, r22, -⟩, ⟨r3, f3, r30, r31, r32, -⟩, ⟨r4, f4, r40, r41, r42, r43, -⟩, -⟩ := S3.out.facts
              go_wp2_with fail
              with_reducible refine (HA.out w3 hb3.out hs he).mono ?_
              rintro e w4 ⟨_, rfl, hb4, x, ⟨x0, y0, x1, y1, x2, y2⟩, rfl, hx⟩
              rw [hab]
              clear r1 f1 r10 r11 r12 r2 f2 r20 r21 r22 r3 f3 r30 r31 r32 r4 f4 r40 r41 r42 r43
              have S5 := Lib.hid (S3.out.call hb4)
              replace hx := Lib.hid hx
              replace hb4 := Lib.hid hb4
              obtain ⟨⟨r1, f1, r10, r11, r12, -⟩, ⟨r2, f2, r20, r21, r22, -⟩, ⟨r3, f3, r30, r31, r32, -⟩, ⟨r4, f4, r40, r41, r42, r43, -⟩, -⟩ := S5.out.facts

              go_wp2
              have S4 := Lib.hid ((((S5.out.set 0 rfl 0 (.slice none 0 0)).set 0 rfl 1 (.slice none 0 0)).set 0 rfl 2 (.slice none 0 0)).box' 56 [.slice x0 x.base.length y0, .slice x1 x.next.length y1, .slice x2 x.held.length y2] (K := w4.heap.size) (by simp))
              clear r1 f1 r10 r11 r12 r2 f2 r20 r21 r22 r3 f3 r30 r31 r32 r4 f4 r40 r41 r42 r43
              obtain ⟨-, ⟨r1, f1, r10, r11, r12, -⟩, -⟩ := S4.out.facts
              refine bodyPost_ret (v := .tuple #[.agg #[.slice none 0 0, .slice none 0 0, .slice none 0 0], .int .i64 11]) (by simp [results, Try.results76, go_sem, r10, r11, r12]) rfl ?_
              exact Ret.mk ⟨S4.out.bel, ⟨none, 0, none, 0, none, 0⟩, rfl, ao_nil _ _⟩
            | true =>
              obtain ⟨x', hx'⟩ : ∃ x', aft p m ⟨kd, ix, v⟩ = some x' := Option.isSome_iff_exists.1 hab
              have hE := Lib.hid (appE_ok.2 ⟨hs, he, x', hx'⟩)
              have hM := Lib.hid (apM_ok hs he hx')
              rw [hE.out, hM.out]
              replace hx' := Lib.hid hx'
              go_enter Try.func76, Try.ntmps76
              go_wp2_with fail
              clear hW
              with_reducible refine HV.out.mono ?_
              rintro e w1 ⟨rfl, hb1⟩
              clear r1 f1 r10 r11 r12 r2 f2 r20 r21 r22 r3 f3 r30 r31 r32 r4 f4 r40 r41 r42 r43
              have S1 := Lib.hid (SW.out.call hb1)
              replace hb1 := Lib.hid hb1
              obtain ⟨⟨r1, f1, r10, r11, r12, -⟩, ⟨r2, f2, r20, r21, r22, -⟩, ⟨r3, f3, r30, r31, r32, -⟩, ⟨r4, f4, r40, r41, r42, r43, -⟩, -⟩ := S1.out.facts
              go_wp2_with fail
              with_reducible refine (HS.out w1).mono ?_
              rintro e w2 ⟨rfl, hb2⟩
              clear r1 f1 r10 r11 r12 r2 f2 r20 r21 r22 r3 f3 r30 r31 r32 r4 f4 r40 r41 r42 r43
              have S2 := Lib.hid (S1.out.call hb2)
              replace hb2 := Lib.hid (hb1.out.trans (hb2.mono hb1.out.size))
              obtain ⟨⟨r1, f1, r10, r11, r12, -⟩, ⟨r2, f2, r20, r21, r22, -⟩, ⟨r3, f3, r30, r31, r32, -⟩, ⟨r4, f4, r40, r41, r42, r43, -⟩, -⟩ := S2.out.facts
              go_wp2_with fail
              refine wp_region_quiet_lit (by kernel_rfl) (by kernel_rfl) ?_
              repeat (go_big_quiet_step (fail))
              refine wpQuiet_nil ?_
              intro w3 hw3
              have hd3 : Drawn w2 w3 := hw3
              have S3 := Lib.hid (S2.out.drawn hd3)
              have hb3 := Lib.hid (hb2.out.trans (hd3.below.mono hb2.out.size))
              clear r1 f1 r10 r11 r12 r2 f2 r20 r21 r22 r3 f3 r30 r31 r32 r4 f4 r40 r41 r42 r43
              clear hw3 hd3
              obtain ⟨⟨r1, f1, r10, r11, r12, -⟩, ⟨r2, f2, r20, r21, r22, -⟩, ⟨r3, f3, r30, r31, r32, -⟩, ⟨r4, f4, r40, r41, r42, r43, -⟩, -⟩ := S3.out.facts
              go_wp2_with fail
              with_reducible refine (HA.out w3 hb3.out hs he).mono ?_
              rintro e w4 ⟨_, rfl, hb4, x, ⟨x0, y0, x1, y1, x2, y2⟩, rfl, hx⟩
              rw [hab]
              clear r1 f1 r10 r11 r12 r2 f2 r20 r21 r22 r3 f3 r30 r31 r32 r4 f4 r40 r41 r42 r43
              have S5 := Lib.hid (S3.out.call hb4)
              replace hx := Lib.hid hx
              replace hb4 := Lib.hid hb4
              obtain ⟨⟨r1, f1, r10, r11, r12, -⟩, ⟨r2, f2, r20, r21, r22, -⟩, ⟨r3, f3, r30, r31, r32, -⟩, ⟨r4, f4, r40, r41, r42, r43, -⟩, -⟩ := S5.out.facts

              obtain ⟨rfl, hax⟩ := hx.out x' hx'.out
              replace hax := Lib.hid hax
              clear hx
              go_wp2
              have S4 := Lib.hid ((((S5.out.set 0 rfl 0 (.slice x0 x.base.length y0)).set 0 rfl 1 (.slice x1 x.next.length y1)).set 0 rfl 2 (.slice x2 x.held.length y2)).box' 56 [.slice x0 x.base.length y0, .slice x1 x.next.length y1, .slice x2 x.held.length y2] (K := w4.heap.size) (by simp))
              have hz := hb3.out.size
              have ha4 := Lib.hid ((hax.out.far3 (g := w.heap.size + 1 + 1 + 1) (by omega) (.slice x0 x.base.length y0) (.slice x1 x.next.length y1) (.slice x2 x.held.length y2)).to ((Below.refl _ _).alloc (Nat.le_refl _) (.cells #[.slice x0 x.base.length y0, .slice x1 x.next.length y1, .slice x2 x.held.length y2] 56)))
              clear r1 f1 r10 r11 r12 r2 f2 r20 r21 r22 r3 f3 r30 r31 r32 r4 f4 r40 r41 r42 r43
              obtain ⟨-, ⟨r1, f1, r10, r11, r12, -⟩, -⟩ := S4.out.facts
              refine bodyPost_ret (v := .tuple #[.agg #[.slice x0 x.base.length y0, .slice x1 x.next.length y1, .slice x2 x.held.length y2], .int .i64 0]) (by simp [results, Try.results76, go_sem, r10, r11, r12]) rfl ?_
              exact Ret.mk ⟨S4.out.bel, ⟨x0, y0, x1, y1, x2, y2⟩, rfl, ha4.out.base (by omega)⟩
          | true =>
            have hkk := beq_iff_eq.1 hk1
            subst hkk
            obtain ⟨i, rfl⟩ : ∃ i : Nat, ix = (i : Int) := ⟨ix.toNat, by omega⟩
            have hlt' := of_decide_eq_true hlt
            have hil : i < p.vs.length := by omega
            obtain ⟨bv, ov, ev, hbv, hcv⟩ := (hpW.out W (Below.refl _ _)).r0 (by omega)
            have dv := hcv i hil
            unfold iv at dv
            dsimp only at ev
            subst ev
            obtain ⟨n, hn⟩ : ∃ n, gi p.vs i = n := ⟨_, rfl⟩
            rw [hn] at dv
            have hex : existsB p ⟨1, (i : Int), v⟩ = decide (v < n) := by unfold existsB; rw [if_neg (by show ¬ (1 : Int) = 3; decide)]; dsimp only; rw [hlt, Int.toNat_natCast, hn]; rfl
            clear hcv hlt' hn
            cases hvn : decide (v < n) with
            | false =>
              have he := hex.trans hvn
              have hge2 : decide (n ≤ v) = true := decide_eq_true (by have := of_decide_eq_false hvn; omega)
              clear hex
              have hE := Lib.hid (appE_4 (p := p) (m := m) hs he)
              have hM := Lib.hid (apM_no (p := p) (m := m) (s := ⟨1, (i : Int), v⟩) (by rw [hE.out]; decide))
              rw [hE.out, hM.out]
              clear HA he
              go_enter Try.func76, Try.ntmps76
              go_wp2_with fail
              clear hW
              with_reducible refine HV.out.mono ?_
              rintro e w1 ⟨rfl, hb1⟩
              clear r1 f1 r10 r11 r12 r2 f2 r20 r21 r22 r3 f3 r30 r31 r32 r4 f4 r40 r41 r42 r43
              have S1 := Lib.hid (SW.out.call hb1)
              replace hb1 := Lib.hid hb1
              obtain ⟨⟨r1, f1, r10, r11, r12, -⟩, ⟨r2, f2, r20, r21, r22, -⟩, ⟨r3, f3, r30, r31, r32, -⟩, ⟨r4, f4, r40, r41, r42, r43, -⟩, -⟩ := S1.out.facts
              go_wp2_with fail
              with_reducible refine (HS.out w1).mono ?_
              rintro e w2 ⟨rfl, hb2⟩
              clear r1 f1 r10 r11 r12 r2 f2 r20 r21 r22 r3 f3 r30 r31 r32 r4 f4 r40 r41 r42 r43
              have S2 := Lib.hid (S1.out.call hb2)
              replace hb2 := Lib.hid (hb1.out.trans (hb2.mono hb1.out.size))
              obtain ⟨⟨r1, f1, r10, r11, r12, -⟩, ⟨r2, f2, r20, r21, r22, -⟩, ⟨r3, f3, r30, r31, r32, -⟩, ⟨r4, f4, r40, r41, r42, r43, -⟩, -⟩ := S2.out.facts
              have y1 := (hb2.out.cell (p := ⟨bv, ov + i, none⟩) hbv).trans dv
              have hbv2 := Nat.lt_of_lt_of_le hbv hb2.out.size
              go_wp2_with fail
              refine wp_region_quiet_lit (by kernel_rfl) (by kernel_rfl) ?_
              repeat (go_big_quiet_step (fail))
              refine wpQuiet_nil ?_
              intro w3 hw3
              have hd3 : Drawn w2 w3 := hw3
              have S3 := Lib.hid (S2.out.drawn hd3)
              have hb3 := Lib.hid (hb2.out.trans (hd3.below.mono hb2.out.size))
              clear r1 f1 r10 r11 r12 r2 f2 r20 r21 r22 r3 f3 r30 r31 r32 r4 f4 r40 r41 r42 r43
              clear hw3 hd3
              obtain ⟨⟨r1, f1, r10, r11, r12, -⟩, ⟨r2, f2, r20, r21, r22, -⟩, ⟨r3, f3, r30, r31, r32, -⟩, ⟨r4, f4, r40, r41, r42, r43, -⟩, -⟩ := S3.out.facts
              go_wp2
              have S4 := Lib.hid (((S3.out.set 0 rfl 0 (.slice none 0 0)).set 0 rfl 1 (.slice none 0 0)).set 0 rfl 2 (.slice none 0 0))
              clear r1 f1 r10 r11 r12 r2 f2 r20 r21 r22 r3 f3 r30 r31 r32 r4 f4 r40 r41 r42 r43
              obtain ⟨⟨r1, f1, r10, r11, r12, -⟩, -⟩ := S4.out.facts
              refine bodyPost_ret (v := .tuple #[.agg #[.slice none 0 0, .slice none 0 0, .slice none 0 0], .int .i64 4]) (by simp [results, Try.results76, go_sem, r10, r11, r12]) rfl ?_
              exact Ret.mk ⟨S4.out.bel, ⟨none, 0, none, 0, none, 0⟩, rfl, ao_nil _ _⟩
            | true =>
              have he := hex.trans hvn
              have hge2 : decide (n ≤ v) = false := decide_eq_false (by have := of_decide_eq_true hvn; omega)
              clear hex
              cases hab : aftB p m ⟨1, (i : Int), v⟩ with
              | false =>
                have hE := Lib.hid (appE_11 (p := p) (m := m) hs he hab)
                have hM := Lib.hid (apM_no (p := p) (m := m) (s := ⟨1, (i : Int), v⟩) (by rw [hE.out]; decide))
                rw [hE.out, hM.out]
                go_enter Try.func76, Try.ntmps76
                go_wp2_with fail
                clear hW
                with_reducible refine HV.out.mono ?_
                rintro e w1 ⟨rfl, hb1⟩
                clear r1 f1 r10 r11 r12 r2 f2 r20 r21 r22 r3 f3 r30 r31 r32 r4 f4 r40 r41 r42 r43
                have S1 := Lib.hid (SW.out.call hb1)
                replace hb1 := Lib.hid hb1
                obtain ⟨⟨r1, f1, r10, r11, r12, -⟩, ⟨r2, f2, r20, r21, r22, -⟩, ⟨r3, f3, r30, r31, r32, -⟩, ⟨r4, f4, r40, r41, r42, r43, -⟩, -⟩ := S1.out.facts
                go_wp2_with fail
                with_reducible refine (HS.out w1).mono ?_
                rintro e w2 ⟨rfl, hb2⟩
                clear r1 f1 r10 r11 r12 r2 f2 r20 r21 r22 r3 f3 r30 r31 r32 r4 f4 r40 r41 r42 r43
                have S2 := Lib.hid (S1.out.call hb2)
                replace hb2 := Lib.hid (hb1.out.trans (hb2.mono hb1.out.size))
                obtain ⟨⟨r1, f1, r10, r11, r12, -⟩, ⟨r2, f2, r20, r21, r22, -⟩, ⟨r3, f3, r30, r31, r32, -⟩, ⟨r4, f4, r40, r41, r42, r43, -⟩, -⟩ := S2.out.facts
                have y1 := (hb2.out.cell (p := ⟨bv, ov + i, none⟩) hbv).trans dv
                have hbv2 := Nat.lt_of_lt_of_le hbv hb2.out.size
                go_wp2_with fail
                refine wp_region_quiet_lit (by kernel_rfl) (by kernel_rfl) ?_
                repeat (go_big_quiet_step (fail))
                refine wpQuiet_nil ?_
                intro w3 hw3
                have hd3 : Drawn w2 w3 := hw3
                have S3 := Lib.hid (S2.out.drawn hd3)
                have hb3 := Lib.hid (hb2.out.trans (hd3.below.mono hb2.out.size))
                clear r1 f1 r10 r11 r12 r2 f2 r20 r21 r22 r3 f3 r30 r31 r32 r4 f4 r40 r41 r42 r43
                clear hw3 hd3
                obtain ⟨⟨r1, f1, r10, r11, r12, -⟩, ⟨r2, f2, r20, r21, r22, -⟩, ⟨r3, f3, r30, r31, r32, -⟩, ⟨r4, f4, r40, r41, r42, r43, -⟩, -⟩ := S3.out.facts
                go_wp2_with fail
                with_reducible refine (HA.out w3 hb3.out hs he).mono ?_
                rintro e w4 ⟨_, rfl, hb4, x, ⟨x0, y0, x1, y1, x2, y2⟩, rfl, hx⟩
                rw [hab]
                clear r1 f1 r10 r11 r12 r2 f2 r20 r21 r22 r3 f3 r30 r31 r32 r4 f4 r40 r41 r42 r43
                have S5 := Lib.hid (S3.out.call hb4)
                replace hx := Lib.hid hx
                replace hb4 := Lib.hid hb4
                obtain ⟨⟨r1, f1, r10, r11, r12, -⟩, ⟨r2, f2, r20, r21, r22, -⟩, ⟨r3, f3, r30, r31, r32, -⟩, ⟨r4, f4, r40, r41, r42, r43, -⟩, -⟩ := S5.out.facts

                go_wp2
                have S4 := Lib.hid ((((S5.out.set 0 rfl 0 (.slice none 0 0)).set 0 rfl 1 (.slice none 0 0)).set 0 rfl 2 (.slice none 0 0)).box' 56 [.slice x0 x.base.length y0, .slice x1 x.next.length y1, .slice x2 x.held.length y2] (K := w4.heap.size) (by simp))
                clear r1 f1 r10 r11 r12 r2 f2 r20 r21 r22 r3 f3 r30 r31 r32 r4 f4 r40 r41 r42 r43
                obtain ⟨-, ⟨r1, f1, r10, r11, r12, -⟩, -⟩ := S4.out.facts
                refine bodyPost_ret (v := .tuple #[.agg #[.slice none 0 0, .slice none 0 0, .slice none 0 0], .int .i64 11]) (by simp [results, Try.results76, go_sem, r10, r11, r12]) rfl ?_
                exact Ret.mk ⟨S4.out.bel, ⟨none, 0, none, 0, none, 0⟩, rfl, ao_nil _ _⟩
              | true =>
                obtain ⟨x', hx'⟩ : ∃ x', aft p m ⟨1, (i : Int), v⟩ = some x' := Option.isSome_iff_exists.1 hab
                have hE := Lib.hid (appE_ok.2 ⟨hs, he, x', hx'⟩)
                have hM := Lib.hid (apM_ok hs he hx')
                rw [hE.out, hM.out]
                replace hx' := Lib.hid hx'
                go_enter Try.func76, Try.ntmps76
                go_wp2_with fail
                clear hW
                with_reducible refine HV.out.mono ?_
                rintro e w1 ⟨rfl, hb1⟩
                clear r1 f1 r10 r11 r12 r2 f2 r20 r21 r22 r3 f3 r30 r31 r32 r4 f4 r40 r41 r42 r43
                have S1 := Lib.hid (SW.out.call hb1)
                replace hb1 := Lib.hid hb1
                obtain ⟨⟨r1, f1, r10, r11, r12, -⟩, ⟨r2, f2, r20, r21, r22, -⟩, ⟨r3, f3, r30, r31, r32, -⟩, ⟨r4, f4, r40, r41, r42, r43, -⟩, -⟩ := S1.out.facts
                go_wp2_with fail
                with_reducible refine (HS.out w1).mono ?_
                rintro e w2 ⟨rfl, hb2⟩
                clear r1 f1 r10 r11 r12 r2 f2 r20 r21 r22 r3 f3 r30 r31 r32 r4 f4 r40 r41 r42 r43
                have S2 := Lib.hid (S1.out.call hb2)
                replace hb2 := Lib.hid (hb1.out.trans (hb2.mono hb1.out.size))
                obtain ⟨⟨r1, f1, r10, r11, r12, -⟩, ⟨r2, f2, r20, r21, r22, -⟩, ⟨r3, f3, r30, r31, r32, -⟩, ⟨r4, f4, r40, r41, r42, r43, -⟩, -⟩ := S2.out.facts
                have y1 := (hb2.out.cell (p := ⟨bv, ov + i, none⟩) hbv).trans dv
                have hbv2 := Nat.lt_of_lt_of_le hbv hb2.out.size
                go_wp2_with fail
                refine wp_region_quiet_lit (by kernel_rfl) (by kernel_rfl) ?_
                repeat (go_big_quiet_step (fail))
                refine wpQuiet_nil ?_
                intro w3 hw3
                have hd3 : Drawn w2 w3 := hw3
                have S3 := Lib.hid (S2.out.drawn hd3)
                have hb3 := Lib.hid (hb2.out.trans (hd3.below.mono hb2.out.size))
                clear r1 f1 r10 r11 r12 r2 f2 r20 r21 r22 r3 f3 r30 r31 r32 r4 f4 r40 r41 r42 r43
                clear hw3 hd3
                obtain ⟨⟨r1, f1, r10, r11, r12, -⟩, ⟨r2, f2, r20, r21, r22, -⟩, ⟨r3, f3, r30, r31, r32, -⟩, ⟨r4, f4, r40, r41, r42, r43, -⟩, -⟩ := S3.out.facts
                go_wp2_with fail
                with_reducible refine (HA.out w3 hb3.out hs he).mono ?_
                rintro e w4 ⟨_, rfl, hb4, x, ⟨x0, y0, x1, y1, x2, y2⟩, rfl, hx⟩
                rw [hab]
                clear r1 f1 r10 r11 r12 r2 f2 r20 r21 r22 r3 f3 r30 r31 r32 r4 f4 r40 r41 r42 r43
                have S5 := Lib.hid (S3.out.call hb4)
                replace hx := Lib.hid hx
                replace hb4 := Lib.hid hb4
                obtain ⟨⟨r1, f1, r10, r11, r12, -⟩, ⟨r2, f2, r20, r21, r22, -⟩, ⟨r3, f3, r30, r31, r32, -⟩, ⟨r4, f4, r40, r41, r42, r43, -⟩, -⟩ := S5.out.facts

                obtain ⟨rfl, hax⟩ := hx.out x' hx'.out
                replace hax := Lib.hid hax
                clear hx
                go_wp2
                have S4 := Lib.hid ((((S5.out.set 0 rfl 0 (.slice x0 x.base.length y0)).set 0 rfl 1 (.slice x1 x.next.length y1)).set 0 rfl 2 (.slice x2 x.held.length y2)).box' 56 [.slice x0 x.base.length y0, .slice x1 x.next.length y1, .slice x2 x.held.length y2] (K := w4.heap.size) (by simp))
                have hz := hb3.out.size
                have ha4 := Lib.hid ((hax.out.far3 (g := w.heap.size + 1 + 1 + 1) (by omega) (.slice x0 x.base.length y0) (.slice x1 x.next.length y1) (.slice x2 x.held.length y2)).to ((Below.refl _ _).alloc (Nat.le_refl _) (.cells #[.slice x0 x.base.length y0, .slice x1 x.next.length y1, .slice x2 x.held.length y2] 56)))
                clear r1 f1 r10 r11 r12 r2 f2 r20 r21 r22 r3 f3 r30 r31 r32 r4 f4 r40 r41 r42 r43
                obtain ⟨-, ⟨r1, f1, r10, r11, r12, -⟩, -⟩ := S4.out.facts
                refine bodyPost_ret (v := .tuple #[.agg #[.slice x0 x.base.length y0, .slice x1 x.next.length y1, .slice x2 x.held.length y2], .int .i64 0]) (by simp [results, Try.results76, go_sem, r10, r11, r12]) rfl ?_
                exact Ret.mk ⟨S4.out.bel, ⟨x0, y0, x1, y1, x2, y2⟩, rfl, ha4.out.base (by omega)⟩
  · rw [if_neg h0, if_neg h0]
    obtain ⟨er, her⟩ : ∃ er, mixE p m = er := ⟨_, rfl⟩
    rw [her] at HV h0 ⊢
    have hne : (er != 0) = true := by simpa using h0
    obtain ⟨qa0, qc0, qa1, qc1, qa2, qc2, qa3, qc3⟩ := q
    obtain ⟨ma0, mc0, ma1, mc1, ma2, mc2⟩ := qm
    obtain ⟨kd, ix, v⟩ := s
    dsimp only at HV hW S SW ⊢
    obtain ⟨⟨r1, f1, r10, r11, r12, -⟩, ⟨r2, f2, r20, r21, r22, -⟩, ⟨r3, f3, r30, r31, r32, -⟩, ⟨r4, f4, r40, r41, r42, r43, -⟩, -⟩ := S.facts
    clear S her h0 hm hmb hp hbd HS
    go_enter Try.func76, Try.ntmps76
    go_wp2_with fail
    clear hW
    with_reducible refine HV.out.mono ?_
    rintro e w1 ⟨rfl, hb1⟩
    clear r1 f1 r10 r11 r12 r2 f2 r20 r21 r22 r3 f3 r30 r31 r32 r4 f4 r40 r41 r42 r43
    have S1 := Lib.hid (SW.out.call hb1)
    replace hb1 := Lib.hid hb1
    obtain ⟨⟨r1, f1, r10, r11, r12, -⟩, ⟨r2, f2, r20, r21, r22, -⟩, ⟨r3, f3, r30, r31, r32, -⟩, ⟨r4, f4, r40, r41, r42, r43, -⟩, -⟩ := S1.out.facts
    go_wp2
    have S4 := Lib.hid (((S1.out.set 0 rfl 0 (.slice none 0 0)).set 0 rfl 1 (.slice none 0 0)).set 0 rfl 2 (.slice none 0 0))
    clear r1 f1 r10 r11 r12 r2 f2 r20 r21 r22 r3 f3 r30 r31 r32 r4 f4 r40 r41 r42 r43
    obtain ⟨⟨r1, f1, r10, r11, r12, -⟩, -⟩ := S4.out.facts
    refine bodyPost_ret (v := .tuple #[.agg #[.slice none 0 0, .slice none 0 0, .slice none 0 0], .int .i64 er]) (by simp [results, Try.results76, go_sem, r10, r11, r12]) rfl ?_
    exact Ret.mk ⟨S4.out.bel, ⟨none, 0, none, 0, none, 0⟩, rfl, ao_nil _ _⟩
end Go.Proofs.Ytickckehhfdoeaa
namespace Go.Proofs.Ytickckehhfdoeaa
open Go.RowKit Go.Sv
theorem rapply_run (p : Prob) (q : ProbP) (m : Mx) (qm : MixP) (s : Sp) (w : World) (hp : RProb w w.heap.size p q) (hbd : PBd p) (hm : RMix w w.heap.size m qm) (hmb : MBd m qm) (hok : MOk p m) :
    Calls Try.prog 76 #[probV p q, mixV m qm, stepV s] w (Ret (ApR w (apM p m s) (appE p m s))) := by
  have h := rapply_any p q m qm s w hp hbd hm hmb
  unfold ApM ApE at h
  rw [if_pos (mixE_ok.2 hok), if_pos (mixE_ok.2 hok)] at h
  exact h
end Go.Proofs.Ytickckehhfdoeaa
namespace Go.Sv
open Go.RowKit
/-- the steps found so far: kinds up to k, of kind k + 1 indices below i, of index i versions below j -/
def stA (p : Prob) (k i j : Nat) : List Sp :=
  (List.range k).flatMap (fun (x : Nat) => oneL p ((x : Int) + 1)) ++ (List.range i).flatMap (fun (a : Nat) => (List.range 6).map fun (v : Nat) => (⟨(k : Int) + 1, a, v⟩ : Sp)) ++ (List.range j).map (fun (v : Nat) => (⟨(k : Int) + 1, i, v⟩ : Sp))
noncomputable def stF (p : Prob) (m : Mx) (k i j : Nat) : List Sp := (stA p k i j).filter (appB p m)
theorem stF_0 (p : Prob) (m : Mx) : stF p m 0 0 0 = [] := by unfold stF stA; rfl
theorem stF_step (p : Prob) (m : Mx) (k i j : Nat) : stF p m k i (j + 1) = stF p m k i j ++ (if appB p m ⟨(k : Int) + 1, i, j⟩ = true then [⟨(k : Int) + 1, i, j⟩] else []) := by
  unfold stF stA
  rw [List.range_succ (n := j), List.map_append, ← List.append_assoc, List.filter_append]
  congr 1
  simp only [List.map_cons, List.map_nil, List.filter_cons, List.filter_nil]
theorem stF_yes {p : Prob} {m : Mx} {k i j : Nat} (h : appE p m ⟨(k : Int) + 1, i, j⟩ = 0) : stF p m k i (j + 1) = stF p m k i j ++ [⟨(k : Int) + 1, i, j⟩] := by
  have e : appB p m ⟨(k : Int) + 1, i, j⟩ = true := decide_eq_true h
  rw [stF_step, e, if_pos rfl]
theorem stF_no {p : Prob} {m : Mx} {k i j : Nat} (h : appE p m ⟨(k : Int) + 1, i, j⟩ ≠ 0) : stF p m k i (j + 1) = stF p m k i j := by
  have e : appB p m ⟨(k : Int) + 1, i, j⟩ = false := decide_eq_false h
  rw [stF_step, e, if_neg (by decide), List.append_nil]
theorem stF_6 (p : Prob) (m : Mx) (k i : Nat) : stF p m k i 6 = stF p m k (i + 1) 0 := by
  unfold stF stA
  rw [List.range_succ (n := i), List.flatMap_append]
  simp [List.append_assoc]
theorem stF_k (p : Prob) (m : Mx) (k : Nat) : stF p m k (max p.vs.length p.tabs.length) 0 = stF p m (k + 1) 0 0 := by
  unfold stF stA
  rw [List.range_succ (n := k), List.flatMap_append]
  simp [oneL]
theorem stF_3 (p : Prob) (m : Mx) : stF p m 3 0 0 = (oneL p 1 ++ oneL p 2 ++ oneL p 3).filter (appB p m) := by
  unfold stF stA
  simp [List.range_succ, List.append_assoc]
theorem stF_len (p : Prob) (m : Mx) (k i j : Nat) : (stF p m k i j).length ≤ k * (max p.vs.length p.tabs.length * 6) + i * 6 + j := by
  refine Nat.le_trans (List.length_filter_le _ _) ?_
  unfold stA
  rw [List.length_append, List.length_append, List.length_map, List.length_range]
  have key : ∀ (α : Type) (f : Nat → List α) (c n : Nat), (∀ a, (f a).length = c) → ((List.range n).flatMap f).length = n * c := by
    intro α f c n h
    induction n with
    | zero => simp
    | succ n ih => rw [List.range_succ, List.flatMap_append, List.length_append, ih]; simp [h, Nat.add_mul]
  have k1 : ∀ x : Int, (oneL p x).length = max p.vs.length p.tabs.length * 6 := fun x => by
    unfold oneL
    exact key _ _ 6 _ (fun a => by simp)
  rw [key _ _ (max p.vs.length p.tabs.length * 6) k (fun a => k1 _), key _ _ 6 i (fun a => by simp)]
  omega
end Go.Sv
namespace Go.Proofs.Ytickckehhfdoeaa
open Go.RowKit Go.Sv
set_option maxHeartbeats 4000000 in
set_option maxRecDepth 100000 in
theorem rsteps_any (p : Prob) (q : ProbP) (m : Mx) (qm : MixP) (w : World) (hp : RProb w w.heap.size p q) (hbd : PBd p) (hm : RMix w w.heap.size m qm) (hmb : MBd m qm) (hok : MOk p m) :
    Calls Try.prog 50 #[probV p q, mixV m qm] w (Ret (OwnS w ((oneL p 1 ++ oneL p 2 ++ oneL p 3).filter (appB p m)))) := by
  obtain ⟨W, hW, S⟩ := pm_boxes p q m qm w
  have hsz : w.heap.size + 2 ≤ W.heap.size := by rw [← hW]; simp
  obtain ⟨hv6, ht12, -, -⟩ := prob_small hok.pr
  have HA := Lib.hid (fun (s : Sp) (W2 : World) (h : Below W.heap.size W W2) => rapply_run p q m qm s W2 ((hp.to S.bel).to h) hbd ((hm.to S.bel).to h) hmb hok)
  obtain ⟨N, hN⟩ : ∃ N : Nat, max p.vs.length p.tabs.length = N := ⟨_, rfl⟩
  have hN12 : N ≤ 12 := by rw [← hN]; exact Nat.max_le.2 ⟨by omega, ht12⟩
  have hNi : max (p.vs.length : Int) (p.tabs.length : Int) = (N : Int) := by rw [← hN]; omega
  have HK := Lib.hid (fun k => (stF_k p m k).symm.trans (by rw [hN]))
  have HL := Lib.hid (fun k i j => stF_len p m k i j)
  have H3 := Lib.hid (stF_3 p m)
  rw [hN] at HL
  replace hN := Lib.hid hN
  obtain ⟨qa0, qc0, qa1, qc1, qa2, qc2, qa3, qc3⟩ := q
  obtain ⟨ma0, mc0, ma1, mc1, ma2, mc2⟩ := qm
  dsimp only at HA hW S ⊢
  obtain ⟨⟨r1, f1, r10, r11, r12, -⟩, ⟨r2, f2, r20, r21, r22, r23, -⟩, -⟩ := S.facts
  have SW := Lib.hid S
  clear S hp hbd hm hmb hok
  go_enter Try.func50, Try.ntmps50
  go_wp2
  clear hW r1 f1 r10 r11 r12 r2 f2 r20 r21 r22 r23
  go_loopw [5, 6, 7, 8, 9, 10, 11] (fun v s6 _ _ _ _ _ wr => ∃ k : Nat, k ≤ 3 ∧ s6 = .int .i64 ((k : Int) + 1) ∧ LS W wr (stF p m k 0 0) v ∧ Below W.heap.size W wr) (fun _ s6 _ _ _ _ _ _ => 5 - (intOf s6).toNat)
  case atStart => exact ⟨0, by omega, rfl, by rw [stF_0]; exact World.ownsRow_nil _ _ _ _, Below.refl _ _⟩
  case round =>
    obtain ⟨k, hk, rfl, hown, hbel⟩ := hrel
    by_cases hlt : k < 3
    · have j0 : (k : Int) + 1 ≤ 3 := by omega
      replace hown := Lib.hid hown
      replace hbel := Lib.hid hbel
      go_wp2
      rename World => wo
      go_loopw [5, 7, 8, 9, 10, 11] (fun v s7 _ _ _ _ wr => ∃ i : Nat, i ≤ N ∧ s7 = .int .i64 (i : Int) ∧ LS W wr (stF p m k i 0) v ∧ Below W.heap.size W wr) (fun _ s7 _ _ _ _ _ => N - (intOf s7).toNat)
      case atStart => exact ⟨0, by omega, rfl, hown.out, hbel.out⟩
      case round =>
        clear hown hbel
        obtain ⟨i, hi, rfl, hown, hbel⟩ := hrel
        have T := Lib.hid (SW.out.call hbel)
        obtain ⟨⟨r1, f1, r10, r11, r12, -⟩, ⟨r2, f2, r20, r21, r22, r23, -⟩, -⟩ := T.out.facts
        by_cases hlt2 : i < N
        · have j1 : (i : Int) < (N : Int) := by omega
          replace hown := Lib.hid hown
          replace hbel := Lib.hid hbel
          go_wp2
          rename World => wi
          clear T r1 f1 r10 r11 r12 r2 f2 r20 r21 r22 r23
          go_loopw [5, 8, 9, 10, 11] (fun v s8 _ _ _ wr => ∃ j : Nat, j ≤ 6 ∧ s8 = .int .i64 (j : Int) ∧ LS W wr (stF p m k i j) v ∧ Below W.heap.size W wr) (fun _ s8 _ _ _ _ => 6 - (intOf s8).toNat)
          case atStart => exact ⟨0, by omega, rfl, hown.out, hbel.out⟩
          case round =>
            clear hown hbel
            obtain ⟨j, hj, rfl, hown, hbel⟩ := hrel
            by_cases hlt3 : j < 6
            · have j2 : (j : Int) < 6 := by omega
              have T := Lib.hid (SW.out.call hbel)
              obtain ⟨W3, (hW3 : wr.alloc (.cells #[.int .i64 ((k : Int) + 1), .int .i64 (i : Int), .int .i64 (j : Int)] 63) = W3), S3, hB3⟩ := fm_boxE T.out 63 [.int .i64 ((k : Int) + 1), .int .i64 (i : Int), .int .i64 (j : Int)]
              have hb3 := Lib.hid (hbel.trans (hB3.mono hbel.size))
              have ho3 := Lib.hid (own_to hown hB3)
              have hA := Lib.hid (HA.out ⟨(k : Int) + 1, i, j⟩ W3 hb3.out)
              have hY := Lib.hid (stF_yes (p := p) (m := m) (k := k) (i := i) (j := j))
              have hNo := Lib.hid (stF_no (p := p) (m := m) (k := k) (i := i) (j := j))
              have hLn := Lib.hid (HL.out k i j)
              obtain ⟨x, hx⟩ : ∃ x, apM p m ⟨(k : Int) + 1, i, j⟩ = x := ⟨_, rfl⟩
              obtain ⟨er, her⟩ : ∃ er, appE p m ⟨(k : Int) + 1, i, j⟩ = er := ⟨_, rfl⟩
              rw [hx, her] at hA
              rw [her] at hY hNo
              obtain ⟨L, hL⟩ : ∃ L, stF p m k i j = L := ⟨_, rfl⟩
              rw [hL] at ho3 hY hNo hLn
              dsimp only [probV, mixV, stepV] at hA
              obtain ⟨⟨u1, g1, u10, u11, u12, -⟩, ⟨r1, f1, r10, r11, r12, -⟩, ⟨r2, f2, r20, r21, r22, r23, -⟩, -⟩ := S3.facts
              replace S3 := Lib.hid S3
              clear hown hbel hB3 T hx her hL
              go_wp2_with fail
              clear hW3
              with_reducible refine hA.out.mono ?_
              rintro e' w4 ⟨_, rfl, hb4, ⟨y0, z0, y1, z1, y2, z2⟩, rfl, hay⟩
              clear u1 g1 u10 u11 u12 r1 f1 r10 r11 r12 r2 f2 r20 r21 r22 r23 hA hay
              obtain ⟨W5, (hW5 : w4.alloc (.cells #[.slice y0 x.base.length z0, .slice y1 x.next.length z1, .slice y2 x.held.length z2] 56) = W5), S5, hB5⟩ := fm_boxE (S3.out.call hb4) 56 [.slice y0 x.base.length z0, .slice y1 x.next.length z1, .slice y2 x.held.length z2]
              have hb5 := Lib.hid ((hb3.out.trans (hb4.mono hb3.out.size)).trans (hB5.mono (Nat.le_trans hb3.out.size hb4.size)))
              have ho5 := Lib.hid (own_to (own_to ho3.out hb4) hB5)
              have hBs : W.heap.size ≤ W5.heap.size := hb5.out.size
              obtain ⟨-, ⟨u1, g1, u10, u11, u12, -⟩, -⟩ := S5.facts
              replace S5 := Lib.hid S5
              clear ho3 hb3 hb4 hB5 S3
              cases h0 : (er == 0) with
              | true =>
                have hSn := Lib.hid (hY.out (by simpa using h0))
                clear hY hNo
                go_wp2_with (at_builtin; refine push_own elStep rfl _ _ rfl W.heap.size _ L.length (spRow L) ho5.out rfl [.int .i64 ((k : Int) + 1), .int .i64 i, .int .i64 j] rfl rfl rfl (by have := hLn.out; have : k * (N * 6) ≤ 3 * (12 * 6) := Nat.mul_le_mul (by omega) (Nat.mul_le_mul hN12 (Nat.le_refl 6)); omega) (by omega) hBs ?_)
                intro v' w6 hown6 hgr hb6 hs6 _
                have hO6 := Lib.hid (ls_next (s := ⟨(k : Int) + 1, i, j⟩) hown6 hSn.out)
                have hb7 := Lib.hid (hb5.out.trans hb6)
                clear hown6 hgr hb6 hs6 u1 g1 u10 u11 u12 hW5
                go_wp2
                go_roundw
                case rel => exact ⟨j + 1, by omega, by go_num, hO6.out, hb7.out⟩
                case measure => simp [intOf]; omega
              | false =>
                have hSn := Lib.hid (hNo.out (by simpa using h0))
                have hO6 : Hid (LS W W5 (stF p m k i (j + 1)) _) := Lib.hid (by rw [hSn.out]; exact ho5.out)
                clear hY hNo
                go_wp2
                go_roundw
                case rel => exact ⟨j + 1, by omega, by go_num, hO6.out, hb5.out⟩
                case measure => simp [intOf]; omega
            · obtain rfl : j = 6 := by omega
              have hO := Lib.hid ((stF_6 p m k i) ▸ hown)
              replace hbel := Lib.hid hbel
              clear hown
              go_wp2
              go_roundw
              case rel => exact ⟨i + 1, by omega, by go_num, hO.out, hbel.out⟩
              case measure => simp [intOf]; omega
        · obtain rfl : i = N := by omega
          have hO := Lib.hid ((HK.out k) ▸ hown)
          replace hbel := Lib.hid hbel
          clear hown hlt2
          go_wp2
          go_roundw
          case rel => exact ⟨k + 1, by omega, by go_num, hO.out, hbel.out⟩
          case measure => simp [intOf]; omega
    · obtain rfl : k = 3 := by omega
      have T := Lib.hid (SW.out.call hbel)
      have hR := Lib.hid (OwnS.of (w := w) (own_base (H3.out ▸ hown) SW.out.size) T.out.bel)
      clear hown hlt hbel
      go_wp2
      go_ret
      exact Ret.mk hR.out
end Go.Proofs.Ytickckehhfdoeaa
namespace Go.Proofs.Ytickckehhfdoeaa
open Go.RowKit Go.Sv
/-- steps that the law's calls own -/
structure SpO (w : World) (B : Nat) (A : Option Addr) (c : Nat) (l : List Sp) : Prop where
  row : w.ownsRow B 63 3 (.slice A l.length c) l.length (spRow l)
theorem SpO.to {w w' : World} {B : Nat} {A : Option Addr} {c : Nat} {l : List Sp} (h : SpO w B A c l) (hb : Below w.heap.size w w') : SpO w' B A c l := ⟨own_to h.row hb⟩
theorem SpO.arr {w : World} {B : Nat} {A : Option Addr} {c : Nat} {l : List Sp} (h : SpO w B A c l) : ArrN w w.heap.size 3 A l.length (spF l) := by
  obtain ⟨A', c', hv, _, _, ha⟩ := own_arrN (f := spF l) h.row (fun k hk i hi => spRow_get hk hi)
  injection hv with h1
  rw [h1]
  exact ha
/-- steps, integers, mixes that are there -/
structure SpR (w : World) (A : Option Addr) (l : List Sp) : Prop where
  arr : ArrN w w.heap.size 3 A l.length (spF l)
theorem SpR.to {w w' : World} {A : Option Addr} {l : List Sp} (h : SpR w A l) (hb : Below w.heap.size w w') : SpR w' A l := ⟨(h.arr.below hb).more hb.size⟩
structure InR (w : World) (A : Option Addr) (l : List Int) : Prop where
  arr : Arr w w.heap.size A l.length (iv l)
theorem InR.to {w w' : World} {A : Option Addr} {l : List Int} (h : InR w A l) (hb : Below w.heap.size w w') : InR w' A l := ⟨(h.arr.below hb).more hb.size⟩
structure MxO (W : World) (A : Nat) (ms : List Mx) (Q : Nat → MixP) (v : Value) : Prop where
  le : A ≤ W.heap.size
  l : MxL W A A ms Q v
theorem MxO.to {W W' : World} {A : Nat} {ms : List Mx} {Q : Nat → MixP} {v : Value} (h : MxO W A ms Q v) (hb : Below W.heap.size W W') : MxO W' A ms Q v := ⟨Nat.le_trans h.le hb.size, h.l.to h.le hb⟩
theorem MxO.of {W w : World} {ms : List Mx} {Q : Nat → MixP} {v : Value} (hb : Below w.heap.size w W) (h : MxL W w.heap.size w.heap.size ms Q v) : MxO W w.heap.size ms Q v := ⟨hb.size, h⟩
theorem MxO.arr {W : World} {A : Nat} {ms : List Mx} {Q : Nat → MixP} {a : Option Addr} {c : Nat} (h : MxO W A ms Q (.slice a ms.length c)) : ArrN W W.heap.size 3 a ms.length (mxF ms Q) := by
  obtain ⟨A', c', hv, ha⟩ := h.l.arr
  injection hv with h1
  rw [h1]
  exact ha
end Go.Proofs.Ytickckehhfdoeaa
namespace Go.Proofs.Ytickckehhfdoeaa
open Go.RowKit Go.Sv
set_option maxHeartbeats 8000000 in
set_option maxRecDepth 100000 in
theorem rfound_any (p : Prob) (q : ProbP) (m : Mx) (qm : MixP) (w : World) (hp : RProb w w.heap.size p q) (hm : RMix w w.heap.size m qm) (hok : MOk p m) (h8 : H8 m) :
    Calls Try.prog 93 #[probV p q, mixV m qm] w (Ret (OwnC w (foundL p m))) := by
  obtain ⟨W, hW, S⟩ := pm_boxes p q m qm w
  have hsz : w.heap.size + 2 ≤ W.heap.size := by rw [← hW]; simp
  obtain ⟨hv6, ht12, -, -⟩ := prob_small hok.pr
  have HR := Lib.hid (fun (k : Nat) (W2 : World) (h : Below W.heap.size W W2) (hk : k < p.vs.length) => rrun_any m qm k W2 ((hm.to S.bel).to h) (by rw [hok.lb]; exact hk) (by rw [hok.ln]; exact hk) (hok.sv k hk).1 (by have := (hok.sv k hk).2.1; have := vs_le hok.pr hk; omega) (hok.sv k hk).2.2.1 (by have := (hok.sv k hk).2.2.2.1; have := vs_le hok.pr hk; omega))
  have hpW := Lib.hid (fun W2 (h : Below W.heap.size W W2) => (hp.to S.bel).to h)
  have hmW := Lib.hid (fun W2 (h : Below W.heap.size W W2) => (hm.to S.bel).to h)
  have hP0 := Lib.hid (hp.to S.bel)
  have hM0 := Lib.hid (hm.to S.bel)
  obtain ⟨qa0, qc0, qa1, qc1, qa2, qc2, qa3, qc3⟩ := q
  obtain ⟨ma0, mc0, ma1, mc1, ma2, mc2⟩ := qm
  dsimp only at HR hW S ⊢
  obtain ⟨⟨r1, f1, r10, r11, r12, -⟩, ⟨r2, f2, r20, r21, r22, r23, -⟩, -⟩ := S.facts
  have SW := Lib.hid S
  replace hok := Lib.hid hok
  replace h8 := Lib.hid h8
  clear S hp hm
  go_enter Try.func93, Try.ntmps93
  go_wp2
  clear hW r1 f1 r10 r11 r12 r2 f2 r20 r21 r22 r23
  go_loopw [5, 6, 7, 8, 9, 10, 11] (fun v s6 _ _ _ _ _ wr => ∃ i : Nat, i ≤ p.tabs.length ∧ s6 = .int .i64 (i : Int) ∧ LC W wr (fd1 p m i) v ∧ Below W.heap.size W wr) (fun _ s6 _ _ _ _ _ _ => p.tabs.length - (intOf s6).toNat)
  case atStart => exact ⟨0, Nat.zero_le _, rfl, World.ownsRow_nil _ _ _ _, Below.refl _ _⟩
  case round =>
    obtain ⟨i, hi, rfl, hown, hbel⟩ := hrel
    have T := Lib.hid (SW.out.call hbel)
    obtain ⟨⟨r1, f1, r10, r11, r12, -⟩, ⟨r2, f2, r20, r21, r22, r23, -⟩, -⟩ := T.out.facts
    by_cases hlt : i < p.tabs.length
    · have TF := Lib.hid (tab_facts hok.out.pr hlt)
      obtain ⟨F, hr, hmat⟩ := hP0.out.r3
      obtain ⟨b, off, e4, hb, hc⟩ := hr (by omega)
      dsimp only at e4
      subst e4
      have c0 : wr.cell? ⟨b, off + i * 6, none⟩ = some (.int .i64 (tab p.tabs i).kind) := (hbel.cell (p := ⟨b, off + i * 6, none⟩) hb).trans (hc i hlt 0 (by decide))
      have c1 : wr.cell? ⟨b, off + i * 6 + 1, none⟩ = some (.int .i64 (tab p.tabs i).src) := (hbel.cell (p := ⟨b, off + i * 6 + 1, none⟩) hb).trans (hc i hlt 1 (by decide))
      have c2 : wr.cell? ⟨b, off + i * 6 + 2, none⟩ = some (.int .i64 (tab p.tabs i).dst) := (hbel.cell (p := ⟨b, off + i * 6 + 2, none⟩) hb).trans (hc i hlt 2 (by decide))
      have c3 : wr.cell? ⟨b, off + i * 6 + 3, none⟩ = some (.bool (tab p.tabs i).aware) := (hbel.cell (p := ⟨b, off + i * 6 + 3, none⟩) hb).trans (hc i hlt 3 (by decide))
      have c4 : wr.cell? ⟨b, off + i * 6 + 4, none⟩ = some (.slice (F i).okA (tab p.tabs i).ok.length (F i).okC) := (hbel.cell (p := ⟨b, off + i * 6 + 4, none⟩) hb).trans (hc i hlt 4 (by decide))
      have c5 : wr.cell? ⟨b, off + i * 6 + 5, none⟩ = some (.slice (F i).rwA (tab p.tabs i).rw.length (F i).rwC) := (hbel.cell (p := ⟨b, off + i * 6 + 5, none⟩) hb).trans (hc i hlt 5 (by decide))
      have hbw0 : b < wr.heap.size := Nat.lt_of_lt_of_le hb hbel.size
      have hOK := Lib.hid (hmat i hlt).1
      obtain ⟨a, ha⟩ : ∃ a : Nat, (tab p.tabs i).src = (a : Int) := ⟨(tab p.tabs i).src.toNat, by have := TF.out.s0; omega⟩
      obtain ⟨d, hdd⟩ : ∃ d : Nat, (tab p.tabs i).dst = (d : Int) := ⟨(tab p.tabs i).dst.toNat, by have := TF.out.d0; omega⟩
      have haL : a < p.vs.length := by have := TF.out.s1; omega
      have hdL : d < p.vs.length := by have := TF.out.d1; omega
      have va := vs_le hok.out.pr haL
      have vd := vs_le hok.out.pr hdL
      obtain ⟨nu, hnu⟩ : ∃ n : Nat, gi p.vs a = (n : Int) := ⟨(gi p.vs a).toNat, by omega⟩
      obtain ⟨nv, hnv⟩ : ∃ n : Nat, gi p.vs d = (n : Int) := ⟨(gi p.vs d).toNat, by omega⟩
      have hnu6 : nu ≤ 6 := by omega
      have hnv6 : nv ≤ 6 := by omega
      have hnv1 : 1 ≤ nv := by omega
      have hnu1 : 1 ≤ nu := by omega
      have hol : (tab p.tabs i).ok.length = nu := by have := TF.out.ol; rw [ha, Int.toNat_natCast, hnu] at this; omega
      have hom : ∀ u, u < nu → mlen (tab p.tabs i).ok u = nv := fun u hu => by have := TF.out.om u (by omega); rw [hdd, Int.toNat_natCast, hnv] at this; omega
      have hall2 := Lib.hid (fd2_all (p := p) (m := m) (i := i) (n := nu) (by rw [ha, Int.toNat_natCast, hnu]; omega))
      have hnvN : nvN p i = nv := by unfold nvN; rw [hdd, Int.toNat_natCast, hnv]; omega
      have hfU := Lib.hid (fun u => fU_yes (p := p) (m := m) (i := i) (u := u))
      rw [hnvN] at hfU
      have hfN := Lib.hid (fun u => fU_no (p := p) (m := m) (i := i) (u := u))
      have hfS := Lib.hid (fun u k => fdA_same (p := p) (m := m) (i := i) (u := u) (k := k))
      have hfM := Lib.hid (fun u k => fdA_more (p := p) (m := m) (i := i) (u := u) (k := k))
      have hrS := Lib.hid (fun u k => rdB_succ p m i u k)
      have hrds : rds p m i = run m d := by unfold rds; rw [hdd, Int.toNat_natCast]
      have hwrs : wrs p m i = if stB (tab p.tabs i).kind = true then hd m i else run m a := by unfold wrs Go.Sv.stored; rw [ha, Int.toNat_natCast]
      have hlh := hok.out.lh
      have hA256 : run m a < 256 := run_lt hok.out haL
      have hD256 : run m d < 256 := run_lt hok.out hdL
      have hH256 : hd m i < 256 := hd_lt hok.out hlt
      have hHd := Lib.hid (h8_hd h8.out (k := i) (by rw [hlh]; exact hlt))
      obtain ⟨bv, ov, ev, hbv, hcv⟩ := hP0.out.r0 (by omega)
      have v1 := hcv a haL
      have v2 := hcv d hdL
      obtain ⟨bh, oh, eh, hbh, hch⟩ := hM0.out.r2 (by omega)
      have v3 := hch i (by omega)
      dsimp only at ev eh
      subst ev eh
      unfold iv at v1 v2
      unfold u8v at v3
      rw [hnu] at v1
      rw [hnv] at v2
      rw [hHd.out] at v3
      obtain ⟨⟨oA, oC, rA, rC⟩, hF⟩ : ∃ y, F i = y := ⟨_, rfl⟩
      rw [hF] at c4 c5 hOK
      obtain ⟨x, hx⟩ : ∃ x, wrs p m i = x := ⟨_, rfl⟩
      rw [hx] at hwrs hfU hfN
      obtain ⟨ra, hra⟩ : ∃ x, run m a = x := ⟨_, rfl⟩
      obtain ⟨y, hy⟩ : ∃ x, run m d = x := ⟨_, rfl⟩
      obtain ⟨hh, hhh⟩ : ∃ x, hd m i = x := ⟨_, rfl⟩
      rw [hra] at hwrs hA256
      rw [hy] at hD256
      rw [hhh] at hwrs hH256 v3
      rw [hrds, hy] at hfS hfM hrS
      obtain ⟨⟨kd, sr, ds, aw, ok, rw0⟩, ht⟩ : ∃ t, tab p.tabs i = t := ⟨_, rfl⟩
      rw [ht] at c0 c1 c2 c3 c4 c5 hOK ha hdd hol hom hwrs hfU hfS hfM hrS
      dsimp only at c0 c1 c2 c3 c4 c5 hOK ha hdd hol hom hwrs hfU hfS hfM hrS
      subst ha hdd
      obtain ⟨R, hRa, hRb⟩ := hOK.out
      obtain ⟨bo, oo, eo, hbo, hco⟩ := hRa (by omega)
      subst eo
      rw [hol] at c4
      obtain ⟨sb, hsb⟩ : ∃ sb, stB kd = sb := ⟨_, rfl⟩
      rw [hsb] at hwrs
      obtain ⟨W3, (hW3 : wr.alloc (.cells #[.int .i64 kd, .int .i64 (a : Int), .int .i64 (d : Int), .bool aw, .slice (some ⟨bo, oo, none⟩) nu oC, .slice rA rw0.length rC] 47) = W3), S3, hB3⟩ := fm_boxE T.out 47 [.int .i64 kd, .int .i64 (a : Int), .int .i64 (d : Int), .bool aw, .slice (some ⟨bo, oo, none⟩) nu oC, .slice rA rw0.length rC]
      have hb3 := Lib.hid (hbel.trans (hB3.mono hbel.size))
      have H1 := Lib.hid (HR.out a W3 hb3.out haL)
      rw [hra] at H1
      have HRd := Lib.hid (fun W2 (h : Below W.heap.size W W2) => HR.out d W2 h hdL)
      rw [hy] at HRd
      have H2 := Lib.hid (fun w => rstored_any ⟨kd, a, d, aw, ok, rw0⟩ ⟨some ⟨bo, oo, none⟩, oC, rA, rC⟩ w)
      dsimp only [tabV] at H2
      rw [hol, hsb] at H2
      have hown0 := Lib.hid hown
      replace hbel := Lib.hid hbel
      replace hra := Lib.hid hra
      replace hy := Lib.hid hy
      replace hhh := Lib.hid hhh
      replace hsb := Lib.hid hsb
      replace hx := Lib.hid hx
      replace hF := Lib.hid hF
      replace ht := Lib.hid ht
      replace hnu := Lib.hid hnu
      replace hnv := Lib.hid hnv
      replace hnvN := Lib.hid hnvN
      replace hrds := Lib.hid hrds
      replace hol := Lib.hid hol
      replace hom := Lib.hid hom
      replace hRa := Lib.hid hRa
      replace hRb := Lib.hid hRb
      replace hco := Lib.hid hco
      replace hwrs := Lib.hid hwrs
      replace hlh := Lib.hid hlh
      have jt : (i : Int) < (p.tabs.length : Int) := by omega
      have jv : (a : Int) < (p.vs.length : Int) := by omega
      have jd : (d : Int) < (p.vs.length : Int) := by omega
      have jh : (i : Int) < (m.held.length : Int) := by rw [hlh.out]; omega
      clear hcv hch hc hr hmat hown hOK T
      obtain ⟨⟨zt, ft, t0, t1, t2, t3, t4, t5, -⟩, ⟨s1, h1, s10, s11, s12, -⟩, ⟨s2, h2, s20, s21, s22, s23, -⟩, -⟩ := S3.facts
      replace S3 := Lib.hid S3
      go_wp2_with fail
      clear hW3 c0 c1 c2 c3 c4 c5
      with_reducible refine H1.out.mono ?_
      rintro e' w4 ⟨rfl, hb4⟩
      clear zt ft t0 t1 t2 t3 t4 t5 r1 f1 r10 r11 r12 r2 f2 r20 r21 r22 r23 s1 h1 s10 s11 s12 s2 h2 s20 s21 s22 s23 H1
      have S4 := Lib.hid (S3.out.call hb4)
      have hb4' := Lib.hid (hB3.trans (hb4.mono hB3.size))
      clear hb4
      obtain ⟨⟨zt, ft, t0, t1, t2, t3, t4, t5, -⟩, ⟨r1, f1, r10, r11, r12, -⟩, ⟨r2, f2, r20, r21, r22, r23, -⟩, -⟩ := S4.out.facts
      go_wp2_with fail
      with_reducible refine (H2.out w4).mono ?_
      rintro e' w5 ⟨rfl, hb5⟩
      clear zt ft t0 t1 t2 t3 t4 t5 r1 f1 r10 r11 r12 r2 f2 r20 r21 r22 r23
      have S5 := Lib.hid (S4.out.call hb5)
      have hb5' := Lib.hid (hb4'.out.trans (hb5.mono hb4'.out.size))
      have hbW5 := Lib.hid (hbel.out.trans (hb5'.out.mono hbel.out.size))
      have ho5 : Hid (LC W w5 (fd1 p m i) _) := Lib.hid (own_to hown0.out hb5'.out)
      have hob5 := Lib.hid (own_lt hown0.out (Nat.le_refl wr.heap.size))
      have k3 := (hbW5.out.cell (p := ⟨bh, oh + i, none⟩) hbh).trans v3
      clear hb5 H2 hown0
      obtain ⟨⟨zt, ft, t0, t1, t2, t3, t4, t5, -⟩, ⟨r1, f1, r10, r11, r12, -⟩, ⟨r2, f2, r20, r21, r22, r23, -⟩, -⟩ := S5.out.facts
      have hTB5 := Lib.hid (TBx.mk zt ft t0 t1 t2 t3 t4 t5)
      obtain ⟨gB, hgB⟩ : ∃ g, wr.heap.size = g := ⟨_, rfl⟩
      rw [hgB] at hTB5 hob5
      have hx256 : x < 256 := by
        rw [hwrs.out]; split <;> assumption
      cases sb
      · have e7 : x = ra := hwrs.out.trans (if_neg (by decide))
        rw [← e7]
        replace e7 := Lib.hid e7
        go_wp2
        rename World => wo
        clear zt ft t0 t1 t2 t3 t4 t5 r1 f1 r10 r11 r12 r2 f2 r20 r21 r22 r23
        go_loopw [5, 9, 10, 11] (fun v s9 _ _ wr => ∃ u : Nat, u ≤ nu ∧ s9 = .int .i64 (u : Int) ∧ LC W wr (fd2 p m i u) v ∧ v.ownBlock ≠ some gB ∧ TBx wr gB (.int .i64 kd) (.int .i64 (a : Int)) (.int .i64 (d : Int)) (.bool aw) (.slice (some ⟨bo, oo, none⟩) nu oC) (.slice rA rw0.length rC) ∧ Below W.heap.size W wr) (fun _ s9 _ _ _ => nu - (intOf s9).toNat)
        case atStart => exact ⟨0, Nat.zero_le _, rfl, by rw [fd2_0]; exact ho5.out, hob5.out, hTB5.out, hbW5.out⟩
        case round =>
          obtain ⟨u, hu, rfl, hown, hob, hTB, hbel2⟩ := hrel
          have T := Lib.hid (SW.out.call hbel2)
          obtain ⟨zt, ft, t0, t1, t2, t3, t4, t5⟩ := hTB
          have hTB := Lib.hid (TBx.mk zt ft t0 t1 t2 t3 t4 t5)
          obtain ⟨⟨r1, f1, r10, r11, r12, -⟩, ⟨r2, f2, r20, r21, r22, r23, -⟩, -⟩ := T.out.facts
          have g1 := (hbel2.cell (p := ⟨bv, ov + a, none⟩) hbv).trans v1
          by_cases hlt2 : u < nu
          · have ju : (u : Int) < (nu : Int) := by omega
            have H3 := Lib.hid (rhas_any x u hx256 (by omega) wr)
            have hNo := Lib.hid (fun h => (fd2_next p m i u).trans (by rw [hfN.out u h, List.append_nil]))
            have hYes := Lib.hid (fun h => (fd2_next p m i u).trans (by rw [hfU.out u h]))
            obtain ⟨bw, ow, ew, hbw, hcw⟩ := hRb.out u (by rw [hol.out]; exact hlt2) (by rw [hom.out u hlt2]; omega)
            have hrow := hco.out u (by rw [hol.out]; exact hlt2)
            rw [ew, hom.out u hlt2] at hrow
            rw [hom.out u hlt2] at hcw
            replace hcw := Lib.hid hcw
            have hLu := Lib.hid (fd2_len hok.out.pr m i u)
            have hF0 := Lib.hid (fdA_0 p m i u)
            have hFl := Lib.hid (fun k => fdA_len p m i u k)
            have hfS2 := Lib.hid (fun k => hfS.out u k)
            have hfM2 := Lib.hid (fun k => hfM.out u k)
            have hrS2 := Lib.hid (fun k => hrS.out u k)
            obtain ⟨L0, hL0⟩ : ∃ L, fd2 p m i u = L := ⟨_, rfl⟩
            rw [hL0] at hown hNo hYes hLu
            have hO := Lib.hid hown
            replace hob := Lib.hid hob
            replace hbel2 := Lib.hid hbel2
            replace hL0 := Lib.hid hL0
            clear hown ew
            go_wp2_with fail
            with_reducible refine H3.out.mono ?_
            rintro e' w' ⟨rfl, hww⟩
            subst hww
            cases hxu : x.testBit u with
            | false =>
              have hO2 : Hid (LC W wr (fd2 p m i (u + 1)) _) := Lib.hid (by rw [hNo.out hxu]; exact hO.out)
              replace hxu := Lib.hid hxu
              go_wp2
              go_roundw
              case rel => exact ⟨u + 1, by omega, by go_num, hO2.out, hob.out, hTB.out, hbel2.out⟩
              case measure => simp [intOf]; omega
            | true =>
              have hYes2 := Lib.hid (hYes.out hxu)
              replace hxu := Lib.hid hxu
              go_wp2
              rename World => wu
              clear zt ft t0 t1 t2 t3 t4 t5 r1 f1 r10 r11 r12 r2 f2 r20 r21 r22 r23 g1 T
              go_loopw [5, 10, 11] (fun v s10 s11 wr => ∃ k : Nat, k ≤ nv ∧ s11 = .int .i64 (k : Int) ∧ s10 = .bool (rdB p m i u k) ∧ LC W wr (L0 ++ fdA p m i u k) v ∧ v.ownBlock ≠ some gB ∧ TBx wr gB (.int .i64 kd) (.int .i64 (a : Int)) (.int .i64 (d : Int)) (.bool aw) (.slice (some ⟨bo, oo, none⟩) nu oC) (.slice rA rw0.length rC) ∧ Below W.heap.size W wr) (fun _ _ s11 _ => nv - (intOf s11).toNat)
              case atStart => exact ⟨0, Nat.zero_le _, rfl, rfl, by rw [hF0.out, List.append_nil]; exact hO.out, hob.out, hTB.out, hbel2.out⟩
              case round =>
                clear hO hbel2 hob hTB
                obtain ⟨k, hk, rfl, rfl, hown, hob, hTB, hbel3⟩ := hrel
                have T := Lib.hid (SW.out.call hbel3)
                obtain ⟨zt, ft, t0, t1, t2, t3, t4, t5⟩ := hTB
                have hTB := Lib.hid (TBx.mk zt ft t0 t1 t2 t3 t4 t5)
                replace hob := Lib.hid hob
                obtain ⟨⟨r1, f1, r10, r11, r12, -⟩, ⟨r2, f2, r20, r21, r22, r23, -⟩, -⟩ := T.out.facts
                have g2 := (hbel3.cell (p := ⟨bv, ov + d, none⟩) hbv).trans v2
                have hO := Lib.hid hown
                have hLk := Lib.hid (hFl.out k)
                by_cases hlt3 : k < nv
                · have jk : (k : Int) < (nv : Int) := by omega
                  have H4 := Lib.hid (HRd.out wr hbel3)
                  have hfS3 := Lib.hid (hfS2.out k)
                  have hfM3 := Lib.hid (hfM2.out k)
                  have hrS3 := Lib.hid (hrS2.out k)
                  obtain ⟨rd, hrd⟩ : ∃ rd, rdB p m i u k = rd := ⟨_, rfl⟩
                  obtain ⟨L1, hL1⟩ : ∃ L, fdA p m i u k = L := ⟨_, rfl⟩
                  obtain ⟨mm, hmm⟩ : ∃ b, mat ok u k = b := ⟨_, rfl⟩
                  have hrc := hcw.out k hlt3
                  rw [hrd] at hrS3 ⊢
                  rw [hL1] at hO hfS3 hfM3 hLk
                  rw [hmm] at hrS3 hfS3 hfM3 hrc
                  replace hbel3 := Lib.hid hbel3
                  replace hrd := Lib.hid hrd
                  replace hL1 := Lib.hid hL1
                  replace hmm := Lib.hid hmm
                  clear hown
                  go_wp2_with fail
                  with_reducible refine H4.out.mono ?_
                  rintro e' w6 ⟨rfl, hb6⟩
                  clear zt ft t0 t1 t2 t3 t4 t5 r1 f1 r10 r11 r12 r2 f2 r20 r21 r22 r23 g2 H4
                  have S6 := Lib.hid (T.out.call hb6)
                  have hb7 := Lib.hid (hbel3.out.trans (hb6.mono hbel3.out.size))
                  have hO6 := Lib.hid (own_to hO.out hb6)
                  have hTB6 := Lib.hid (hTB.out.to hb6)
                  have hBs : W.heap.size ≤ w6.heap.size := hb7.out.size
                  obtain ⟨zt, ft, t0, t1, t2, t3, t4, t5⟩ := hTB6.out
                  obtain ⟨⟨r1, f1, r10, r11, r12, -⟩, ⟨r2, f2, r20, r21, r22, r23, -⟩, -⟩ := S6.out.facts
                  have g3 := (hb7.out.cell (p := ⟨bo, oo + u, none⟩) hbo).trans hrow
                  have g4 := (hb7.out.cell (p := ⟨bw, ow + k, none⟩) hbw).trans hrc
                  have H5 := Lib.hid (rhas_any y k hD256 (by omega) w6)
                  clear hb6 hO T hbel3 hrc hTB
                  go_wp2_with fail
                  with_reducible refine H5.out.mono ?_
                  rintro e' w' ⟨rfl, hww⟩
                  subst hww
                  cases hyk : y.testBit k with
                  | false =>
                    have hO7 : Hid (LC W w6 (L0 ++ fdA p m i u (k + 1)) _) := Lib.hid (by rw [hfS3.out (by simp [hyk])]; exact hO6.out)
                    have hr7 := Lib.hid (hrS3.out.trans (by rw [hyk, Bool.false_and, Bool.or_false]))
                    replace hyk := Lib.hid hyk
                    go_wp2
                    go_roundw
                    case rel => exact ⟨k + 1, by omega, by go_num, by rw [hr7.out], hO7.out, hob.out, hTB6.out, hb7.out⟩
                    case measure => simp [intOf]; omega
                  | true =>
                    rw [hyk, Bool.true_and] at hrS3
                    have hS4 := Lib.hid (fun (h : (aw || mm) = true) => hfS3.out (by rw [hyk, Bool.not_true, Bool.false_or]; exact h))
                    have hM4 := Lib.hid (fun h1 h2 => hfM3.out h1 hyk h2)
                    replace hyk := Lib.hid hyk
                    clear hfS3 hfM3
                    rcases Bool.eq_false_or_eq_true aw with haw | haw
                    · rw [haw] at t3
                      rcases Bool.eq_false_or_eq_true mm with hmm2 | hmm2
                      · rw [hmm2] at g4
                        rcases Bool.eq_false_or_eq_true rd with hrd2 | hrd2
                        · rw [hrd2]
                          have hr7 : Hid (rdB p m i u (k + 1) = true) := Lib.hid (by rw [hrS3.out, hrd2, hmm2]; rfl)
                          have hO7 : Hid (LC W w6 (L0 ++ fdA p m i u (k + 1)) _) := Lib.hid (by rw [hS4.out (by rw [haw, hmm2]; rfl)]; exact hO6.out)
                          clear hS4 hM4 hrS3
                          replace haw := Lib.hid haw
                          replace hrd2 := Lib.hid hrd2
                          replace hmm2 := Lib.hid hmm2
                          go_wp2
                          go_roundw
                          case rel => exact ⟨k + 1, by omega, by go_num, by rw [hr7.out], hO7.out, hob.out, hTB6.out, hb7.out⟩
                          case measure => simp [intOf]; omega
                        · rw [hrd2]
                          have hr7 : Hid (rdB p m i u (k + 1) = true) := Lib.hid (by rw [hrS3.out, hrd2, hmm2]; rfl)
                          have hO7 : Hid (LC W w6 (L0 ++ fdA p m i u (k + 1)) _) := Lib.hid (by rw [hS4.out (by rw [haw, hmm2]; rfl)]; exact hO6.out)
                          clear hS4 hM4 hrS3
                          replace haw := Lib.hid haw
                          replace hrd2 := Lib.hid hrd2
                          replace hmm2 := Lib.hid hmm2
                          go_wp2
                          go_roundw
                          case rel => exact ⟨k + 1, by omega, by go_num, by rw [hr7.out], hO7.out, hob.out, hTB6.out, hb7.out⟩
                          case measure => simp [intOf]; omega
                      · rw [hmm2] at g4
                        rcases Bool.eq_false_or_eq_true rd with hrd2 | hrd2
                        · rw [hrd2]
                          have hr7 : Hid (rdB p m i u (k + 1) = true) := Lib.hid (by rw [hrS3.out, hrd2, hmm2]; rfl)
                          have hO7 : Hid (LC W w6 (L0 ++ fdA p m i u (k + 1)) _) := Lib.hid (by rw [hS4.out (by rw [haw, hmm2]; rfl)]; exact hO6.out)
                          clear hS4 hM4 hrS3
                          replace haw := Lib.hid haw
                          replace hrd2 := Lib.hid hrd2
                          replace hmm2 := Lib.hid hmm2
                          go_wp2
                          go_roundw
                          case rel => exact ⟨k + 1, by omega, by go_num, by rw [hr7.out], hO7.out, hob.out, hTB6.out, hb7.out⟩
                          case measure => simp [intOf]; omega
                        · rw [hrd2]
                          have hr7 : Hid (rdB p m i u (k + 1) = false) := Lib.hid (by rw [hrS3.out, hrd2, hmm2]; rfl)
                          have hO7 : Hid (LC W w6 (L0 ++ fdA p m i u (k + 1)) _) := Lib.hid (by rw [hS4.out (by rw [haw, hmm2]; rfl)]; exact hO6.out)
                          clear hS4 hM4 hrS3
                          replace haw := Lib.hid haw
                          replace hrd2 := Lib.hid hrd2
                          replace hmm2 := Lib.hid hmm2
                          go_wp2
                          go_roundw
                          case rel => exact ⟨k + 1, by omega, by go_num, by rw [hr7.out], hO7.out, hob.out, hTB6.out, hb7.out⟩
                          case measure => simp [intOf]; omega
                    · rw [haw] at t3
                      rcases Bool.eq_false_or_eq_true mm with hmm2 | hmm2
                      · rw [hmm2] at g4
                        rcases Bool.eq_false_or_eq_true rd with hrd2 | hrd2
                        · rw [hrd2]
                          have hr7 : Hid (rdB p m i u (k + 1) = true) := Lib.hid (by rw [hrS3.out, hrd2, hmm2]; rfl)
                          have hO7 : Hid (LC W w6 (L0 ++ fdA p m i u (k + 1)) _) := Lib.hid (by rw [hS4.out (by rw [haw, hmm2]; rfl)]; exact hO6.out)
                          clear hS4 hM4 hrS3
                          replace haw := Lib.hid haw
                          replace hrd2 := Lib.hid hrd2
                          replace hmm2 := Lib.hid hmm2
                          go_wp2
                          go_roundw
                          case rel => exact ⟨k + 1, by omega, by go_num, by rw [hr7.out], hO7.out, hob.out, hTB6.out, hb7.out⟩
                          case measure => simp [intOf]; omega
                        · rw [hrd2]
                          have hr7 : Hid (rdB p m i u (k + 1) = true) := Lib.hid (by rw [hrS3.out, hrd2, hmm2]; rfl)
                          have hO7 : Hid (LC W w6 (L0 ++ fdA p m i u (k + 1)) _) := Lib.hid (by rw [hS4.out (by rw [haw, hmm2]; rfl)]; exact hO6.out)
                          clear hS4 hM4 hrS3
                          replace haw := Lib.hid haw
                          replace hrd2 := Lib.hid hrd2
                          replace hmm2 := Lib.hid hmm2
                          go_wp2
                          go_roundw
                          case rel => exact ⟨k + 1, by omega, by go_num, by rw [hr7.out], hO7.out, hob.out, hTB6.out, hb7.out⟩
                          case measure => simp [intOf]; omega
                      · rw [hmm2] at g4
                        rcases Bool.eq_false_or_eq_true rd with hrd2 | hrd2
                        · rw [hrd2]
                          have hr7 : Hid (rdB p m i u (k + 1) = true) := Lib.hid (by rw [hrS3.out, hrd2, hmm2]; rfl)
                          have hMo := Lib.hid (hM4.out haw hmm2)
                          clear hS4 hM4 hrS3
                          replace haw := Lib.hid haw
                          replace hrd2 := Lib.hid hrd2
                          replace hmm2 := Lib.hid hmm2
                          go_wp2_with (at_builtin; refine push_own elCf rfl _ _ rfl W.heap.size _ (L0 ++ L1).length (cfRow (L0 ++ L1)) hO6.out rfl [.int .i64 (i : Int), .int .i64 (u : Int), .int .i64 (k : Int)] rfl rfl rfl (by have := hLu.out; have := hLk.out; rw [List.length_append]; omega) (by omega) hBs ?_)
                          intro v' w8 hown8 hgr hb8 hs8 hob8
                          have hO8 : Hid (LC W w8 (L0 ++ fdA p m i u (k + 1)) v') := Lib.hid (lc_next (l := L0 ++ L1) (c := ⟨i, u, k⟩) (by rw [List.length_append]; exact hown8) (by rw [hMo.out, List.append_assoc]))
                          have hb9 : Hid (Below W.heap.size W w8) := Lib.hid (hb7.out.trans hb8)
                          have hTB8 := Lib.hid (hTB6.out.push hgr hob.out)
                          have hob9 := Lib.hid (ob_push hob.out zt hob8)
                          clear hown8 hgr hb8 hs8 hob8 zt ft t0 t1 t2 t3 t4 t5 r1 f1 r10 r11 r12 r2 f2 r20 r21 r22 r23 g3 g4
                          go_wp2
                          go_roundw
                          case rel => exact ⟨k + 1, by omega, by go_num, by rw [hr7.out], hO8.out, hob9.out, hTB8.out, hb9.out⟩
                          case measure => simp [intOf]; omega
                        · rw [hrd2]
                          have hr7 : Hid (rdB p m i u (k + 1) = false) := Lib.hid (by rw [hrS3.out, hrd2, hmm2]; rfl)
                          have hMo := Lib.hid (hM4.out haw hmm2)
                          clear hS4 hM4 hrS3
                          replace haw := Lib.hid haw
                          replace hrd2 := Lib.hid hrd2
                          replace hmm2 := Lib.hid hmm2
                          go_wp2_with (at_builtin; refine push_own elCf rfl _ _ rfl W.heap.size _ (L0 ++ L1).length (cfRow (L0 ++ L1)) hO6.out rfl [.int .i64 (i : Int), .int .i64 (u : Int), .int .i64 (k : Int)] rfl rfl rfl (by have := hLu.out; have := hLk.out; rw [List.length_append]; omega) (by omega) hBs ?_)
                          intro v' w8 hown8 hgr hb8 hs8 hob8
                          have hO8 : Hid (LC W w8 (L0 ++ fdA p m i u (k + 1)) v') := Lib.hid (lc_next (l := L0 ++ L1) (c := ⟨i, u, k⟩) (by rw [List.length_append]; exact hown8) (by rw [hMo.out, List.append_assoc]))
                          have hb9 : Hid (Below W.heap.size W w8) := Lib.hid (hb7.out.trans hb8)
                          have hTB8 := Lib.hid (hTB6.out.push hgr hob.out)
                          have hob9 := Lib.hid (ob_push hob.out zt hob8)
                          clear hown8 hgr hb8 hs8 hob8 zt ft t0 t1 t2 t3 t4 t5 r1 f1 r10 r11 r12 r2 f2 r20 r21 r22 r23 g3 g4
                          go_wp2
                          go_roundw
                          case rel => exact ⟨k + 1, by omega, by go_num, by rw [hr7.out], hO8.out, hob9.out, hTB8.out, hb9.out⟩
                          case measure => simp [intOf]; omega
                · obtain rfl : k = nv := by omega
                  obtain ⟨rd, hrd⟩ : ∃ rd, rdB p m i u k = rd := ⟨_, rfl⟩
                  obtain ⟨L1, hL1⟩ : ∃ L, fdA p m i u k = L := ⟨_, rfl⟩
                  have hY := Lib.hid hYes2.out
                  rw [hrd, hL1] at hY
                  rw [hrd]
                  rw [hL1] at hO hLk
                  have hBs : W.heap.size ≤ wr.heap.size := hbel3.size
                  replace hbel3 := Lib.hid hbel3
                  replace hrd := Lib.hid hrd
                  replace hL1 := Lib.hid hL1
                  clear hown hlt3
                  rcases Bool.eq_false_or_eq_true aw with haw | haw
                  · rw [haw] at t3
                    rcases Bool.eq_false_or_eq_true rd with hrd2 | hrd2
                    · rw [hrd2]
                      have hO7 : Hid (LC W wr (fd2 p m i (u + 1)) _) := Lib.hid (by rw [hY.out, haw, hrd2, if_neg (by decide), List.append_nil]; exact hO.out)
                      clear hY
                      replace haw := Lib.hid haw
                      replace hrd2 := Lib.hid hrd2
                      go_wp2
                      go_roundw
                      case rel => exact ⟨u + 1, by omega, by go_num, hO7.out, hob.out, hTB.out, hbel3.out⟩
                      case measure => simp [intOf]; omega
                    · rw [hrd2]
                      have hMo : Hid (fd2 p m i (u + 1) = L0 ++ (L1 ++ [⟨i, u, -1⟩])) := Lib.hid (by rw [hY.out, haw, hrd2]; rfl)
                      clear hY
                      replace haw := Lib.hid haw
                      replace hrd2 := Lib.hid hrd2
                      go_wp2_with (at_builtin; refine push_own elCf rfl _ _ rfl W.heap.size _ (L0 ++ L1).length (cfRow (L0 ++ L1)) hO.out rfl [.int .i64 (i : Int), .int .i64 (u : Int), .int .i64 (-1)] rfl rfl rfl (by have := hLu.out; have := hLk.out; rw [List.length_append]; omega) (by omega) hBs ?_)
                      intro v' w8 hown8 hgr hb8 hs8 hob8
                      have hO8 : Hid (LC W w8 (fd2 p m i (u + 1)) v') := Lib.hid (lc_next (l := L0 ++ L1) (c := ⟨i, u, -1⟩) (by rw [List.length_append]; exact hown8) (by rw [hMo.out, List.append_assoc]))
                      have hb9 : Hid (Below W.heap.size W w8) := Lib.hid (hbel3.out.trans hb8)
                      have hTB8 := Lib.hid (hTB.out.push hgr hob.out)
                      have hob9 := Lib.hid (ob_push hob.out zt hob8)
                      clear hown8 hgr hb8 hs8 hob8 zt ft t0 t1 t2 t3 t4 t5 r1 f1 r10 r11 r12 r2 f2 r20 r21 r22 r23
                      go_wp2
                      go_roundw
                      case rel => exact ⟨u + 1, by omega, by go_num, hO8.out, hob9.out, hTB8.out, hb9.out⟩
                      case measure => simp [intOf]; omega
                  · rw [haw] at t3
                    have hO7 : Hid (LC W wr (fd2 p m i (u + 1)) _) := Lib.hid (by rw [hY.out, haw, Bool.false_and, if_neg (by decide), List.append_nil]; exact hO.out)
                    clear hY
                    replace haw := Lib.hid haw
                    go_wp2
                    go_roundw
                    case rel => exact ⟨u + 1, by omega, by go_num, hO7.out, hob.out, hTB.out, hbel3.out⟩
                    case measure => simp [intOf]; omega
          · obtain rfl : u = nu := by omega
            have hO : Hid (LC W wr (fd1 p m (i + 1)) _) := Lib.hid (hall2.out ▸ hown)
            have hbF := Lib.hid hbel2
            clear hbel2
            clear hown hlt2
            go_wp2
            go_roundw
            case rel => exact ⟨i + 1, by omega, by go_num, hO.out, hbF.out⟩
            case measure => simp [intOf]; omega
      · have e7 : x = hh := hwrs.out.trans (if_pos rfl)
        rw [← e7] at k3
        replace e7 := Lib.hid e7
        go_wp2
        rename World => wo
        clear zt ft t0 t1 t2 t3 t4 t5 r1 f1 r10 r11 r12 r2 f2 r20 r21 r22 r23
        go_loopw [5, 9, 10, 11] (fun v s9 _ _ wr => ∃ u : Nat, u ≤ nu ∧ s9 = .int .i64 (u : Int) ∧ LC W wr (fd2 p m i u) v ∧ v.ownBlock ≠ some gB ∧ TBx wr gB (.int .i64 kd) (.int .i64 (a : Int)) (.int .i64 (d : Int)) (.bool aw) (.slice (some ⟨bo, oo, none⟩) nu oC) (.slice rA rw0.length rC) ∧ Below W.heap.size W wr) (fun _ s9 _ _ _ => nu - (intOf s9).toNat)
        case atStart => exact ⟨0, Nat.zero_le _, rfl, by rw [fd2_0]; exact ho5.out, hob5.out, hTB5.out, hbW5.out⟩
        case round =>
          obtain ⟨u, hu, rfl, hown, hob, hTB, hbel2⟩ := hrel
          have T := Lib.hid (SW.out.call hbel2)
          obtain ⟨zt, ft, t0, t1, t2, t3, t4, t5⟩ := hTB
          have hTB := Lib.hid (TBx.mk zt ft t0 t1 t2 t3 t4 t5)
          obtain ⟨⟨r1, f1, r10, r11, r12, -⟩, ⟨r2, f2, r20, r21, r22, r23, -⟩, -⟩ := T.out.facts
          have g1 := (hbel2.cell (p := ⟨bv, ov + a, none⟩) hbv).trans v1
          by_cases hlt2 : u < nu
          · have ju : (u : Int) < (nu : Int) := by omega
            have H3 := Lib.hid (rhas_any x u hx256 (by omega) wr)
            have hNo := Lib.hid (fun h => (fd2_next p m i u).trans (by rw [hfN.out u h, List.append_nil]))
            have hYes := Lib.hid (fun h => (fd2_next p m i u).trans (by rw [hfU.out u h]))
            obtain ⟨bw, ow, ew, hbw, hcw⟩ := hRb.out u (by rw [hol.out]; exact hlt2) (by rw [hom.out u hlt2]; omega)
            have hrow := hco.out u (by rw [hol.out]; exact hlt2)
            rw [ew, hom.out u hlt2] at hrow
            rw [hom.out u hlt2] at hcw
            replace hcw := Lib.hid hcw
            have hLu := Lib.hid (fd2_len hok.out.pr m i u)
            have hF0 := Lib.hid (fdA_0 p m i u)
            have hFl := Lib.hid (fun k => fdA_len p m i u k)
            have hfS2 := Lib.hid (fun k => hfS.out u k)
            have hfM2 := Lib.hid (fun k => hfM.out u k)
            have hrS2 := Lib.hid (fun k => hrS.out u k)
            obtain ⟨L0, hL0⟩ : ∃ L, fd2 p m i u = L := ⟨_, rfl⟩
            rw [hL0] at hown hNo hYes hLu
            have hO := Lib.hid hown
            replace hob := Lib.hid hob
            replace hbel2 := Lib.hid hbel2
            replace hL0 := Lib.hid hL0
            clear hown ew
            go_wp2_with fail
            with_reducible refine H3.out.mono ?_
            rintro e' w' ⟨rfl, hww⟩
            subst hww
            cases hxu : x.testBit u with
            | false =>
              have hO2 : Hid (LC W wr (fd2 p m i (u + 1)) _) := Lib.hid (by rw [hNo.out hxu]; exact hO.out)
              replace hxu := Lib.hid hxu
              go_wp2
              go_roundw
              case rel => exact ⟨u + 1, by omega, by go_num, hO2.out, hob.out, hTB.out, hbel2.out⟩
              case measure => simp [intOf]; omega
            | true =>
              have hYes2 := Lib.hid (hYes.out hxu)
              replace hxu := Lib.hid hxu
              go_wp2
              rename World => wu
              clear zt ft t0 t1 t2 t3 t4 t5 r1 f1 r10 r11 r12 r2 f2 r20 r21 r22 r23 g1 T
              go_loopw [5, 10, 11] (fun v s10 s11 wr => ∃ k : Nat, k ≤ nv ∧ s11 = .int .i64 (k : Int) ∧ s10 = .bool (rdB p m i u k) ∧ LC W wr (L0 ++ fdA p m i u k) v ∧ v.ownBlock ≠ some gB ∧ TBx wr gB (.int .i64 kd) (.int .i64 (a : Int)) (.int .i64 (d : Int)) (.bool aw) (.slice (some ⟨bo, oo, none⟩) nu oC) (.slice rA rw0.length rC) ∧ Below W.heap.size W wr) (fun _ _ s11 _ => nv - (intOf s11).toNat)
              case atStart => exact ⟨0, Nat.zero_le _, rfl, rfl, by rw [hF0.out, List.append_nil]; exact hO.out, hob.out, hTB.out, hbel2.out⟩
              case round =>
                clear hO hbel2 hob hTB
                obtain ⟨k, hk, rfl, rfl, hown, hob, hTB, hbel3⟩ := hrel
                have T := Lib.hid (SW.out.call hbel3)
                obtain ⟨zt, ft, t0, t1, t2, t3, t4, t5⟩ := hTB
                have hTB := Lib.hid (TBx.mk zt ft t0 t1 t2 t3 t4 t5)
                replace hob := Lib.hid hob
                obtain ⟨⟨r1, f1, r10, r11, r12, -⟩, ⟨r2, f2, r20, r21, r22, r23, -⟩, -⟩ := T.out.facts
                have g2 := (hbel3.cell (p := ⟨bv, ov + d, none⟩) hbv).trans v2
                have hO := Lib.hid hown
                have hLk := Lib.hid (hFl.out k)
                by_cases hlt3 : k < nv
                · have jk : (k : Int) < (nv : Int) := by omega
                  have H4 := Lib.hid (HRd.out wr hbel3)
                  have hfS3 := Lib.hid (hfS2.out k)
                  have hfM3 := Lib.hid (hfM2.out k)
                  have hrS3 := Lib.hid (hrS2.out k)
                  obtain ⟨rd, hrd⟩ : ∃ rd, rdB p m i u k = rd := ⟨_, rfl⟩
                  obtain ⟨L1, hL1⟩ : ∃ L, fdA p m i u k = L := ⟨_, rfl⟩
                  obtain ⟨mm, hmm⟩ : ∃ b, mat ok u k = b := ⟨_, rfl⟩
                  have hrc := hcw.out k hlt3
                  rw [hrd] at hrS3 ⊢
                  rw [hL1] at hO hfS3 hfM3 hLk
                  rw [hmm] at hrS3 hfS3 hfM3 hrc
                  replace hbel3 := Lib.hid hbel3
                  replace hrd := Lib.hid hrd
                  replace hL1 := Lib.hid hL1
                  replace hmm := Lib.hid hmm
                  clear hown
                  go_wp2_with fail
                  with_reducible refine H4.out.mono ?_
                  rintro e' w6 ⟨rfl, hb6⟩
                  clear zt ft t0 t1 t2 t3 t4 t5 r1 f1 r10 r11 r12 r2 f2 r20 r21 r22 r23 g2 H4
                  have S6 := Lib.hid (T.out.call hb6)
                  have hb7 := Lib.hid (hbel3.out.trans (hb6.mono hbel3.out.size))
                  have hO6 := Lib.hid (own_to hO.out hb6)
                  have hTB6 := Lib.hid (hTB.out.to hb6)
                  have hBs : W.heap.size ≤ w6.heap.size := hb7.out.size
                  obtain ⟨zt, ft, t0, t1, t2, t3, t4, t5⟩ := hTB6.out
                  obtain ⟨⟨r1, f1, r10, r11, r12, -⟩, ⟨r2, f2, r20, r21, r22, r23, -⟩, -⟩ := S6.out.facts
                  have g3 := (hb7.out.cell (p := ⟨bo, oo + u, none⟩) hbo).trans hrow
                  have g4 := (hb7.out.cell (p := ⟨bw, ow + k, none⟩) hbw).trans hrc
                  have H5 := Lib.hid (rhas_any y k hD256 (by omega) w6)
                  clear hb6 hO T hbel3 hrc hTB
                  go_wp2_with fail
                  with_reducible refine H5.out.mono ?_
                  rintro e' w' ⟨rfl, hww⟩
                  subst hww
                  cases hyk : y.testBit k with
                  | false =>
                    have hO7 : Hid (LC W w6 (L0 ++ fdA p m i u (k + 1)) _) := Lib.hid (by rw [hfS3.out (by simp [hyk])]; exact hO6.out)
                    have hr7 := Lib.hid (hrS3.out.trans (by rw [hyk, Bool.false_and, Bool.or_false]))
                    replace hyk := Lib.hid hyk
                    go_wp2
                    go_roundw
                    case rel => exact ⟨k + 1, by omega, by go_num, by rw [hr7.out], hO7.out, hob.out, hTB6.out, hb7.out⟩
                    case measure => simp [intOf]; omega
                  | true =>
                    rw [hyk, Bool.true_and] at hrS3
                    have hS4 := Lib.hid (fun (h : (aw || mm) = true) => hfS3.out (by rw [hyk, Bool.not_true, Bool.false_or]; exact h))
                    have hM4 := Lib.hid (fun h1 h2 => hfM3.out h1 hyk h2)
                    replace hyk := Lib.hid hyk
                    clear hfS3 hfM3
                    rcases Bool.eq_false_or_eq_true aw with haw | haw
                    · rw [haw] at t3
                      rcases Bool.eq_false_or_eq_true mm with hmm2 | hmm2
                      · rw [hmm2] at g4
                        rcases Bool.eq_false_or_eq_true rd with hrd2 | hrd2
                        · rw [hrd2]
                          have hr7 : Hid (rdB p m i u (k + 1) = true) := Lib.hid (by rw [hrS3.out, hrd2, hmm2]; rfl)
                          have hO7 : Hid (LC W w6 (L0 ++ fdA p m i u (k + 1)) _) := Lib.hid (by rw [hS4.out (by rw [haw, hmm2]; rfl)]; exact hO6.out)
                          clear hS4 hM4 hrS3
                          replace haw := Lib.hid haw
                          replace hrd2 := Lib.hid hrd2
                          replace hmm2 := Lib.hid hmm2
                          go_wp2
                          go_roundw
                          case rel => exact ⟨k + 1, by omega, by go_num, by rw [hr7.out], hO7.out, hob.out, hTB6.out, hb7.out⟩
                          case measure => simp [intOf]; omega
                        · rw [hrd2]
                          have hr7 : Hid (rdB p m i u (k + 1) = true) := Lib.hid (by rw [hrS3.out, hrd2, hmm2]; rfl)
                          have hO7 : Hid (LC W w6 (L0 ++ fdA p m i u (k + 1)) _) := Lib.hid (by rw [hS4.out (by rw [haw, hmm2]; rfl)]; exact hO6.out)
                          clear hS4 hM4 hrS3
                          replace haw := Lib.hid haw
                          replace hrd2 := Lib.hid hrd2
                          replace hmm2 := Lib.hid hmm2
                          go_wp2
                          go_roundw
                          case rel => exact ⟨k + 1, by omega, by go_num, by rw [hr7.out], hO7.out, hob.out, hTB6.out, hb7.out⟩
                          case measure => simp [intOf]; omega
                      · rw [hmm2] at g4
                        rcases Bool.eq_false_or_eq_true rd with hrd2 | hrd2
                        · rw [hrd2]
                          have hr7 : Hid (rdB p m i u (k + 1) = true) := Lib.hid (by rw [hrS3.out, hrd2, hmm2]; rfl)
                          have hO7 : Hid (LC W w6 (L0 ++ fdA p m i u (k + 1)) _) := Lib.hid (by rw [hS4.out (by rw [haw, hmm2]; rfl)]; exact hO6.out)
                          clear hS4 hM4 hrS3
                          replace haw := Lib.hid haw
                          replace hrd2 := Lib.hid hrd2
                          replace hmm2 := Lib.hid hmm2
                          go_wp2
                          go_roundw
                          case rel => exact ⟨k + 1, by omega, by go_num, by rw [hr7.out], hO7.out, hob.out, hTB6.out, hb7.out⟩
                          case measure => simp [intOf]; omega
                        · rw [hrd2]
                          have hr7 : Hid (rdB p m i u (k + 1) = false) := Lib.hid (by rw [hrS3.out, hrd2, hmm2]; rfl)
                          have hO7 : Hid (LC W w6 (L0 ++ fdA p m i u (k + 1)) _) := Lib.hid (by rw [hS4.out (by rw [haw, hmm2]; rfl)]; exact hO6.out)
                          clear hS4 hM4 hrS3
                          replace haw := Lib.hid haw
                          replace hrd2 := Lib.hid hrd2
                          replace hmm2 := Lib.hid hmm2
                          go_wp2
                          go_roundw
                          case rel => exact ⟨k + 1, by omega, by go_num, by rw [hr7.out], hO7.out, hob.out, hTB6.out, hb7.out⟩
                          case measure => simp [intOf]; omega
                    · rw [haw] at t3
                      rcases Bool.eq_false_or_eq_true mm with hmm2 | hmm2
                      · rw [hmm2] at g4
                        rcases Bool.eq_false_or_eq_true rd with hrd2 | hrd2
                        · rw [hrd2]
                          have hr7 : Hid (rdB p m i u (k + 1) = true) := Lib.hid (by rw [hrS3.out, hrd2, hmm2]; rfl)
                          have hO7 : Hid (LC W w6 (L0 ++ fdA p m i u (k + 1)) _) := Lib.hid (by rw [hS4.out (by rw [haw, hmm2]; rfl)]; exact hO6.out)
                          clear hS4 hM4 hrS3
                          replace haw := Lib.hid haw
                          replace hrd2 := Lib.hid hrd2
                          replace hmm2 := Lib.hid hmm2
                          go_wp2
                          go_roundw
                          case rel => exact ⟨k + 1, by omega, by go_num, by rw [hr7.out], hO7.out, hob.out, hTB6.out, hb7.out⟩
                          case measure => simp [intOf]; omega
                        · rw [hrd2]
                          have hr7 : Hid (rdB p m i u (k + 1) = true) := Lib.hid (by rw [hrS3.out, hrd2, hmm2]; rfl)
                          have hO7 : Hid (LC W w6 (L0 ++ fdA p m i u (k + 1)) _) := Lib.hid (by rw [hS4.out (by rw [haw, hmm2]; rfl)]; exact hO6.out)
                          clear hS4 hM4 hrS3
                          replace haw := Lib.hid haw
                          replace hrd2 := Lib.hid hrd2
                          replace hmm2 := Lib.hid hmm2
                          go_wp2
                          go_roundw
                          case rel => exact ⟨k + 1, by omega, by go_num, by rw [hr7.out], hO7.out, hob.out, hTB6.out, hb7.out⟩
                          case measure => simp [intOf]; omega
                      · rw [hmm2] at g4
                        rcases Bool.eq_false_or_eq_true rd with hrd2 | hrd2
                        · rw [hrd2]
                          have hr7 : Hid (rdB p m i u (k + 1) = true) := Lib.hid (by rw [hrS3.out, hrd2, hmm2]; rfl)
                          have hMo := Lib.hid (hM4.out haw hmm2)
                          clear hS4 hM4 hrS3
                          replace haw := Lib.hid haw
                          replace hrd2 := Lib.hid hrd2
                          replace hmm2 := Lib.hid hmm2
                          go_wp2_with (at_builtin; refine push_own elCf rfl _ _ rfl W.heap.size _ (L0 ++ L1).length (cfRow (L0 ++ L1)) hO6.out rfl [.int .i64 (i : Int), .int .i64 (u : Int), .int .i64 (k : Int)] rfl rfl rfl (by have := hLu.out; have := hLk.out; rw [List.length_append]; omega) (by omega) hBs ?_)
                          intro v' w8 hown8 hgr hb8 hs8 hob8
                          have hO8 : Hid (LC W w8 (L0 ++ fdA p m i u (k + 1)) v') := Lib.hid (lc_next (l := L0 ++ L1) (c := ⟨i, u, k⟩) (by rw [List.length_append]; exact hown8) (by rw [hMo.out, List.append_assoc]))
                          have hb9 : Hid (Below W.heap.size W w8) := Lib.hid (hb7.out.trans hb8)
                          have hTB8 := Lib.hid (hTB6.out.push hgr hob.out)
                          have hob9 := Lib.hid (ob_push hob.out zt hob8)
                          clear hown8 hgr hb8 hs8 hob8 zt ft t0 t1 t2 t3 t4 t5 r1 f1 r10 r11 r12 r2 f2 r20 r21 r22 r23 g3 g4
                          go_wp2
                          go_roundw
                          case rel => exact ⟨k + 1, by omega, by go_num, by rw [hr7.out], hO8.out, hob9.out, hTB8.out, hb9.out⟩
                          case measure => simp [intOf]; omega
                        · rw [hrd2]
                          have hr7 : Hid (rdB p m i u (k + 1) = false) := Lib.hid (by rw [hrS3.out, hrd2, hmm2]; rfl)
                          have hMo := Lib.hid (hM4.out haw hmm2)
                          clear hS4 hM4 hrS3
                          replace haw := Lib.hid haw
                          replace hrd2 := Lib.hid hrd2
                          replace hmm2 := Lib.hid hmm2
                          go_wp2_with (at_builtin; refine push_own elCf rfl _ _ rfl W.heap.size _ (L0 ++ L1).length (cfRow (L0 ++ L1)) hO6.out rfl [.int .i64 (i : Int), .int .i64 (u : Int), .int .i64 (k : Int)] rfl rfl rfl (by have := hLu.out; have := hLk.out; rw [List.length_append]; omega) (by omega) hBs ?_)
                          intro v' w8 hown8 hgr hb8 hs8 hob8
                          have hO8 : Hid (LC W w8 (L0 ++ fdA p m i u (k + 1)) v') := Lib.hid (lc_next (l := L0 ++ L1) (c := ⟨i, u, k⟩) (by rw [List.length_append]; exact hown8) (by rw [hMo.out, List.append_assoc]))
                          have hb9 : Hid (Below W.heap.size W w8) := Lib.hid (hb7.out.trans hb8)
                          have hTB8 := Lib.hid (hTB6.out.push hgr hob.out)
                          have hob9 := Lib.hid (ob_push hob.out zt hob8)
                          clear hown8 hgr hb8 hs8 hob8 zt ft t0 t1 t2 t3 t4 t5 r1 f1 r10 r11 r12 r2 f2 r20 r21 r22 r23 g3 g4
                          go_wp2
                          go_roundw
                          case rel => exact ⟨k + 1, by omega, by go_num, by rw [hr7.out], hO8.out, hob9.out, hTB8.out, hb9.out⟩
                          case measure => simp [intOf]; omega
                · obtain rfl : k = nv := by omega
                  obtain ⟨rd, hrd⟩ : ∃ rd, rdB p m i u k = rd := ⟨_, rfl⟩
                  obtain ⟨L1, hL1⟩ : ∃ L, fdA p m i u k = L := ⟨_, rfl⟩
                  have hY := Lib.hid hYes2.out
                  rw [hrd, hL1] at hY
                  rw [hrd]
                  rw [hL1] at hO hLk
                  have hBs : W.heap.size ≤ wr.heap.size := hbel3.size
                  replace hbel3 := Lib.hid hbel3
                  replace hrd := Lib.hid hrd
                  replace hL1 := Lib.hid hL1
                  clear hown hlt3
                  rcases Bool.eq_false_or_eq_true aw with haw | haw
                  · rw [haw] at t3
                    rcases Bool.eq_false_or_eq_true rd with hrd2 | hrd2
                    · rw [hrd2]
                      have hO7 : Hid (LC W wr (fd2 p m i (u + 1)) _) := Lib.hid (by rw [hY.out, haw, hrd2, if_neg (by decide), List.append_nil]; exact hO.out)
                      clear hY
                      replace haw := Lib.hid haw
                      replace hrd2 := Lib.hid hrd2
                      go_wp2
                      go_roundw
                      case rel => exact ⟨u + 1, by omega, by go_num, hO7.out, hob.out, hTB.out, hbel3.out⟩
                      case measure => simp [intOf]; omega
                    · rw [hrd2]
                      have hMo : Hid (fd2 p m i (u + 1) = L0 ++ (L1 ++ [⟨i, u, -1⟩])) := Lib.hid (by rw [hY.out, haw, hrd2]; rfl)
                      clear hY
                      replace haw := Lib.hid haw
                      replace hrd2 := Lib.hid hrd2
                      go_wp2_with (at_builtin; refine push_own elCf rfl _ _ rfl W.heap.size _ (L0 ++ L1).length (cfRow (L0 ++ L1)) hO.out rfl [.int .i64 (i : Int), .int .i64 (u : Int), .int .i64 (-1)] rfl rfl rfl (by have := hLu.out; have := hLk.out; rw [List.length_append]; omega) (by omega) hBs ?_)
                      intro v' w8 hown8 hgr hb8 hs8 hob8
                      have hO8 : Hid (LC W w8 (fd2 p m i (u + 1)) v') := Lib.hid (lc_next (l := L0 ++ L1) (c := ⟨i, u, -1⟩) (by rw [List.length_append]; exact hown8) (by rw [hMo.out, List.append_assoc]))
                      have hb9 : Hid (Below W.heap.size W w8) := Lib.hid (hbel3.out.trans hb8)
                      have hTB8 := Lib.hid (hTB.out.push hgr hob.out)
                      have hob9 := Lib.hid (ob_push hob.out zt hob8)
                      clear hown8 hgr hb8 hs8 hob8 zt ft t0 t1 t2 t3 t4 t5 r1 f1 r10 r11 r12 r2 f2 r20 r21 r22 r23
                      go_wp2
                      go_roundw
                      case rel => exact ⟨u + 1, by omega, by go_num, hO8.out, hob9.out, hTB8.out, hb9.out⟩
                      case measure => simp [intOf]; omega
                  · rw [haw] at t3
                    have hO7 : Hid (LC W wr (fd2 p m i (u + 1)) _) := Lib.hid (by rw [hY.out, haw, Bool.false_and, if_neg (by decide), List.append_nil]; exact hO.out)
                    clear hY
                    replace haw := Lib.hid haw
                    go_wp2
                    go_roundw
                    case rel => exact ⟨u + 1, by omega, by go_num, hO7.out, hob.out, hTB.out, hbel3.out⟩
                    case measure => simp [intOf]; omega
          · obtain rfl : u = nu := by omega
            have hO : Hid (LC W wr (fd1 p m (i + 1)) _) := Lib.hid (hall2.out ▸ hown)
            have hbF := Lib.hid hbel2
            clear hbel2
            clear hown hlt2
            go_wp2
            go_roundw
            case rel => exact ⟨i + 1, by omega, by go_num, hO.out, hbF.out⟩
            case measure => simp [intOf]; omega
    · obtain rfl : i = p.tabs.length := by omega
      have hR := Lib.hid (OwnC.of (w := w) (l := foundL p m) (own_base hown SW.out.size) T.out.bel)
      clear hown hlt hbel
      go_wp2
      go_ret
      exact Ret.mk hR.out
end Go.Proofs.Ytickckehhfdoeaa
