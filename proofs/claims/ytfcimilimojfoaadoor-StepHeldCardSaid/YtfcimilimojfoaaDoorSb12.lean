/-
  THE STATE while the reference's After changes its copy; CONTRACT of sheaveref36.Has.
  Conditions: those that each theorem names.
-/
import Derived.Test.YtfcimilimojfoaaDoorSb5
import Derived.Test.YtfcimilimojfoaaDoorSb2
import Derived.Test.YtfcimilimojfoaaDoorSb9
import Derived.Test.YtfcimilimojfoaaDoorSb7

namespace Go.Proofs.YtfcimilimojfoaaDoor
open Go.RowKit Go.Sv
structure RSt (w W : World) (gB : Nat) (bs : List Bx) (m : Mx) (q : MixP) (wr : World) : Prop where
  fm : Fm w wr (⟨gB, 36, [.slice q.a0 m.base.length q.c0, .slice q.a1 m.next.length q.c1, .slice q.a2 m.held.length q.c2]⟩ :: bs) []
  lo : ∀ x ∈ bs, x.b < W.heap.size
  ao : AO wr W.heap.size m q
  k0 : keyV (.slice q.a0 m.base.length q.c0) ≠ some gB
  k1 : keyV (.slice q.a1 m.next.length q.c1) ≠ some gB
  k2 : keyV (.slice q.a2 m.held.length q.c2) ≠ some gB
  bel : Below W.heap.size W wr
  hw : w.heap.size ≤ W.heap.size
section
variable {w W wr wr' : World} {gB : Nat} {bs : List Bx} {m : Mx} {q : MixP}
theorem RSt.to (h : RSt w W gB bs m q wr) (hb : Below wr.heap.size wr wr') : RSt w W gB bs m q wr' :=
  ⟨h.fm.call hb, h.lo, h.ao.to hb, h.k0, h.k1, h.k2, h.bel.trans (hb.mono h.bel.size), h.hw⟩
theorem RSt.put (h : RSt w W gB bs m q wr) {g i : Nat} {m' : Mx} (u : Value) (hB : W.heap.size ≤ g) (hn : gB ≠ g) (l0 : m'.base.length = m.base.length) (l1 : m'.next.length = m.next.length) (l2 : m'.held.length = m.held.length) (ha : AO (wr.setCell ⟨g, i, none⟩ u) W.heap.size m' q) : RSt w W gB bs m' q (wr.setCell ⟨g, i, none⟩ u) := by
  refine ⟨?_, h.lo, ha, by rw [l0]; exact h.k0, by rw [l1]; exact h.k1, by rw [l2]; exact h.k2, h.bel.setCell hB u, h.hw⟩
  rw [l0, l1, l2]
  exact h.fm.off (p := ⟨g, i, none⟩) (Nat.le_trans h.hw hB) (fun x hx => by
    rcases List.mem_cons.1 hx with rfl | hx
    · exact hn
    · have := h.lo x hx
      show x.b ≠ g
      omega) u
theorem RSt.set1 (h : RSt w W gB bs m q wr) {i : Nat} (hi : i < m.next.length) :
    ∃ g, q.a1 = some ⟨g, 0, none⟩ ∧ gB ≠ g ∧ W.heap.size ≤ g ∧ g < wr.heap.size ∧ (∀ o, wr.frozen? ⟨g, o, none⟩ = false) ∧ wr.cell? ⟨g, i, none⟩ = some (.int .i64 (gi m.next i)) ∧ ∀ x : Int, RSt w W gB bs { m with next := m.next.set i x } q (wr.setCell ⟨g, i, none⟩ (.int .i64 x)) := by
  obtain ⟨g, e, hb, hl, hf, hc, hs⟩ := h.ao.set1 hi
  have hn : gB ≠ g := fun e' => h.k1 (by rw [e']; exact key_pos e (by omega))
  exact ⟨g, e, hn, hb, hl, hf, hc, fun x => h.put _ hb hn rfl (List.length_set ..) rfl (hs x)⟩
theorem RSt.set0 (h : RSt w W gB bs m q wr) {i : Nat} (hi : i < m.base.length) :
    ∃ g, q.a0 = some ⟨g, 0, none⟩ ∧ gB ≠ g ∧ W.heap.size ≤ g ∧ g < wr.heap.size ∧ (∀ o, wr.frozen? ⟨g, o, none⟩ = false) ∧ wr.cell? ⟨g, i, none⟩ = some (.int .i64 (gi m.base i)) ∧ ∀ x : Int, RSt w W gB bs { m with base := m.base.set i x } q (wr.setCell ⟨g, i, none⟩ (.int .i64 x)) := by
  obtain ⟨g, e, hb, hl, hf, hc, hs⟩ := h.ao.set0 hi
  have hn : gB ≠ g := fun e' => h.k0 (by rw [e']; exact key_pos e (by omega))
  exact ⟨g, e, hn, hb, hl, hf, hc, fun x => h.put _ hb hn (List.length_set ..) rfl rfl (hs x)⟩
theorem RSt.set2 (h : RSt w W gB bs m q wr) {i : Nat} (hi : i < m.held.length) :
    ∃ g, q.a2 = some ⟨g, 0, none⟩ ∧ gB ≠ g ∧ W.heap.size ≤ g ∧ g < wr.heap.size ∧ (∀ o, wr.frozen? ⟨g, o, none⟩ = false) ∧ wr.cell? ⟨g, i, none⟩ = some (.int .u8 (gi m.held i)) ∧ ∀ x : Int, RSt w W gB bs { m with held := m.held.set i x } q (wr.setCell ⟨g, i, none⟩ (.int .u8 x)) := by
  obtain ⟨g, e, hb, hl, hf, hc, hs⟩ := h.ao.set2 hi
  have hn : gB ≠ g := fun e' => h.k2 (by rw [e']; exact key_pos e (by omega))
  exact ⟨g, e, hn, hb, hl, hf, hc, fun x => h.put _ hb hn rfl rfl (List.length_set ..) (hs x)⟩
theorem RSt.put1 (h : RSt w W gB bs m q wr) (hd : Drawn wr wr') {i g : Nat} (hi : i < m.next.length) (hg : q.a1 = some ⟨g, 0, none⟩) (x : Int) : RSt w W gB bs { m with next := m.next.set i x } q (wr'.setCell ⟨g, i, none⟩ (.int .i64 x)) := by
  obtain ⟨g', e, _, _, _, _, _, hs⟩ := (h.to hd.below).set1 hi
  rw [hg] at e
  injection e with e
  injection e with e
  subst e
  exact hs x
theorem RSt.put0 (h : RSt w W gB bs m q wr) (hd : Drawn wr wr') {i g : Nat} (hi : i < m.base.length) (hg : q.a0 = some ⟨g, 0, none⟩) (x : Int) : RSt w W gB bs { m with base := m.base.set i x } q (wr'.setCell ⟨g, i, none⟩ (.int .i64 x)) := by
  obtain ⟨g', e, _, _, _, _, _, hs⟩ := (h.to hd.below).set0 hi
  rw [hg] at e
  injection e with e
  injection e with e
  subst e
  exact hs x
theorem RSt.put2 (h : RSt w W gB bs m q wr) (hd : Drawn wr wr') {i g : Nat} (hi : i < m.held.length) (hg : q.a2 = some ⟨g, 0, none⟩) (x : Int) : RSt w W gB bs { m with held := m.held.set i x } q (wr'.setCell ⟨g, i, none⟩ (.int .u8 x)) := by
  obtain ⟨g', e, _, _, _, _, _, hs⟩ := (h.to hd.below).set2 hi
  rw [hg] at e
  injection e with e
  injection e with e
  subst e
  exact hs x
end
/-- the bit of a set -/
theorem rhas_any (x v : Nat) (hx : x < 256) (hv : v < 8) (w : World) : Calls Tryd.prog 59 #[.int .u8 (x : Int), .int .i64 (v : Int)] w fun e w' => e = .returned (.bool (x.testBit v)) ∧ w = w' := by
  have h1 : IntKind.u8.wrap ((x : Int) / 2 ^ v) = ((x / 2 ^ v : Nat) : Int) := by
    have : (x : Int) / 2 ^ v = ((x / 2 ^ v : Nat) : Int) := by simp
    rw [this]
    exact back8 (Nat.lt_of_le_of_lt (Nat.div_le_self _ _) hx)
  have hlt : x / 2 ^ v < 256 := Nat.lt_of_le_of_lt (Nat.div_le_self _ _) hx
  have h2 := bits_and8 (a := x / 2 ^ v) (b := 1) hlt (by decide)
  have h3 : (((x / 2 ^ v &&& 1 : Nat) : Int) == 1) = x.testBit v := by
    rw [Nat.testBit_eq_decide_div_mod_eq, Nat.and_one_is_mod]
    generalize x / 2 ^ v = y
    rcases Nat.mod_two_eq_zero_or_one y with h | h <;> rw [h] <;> rfl
  have j1 : (v : Int) ≤ 8 := by omega
  go_enter Tryd.func59, Tryd.ntmps59
  have h4 : (bits .and .u8 ((x : Int) / 2 ^ v) 1 == 1) = x.testBit v := by
    have e : (x : Int) / 2 ^ v = ((x / 2 ^ v : Nat) : Int) := by simp
    rw [e]
    exact (congrArg (fun z : Int => z == 1) h2).trans h3
  go_wp2
  go_ret
  exact ⟨rfl, rfl⟩
end Go.Proofs.YtfcimilimojfoaaDoor

namespace Go.Sv
open Go.RowKit
section
variable {P : Program} {K : Act → World → Prop} {Q : Exit → Act → World → Prop}
theorem oper_build0 {o : Oper} {a : Act} {w : World} {ty e : TypeId} {d : Nat} {z : Value} {bytes : Nat} (E : ElemT P ty e z 1 bytes) (ho : o.op = .buildSlice ty 0 #[]) (hd : o.dst = some d)
    (h : K (a.put (some d) (.slice (some ⟨w.heap.size, 0, none⟩) 0 0)) (w.alloc (.cells #[] e))) : o.wp P a w K Q := by
  obtain ⟨i, hi, e1, e2, e3⟩ := info_parts E.hi
  have hu := run_underlying (P := P) E.ht w
  unfold Oper.wp execOp
  simp only [ho, hd, Oper.upon, List.map_toArray, List.map_nil]
  have hr : Array.map (fun _ => (default : Value)) (Array.range 0) = #[] := Array.ext' (by simp)
  simp [Instr.buildSlice, hu, sizeOf, typeInfo, hi, Instr.fill, newRow, hr]
  exact h
/-- what a copied row's value says -/
def RowJ (e : TypeId) (n : Nat) (f : Nat → Value) (v : Value) (bs : List Bx) : Prop := ∃ g c cs, v = .slice (some ⟨g, 0, none⟩) n c ∧ (⟨g, e, cs⟩ : Bx) ∈ bs ∧ cs.length = c ∧ n ≤ c ∧ c ≤ maxLen ∧ cs.take n = (List.range n).map f
theorem RowJ.mono {e : TypeId} {n : Nat} {f : Nat → Value} {v : Value} {bs bs' : List Bx} (h : RowJ e n f v bs) (hb : ∀ x ∈ bs, x ∈ bs') : RowJ e n f v bs' := by
  obtain ⟨g, c, cs, h1, h2, h3⟩ := h
  exact ⟨g, c, cs, h1, hb _ h2, h3⟩
theorem RowJ.key {e : TypeId} {n : Nat} {f : Nat → Value} {v : Value} {bs : List Bx} (h : RowJ e n f v bs) : ∀ g, keyV v = some g → ∃ x ∈ bs, x.b = g := by
  obtain ⟨g, c, cs, rfl, h2, _⟩ := h
  intro g' hg
  cases n with
  | zero => cases hg
  | succ n =>
    have e : g = g' := by injection hg
    exact ⟨_, h2, e⟩
theorem Fm.newbox {w W W' : World} {bs : List Bx} {rs : List Rd} (h : Fm w W bs rs) (hb : Below W.heap.size W W') {g : Nat} {t : TypeId} {cs : List Value} (hw : Whole W' g t cs.toArray) (hg : W.heap.size ≤ g) : Fm w W' (⟨g, t, cs⟩ :: bs) rs := by
  have k := h.call hb
  refine ⟨k.bel, ⟨hw, k.bx⟩, k.rd, fun x hx => ?_, fun r hr g' hg' => ⟨(k.far r hr g' hg').1, fun x hx => ?_⟩, List.Pairwise.cons (fun x hx e => ?_) k.dis⟩
  · rcases List.mem_cons.1 hx with rfl | hx
    · exact Nat.le_trans h.size hg
    · exact k.lo x hx
  · rcases List.mem_cons.1 hx with rfl | hx
    · have := (h.far r hr g' hg').1
      show g ≠ g'
      omega
    · exact (k.far r hr g' hg').2 x hx
  · have := h.b_lt hx
    have e : g = x.b := e
    omega
theorem job_copy {w0 w : World} {bs : List Bx} {rs : List Rd} {t e : TypeId} {z : Value} {bytes : Nat} (E : ElemT P t e z 1 bytes) {o : Oper} {a : Act} {d : Nat} (s x : Operand) (ho : o.op = .call { callee := .builtin .append, args := #[s, x], argTypes := #[t, t] }) (hd : o.dst = some d)
    (S : Fm w0 w bs rs) {g : Nat} (hs : a.eval s = .slice (some ⟨g, 0, none⟩) 0 0) (hg : (⟨g, e, []⟩ : Bx) ∈ bs) (A : Option Addr) (n c : Nat) (f : Nat → Value) (hx : a.eval x = .slice A n c) (ha : Arr w w.heap.size A n f) (hA : A = none → n = 0 ∧ c = 0)
    (hn : n ≤ 1000000) (hby : bytes ≤ 4096)
    (hK : ∀ v w' bs', Fm w0 w' bs' rs → (∀ x ∈ bs, x ∈ bs') → RowJ e n f v bs' → (∀ x ∈ bs, keyV v ≠ some x.b) → K (a.put (some d) v) w') : o.wp P a w K Q := by
  obtain ⟨i, hi, e1, e2, e3⟩ := info_parts E.hi
  rcases Nat.eq_zero_or_pos n with h0 | h0
  · subst h0
    have hr : (Builtin.append_ #[t, t] o.type #[.slice (some ⟨g, 0, none⟩) 0 0, .slice A 0 c]).run P w = .ok (.slice (some ⟨g, 0, none⟩) 0 0) w := by
      cases A <;> simp [Builtin.append_, run_underlying E.ht, sizeOf, typeInfo, hi, Builtin.lenOf, Builtin.firstCells, storeCells, loadCells, loadCellsFrom]
    unfold Oper.wp execOp
    simp only [ho, hd, resolve, invoke, builtin, Sem.run_bind, Sem.run_pure, Result.andThen_ok, List.map_toArray, List.map_cons, List.map_nil, hs, hx, hr, Oper.upon]
    exact hK _ _ bs S (fun _ h => h) ⟨g, 0, [], rfl, hg, rfl, Nat.le_refl _, by unfold maxLen; omega, rfl⟩ (fun x _ h => by cases h)
  · obtain ⟨ad, rfl⟩ : ∃ ad, A = some ad := by
      cases A with
      | none => have := (hA rfl).1; omega
      | some ad => exact ⟨ad, rfl⟩
    obtain ⟨v', w', hr, h2, h3⟩ := run_append_arg_grows (P := P) (w := w) t o.type e i z 1 bytes E.ht hi e1 e2 e3 E.hz E.hs ⟨g, 0, none⟩ 0 0 [] rfl (fun j u hj => by simp at hj) ad n c ((List.range n).map f) (by simp) (arr_cells ha ad rfl) (by omega) (by unfold maxLen; omega) (by
      have : (0 + n) * bytes ≤ 1000000 * 4096 := Nat.mul_le_mul (by omega) hby
      omega)
    have hb : Below w.heap.size w w' := (Below.refl _ _).grown h3 (Nat.le_refl _) (fun k hk => by cases hk)
    rw [Nat.zero_add, List.nil_append] at h2
    unfold Oper.wp execOp
    simp only [ho, hd, resolve, invoke, builtin, Sem.run_bind, Sem.run_pure, Result.andThen_ok, List.map_toArray, List.map_cons, List.map_nil, hs, hx, hr, Oper.upon]
    rcases h2.2 with ⟨_, hz⟩ | ⟨g', cap, cur, rfl, hbb, hgg, hnc, hm, hsz, ht⟩
    · omega
    · have hw : Whole w' g' e cur := hgg
      refine hK _ _ (⟨g', e, cur.toList⟩ :: bs) (S.newbox hb hw hbb) (fun _ h => List.mem_cons_of_mem _ h) ⟨g', cap, cur.toList, rfl, List.mem_cons_self .., by simpa using hsz, hnc, hm, by simpa using ht⟩ (fun x hx h => ?_)
      have h1 := S.b_lt hx
      obtain ⟨k, rfl⟩ : ∃ k, n = k + 1 := ⟨n - 1, by omega⟩
      injection h with h
      have h : g' = x.b := h
      omega
end
end Go.Sv

namespace Go.Proofs.YtfcimilimojfoaaDoor
open Go.RowKit Go.Sv
/-- a comparison: 0 exactly if equal -/
def CmpR (w : World) (b : Bool) (e : Ending) (w' : World) : Prop := Below w.heap.size w w' ∧ ∃ z : Int, e = .returned (.int .i64 z) ∧ (z == 0) = b
set_option maxRecDepth 100000 in
theorem rints_any (A C : Option Addr) (c d : Nat) (l m : List Int) (w : World) (B : Nat) (ha : Arr w B A l.length (iv l)) (hc : Arr w B C m.length (iv m)) (hl : l.length ≤ 1000000) (hm : m.length ≤ 1000000) :
    Calls Tryd.prog 80 #[.slice A l.length c, .slice C m.length d] w (CmpR w (decide (l = m))) := by
  replace ha := Lib.hid ha
  replace hc := Lib.hid hc
  go_enter Tryd.func80, Tryd.ntmps80
  go_wp2
  go_loopw [5] (fun i wr => ∃ k : Nat, i = .int .i64 k ∧ k ≤ l.length ∧ k ≤ m.length ∧ (∀ j, j < k → gi l j = gi m j) ∧ Drawn w wr) (fun i _ => l.length - (intOf i).toNat)
  case atStart => exact ⟨0, rfl, Nat.zero_le _, Nat.zero_le _, fun j hj => by omega, Drawn.refl _⟩
  case round =>
    obtain ⟨k, rfl, hkl, hkm, hall, hdr⟩ := hrel
    replace hall := Lib.hid hall
    by_cases h1 : k < l.length
    · have j1 : (k : Int) < (l.length : Int) := by omega
      by_cases h2 : k < m.length
      · have j2 : (k : Int) < (m.length : Int) := by omega
        obtain ⟨b, o, rfl, -, hb⟩ := (ha.out.drawn hdr) (by omega)
        obtain ⟨b2, o2, rfl, -, hb2⟩ := (hc.out.drawn hdr) (by omega)
        have x := hb k h1
        have y := hb2 k h2
        unfold iv at x y
        replace hdr := Lib.hid hdr
        clear hb hb2
        obtain ⟨u, hu⟩ : ∃ u, gi l k = u := ⟨_, rfl⟩
        obtain ⟨v, hv⟩ : ∃ v, gi m k = v := ⟨_, rfl⟩
        rw [hu] at x
        rw [hv] at y
        have hne : Hid (u ≠ v → decide (l = m) = false) := Lib.hid fun h => by rw [decide_eq_false_iff_not]; intro e; subst e; exact h (hu.symm.trans hv)
        have heq : Hid (u = v → ∀ j, j < k + 1 → gi l j = gi m j) := Lib.hid fun h j hj => by
          rcases Nat.lt_succ_iff_lt_or_eq.1 hj with h' | h'
          · exact hall.out j h'
          · rw [h', hu, hv]; exact h
        replace hu := Lib.hid hu
        replace hv := Lib.hid hv
        cases g1 : decide (u < v) with
        | true =>
          have hF := Lib.hid (hne.out (by have := of_decide_eq_true g1; omega))
          go_wp2_with fail
          go_big_quiet (fail)
          go_wp2
          go_ret
          exact ⟨(hdr.out.drewN _).below, _, rfl, by rw [hF.out]; rfl⟩
        | false =>
          cases g2 : decide (v < u) with
          | true =>
            have hF := Lib.hid (hne.out (by have := of_decide_eq_true g2; omega))
            go_wp2_with fail
            go_big_quiet (fail)
            go_wp2_with fail
            go_big_quiet (fail)
            go_wp2
            go_ret
            exact ⟨((hdr.out.drewN _).drewN _).below, _, rfl, by rw [hF.out]; rfl⟩
          | false =>
            have hF := Lib.hid (heq.out (by have := of_decide_eq_false g1; have := of_decide_eq_false g2; omega))
            go_wp2_with fail
            go_big_quiet (fail)
            go_wp2_with fail
            go_big_quiet (fail)
            go_wp2
            go_roundw
            case rel => exact ⟨k + 1, by go_num, by omega, by omega, hF.out, hdr.out.drewN _⟩
            case measure => simp [intOf]; omega
      · obtain rfl : k = m.length := by omega
        have hF : Hid (decide (l = m) = false) := Lib.hid (by rw [decide_eq_false_iff_not]; intro e; subst e; omega)
        have j3 : ¬ ((l.length : Int) < (m.length : Int)) := by omega
        replace hdr := Lib.hid hdr
        go_wp2
        go_ret
        exact ⟨hdr.out.below, _, rfl, by rw [hF.out]; rfl⟩
    · obtain rfl : k = l.length := by omega
      by_cases h3 : l.length < m.length
      · have hF : Hid (decide (l = m) = false) := Lib.hid (by rw [decide_eq_false_iff_not]; intro e; subst e; omega)
        have j3 : (l.length : Int) < (m.length : Int) := by omega
        replace hdr := Lib.hid hdr
        go_wp2
        go_ret
        exact ⟨hdr.out.below, _, rfl, by rw [hF.out]; rfl⟩
      · have hF : Hid (decide (l = m) = true) := Lib.hid (decide_eq_true (gi_ext (by omega) hall.out))
        have j3 : ¬ ((l.length : Int) < (m.length : Int)) := by omega
        have j4 : ¬ ((m.length : Int) < (l.length : Int)) := by omega
        replace hdr := Lib.hid hdr
        go_wp2
        go_ret
        exact ⟨hdr.out.below, _, rfl, by rw [hF.out]; rfl⟩
/-- a list of numbers of the call's own -/
def OwnI (w : World) (l : List Int) (v : Value) (w' : World) : Prop := Below w.heap.size w w' ∧ ∃ A c, v = .slice A l.length c ∧ Arr w' w'.heap.size A l.length (iv l)
set_option maxRecDepth 100000 in
theorem rnumbers_any (A : Option Addr) (c : Nat) (l : List Int) (w : World) (ha : Arr w w.heap.size A l.length (u8v l)) (hl : l.length ≤ 1000000) (h8 : ∀ i, i < l.length → 0 ≤ gi l i ∧ gi l i < 256) :
    Calls Tryd.prog 81 #[.slice A l.length c] w (Ret (OwnI w l)) := by
  replace ha := Lib.hid ha
  replace h8 := Lib.hid h8
  go_enter Tryd.func81, Tryd.ntmps81
  go_wp2
  go_loopw [3, 4] (fun v i wr => ∃ k : Nat, i = .int .i64 k ∧ k ≤ l.length ∧ wr.ownsRow w.heap.size 3 1 v k (rowM k (iv l)) ∧ Below w.heap.size w wr) (fun _ i _ => l.length - (intOf i).toNat)
  case atStart => exact ⟨0, rfl, Nat.zero_le _, World.ownsRow_nil _ _ _ _, Below.refl _ _⟩
  case round =>
    obtain ⟨k, rfl, hk, hown, hbel⟩ := hrel
    by_cases hlt : k < l.length
    · obtain ⟨b, o, rfl, -, hb⟩ := (ha.out.below hbel) (by omega)
      have x := hb k hlt
      unfold u8v at x
      have hv := h8.out k hlt
      obtain ⟨v, hvv⟩ : ∃ v, gi l k = v := ⟨_, rfl⟩
      rw [hvv] at x hv
      have w1 : IntKind.i64.wrap v = v := by simp [IntKind.wrap, IntKind.bits, IntKind.signed]; omega
      have jk : (k : Int) < (l.length : Int) := by omega
      have hO := Lib.hid hown
      have hs := hbel.size
      have hS : Hid (rowM (k + 1) (iv l) = rowM k (iv l) ++ [.int .i64 v]) := Lib.hid (by rw [rowM_snoc]; unfold iv; rw [hvv])
      replace hbel := Lib.hid hbel
      replace hvv := Lib.hid hvv
      clear hb hown
      go_wp2_with (at_builtin; refine push_own elInt rfl _ _ rfl w.heap.size _ k _ hO.out rfl [.int .i64 v] rfl rfl rfl (by omega) (by omega) hs ?_)
      intro v' w3 hown3 hgr hb3 hs3 _
      have hO3 : Hid (w3.ownsRow w.heap.size 3 1 v' (k + 1) (rowM (k + 1) (iv l))) := Lib.hid (by rw [hS.out]; exact hown3)
      have hb4 := Lib.hid (hbel.out.trans hb3)
      clear hown3 hgr hb3 hs3
      go_wp2
      go_roundw
      case rel => exact ⟨k + 1, by go_num, by omega, hO3.out, hb4.out⟩
      case measure => simp [intOf]; omega
    · obtain rfl : k = l.length := by omega
      obtain ⟨A', c', hv, _, _, ha'⟩ := own_arr hown (fun k hk => rowM_get hk)
      subst hv
      have hR := Lib.hid (show OwnI w l (.slice A' l.length c') wr from ⟨hbel, A', c', rfl, ha'⟩)
      clear hlt hown hbel ha'
      go_wp2
      go_ret
      exact Ret.mk hR.out
theorem eqMx (a b : Mx) : decide (a = b) = (decide (a.base = b.base) && (decide (a.next = b.next) && decide (a.held = b.held))) := by
  obtain ⟨a1, a2, a3⟩ := a
  obtain ⟨b1, b2, b3⟩ := b
  rw [Bool.eq_iff_iff]
  simp
/-- the boxes of a function of two mixes -/
theorem mm_boxes (m n : Mx) (qm qn : MixP) (w : World) : ∃ W, (w.alloc (.cells #[.slice qm.a0 m.base.length qm.c0, .slice qm.a1 m.next.length qm.c1, .slice qm.a2 m.held.length qm.c2] 36)).alloc (.cells #[.slice qn.a0 n.base.length qn.c0, .slice qn.a1 n.next.length qn.c1, .slice qn.a2 n.held.length qn.c2] 36) = W ∧
    Fm w W [⟨w.heap.size + 1, 36, [.slice qn.a0 n.base.length qn.c0, .slice qn.a1 n.next.length qn.c1, .slice qn.a2 n.held.length qn.c2]⟩, ⟨w.heap.size, 36, [.slice qm.a0 m.base.length qm.c0, .slice qm.a1 m.next.length qm.c1, .slice qm.a2 m.held.length qm.c2]⟩] [] :=
  ⟨_, rfl, ((Fm.init w).box 36 _).box' 36 _ (by simp)⟩
structure MSm (m : Mx) : Prop where
  l0 : m.base.length ≤ 1000000
  l1 : m.next.length ≤ 1000000
  l2 : m.held.length ≤ 1000000
  h8 : H8 m
set_option maxHeartbeats 2000000 in
set_option maxRecDepth 100000 in
theorem rcompare_any (m n : Mx) (qm qn : MixP) (w : World) (hm : RMix w w.heap.size m qm) (hn : RMix w w.heap.size n qn) (sm : MSm m) (sn : MSm n) :
    Calls Tryd.prog 53 #[mixV m qm, mixV n qn] w (CmpR w (decide (m = n))) := by
  obtain ⟨W, hW, S⟩ := mm_boxes m n qm qn w
  have I0 := Lib.hid (rints_any qm.a0 qn.a0 qm.c0 qn.c0 m.base n.base W W.heap.size (hm.to S.bel).r0 (hn.to S.bel).r0 sm.l0 sn.l0)
  have I1 := Lib.hid (fun W2 (h : Below W.heap.size W W2) => rints_any qm.a1 qn.a1 qm.c1 qn.c1 m.next n.next W2 W2.heap.size ((hm.to S.bel).to h).r1 ((hn.to S.bel).to h).r1 sm.l1 sn.l1)
  have NA := Lib.hid (fun W2 (h : Below W.heap.size W W2) => rnumbers_any qm.a2 qm.c2 m.held W2 ((hm.to S.bel).to h).r2 sm.l2 sm.h8)
  have NB := Lib.hid (fun W2 (h : Below W.heap.size W W2) => rnumbers_any qn.a2 qn.c2 n.held W2 ((hn.to S.bel).to h).r2 sn.l2 sn.h8)
  have I2 := Lib.hid (fun A c A' c' W2 (h1 : Arr W2 W2.heap.size A m.held.length (iv m.held)) (h2 : Arr W2 W2.heap.size A' n.held.length (iv n.held)) => rints_any A A' c c' m.held n.held W2 W2.heap.size h1 h2 sm.l2 sn.l2)
  rw [eqMx]
  obtain ⟨e0, he0⟩ : ∃ e0, decide (m.base = n.base) = e0 := ⟨_, rfl⟩
  obtain ⟨e1, he1⟩ : ∃ e1, decide (m.next = n.next) = e1 := ⟨_, rfl⟩
  obtain ⟨e2, he2⟩ : ∃ e2, decide (m.held = n.held) = e2 := ⟨_, rfl⟩
  rw [he0] at I0
  rw [he1] at I1
  rw [he2] at I2
  rw [he0, he1, he2]
  obtain ⟨ma0, mc0, ma1, mc1, ma2, mc2⟩ := qm
  obtain ⟨na0, nc0, na1, nc1, na2, nc2⟩ := qn
  dsimp only at I0 I1 NA NB I2 hW S ⊢
  obtain ⟨⟨r1, f1, r10, r11, r12, -⟩, ⟨r2, f2, r20, r21, r22, -⟩, -⟩ := S.facts
  have SW := Lib.hid S
  clear S hm hn sm sn he0 he1 he2
  go_enter Tryd.func53, Tryd.ntmps53
  go_wp2_with fail
  clear hW
  with_reducible refine I0.out.mono ?_
  rintro e w1 ⟨hb1, z, rfl, hz⟩
  have S1 := Lib.hid (SW.out.call hb1)
  replace hb1 := Lib.hid hb1
  clear r1 f1 r10 r11 r12 r2 f2 r20 r21 r22
  obtain ⟨⟨r1, f1, r10, r11, r12, -⟩, ⟨r2, f2, r20, r21, r22, -⟩, -⟩ := S1.out.facts
  cases e0 with
  | false =>
    have hne : (z != 0) = true := by rw [bne, hz]; rfl
    replace hz := Lib.hid hz
    go_wp2
    go_ret
    exact ⟨S1.out.bel, z, rfl, by rw [hz.out]; rfl⟩
  | true =>
    have hne : (z != 0) = false := by rw [bne, hz]; rfl
    clear hz
    go_wp2_with fail
    with_reducible refine (I1.out w1 hb1.out).mono ?_
    rintro e w2 ⟨hb2, z2, rfl, hz2⟩
    have S2 := Lib.hid (S1.out.call hb2)
    replace hb2 := Lib.hid (hb1.out.trans (hb2.mono hb1.out.size))
    clear r1 f1 r10 r11 r12 r2 f2 r20 r21 r22
    obtain ⟨⟨r1, f1, r10, r11, r12, -⟩, ⟨r2, f2, r20, r21, r22, -⟩, -⟩ := S2.out.facts
    cases e1 with
    | false =>
      have hne2 : (z2 != 0) = true := by rw [bne, hz2]; rfl
      replace hz2 := Lib.hid hz2
      go_wp2
      go_ret
      exact ⟨S2.out.bel, z2, rfl, by rw [hz2.out]; rfl⟩
    | true =>
      have hne2 : (z2 != 0) = false := by rw [bne, hz2]; rfl
      clear hz2
      go_wp2_with fail
      go_region_held3 (fun w' => w'.cell? ⟨w.heap.size, 2, none⟩ = some (.slice ma2 m.held.length mc2) ∧ w'.cell? ⟨w.heap.size + 1, 2, none⟩ = some (.slice na2 n.held.length nc2)) (go_keep)
        (first
          | ((with_reducible refine (NA.out w2.drew (hb2.out.drawn ((Drawn.refl _).drew))).mono ?_)
             rintro e w3 ⟨_, rfl, hb3, A3, c3, rfl, ha3⟩
             have hb3' : Hid (Below w2.heap.size w2 w3) := Lib.hid (((Drawn.refl w2).drew).below.trans hb3)
             have hAa := Lib.hid ha3
             have S3 := Lib.hid (S2.out.call hb3'.out)
             clear hb3 ha3 r1 f1 r10 r11 r12 r2 f2 r20 r21 r22
             obtain ⟨⟨r1, f1, r10, r11, r12, -⟩, ⟨r2, f2, r20, r21, r22, -⟩, -⟩ := S3.out.facts)
          | ((with_reducible refine (NB.out w2.drew (hb2.out.drawn ((Drawn.refl _).drew))).mono ?_)
             rintro e w3 ⟨_, rfl, hb3, A3, c3, rfl, ha3⟩
             have hb3' : Hid (Below w2.heap.size w2 w3) := Lib.hid (((Drawn.refl w2).drew).below.trans hb3)
             have hAb := Lib.hid ha3
             have S3 := Lib.hid (S2.out.call hb3'.out)
             clear hb3 ha3 r1 f1 r10 r11 r12 r2 f2 r20 r21 r22
             obtain ⟨⟨r1, f1, r10, r11, r12, -⟩, ⟨r2, f2, r20, r21, r22, -⟩, -⟩ := S3.out.facts)
          | ((with_reducible refine (NB.out w3 (hb2.out.trans (hb3'.out.mono hb2.out.size))).mono ?_)
             rintro e w4 ⟨_, rfl, hb4, A4, c4, rfl, ha4⟩
             have hL := Lib.hid ((hAa.out.below hb4).more hb4.size)
             have hR := Lib.hid ha4
             have S4 := Lib.hid (S3.out.call hb4)
             clear hb4 ha4 r1 f1 r10 r11 r12 r2 f2 r20 r21 r22
             obtain ⟨⟨r1, f1, r10, r11, r12, -⟩, ⟨r2, f2, r20, r21, r22, -⟩, -⟩ := S4.out.facts)
          | ((with_reducible refine (NA.out w3 (hb2.out.trans (hb3'.out.mono hb2.out.size))).mono ?_)
             rintro e w4 ⟨_, rfl, hb4, A4, c4, rfl, ha4⟩
             have hL := Lib.hid ha4
             have hR := Lib.hid ((hAb.out.below hb4).more hb4.size)
             have S4 := Lib.hid (S3.out.call hb4)
             clear hb4 ha4 r1 f1 r10 r11 r12 r2 f2 r20 r21 r22
             obtain ⟨⟨r1, f1, r10, r11, r12, -⟩, ⟨r2, f2, r20, r21, r22, -⟩, -⟩ := S4.out.facts)
          | ((with_reducible refine (I2.out _ _ _ _ w4 hL.out hR.out).mono ?_)
             rintro e w5 ⟨hb5, z3, rfl, hz3⟩
             have S5 := Lib.hid (S4.out.call hb5)
             replace hz3 := Lib.hid hz3
             clear hb5 r1 f1 r10 r11 r12 r2 f2 r20 r21 r22
             obtain ⟨⟨r1, f1, r10, r11, r12, -⟩, ⟨r2, f2, r20, r21, r22, -⟩, -⟩ := S5.out.facts))
      all_goals (try go_wp2)
      all_goals (go_ret; exact ⟨S5.out.bel, z3, rfl, by rw [hz3.out]; rfl⟩)
set_option maxRecDepth 100000 in
theorem requal_any (m n : Mx) (qm qn : MixP) (w : World) (hm : RMix w w.heap.size m qm) (hn : RMix w w.heap.size n qn) (sm : MSm m) (sn : MSm n) :
    Calls Tryd.prog 23 #[mixV m qm, mixV n qn] w fun e w' => e = .returned (.bool (decide (m = n))) ∧ Below w.heap.size w w' := by
  obtain ⟨W, hW, S⟩ := mm_boxes m n qm qn w
  have HC := Lib.hid (rcompare_any m n qm qn W (hm.to S.bel) (hn.to S.bel) sm sn)
  obtain ⟨ma0, mc0, ma1, mc1, ma2, mc2⟩ := qm
  obtain ⟨na0, nc0, na1, nc1, na2, nc2⟩ := qn
  dsimp only at HC hW S ⊢
  obtain ⟨⟨r1, f1, r10, r11, r12, -⟩, ⟨r2, f2, r20, r21, r22, -⟩, -⟩ := S.facts
  have SW := Lib.hid S
  clear S hm hn sm sn
  go_enter Tryd.func23, Tryd.ntmps23
  go_wp2_with fail
  clear hW
  with_reducible refine HC.out.mono ?_
  rintro e w1 ⟨hb1, z, rfl, hz⟩
  have S1 := Lib.hid (SW.out.call hb1)
  replace hz := Lib.hid hz
  clear r1 f1 r10 r11 r12 r2 f2 r20 r21 r22
  go_wp2
  go_ret
  exact ⟨by rw [← hz.out]; rfl, S1.out.bel⟩
end Go.Proofs.YtfcimilimojfoaaDoor
