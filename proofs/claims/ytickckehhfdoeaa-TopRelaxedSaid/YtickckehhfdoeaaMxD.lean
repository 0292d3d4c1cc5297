/-
  MIXES that a call owns: their three rows, stores into them; CONTRACTS of slices.Clone at ints and sets.
  Conditions: those that each theorem names.
-/
import Derived.Test.YtickckehhfdoeaaSb3
import Derived.Test.YtickckehhfdoeaaRegK
import Derived.Lib.SmallJoins
import Derived.WalkSpells
import Derived.Deep.RegionHeld3
namespace Go.Proofs.Ytickckehhfdoeaa
open Go.RowKit Go.Sv
theorem elInt : ElemT Try.prog 36 3 (.int .i64 0) 1 8 := ⟨Try.underlying36, by kernel_rfl, rfl, by decide⟩
theorem elSet : ElemT Try.prog 54 84 (.int .u8 0) 1 1 := ⟨Try.underlying54, by kernel_rfl, rfl, by decide⟩
def rowM (n : Nat) (f : Nat → Value) : List Value := (List.range n).map f
theorem rowM_len (n : Nat) (f : Nat → Value) : (rowM n f).length = n := by simp [rowM]
theorem rowM_get {n k : Nat} {f : Nat → Value} (h : k < n) : (rowM n f)[k]? = some (f k) := by simp [rowM, h]
theorem rowM_set {n i : Nat} {f g : Nat → Value} {u : Value} (h : ∀ k, k < n → g k = if k = i then u else f k) : (rowM n f).set i u = rowM n g := by
  apply List.ext_getElem?
  intro k
  rw [List.getElem?_set]
  by_cases hk : k < n
  · rw [rowM_get hk, rowM_get hk, h k hk, rowM_len]
    by_cases e : i = k
    · subst e; simp [hk]
    · have e' : ¬ k = i := fun x => e x.symm
      simp [e, e']
  · rw [List.getElem?_eq_none (by rw [rowM_len]; omega), List.getElem?_eq_none (by rw [rowM_len]; omega), rowM_len]
    split
    · simp; omega
    · rfl
theorem rowM_snoc (n : Nat) (f : Nat → Value) : rowM (n + 1) f = rowM n f ++ [f n] := by
  unfold rowM; rw [List.range_succ, List.map_append]; rfl
theorem rowM_one {n : Nat} {f : Nat → Value} (hf : ∀ k, k < n → (f k).oneCell' = true) : ∀ u ∈ rowM n f, u.oneCell' = true := fun u hu => by
  obtain ⟨k, hk, rfl⟩ := List.mem_map.1 hu
  exact hf k (List.mem_range.1 hk)
/-- a store into a row of the call's own -/
theorem own_store {w : World} {B : Nat} {e : TypeId} {A : Option Addr} {n c : Nat} {xs : List Value} (h : w.ownsRow B e 1 (.slice A n c) n xs) {i : Nat} (hi : i < n) :
    ∃ g, A = some ⟨g, 0, none⟩ ∧ B ≤ g ∧ g < w.heap.size ∧ (∀ o, w.frozen? ⟨g, o, none⟩ = false) ∧ w.cell? ⟨g, i, none⟩ = xs[i]? ∧ ∀ u, (w.setCell ⟨g, i, none⟩ u).ownsRow B e 1 (.slice A n c) n (xs.set i u) := by
  rcases h.2 with ⟨_, h0⟩ | ⟨g, cap, cur, hv, hb, hg, hn, hm, hs, ht⟩
  · omega
  · injection hv with h1 h2 h3
    subst h1 h3
    have hwh : Whole w g e cur := hg
    rw [Nat.mul_one] at ht
    refine ⟨g, rfl, hb, hwh.lt, fun o => hwh.frozen o, ?_, fun u => ⟨?_, Or.inr ⟨g, c, cur.setIfInBounds i u, rfl, hb, hwh.set i u, hn, hm, by rw [Array.size_setIfInBounds]; exact hs, ?_⟩⟩⟩
    · rw [hwh.cell i, ← ht, List.getElem?_take, if_pos hi, Array.getElem?_toList]
    · rw [List.length_set]; exact h.1
    · rw [Nat.mul_one, Array.toList_setIfInBounds, List.take_set, ht]
/-- a store elsewhere -/
theorem own_else {w : World} {B : Nat} {e : TypeId} {A : Option Addr} {n c : Nat} {xs : List Value} (h : w.ownsRow B e 1 (.slice A n c) n xs) {p : Addr} (hp : keyV (.slice A n c) ≠ some p.block) (u : Value) : (w.setCell p u).ownsRow B e 1 (.slice A n c) n xs := by
  rcases h.2 with ⟨hv, h0⟩ | ⟨g, cap, cur, hv, hb, hg, hn, hm, hs, ht⟩
  · exact ⟨h.1, Or.inl ⟨hv, h0⟩⟩
  · have hwh : Whole w g e cur := hg
    injection hv with h1 h2 h3
    subst h1 h3
    by_cases hgp : g = p.block
    · have n0 : n = 0 := by
        rcases Nat.eq_zero_or_pos n with h0 | h0
        · exact h0
        · obtain ⟨k, rfl⟩ : ∃ k, n = k + 1 := ⟨n - 1, by omega⟩
          exact absurd (by rw [← hgp]; rfl) hp
      subst n0
      rw [Nat.zero_mul, List.take_zero] at ht
      subst ht
      obtain ⟨b, o, sp⟩ := p
      have hgp : g = b := hgp
      subst hgp
      have : ∃ cur', (w.setCell ⟨g, o, sp⟩ u).heap[g]? = some (.cells cur' e (0, 0)) ∧ cur'.size = cur.size := by
        have hlt := hwh.lt
        have hget : w.heap[g] = .cells cur e (0, 0) := by rw [Array.getElem?_eq_getElem hlt] at hg; injection hg
        refine ⟨if sp.isSome then cur else cur.setIfInBounds o u, ?_, ?_⟩
        · simp [World.setCell, hlt, Array.getElem_modify, hget]
        · split <;> simp
      obtain ⟨cur', h1, h2⟩ := this
      exact ⟨h.1, Or.inr ⟨g, c, cur', rfl, hb, h1, hn, hm, by rw [h2]; exact hs, by simp⟩⟩
    · exact ⟨h.1, Or.inr ⟨g, c, cur, rfl, hb, hwh.far hgp u, hn, hm, hs, ht⟩⟩
theorem keyV_lt {w : World} {B : Nat} {e : TypeId} {v : Value} {n : Nat} {xs : List Value} (h : w.ownsRow B e 1 v n xs) : ∀ g, keyV v = some g → B ≤ g ∧ g < w.heap.size := fun g hg => by
  rcases h.2 with ⟨rfl, h0⟩ | ⟨g', cap, cur, rfl, hb, hg', hn, hm, hs, ht⟩
  · cases hg
  · have hwh : Whole w g' e cur := hg'
    cases n with
    | zero => cases hg
    | succ n =>
      have e : g' = g := by injection hg
      subst e
      exact ⟨hb, hwh.lt⟩
/-- the rows of a mix that a call owns -/
structure AO (W : World) (B : Nat) (m : Mx) (q : MixP) : Prop where
  o0 : W.ownsRow B 3 1 (.slice q.a0 m.base.length q.c0) m.base.length (rowM m.base.length (iv m.base))
  o1 : W.ownsRow B 3 1 (.slice q.a1 m.next.length q.c1) m.next.length (rowM m.next.length (iv m.next))
  o2 : W.ownsRow B 84 1 (.slice q.a2 m.held.length q.c2) m.held.length (rowM m.held.length (u8v m.held))
  d01 : ∀ g, keyV (.slice q.a0 m.base.length q.c0) = some g → keyV (.slice q.a1 m.next.length q.c1) ≠ some g
  d02 : ∀ g, keyV (.slice q.a0 m.base.length q.c0) = some g → keyV (.slice q.a2 m.held.length q.c2) ≠ some g
  d12 : ∀ g, keyV (.slice q.a1 m.next.length q.c1) = some g → keyV (.slice q.a2 m.held.length q.c2) ≠ some g
theorem own_to {w w' : World} {B : Nat} {e : TypeId} {s : Nat} {v : Value} {n : Nat} {xs : List Value} (h : w.ownsRow B e s v n xs) (hb : Below w.heap.size w w') : w'.ownsRow B e s v n xs := by
  rcases h.2 with ⟨rfl, h0⟩ | ⟨g, cap, cur, rfl, hb', hg, rest⟩
  · exact ⟨h.1, Or.inl ⟨rfl, h0⟩⟩
  · have hwh : Whole w g e cur := hg
    exact ⟨h.1, Or.inr ⟨g, cap, cur, rfl, hb', hwh.below hb hwh.lt, rest⟩⟩
theorem own_base {w : World} {B B' : Nat} {e : TypeId} {s : Nat} {v : Value} {n : Nat} {xs : List Value} (h : w.ownsRow B e s v n xs) (hb : B' ≤ B) : w.ownsRow B' e s v n xs := by
  rcases h.2 with ⟨rfl, h0⟩ | ⟨g, cap, cur, rfl, hb', rest⟩
  · exact ⟨h.1, Or.inl ⟨rfl, h0⟩⟩
  · exact ⟨h.1, Or.inr ⟨g, cap, cur, rfl, Nat.le_trans hb hb', rest⟩⟩
theorem AO.to {W W' : World} {B : Nat} {m : Mx} {q : MixP} (h : AO W B m q) (hb : Below W.heap.size W W') : AO W' B m q := ⟨own_to h.o0 hb, own_to h.o1 hb, own_to h.o2 hb, h.d01, h.d02, h.d12⟩
theorem AO.base {W : World} {B B' : Nat} {m : Mx} {q : MixP} (h : AO W B m q) (hb : B' ≤ B) : AO W B' m q := ⟨own_base h.o0 hb, own_base h.o1 hb, own_base h.o2 hb, h.d01, h.d02, h.d12⟩
theorem AO.mix {W : World} {B : Nat} {m : Mx} {q : MixP} (h : AO W B m q) : RMix W W.heap.size m q := by
  refine ⟨?_, ?_, ?_⟩
  · obtain ⟨A, c, hv, _, _, ha⟩ := own_arr h.o0 (fun k hk => rowM_get hk)
    injection hv with h1; rw [h1]; exact ha
  · obtain ⟨A, c, hv, _, _, ha⟩ := own_arr h.o1 (fun k hk => rowM_get hk)
    injection hv with h1; rw [h1]; exact ha
  · obtain ⟨A, c, hv, _, _, ha⟩ := own_arr h.o2 (fun k hk => rowM_get hk)
    injection hv with h1; rw [h1]; exact ha
theorem AO.bd {W : World} {B : Nat} {m : Mx} {q : MixP} (h : AO W B m q) (h8 : ∀ i, i < m.held.length → 0 ≤ gi m.held i ∧ gi m.held i < 256) : MBd m q := by
  have key : ∀ {e : TypeId} {A : Option Addr} {n c : Nat} {xs : List Value}, W.ownsRow B e 1 (.slice A n c) n xs → n ≤ 9223372036854775807 ∧ (A = none → n = 0 ∧ c = 0) := fun h => by
    obtain ⟨A', c', hv, h1, h2, _⟩ := own_form h
    injection hv with e1 e2 e3
    refine ⟨?_, own_nil h⟩
    unfold maxLen at h2
    omega
  exact ⟨(key h.o0).1, (key h.o1).1, (key h.o2).1, (key h.o0).2, (key h.o1).2, (key h.o2).2, h8⟩
theorem set_gi {l : List Int} {i k : Nat} {x : Int} (hi : i < l.length) : gi (l.set i x) k = if k = i then x else gi l k := by
  by_cases e : k = i
  · rw [if_pos e, e, gi_set_same hi]
  · rw [if_neg e, gi_set_ne e]
/-- a store into the row of Next -/
theorem AO.set1 {W : World} {B : Nat} {m : Mx} {q : MixP} (h : AO W B m q) {i : Nat} (hi : i < m.next.length) :
    ∃ g, q.a1 = some ⟨g, 0, none⟩ ∧ B ≤ g ∧ g < W.heap.size ∧ (∀ o, W.frozen? ⟨g, o, none⟩ = false) ∧ W.cell? ⟨g, i, none⟩ = some (.int .i64 (gi m.next i)) ∧ ∀ x : Int, AO (W.setCell ⟨g, i, none⟩ (.int .i64 x)) B { m with next := m.next.set i x } q := by
  obtain ⟨g, e, hb, hl, hf, hc, hs⟩ := own_store h.o1 hi
  rw [rowM_get hi] at hc
  have hk : keyV (.slice q.a1 m.next.length q.c1) = some g := by
    rw [e]
    obtain ⟨k, hk⟩ : ∃ k, m.next.length = k + 1 := ⟨m.next.length - 1, by omega⟩
    rw [hk]; rfl
  refine ⟨g, e, hb, hl, hf, hc, fun x => ⟨?_, ?_, ?_, ?_, ?_, ?_⟩⟩
  · exact own_else h.o0 (fun e' => h.d01 g e' hk) _
  · have := hs (.int .i64 x)
    rw [rowM_set (g := iv (m.next.set i x)) (fun k _ => by unfold iv; rw [set_gi hi]; split <;> rfl)] at this
    show World.ownsRow _ _ _ _ (.slice q.a1 (m.next.set i x).length q.c1) (m.next.set i x).length _
    rw [List.length_set]
    exact this
  · exact own_else h.o2 (fun e' => h.d12 g hk e') _
  · intro g' h1; show keyV (.slice q.a1 (m.next.set i x).length q.c1) ≠ _; rw [List.length_set]; exact h.d01 g' h1
  · exact h.d02
  · intro g' h1
    have h1 : keyV (.slice q.a1 (m.next.set i x).length q.c1) = some g' := h1
    rw [List.length_set] at h1
    exact h.d12 g' h1
/-- a store into the row of Base -/
theorem AO.set0 {W : World} {B : Nat} {m : Mx} {q : MixP} (h : AO W B m q) {i : Nat} (hi : i < m.base.length) :
    ∃ g, q.a0 = some ⟨g, 0, none⟩ ∧ B ≤ g ∧ g < W.heap.size ∧ (∀ o, W.frozen? ⟨g, o, none⟩ = false) ∧ W.cell? ⟨g, i, none⟩ = some (.int .i64 (gi m.base i)) ∧ ∀ x : Int, AO (W.setCell ⟨g, i, none⟩ (.int .i64 x)) B { m with base := m.base.set i x } q := by
  obtain ⟨g, e, hb, hl, hf, hc, hs⟩ := own_store h.o0 hi
  rw [rowM_get hi] at hc
  have hk : keyV (.slice q.a0 m.base.length q.c0) = some g := by
    rw [e]
    obtain ⟨k, hk⟩ : ∃ k, m.base.length = k + 1 := ⟨m.base.length - 1, by omega⟩
    rw [hk]; rfl
  refine ⟨g, e, hb, hl, hf, hc, fun x => ⟨?_, ?_, ?_, ?_, ?_, ?_⟩⟩
  · have := hs (.int .i64 x)
    rw [rowM_set (g := iv (m.base.set i x)) (fun k _ => by unfold iv; rw [set_gi hi]; split <;> rfl)] at this
    show World.ownsRow _ _ _ _ (.slice q.a0 (m.base.set i x).length q.c0) (m.base.set i x).length _
    rw [List.length_set]
    exact this
  · exact own_else h.o1 (fun e' => h.d01 g hk e') _
  · exact own_else h.o2 (fun e' => h.d02 g hk e') _
  · intro g' h1
    have h1 : keyV (.slice q.a0 (m.base.set i x).length q.c0) = some g' := h1
    rw [List.length_set] at h1
    exact h.d01 g' h1
  · intro g' h1
    have h1 : keyV (.slice q.a0 (m.base.set i x).length q.c0) = some g' := h1
    rw [List.length_set] at h1
    exact h.d02 g' h1
  · exact h.d12
/-- a store into the row of Held -/
theorem AO.set2 {W : World} {B : Nat} {m : Mx} {q : MixP} (h : AO W B m q) {i : Nat} (hi : i < m.held.length) :
    ∃ g, q.a2 = some ⟨g, 0, none⟩ ∧ B ≤ g ∧ g < W.heap.size ∧ (∀ o, W.frozen? ⟨g, o, none⟩ = false) ∧ W.cell? ⟨g, i, none⟩ = some (.int .u8 (gi m.held i)) ∧ ∀ x : Int, AO (W.setCell ⟨g, i, none⟩ (.int .u8 x)) B { m with held := m.held.set i x } q := by
  obtain ⟨g, e, hb, hl, hf, hc, hs⟩ := own_store h.o2 hi
  rw [rowM_get hi] at hc
  have hk : keyV (.slice q.a2 m.held.length q.c2) = some g := by
    rw [e]
    obtain ⟨k, hk⟩ : ∃ k, m.held.length = k + 1 := ⟨m.held.length - 1, by omega⟩
    rw [hk]; rfl
  refine ⟨g, e, hb, hl, hf, hc, fun x => ⟨?_, ?_, ?_, ?_, ?_, ?_⟩⟩
  · exact own_else h.o0 (fun e' => h.d02 g e' hk) _
  · exact own_else h.o1 (fun e' => h.d12 g e' hk) _
  · have := hs (.int .u8 x)
    rw [rowM_set (g := u8v (m.held.set i x)) (fun k _ => by unfold u8v; rw [set_gi hi]; split <;> rfl)] at this
    show World.ownsRow _ _ _ _ (.slice q.a2 (m.held.set i x).length q.c2) (m.held.set i x).length _
    rw [List.length_set]
    exact this
  · exact h.d01
  · intro g' h1; show keyV (.slice q.a2 (m.held.set i x).length q.c2) ≠ _; rw [List.length_set]; exact h.d02 g' h1
  · intro g' h1; show keyV (.slice q.a2 (m.held.set i x).length q.c2) ≠ _; rw [List.length_set]; exact h.d12 g' h1
/-- three rows that were made one behind the other -/
theorem ao_mk {w1 w2 w3 W : World} {B : Nat} {m : Mx} {q : MixP} (h0 : w1.ownsRow B 3 1 (.slice q.a0 m.base.length q.c0) m.base.length (rowM m.base.length (iv m.base)))
    (h1 : w2.ownsRow w1.heap.size 3 1 (.slice q.a1 m.next.length q.c1) m.next.length (rowM m.next.length (iv m.next)))
    (h2 : w3.ownsRow w2.heap.size 84 1 (.slice q.a2 m.held.length q.c2) m.held.length (rowM m.held.length (u8v m.held)))
    (b1 : Below w1.heap.size w1 w2) (b2 : Below w2.heap.size w2 w3) (b3 : Below w3.heap.size w3 W) (hB : B ≤ w1.heap.size) : AO W B m q := by
  have k0 := keyV_lt h0
  have k1 := keyV_lt h1
  have k2 := keyV_lt h2
  have s1 := b1.size
  have s2 := b2.size
  refine ⟨own_to (own_to (own_to h0 b1) b2) b3, own_base (own_to (own_to h1 b2) b3) hB, own_base (own_to h2 b3) (by omega), fun g a b => ?_, fun g a b => ?_, fun g a b => ?_⟩
  · have := k0 g a; have := k1 g b; omega
  · have := k0 g a; have := k2 g b; omega
  · have := k1 g a; have := k2 g b; omega
/-- what Clone hands back -/
def OwnM (w : World) (e : TypeId) (n : Nat) (f : Nat → Value) (v : Value) (w' : World) : Prop := ∃ A c, v = .slice A n c ∧ w'.ownsRow w.heap.size e 1 (.slice A n c) n (rowM n f) ∧ Below w.heap.size w w'
theorem OwnM.of {w w' : World} {e : TypeId} {n : Nat} {f : Nat → Value} {v : Value} (h : w'.ownsRow w.heap.size e 1 v n (rowM n f)) (hb : Below w.heap.size w w') : OwnM w e n f v w' := by
  obtain ⟨A, c, hv, _⟩ := own_form h
  exact ⟨A, c, hv, by rw [← hv]; exact h, hb⟩
set_option maxRecDepth 100000 in
theorem cloneI_any (A : Option Addr) (c n : Nat) (f : Nat → Value) (w : World) (ha : Arr w w.heap.size A n f) (hA : A = none → n = 0 ∧ c = 0) (h1 : ∀ k, k < n → (f k).oneCell' = true) (hn : n ≤ 1000000) :
    Calls Try.prog 38 #[.slice A n c] w (Ret (OwnM w 3 n f)) := by
  have hnil := fun w => Lib.run_eql_slice_nil (P := Try.prog) w 36 3 A n c 0 0 Try.underlying36
  have hnil0 := fun w => Lib.run_eql_slice_nil (P := Try.prog) w 36 3 none 0 0 0 0 Try.underlying36
  cases A with
  | none =>
    obtain ⟨rfl, rfl⟩ := hA rfl
    clear hA ha hnil
    go_enter Try.func38, Try.ntmps38
    go_wp2
    go_ret
    exact Ret.mk (OwnM.of (World.ownsRow_nil _ _ _ _) (Below.refl _ _))
  | some ad =>
    have HF := Lib.hid (rowM_one h1)
    clear hA hnil0 h1
    replace ha := Lib.hid ha
    go_enter Try.func38, Try.ntmps38
    go_wp2_with (at_builtin; refine append_arr elInt rfl _ _ rfl w.heap.size _ 0 [] (World.ownsRow_made _ _ 0 (Nat.le_refl _) (Nat.zero_le _) rfl) rfl _ _ _ (rowM n f) rfl (by rw [rowM_len, Nat.mul_one]) HF.out ?c1 ?c2 (by omega) (by omega) (by simp) ?_)
    case c1 => intro h; cases h
    case c2 => exact arr_cells (ha.out.below ((Below.refl _ _).alloc (Nat.le_refl _) _))
    intro v' w' hown hg hb hor
    have hb2 : Below w.heap.size w w' := ((Below.refl _ _).alloc (Nat.le_refl _) _).trans hb
    try simp only [List.nil_append, Nat.zero_add] at hown
    have hR := Lib.hid (OwnM.of hown hb2)
    clear hown hg hb hor hb2
    go_wp2
    go_ret
    exact Ret.mk hR.out
set_option maxRecDepth 100000 in
theorem cloneU_any (A : Option Addr) (c n : Nat) (f : Nat → Value) (w : World) (ha : Arr w w.heap.size A n f) (hA : A = none → n = 0 ∧ c = 0) (h1 : ∀ k, k < n → (f k).oneCell' = true) (hn : n ≤ 1000000) :
    Calls Try.prog 84 #[.slice A n c] w (Ret (OwnM w 84 n f)) := by
  have hnil := fun w => Lib.run_eql_slice_nil (P := Try.prog) w 54 84 A n c 0 0 Try.underlying54
  have hnil0 := fun w => Lib.run_eql_slice_nil (P := Try.prog) w 54 84 none 0 0 0 0 Try.underlying54
  cases A with
  | none =>
    obtain ⟨rfl, rfl⟩ := hA rfl
    clear hA ha hnil
    go_enter Try.func84, Try.ntmps84
    go_wp2
    go_ret
    exact Ret.mk (OwnM.of (World.ownsRow_nil _ _ _ _) (Below.refl _ _))
  | some ad =>
    have HF := Lib.hid (rowM_one h1)
    clear hA hnil0 h1
    replace ha := Lib.hid ha
    go_enter Try.func84, Try.ntmps84
    go_wp2_with (at_builtin; refine append_arr elSet rfl _ _ rfl w.heap.size _ 0 [] (World.ownsRow_made _ _ 0 (Nat.le_refl _) (Nat.zero_le _) rfl) rfl _ _ _ (rowM n f) rfl (by rw [rowM_len, Nat.mul_one]) HF.out ?c1 ?c2 (by omega) (by omega) (by simp) ?_)
    case c1 => intro h; cases h
    case c2 => exact arr_cells (ha.out.below ((Below.refl _ _).alloc (Nat.le_refl _) _))
    intro v' w' hown hg hb hor
    have hb2 : Below w.heap.size w w' := ((Below.refl _ _).alloc (Nat.le_refl _) _).trans hb
    try simp only [List.nil_append, Nat.zero_add] at hown
    have hR := Lib.hid (OwnM.of hown hb2)
    clear hown hg hb hor hb2
    go_wp2
    go_ret
    exact Ret.mk hR.out
end Go.Proofs.Ytickckehhfdoeaa
