/-
  Cut out of the texts Sb3 MxD StA Sb5 Sb6 Sb7 Sb9 Sb11 StOc: what this seat needs of them.
  Conditions: those that each theorem names.
-/
import Derived.Test.YtcjnfciemangkaaRepK
import Derived.Test.YtcjnfciemangkaaRepU
import Derived.Test.YtcjnfciemangkaaFm
import Derived.Test.YtcjnfciemangkaaTwoR
import Derived.Test.YtcjnfciemangkaaRegK
import Derived.Test.YtcjnfciemangkaaSb1
import Derived.Lib.SmallJoins
import Derived.WalkSpells
import Derived.Deep.RegionHeld3
import Derived.Deep.RegionLaw
import Derived.Deep.DeepCutAuto

namespace Go.Proofs.Ytcjnfciemangkaa
open Go.RowKit Go.Sv
structure MixP where
  a0 : Option Addr
  c0 : Nat
  a1 : Option Addr
  c1 : Nat
  a2 : Option Addr
  c2 : Nat
def u8v (l : List Int) (k : Nat) : Value := .int .u8 (gi l k)
structure RMix (w : World) (B : Nat) (m : Mx) (q : MixP) : Prop where
  r0 : Arr w B q.a0 m.base.length (iv m.base)
  r1 : Arr w B q.a1 m.next.length (iv m.next)
  r2 : Arr w B q.a2 m.held.length (u8v m.held)
theorem RMix.below {w w' : World} {B : Nat} {m : Mx} {q : MixP} (h : RMix w B m q) (hb : Below B w w') : RMix w' B m q := ⟨h.r0.below hb, h.r1.below hb, h.r2.below hb⟩
theorem RMix.more {w : World} {B B' : Nat} {m : Mx} {q : MixP} (h : RMix w B m q) (hB : B ≤ B') : RMix w B' m q := ⟨h.r0.more hB, h.r1.more hB, h.r2.more hB⟩
theorem RMix.to {w w' : World} {m : Mx} {q : MixP} (h : RMix w w.heap.size m q) (hb : Below w.heap.size w w') : RMix w' w'.heap.size m q := (h.below hb).more hb.size
/-- what a mix's numbers and slices obey -/
structure MBd (m : Mx) (q : MixP) : Prop where
  l0 : m.base.length ≤ 9223372036854775807
  l1 : m.next.length ≤ 9223372036854775807
  l2 : m.held.length ≤ 9223372036854775807
  n0 : q.a0 = none → m.base.length = 0 ∧ q.c0 = 0
  n1 : q.a1 = none → m.next.length = 0 ∧ q.c1 = 0
  n2 : q.a2 = none → m.held.length = 0 ∧ q.c2 = 0
  h8 : ∀ i, i < m.held.length → 0 ≤ gi m.held i ∧ gi m.held i < 256
theorem stB_iff (k : Int) : stB k = (k == 3 || k == 4) := by unfold stB; by_cases h : k = 3 <;> by_cases h2 : k = 4 <;> simp [h, h2]
theorem rstored_any (t : Tab) (q : TabP) (w : World) : Calls Try.prog 36 #[tabV t q] w fun e w' => e = .returned (.bool (stB t.kind)) ∧ Below w.heap.size w w' := by
  have hb := Lib.hid ((Below.refl w.heap.size w).alloc (Nat.le_refl _) (.cells #[.int .i64 t.kind, .int .i64 t.src, .int .i64 t.dst, .bool t.aware, .slice q.okA t.ok.length q.okC, .slice q.rwA t.rw.length q.rwC] 68))
  rw [stB_iff]
  cases h2 : (t.kind == 3) with
  | true =>
    go_enter Try.func36, Try.ntmps36
    go_wp2
    go_ret
    exact ⟨ret_b rfl, hb.out⟩
  | false =>
    go_enter Try.func36, Try.ntmps36
    go_wp2
    go_ret
    exact ⟨ret_b rfl, hb.out⟩
end Go.Proofs.Ytcjnfciemangkaa
namespace Go.Proofs.Ytcjnfciemangkaa
open Go.RowKit Go.Sv
theorem fm_boxE {w W : World} {bs : List Bx} {rs : List Rd} (h : Fm w W bs rs) (t : TypeId) (cs : List Value) : ∃ W2, W.alloc (.cells cs.toArray t) = W2 ∧ Fm w W2 (⟨W.heap.size, t, cs⟩ :: bs) rs ∧ Below W.heap.size W W2 :=
  ⟨_, rfl, h.box t cs, (Below.refl _ _).alloc (Nat.le_refl _) _⟩
end Go.Proofs.Ytcjnfciemangkaa
namespace Go.Proofs.Ytcjnfciemangkaa
open Go.RowKit Go.Sv
def rowM (n : Nat) (f : Nat → Value) : List Value := (List.range n).map f
theorem rowM_get {n k : Nat} {f : Nat → Value} (h : k < n) : (rowM n f)[k]? = some (f k) := by simp [rowM, h]
theorem rowM_snoc (n : Nat) (f : Nat → Value) : rowM (n + 1) f = rowM n f ++ [f n] := by
  unfold rowM; rw [List.range_succ, List.map_append]; rfl
/-- a store elsewhere -/
theorem own_else {w : World} {B : Nat} {e : TypeId} {A : Option Addr} {n c : Nat} {xs : List Value} (h : w.ownsRow B e 1 (.slice A n c) n xs) {p : Addr} (hp : keyV (.slice A n c) ≠ some p.block) (u : Value) : (w.setCell p u).ownsRow B e 1 (.slice A n c) n xs := by
  rcases h.2 with ⟨hv, h0⟩ | ⟨g, cap, cur, hv, hb, hg, hn, hm, hs, ht⟩
  · exact ⟨h.1, Or.inl ⟨hv, h0⟩⟩
  · have hwh : Whole w g e cur := hg
    injection hv with h1 h2 h3
    subst h1 h3
    by_cases hgp : g = p.block
    · have n0 : n = 0 := by
        rcases Nat.eq_zero_or_pos n with h0 | h0
        · exact h0
        · obtain ⟨k, rfl⟩ : ∃ k, n = k + 1 := ⟨n - 1, by omega⟩
          exact absurd (by rw [← hgp]; rfl) hp
      subst n0
      rw [Nat.zero_mul, List.take_zero] at ht
      subst ht
      obtain ⟨b, o, sp⟩ := p
      have hgp : g = b := hgp
      subst hgp
      have : ∃ cur', (w.setCell ⟨g, o, sp⟩ u).heap[g]? = some (.cells cur' e (0, 0)) ∧ cur'.size = cur.size := by
        have hlt := hwh.lt
        have hget : w.heap[g] = .cells cur e (0, 0) := by rw [Array.getElem?_eq_getElem hlt] at hg; injection hg
        refine ⟨if sp.isSome then cur else cur.setIfInBounds o u, ?_, ?_⟩
        · simp [World.setCell, hlt, Array.getElem_modify, hget]
        · split <;> simp
      obtain ⟨cur', h1, h2⟩ := this
      exact ⟨h.1, Or.inr ⟨g, c, cur', rfl, hb, h1, hn, hm, by rw [h2]; exact hs, by simp⟩⟩
    · exact ⟨h.1, Or.inr ⟨g, c, cur, rfl, hb, hwh.far hgp u, hn, hm, hs, ht⟩⟩
theorem keyV_lt {w : World} {B : Nat} {e : TypeId} {v : Value} {n : Nat} {xs : List Value} (h : w.ownsRow B e 1 v n xs) : ∀ g, keyV v = some g → B ≤ g ∧ g < w.heap.size := fun g hg => by
  rcases h.2 with ⟨rfl, h0⟩ | ⟨g', cap, cur, rfl, hb, hg', hn, hm, hs, ht⟩
  · cases hg
  · have hwh : Whole w g' e cur := hg'
    cases n with
    | zero => cases hg
    | succ n =>
      have e : g' = g := by injection hg
      subst e
      exact ⟨hb, hwh.lt⟩
/-- the rows of a mix that a call owns -/
structure AO (W : World) (B : Nat) (m : Mx) (q : MixP) : Prop where
  o0 : W.ownsRow B 3 1 (.slice q.a0 m.base.length q.c0) m.base.length (rowM m.base.length (iv m.base))
  o1 : W.ownsRow B 3 1 (.slice q.a1 m.next.length q.c1) m.next.length (rowM m.next.length (iv m.next))
  o2 : W.ownsRow B 63 1 (.slice q.a2 m.held.length q.c2) m.held.length (rowM m.held.length (u8v m.held))
  d01 : ∀ g, keyV (.slice q.a0 m.base.length q.c0) = some g → keyV (.slice q.a1 m.next.length q.c1) ≠ some g
  d02 : ∀ g, keyV (.slice q.a0 m.base.length q.c0) = some g → keyV (.slice q.a2 m.held.length q.c2) ≠ some g
  d12 : ∀ g, keyV (.slice q.a1 m.next.length q.c1) = some g → keyV (.slice q.a2 m.held.length q.c2) ≠ some g
theorem own_to {w w' : World} {B : Nat} {e : TypeId} {s : Nat} {v : Value} {n : Nat} {xs : List Value} (h : w.ownsRow B e s v n xs) (hb : Below w.heap.size w w') : w'.ownsRow B e s v n xs := by
  rcases h.2 with ⟨rfl, h0⟩ | ⟨g, cap, cur, rfl, hb', hg, rest⟩
  · exact ⟨h.1, Or.inl ⟨rfl, h0⟩⟩
  · have hwh : Whole w g e cur := hg
    exact ⟨h.1, Or.inr ⟨g, cap, cur, rfl, hb', hwh.below hb hwh.lt, rest⟩⟩
theorem own_base {w : World} {B B' : Nat} {e : TypeId} {s : Nat} {v : Value} {n : Nat} {xs : List Value} (h : w.ownsRow B e s v n xs) (hb : B' ≤ B) : w.ownsRow B' e s v n xs := by
  rcases h.2 with ⟨rfl, h0⟩ | ⟨g, cap, cur, rfl, hb', rest⟩
  · exact ⟨h.1, Or.inl ⟨rfl, h0⟩⟩
  · exact ⟨h.1, Or.inr ⟨g, cap, cur, rfl, Nat.le_trans hb hb', rest⟩⟩
theorem AO.to {W W' : World} {B : Nat} {m : Mx} {q : MixP} (h : AO W B m q) (hb : Below W.heap.size W W') : AO W' B m q := ⟨own_to h.o0 hb, own_to h.o1 hb, own_to h.o2 hb, h.d01, h.d02, h.d12⟩
theorem AO.base {W : World} {B B' : Nat} {m : Mx} {q : MixP} (h : AO W B m q) (hb : B' ≤ B) : AO W B' m q := ⟨own_base h.o0 hb, own_base h.o1 hb, own_base h.o2 hb, h.d01, h.d02, h.d12⟩
end Go.Proofs.Ytcjnfciemangkaa
namespace Go.Proofs.Ytcjnfciemangkaa
open Go.RowKit Go.Sv
theorem AO.far {W : World} {B : Nat} {m : Mx} {q : MixP} (h : AO W B m q) {p : Addr} (hp : p.block < B) (u : Value) : AO (W.setCell p u) B m q := by
  refine ⟨own_else h.o0 (fun e => ?_) u, own_else h.o1 (fun e => ?_) u, own_else h.o2 (fun e => ?_) u, h.d01, h.d02, h.d12⟩
  · have := (keyV_lt h.o0 _ e).1; omega
  · have := (keyV_lt h.o1 _ e).1; omega
  · have := (keyV_lt h.o2 _ e).1; omega
end Go.Proofs.Ytcjnfciemangkaa
namespace Go.Proofs.Ytcjnfciemangkaa
open Go.RowKit Go.Sv
theorem _root_.Go.Sv.Fm.off {w W : World} {bs : List Bx} (h : Fm w W bs []) {p : Addr} (hp : w.heap.size ≤ p.block) (hb : ∀ x ∈ bs, x.b ≠ p.block) (v : Value) : Fm w (W.setCell p v) bs [] :=
  ⟨h.bel.setCell hp v, allB_of fun x hx => (allB_at h.bx x hx).far (hb x hx) v, trivial, h.lo, (fun r hr => by cases hr), h.dis⟩
end Go.Proofs.Ytcjnfciemangkaa
namespace Go.Sv
open Go.RowKit
theorem rowN_snoc {s n : Nat} (hs : 0 < s) {f g : Nat → Nat → Value} (h : ∀ k, k < n → ∀ i, i < s → g k i = f k i) : rowN s (n + 1) g = rowN s n f ++ (List.range s).map (g n) := by
  unfold rowN
  rw [Nat.succ_mul, List.range_add, List.map_append, List.map_map]
  congr 1
  · apply List.map_congr_left
    intro j hj
    have hj := List.mem_range.1 hj
    exact h _ (Nat.div_lt_of_lt_mul (by rw [Nat.mul_comm]; exact hj)) _ (Nat.mod_lt _ hs)
  · apply List.map_congr_left
    intro j hj
    have hj := List.mem_range.1 hj
    show g ((n * s + j) / s) ((n * s + j) % s) = g n j
    rw [Nat.mul_comm, Nat.mul_add_div hs, Nat.div_eq_of_lt hj, Nat.mul_add_mod, Nat.mod_eq_of_lt hj, Nat.add_zero]
end Go.Sv
namespace Go.Proofs.Ytcjnfciemangkaa
open Go.RowKit Go.Sv
/-- rows of another element type lie in other blocks -/
theorem ownO_other {w w' : World} {base base' : Nat} {e e' : TypeId} {size size' : Nat} {v u : Value} {n m : Nat} {xs ys : List Value} (h : w.ownsRow base e size v n xs) (hu : w.ownsRow base' e' size' u m ys) (hne : e ≠ e') (hg : w.grownBy w' u.ownBlock) : w'.ownsRow base e size v n xs := by
  refine ⟨h.1, ?_⟩
  rcases h.2 with hn | ⟨g, cap, cur, hv, hb, hgg, rest⟩
  · exact Or.inl hn
  · have hw : Whole w g e cur := hgg
    refine Or.inr ⟨g, cap, cur, hv, hb, hw.grown hg ?_, rest⟩
    intro heq
    rcases hu.2 with ⟨hv2, _⟩ | ⟨g2, cap2, cur2, hv2, _, hgg2, _⟩
    · rw [hv2] at heq; cases heq
    · rw [hv2] at heq
      have h3 : some g = some g2 := heq
      injection h3 with h3
      subst h3
      rw [hgg] at hgg2
      injection hgg2 with h4
      injection h4 with _ h5 _
      exact hne h5
/-- an element of a list of mixes: its rows lie below A, or are the call's own, from B on -/
def MEl (W : World) (A B : Nat) (m : Mx) (q : MixP) : Prop := (RMix W A m q ∨ AO W B m q) ∧ MBd m q
theorem MEl.to {W W' : World} {A B : Nat} {m : Mx} {q : MixP} (h : MEl W A B m q) (hA : A ≤ W.heap.size) (hb : Below W.heap.size W W') : MEl W' A B m q :=
  ⟨h.1.imp (fun h => h.below (hb.mono hA)) (fun h => h.to hb), h.2⟩
theorem MEl.base {W : World} {A B B' : Nat} {m : Mx} {q : MixP} (h : MEl W A B m q) (hB : B' ≤ B) : MEl W A B' m q := ⟨h.1.imp id (fun h => h.base hB), h.2⟩
end Go.Proofs.Ytcjnfciemangkaa
namespace Go.Proofs.Ytcjnfciemangkaa
open Go.RowKit Go.Sv
theorem step_own2 {P : Program} {t e : TypeId} {z : Value} {bytes : Nat} {w : World} (E : ElemT P t e z 1 bytes) {ops : Array Oper} {o : Oper} {a : Act} {K : Act → World → Prop} {Q : Exit → Act → World → Prop} {X : Prop} (hgd : o.guard = none) (s x : Operand)
    (ho : o.op = .call { callee := .builtin .append, args := #[s, x], argTypes := #[t, t] }) (base : Nat) (v : Value) (n : Nat) (xs : List Value) (hown : w.ownsRow base e 1 v n xs) (hs : a.eval s = v)
    (B : Nat) (hx : a.eval x = .slice (some ⟨B, 0, none⟩) 1 1) (u : Value) (hc : w.cell? ⟨B, 0, none⟩ = some u) (hu : u.oneCell' = true) (hn : n ≤ 1000000) (hby : bytes ≤ 4096) (hbase : base ≤ w.heap.size)
    (h : ∀ v' w', w'.ownsRow base e 1 v' (n + 1) (xs ++ [u]) → w.grownBy w' v.ownBlock → (v'.ownBlock = v.ownBlock ∨ v'.ownBlock = some w.heap.size) → K (a.put o.dst v') w') :
    if Region.wanted o (yielded ops a.tmps) = true then Oper.wp P o a w K Q else X := by
  have hw : Region.wanted o (yielded ops a.tmps) = true := by simp [Region.wanted, hgd]
  rw [if_pos hw]
  obtain ⟨v', w', hr, h2, h3, h4⟩ := run_append_arr E w o.type base v n xs hown (some ⟨B, 0, none⟩) 1 1 [u] rfl (by simpa using hu) (fun h => by cases h) (fun ad had j y hy => by
    injection had with had
    subst had
    match j, hy with
    | 0, hy =>
      have : u = y := by simpa using hy
      subst this
      exact hc) (by omega) hby hbase
  unfold Oper.wp execOp
  simp only [ho, resolve, invoke, builtin, Sem.run_bind, Sem.run_pure, Result.andThen_ok, List.map_toArray, List.map_cons, List.map_nil, hs, hx, hr]
  exact h v' w' h2 h3 h4
section
variable {w0 W W' : World} {b : Nat} {m : Mx} {q : MixP}
theorem own_at {e : TypeId} {v : Value} {n : Nat} {xs : List Value} (h : W.ownsRow (b + 1) e 1 v n xs) {g : Nat} (hg : v.ownBlock = some g) : b + 1 ≤ g ∧ g < W.heap.size ∧ ∃ cur, Whole W g e cur := by
  rcases h.2 with ⟨rfl, _⟩ | ⟨g', cap, cur, rfl, hb, hgg, _⟩
  · cases hg
  · have : some g' = some g := hg
    injection this with this
    subst this
    have hw : Whole W g' e cur := hgg
    exact ⟨hb, hw.lt, cur, hw⟩
theorem keyV_own {A : Option Addr} {n c g : Nat} (h : keyV (.slice A n c) = some g) : (Value.slice A n c).ownBlock = some g := by
  cases A with
  | none => cases h
  | some a => cases n with
    | zero => cases h
    | succ n => exact h
theorem kept_set {e : TypeId} {v : Value} {n : Nat} {xs : List Value} (h : W.ownsRow (b + 1) e 1 v n xs) (i : Nat) (u : Value) : (W.setCell ⟨b, i, none⟩ u).ownsRow (b + 1) e 1 v n xs :=
  h.kept (grownBy_set W b i u) (by
    cases hx : v.ownBlock with
    | none => exact Or.inl rfl
    | some g =>
      refine Or.inr fun e => ?_
      injection e with e
      have := (own_at h hx).1
      omega)
theorem rowM_app (n : Nat) (f g : Nat → Value) (hf : ∀ k, k < n → g k = f k) : rowM (n + 1) g = rowM n f ++ [g n] := by
  rw [rowM_snoc]
  congr 1
  unfold rowM
  apply List.map_congr_left
  intro k hk
  exact hf k (List.mem_range.1 hk)
end
end Go.Proofs.Ytcjnfciemangkaa
namespace Go.Proofs.Ytcjnfciemangkaa
open Go.RowKit Go.Sv
theorem code5_any (A : Option Addr) (c : Nat) (l : List Int) (i : Nat) (w : World) (B : Nat) (ha : Arr w B A l.length (u8v l)) (h8 : ∀ k, k < l.length → 0 ≤ gi l k ∧ gi l k < 256) (hl : l.length ≤ 9223372036854775807) (hi : i ≤ 1000000) :
    Calls Try.prog 35 #[.slice A l.length c, .int .i64 (i : Int)] w fun e w' => e = .returned (.int .i64 (dcode l i)) ∧ w = w' := by
  unfold dcode
  by_cases hlt : i < l.length
  · rw [if_pos hlt]
    obtain ⟨b, o, rfl, -, hc⟩ := ha (by omega)
    have x := hc i hlt
    have hv := h8 i hlt
    unfold u8v at x
    obtain ⟨v, hvv⟩ : ∃ v, gi l i = v := ⟨_, rfl⟩
    rw [hvv] at x hv ⊢
    have w1 : IntKind.i64.wrap v = v := by simp [IntKind.wrap, IntKind.bits, IntKind.signed]; omega
    have j1 : (i : Int) < (l.length : Int) := by omega
    clear hc h8 ha hvv
    go_enter Try.func35, Try.ntmps35
    go_wp2
    go_ret
    exact ⟨rfl, rfl⟩
  · rw [if_neg hlt]
    have j1 : ¬ (i : Int) < (l.length : Int) := by omega
    clear h8 ha
    go_enter Try.func35, Try.ntmps35
    go_wp2
    go_ret
    exact ⟨rfl, rfl⟩
theorem elB : ElemT Try.prog 69 4 (.bool false) 1 1 := ⟨Try.underlying69, by kernel_rfl, rfl, by decide⟩
theorem elR : ElemT Try.prog 66 69 (.slice none 0 0) 1 24 := ⟨Try.underlying66, by kernel_rfl, rfl, by decide⟩
/-- an entry of the matrix of bits -/
def bitE (bad : Int) (diag : Bool) (i k : Nat) : Bool := (diag && decide (i = k)) || decide (bad / 2 ^ (3 * i + k) % 2 = 0)
/-- a matrix whose rows are the call's own -/
def OwnMt (W : World) (B : Nat) (m : List (List Bool)) (v : Value) : Prop :=
  ∃ r : Nat → Option Addr × Nat, W.ownsRow B 69 1 v m.length (rowM m.length fun k => .slice (r k).1 (mlen m k) (r k).2) ∧
    ∀ k, k < m.length → W.ownsRow B 4 1 (.slice (r k).1 (mlen m k) (r k).2) (mlen m k) (rowM (mlen m k) fun j => .bool (mat m k j))
theorem OwnMt.to {W W' : World} {B : Nat} {m : List (List Bool)} {v : Value} (h : OwnMt W B m v) (hb : Below W.heap.size W W') : OwnMt W' B m v := by
  obtain ⟨r, h1, h2⟩ := h
  exact ⟨r, own_to h1 hb, fun k hk => own_to (h2 k hk) hb⟩
theorem OwnMt.base {W : World} {B B' : Nat} {m : List (List Bool)} {v : Value} (h : OwnMt W B m v) (hb : B' ≤ B) : OwnMt W B' m v := by
  obtain ⟨r, h1, h2⟩ := h
  exact ⟨r, own_base h1 hb, fun k hk => own_base (h2 k hk) hb⟩
theorem OwnMt.mat {W : World} {B c : Nat} {A : Option Addr} {m : List (List Bool)} (h : OwnMt W B m (.slice A m.length c)) : RMat W W.heap.size A m := by
  obtain ⟨r, h1, h2⟩ := h
  obtain ⟨A1, c1, hv, -, -, h3⟩ := own_arr h1 (fun k hk => rowM_get hk)
  injection hv with h4
  rw [h4]
  refine ⟨r, h3, fun k hk => ?_⟩
  obtain ⟨A2, c2, hv2, -, -, h5⟩ := own_arr (h2 k hk) (fun j hj => rowM_get hj)
  injection hv2 with h6
  rw [h6]
  exact h5
theorem rowM_congr {n : Nat} {f g : Nat → Value} (h : ∀ k, k < n → f k = g k) : rowM n f = rowM n g := by
  unfold rowM
  apply List.map_congr_left
  intro k hk
  exact h k (List.mem_range.1 hk)
/-- a matrix of the call's own -/
def OwnMat (w : World) (m : List (List Bool)) (v : Value) (w' : World) : Prop := Below w.heap.size w w' ∧ ∃ A c, v = .slice A m.length c ∧ OwnMt w' w.heap.size m v
set_option maxHeartbeats 2000000 in
set_option maxRecDepth 100000 in
theorem bits_any (n m : Nat) (bad : Int) (diag : Bool) (w : World) (hn : n ≤ 3) (hm : m ≤ 3) (b0 : 0 ≤ bad) (_b1 : bad < 65536) :
    Calls Try.prog 37 #[.int .i64 (n : Int), .int .i64 (m : Int), .int .u16 bad, .bool diag] w (Ret (OwnMat w (bitsM n m bad diag))) := by
  go_enter Try.func37, Try.ntmps37
  go_wp2
  go_loopw [9, 10, 11, 12] (fun v9 s10 _ _ wr => ∃ (i : Nat) (r : Nat → Option Addr × Nat), s10 = .int .i64 i ∧ i ≤ n ∧ wr.ownsRow w.heap.size 69 1 v9 i (rowM i (fun k => .slice (r k).1 m (r k).2)) ∧ (∀ k, k < i → wr.ownsRow w.heap.size 4 1 (.slice (r k).1 m (r k).2) m (rowM m (fun j => .bool (bitE bad diag k j)))) ∧ Below w.heap.size w wr) (fun _ s10 _ _ _ => n - (intOf s10).toNat)
  case atStart => exact ⟨0, fun _ => (none, 0), rfl, Nat.zero_le _, World.ownsRow_nil _ _ _ _, fun k hk => by omega, Below.refl _ _⟩
  case round =>
    obtain ⟨i, r, rfl, hi, hO, hR, hbel⟩ := hrel
    by_cases hlt : i < n
    · have ji : (i : Int) < (n : Int) := by omega
      replace hO := Lib.hid hO
      replace hR := Lib.hid hR
      replace hbel := Lib.hid hbel
      go_wp2
      rename World => wo
      go_loopw [11, 12] (fun v11 s12 wr => ∃ k : Nat, s12 = .int .i64 k ∧ k ≤ m ∧ wr.ownsRow wo.heap.size 4 1 v11 k (rowM k (fun j => .bool (bitE bad diag i j))) ∧ Below wo.heap.size wo wr) (fun _ s12 _ => m - (intOf s12).toNat)
      case atStart => exact ⟨0, rfl, Nat.zero_le _, World.ownsRow_nil _ _ _ _, Below.refl _ _⟩
      case round =>
        obtain ⟨k, rfl, hk, hI, hb2⟩ := hrel
        by_cases hlk : k < m
        · have jk : (k : Int) < (m : Int) := by omega
          replace hI := Lib.hid hI
          have hs := hb2.size
          replace hb2 := Lib.hid hb2
          have m1 : IntKind.i64.wrap (3 * (i : Int)) = 3 * (i : Int) := by simp [IntKind.wrap, IntKind.bits, IntKind.signed]; omega
          have m2 : IntKind.i64.wrap (3 * (i : Int) + (k : Int)) = 3 * (i : Int) + (k : Int) := by simp [IntKind.wrap, IntKind.bits, IntKind.signed]; omega
          have hE : Hid (bitE bad diag i k = ((diag && decide (i = k)) || ((bad / 2 ^ (3 * i + k)).tmod 2 == 0))) := Lib.hid (by
            unfold bitE
            have hp : (0 : Int) < 2 ^ (3 * i + k) := Int.pow_pos (by decide)
            rw [Int.tmod_eq_emod_of_nonneg (Int.ediv_nonneg b0 (Int.le_of_lt hp))]
            congr 1)
          cases diag with
          | true =>
            cases hq : ((i : Int) == (k : Int)) with
            | true =>
              have hT : Hid (bitE bad true i k = true) := Lib.hid (by unfold bitE; rw [decide_eq_true (show i = k by have := beq_iff_eq.1 hq; omega)]; rfl)
              clear hE
              go_wp2_with (at_builtin; refine push_own elB rfl _ _ rfl wo.heap.size _ k _ hI.out rfl [.bool true] rfl rfl rfl (by omega) (by omega) hs ?_)
              intro v' w3 hown3 hgr hb3 hs3 _
              have hI3 : Hid (w3.ownsRow wo.heap.size 4 1 v' (k + 1) (rowM (k + 1) (fun j => .bool (bitE bad true i j)))) := Lib.hid (by rw [rowM_snoc, hT.out]; exact hown3)
              have hb4 := Lib.hid (hb2.out.trans hb3)
              clear hown3 hgr hb3 hs3
              go_wp2
              go_roundw
              case rel => exact ⟨k + 1, by go_num, by omega, hI3.out, hb4.out⟩
              case measure => simp [intOf]; omega
            | false =>
              have hg : Hid (decide (i = k) = false) := Lib.hid (decide_eq_false fun h => by rw [h] at hq; simp at hq)
              cases hz : ((bad / 2 ^ (3 * i + k)).tmod 2 == 0) with
              | true =>
                have hT : Hid (bitE bad true i k = true) := Lib.hid (by rw [hE.out, hz]; simp)
                clear hE hg
                go_wp2_with (at_builtin; refine push_own elB rfl _ _ rfl wo.heap.size _ k _ hI.out rfl [.bool true] rfl rfl rfl (by omega) (by omega) hs ?_)
                intro v' w3 hown3 hgr hb3 hs3 _
                have hI3 : Hid (w3.ownsRow wo.heap.size 4 1 v' (k + 1) (rowM (k + 1) (fun j => .bool (bitE bad true i j)))) := Lib.hid (by rw [rowM_snoc, hT.out]; exact hown3)
                have hb4 := Lib.hid (hb2.out.trans hb3)
                clear hown3 hgr hb3 hs3
                go_wp2
                go_roundw
                case rel => exact ⟨k + 1, by go_num, by omega, hI3.out, hb4.out⟩
                case measure => simp [intOf]; omega
              | false =>
                have hT : Hid (bitE bad true i k = false) := Lib.hid (by rw [hE.out, hz]; first | rfl | (rw [hg.out]; rfl))
                clear hE hg
                go_wp2_with (at_builtin; refine push_own elB rfl _ _ rfl wo.heap.size _ k _ hI.out rfl [.bool false] rfl rfl rfl (by omega) (by omega) hs ?_)
                intro v' w3 hown3 hgr hb3 hs3 _
                have hI3 : Hid (w3.ownsRow wo.heap.size 4 1 v' (k + 1) (rowM (k + 1) (fun j => .bool (bitE bad true i j)))) := Lib.hid (by rw [rowM_snoc, hT.out]; exact hown3)
                have hb4 := Lib.hid (hb2.out.trans hb3)
                clear hown3 hgr hb3 hs3
                go_wp2
                go_roundw
                case rel => exact ⟨k + 1, by go_num, by omega, hI3.out, hb4.out⟩
                case measure => simp [intOf]; omega
          | false =>
            have hg : True := trivial
            cases hz : ((bad / 2 ^ (3 * i + k)).tmod 2 == 0) with
            | true =>
              have hT : Hid (bitE bad false i k = true) := Lib.hid (by rw [hE.out, hz]; simp)
              clear hE hg
              go_wp2_with (at_builtin; refine push_own elB rfl _ _ rfl wo.heap.size _ k _ hI.out rfl [.bool true] rfl rfl rfl (by omega) (by omega) hs ?_)
              intro v' w3 hown3 hgr hb3 hs3 _
              have hI3 : Hid (w3.ownsRow wo.heap.size 4 1 v' (k + 1) (rowM (k + 1) (fun j => .bool (bitE bad false i j)))) := Lib.hid (by rw [rowM_snoc, hT.out]; exact hown3)
              have hb4 := Lib.hid (hb2.out.trans hb3)
              clear hown3 hgr hb3 hs3
              go_wp2
              go_roundw
              case rel => exact ⟨k + 1, by go_num, by omega, hI3.out, hb4.out⟩
              case measure => simp [intOf]; omega
            | false =>
              have hT : Hid (bitE bad false i k = false) := Lib.hid (by rw [hE.out, hz]; first | rfl | (rw [hg.out]; rfl))
              clear hE hg
              go_wp2_with (at_builtin; refine push_own elB rfl _ _ rfl wo.heap.size _ k _ hI.out rfl [.bool false] rfl rfl rfl (by omega) (by omega) hs ?_)
              intro v' w3 hown3 hgr hb3 hs3 _
              have hI3 : Hid (w3.ownsRow wo.heap.size 4 1 v' (k + 1) (rowM (k + 1) (fun j => .bool (bitE bad false i j)))) := Lib.hid (by rw [rowM_snoc, hT.out]; exact hown3)
              have hb4 := Lib.hid (hb2.out.trans hb3)
              clear hown3 hgr hb3 hs3
              go_wp2
              go_roundw
              case rel => exact ⟨k + 1, by go_num, by omega, hI3.out, hb4.out⟩
              case measure => simp [intOf]; omega
        · obtain rfl : k = m := by omega
          obtain ⟨A1, c1, rfl, -, -, -⟩ := own_form hI
          have hs := hb2.size
          have hwo := hbel.out.size
          have hO2 := Lib.hid (own_to hO.out hb2)
          have hR2 : Hid (∀ j, j < i → wr.ownsRow w.heap.size 4 1 (.slice (r j).1 k (r j).2) k (rowM k (fun x => .bool (bitE bad diag j x)))) := Lib.hid fun j hj => own_to (hR.out j hj) hb2
          have hI2 := Lib.hid (own_base hI hwo)
          have hb3 := Lib.hid (hbel.out.trans (hb2.mono hwo))
          have hsw : w.heap.size ≤ wr.heap.size := Nat.le_trans hwo hs
          clear hI hb2 hlk
          go_wp2_with (at_builtin; refine push_own elR rfl _ _ rfl w.heap.size _ i _ hO2.out rfl [.slice A1 k c1] rfl rfl rfl (by omega) (by omega) hsw ?_)
          intro v' w5 hown5 hg5 hb5 hs5 _
          have ha : Below wr.heap.size wr (wr.alloc (.cells [Value.slice A1 k c1].toArray 69)) := (Below.refl _ _).alloc (Nat.le_refl _) _
          have hO5 : Hid (w5.ownsRow w.heap.size 69 1 v' (i + 1) (rowM (i + 1) (fun j => .slice ((fun j => if j = i then (A1, c1) else r j) j).1 k ((fun j => if j = i then (A1, c1) else r j) j).2))) := Lib.hid (by
            rw [rowM_app i (fun j => .slice (r j).1 k (r j).2) _ (fun j hj => by dsimp only; rw [if_neg (by omega)])]
            dsimp only
            rw [if_pos rfl]
            exact hown5)
          have hR5 : Hid (∀ j, j < i + 1 → w5.ownsRow w.heap.size 4 1 (.slice ((fun j => if j = i then (A1, c1) else r j) j).1 k ((fun j => if j = i then (A1, c1) else r j) j).2) k (rowM k (fun x => .bool (bitE bad diag j x)))) := Lib.hid fun j hj => by
            dsimp only
            by_cases e : j = i
            · subst e
              rw [if_pos rfl]
              exact ownO_other (own_to hI2.out ha) (own_to hO2.out ha) (by decide) hg5
            · rw [if_neg e]
              exact ownO_other (own_to (hR2.out j (by omega)) ha) (own_to hO2.out ha) (by decide) hg5
          have hb6 := Lib.hid (hb3.out.trans hb5)
          clear hown5 hg5 hb5 hs5 ha
          go_wp2
          go_roundw
          case rel => exact ⟨i + 1, _, by go_num, by omega, hO5.out, hR5.out, hb6.out⟩
          case measure => simp [intOf]; omega
    · obtain rfl : i = n := by omega
      have hlen := bitsM_len i m bad diag
      obtain ⟨A1, c1, hv, -, -, -⟩ := own_form hO
      subst hv
      have hR' := Lib.hid (show OwnMat w (bitsM i m bad diag) (.slice A1 i c1) wr from ⟨hbel, A1, c1, by rw [hlen], r, by
        rw [hlen, rowM_congr (g := fun k => .slice (r k).1 m (r k).2) (fun k hk => by rw [bitsM_mlen hk])]
        exact hO, fun k hk => by
        rw [hlen] at hk
        rw [bitsM_mlen hk, rowM_congr (g := fun j => .bool (bitE bad diag k j)) (fun j hj => by
          unfold mat
          rw [bitsM_row hk]
          unfold bitE
          simp [hj])]
        exact hR k hk⟩)
      clear hlt hO hR hbel hlen
      go_wp2
      go_ret
      exact Ret.mk hR'.out
end Go.Proofs.Ytcjnfciemangkaa
namespace Go.Proofs.Ytcjnfciemangkaa
open Go.RowKit Go.Sv
theorem OwnMt.other {W W' : World} {B B' s n : Nat} {e : TypeId} {m : List (List Bool)} {v u : Value} {ys : List Value} (h : OwnMt W B m v) (hu : W.ownsRow B' e s u n ys) (h1 : 69 ≠ e) (h2 : 4 ≠ e) (hg : W.grownBy W' u.ownBlock) : OwnMt W' B m v := by
  obtain ⟨r, h3, h4⟩ := h
  exact ⟨r, ownO_other h3 hu h1 hg, fun k hk => ownO_other (h4 k hk) hu h2 hg⟩
theorem kept_setN {W : World} {b s : Nat} {e : TypeId} {v : Value} {n : Nat} {xs : List Value} (h : W.ownsRow (b + 1) e s v n xs) (i : Nat) (u : Value) : (W.setCell ⟨b, i, none⟩ u).ownsRow (b + 1) e s v n xs :=
  h.kept (grownBy_set W b i u) (by
    cases hx : v.ownBlock with
    | none => exact Or.inl rfl
    | some g =>
      refine Or.inr fun e => ?_
      injection e with e
      rcases h.2 with ⟨rfl, _⟩ | ⟨g', cap, cur, rfl, hb, _⟩
      · cases hx
      · have hx : some g' = some g := hx
        injection hx with hx
        omega)
theorem OwnMt.set {W : World} {b : Nat} {m : List (List Bool)} {v : Value} (h : OwnMt W (b + 1) m v) (i : Nat) (u : Value) : OwnMt (W.setCell ⟨b, i, none⟩ u) (b + 1) m v := by
  obtain ⟨r, h3, h4⟩ := h
  exact ⟨r, kept_set h3 _ _, fun k hk => kept_set (h4 k hk) _ _⟩
def tbRow (ts : List Tab) (F : Nat → TabP) : List Value := rowN 6 ts.length fun k i => tabCells (tab ts k) (F k) i
def Fs (n : Nat) (F : Nat → TabP) (q : TabP) (k : Nat) : TabP := if k = n then q else F k
theorem Fs_lt {n k : Nat} {F : Nat → TabP} {q : TabP} (h : k < n) : Fs n F q k = F k := if_neg (by omega)
theorem Fs_at {n : Nat} {F : Nat → TabP} {q : TabP} : Fs n F q n = q := if_pos rfl
theorem tab_snoc_lt {l : List Tab} {x : Tab} {k : Nat} (h : k < l.length) : tab (l ++ [x]) k = tab l k := by simp [tab, List.getElem?_append_left h]
theorem tab_snoc_last {l : List Tab} {x : Tab} : tab (l ++ [x]) l.length = x := by simp [tab]
theorem tbRow_snoc (ts : List Tab) (F : Nat → TabP) (t : Tab) (q : TabP) : tbRow (ts ++ [t]) (Fs ts.length F q) = tbRow ts F ++ [.int .i64 t.kind, .int .i64 t.src, .int .i64 t.dst, .bool t.aware, .slice q.okA t.ok.length q.okC, .slice q.rwA t.rw.length q.rwC] := by
  unfold tbRow
  rw [List.length_append, List.length_singleton, rowN_snoc (f := fun k i => tabCells (tab ts k) (F k) i) (by decide) (fun k hk i _ => by rw [tab_snoc_lt hk, Fs_lt hk])]
  rw [tab_snoc_last, Fs_at]
  rfl
theorem elTab : ElemT Try.prog 23 68 (.agg #[.int .i64 0, .int .i64 0, .int .i64 0, .bool false, .slice none 0 0, .slice none 0 0]) 6 80 := ⟨Try.underlying23, by kernel_rfl, by kernel_rfl, by omega⟩
/-- the variable b of a problem whose rows lie behind it -/
structure PB (w0 : World) (b : Nat) (p : Prob) (q : ProbP) (F : Nat → TabP) (W : World) : Prop where
  bel : Below b w0 W
  hb : b ≤ w0.heap.size
  pb : Whole W b 25 #[.slice q.a0 p.vs.length q.c0, .slice q.a1 p.now.length q.c1, .slice q.a2 p.tgt.length q.c2, .slice q.a3 p.tabs.length q.c3]
  o0 : W.ownsRow (b + 1) 3 1 (.slice q.a0 p.vs.length q.c0) p.vs.length (rowM p.vs.length (iv p.vs))
  o1 : W.ownsRow (b + 1) 3 1 (.slice q.a1 p.now.length q.c1) p.now.length (rowM p.now.length (iv p.now))
  o2 : W.ownsRow (b + 1) 3 1 (.slice q.a2 p.tgt.length q.c2) p.tgt.length (rowM p.tgt.length (iv p.tgt))
  o3 : W.ownsRow (b + 1) 68 6 (.slice q.a3 p.tabs.length q.c3) p.tabs.length (tbRow p.tabs F)
  d01 : ∀ g, (Value.slice q.a0 p.vs.length q.c0).ownBlock = some g → (Value.slice q.a1 p.now.length q.c1).ownBlock ≠ some g
  d02 : ∀ g, (Value.slice q.a0 p.vs.length q.c0).ownBlock = some g → (Value.slice q.a2 p.tgt.length q.c2).ownBlock ≠ some g
  d12 : ∀ g, (Value.slice q.a1 p.now.length q.c1).ownBlock = some g → (Value.slice q.a2 p.tgt.length q.c2).ownBlock ≠ some g
  m3 : ∀ k, k < p.tabs.length → OwnMt W (b + 1) (tab p.tabs k).ok (.slice (F k).okA (tab p.tabs k).ok.length (F k).okC) ∧ OwnMt W (b + 1) (tab p.tabs k).rw (.slice (F k).rwA (tab p.tabs k).rw.length (F k).rwC)
theorem PB.new (w : World) (F : Nat → TabP) : PB w w.heap.size ⟨[], [], [], []⟩ ⟨none, 0, none, 0, none, 0, none, 0⟩ F (w.alloc (.cells #[.slice none 0 0, .slice none 0 0, .slice none 0 0, .slice none 0 0] 25)) :=
  ⟨(Below.refl _ _).alloc (Nat.le_refl _) _, Nat.le_refl _, Whole.new .., World.ownsRow_nil _ _ _ _, World.ownsRow_nil _ _ _ _, World.ownsRow_nil _ _ _ _, World.ownsRow_nil _ _ _ _, (fun g h => by cases h), (fun g h => by cases h), (fun g h => by cases h), (fun k h => by cases h)⟩
section
variable {w0 W W' : World} {b : Nat} {p : Prob} {q : ProbP} {F : Nat → TabP}
theorem PB.size (h : PB w0 b p q F W) : b + 1 ≤ W.heap.size := h.pb.lt
theorem PB.to (h : PB w0 b p q F W) (hb : Below W.heap.size W W') : PB w0 b p q F W' :=
  ⟨h.bel.trans (hb.mono (by have := h.size; omega)), h.hb, h.pb.below hb h.pb.lt, own_to h.o0 hb, own_to h.o1 hb, own_to h.o2 hb, own_to h.o3 hb, h.d01, h.d02, h.d12, fun k hk => ⟨(h.m3 k hk).1.to hb, (h.m3 k hk).2.to hb⟩⟩
theorem PB.facts (h : PB w0 b p q F W) : b < W.heap.size ∧ (∀ o, W.frozen? ⟨b, o, none⟩ = false) ∧ W.cell? ⟨b, 0, none⟩ = some (.slice q.a0 p.vs.length q.c0) ∧ W.cell? ⟨b, 1, none⟩ = some (.slice q.a1 p.now.length q.c1) ∧ W.cell? ⟨b, 2, none⟩ = some (.slice q.a2 p.tgt.length q.c2) ∧ W.cell? ⟨b, 3, none⟩ = some (.slice q.a3 p.tabs.length q.c3) :=
  ⟨h.pb.lt, fun o => h.pb.frozen o, h.pb.cell 0, h.pb.cell 1, h.pb.cell 2, h.pb.cell 3⟩
theorem PB.prob (h : PB w0 b p q F W) : RProb W W.heap.size p q := by
  refine ⟨?_, ?_, ?_, F, ?_, fun k hk => ⟨(h.m3 k hk).1.mat, (h.m3 k hk).2.mat⟩⟩
  · obtain ⟨A, c, hv, _, _, ha⟩ := own_arr h.o0 (fun k hk => rowM_get hk)
    injection hv with h1; rw [h1]; exact ha
  · obtain ⟨A, c, hv, _, _, ha⟩ := own_arr h.o1 (fun k hk => rowM_get hk)
    injection hv with h1; rw [h1]; exact ha
  · obtain ⟨A, c, hv, _, _, ha⟩ := own_arr h.o2 (fun k hk => rowM_get hk)
    injection hv with h1; rw [h1]; exact ha
  · obtain ⟨A, c, hv, _, _, ha⟩ := own_arrN (f := fun k i => tabCells (tab p.tabs k) (F k) i) h.o3 (fun k hk i hi => rowN_get hk hi)
    injection hv with h1; rw [h1]; exact ha
/-- vs grows by one -/
theorem PB.push0 (h : PB w0 b p q F W) {x : Int} {v' : Value} (ho : W'.ownsRow (b + 1) 3 1 v' (p.vs.length + 1) (rowM p.vs.length (iv p.vs) ++ [.int .i64 x])) (hg : W.grownBy W' (Value.slice q.a0 p.vs.length q.c0).ownBlock)
    (hor : v'.ownBlock = (Value.slice q.a0 p.vs.length q.c0).ownBlock ∨ v'.ownBlock = some W.heap.size) :
    ∃ A c, v' = .slice A (p.vs.length + 1) c ∧ PB w0 b { p with vs := p.vs ++ [x] } { q with a0 := A, c0 := c } F (W'.setCell ⟨b, 0, none⟩ (.slice A (p.vs.length + 1) c)) := by
  obtain ⟨A, c, rfl, _⟩ := own_form ho
  have hbW : Below (b + 1) W W' := own_below h.o0 hg h.size
  have hm : Whole W' b 25 _ := h.pb.below hbW (Nat.lt_succ_self _)
  have k1 := h.o1.kept hg (by
    cases hx : (Value.slice q.a1 p.now.length q.c1).ownBlock with
    | none => exact Or.inl rfl
    | some g => exact Or.inr fun e => h.d01 g e.symm hx)
  have k2 := h.o2.kept hg (by
    cases hx : (Value.slice q.a2 p.tgt.length q.c2).ownBlock with
    | none => exact Or.inl rfl
    | some g => exact Or.inr fun e => h.d02 g e.symm hx)
  have k3 := ownO_other h.o3 h.o0 (by decide) hg
  have hl : (p.vs ++ [x]).length = p.vs.length + 1 := by simp
  refine ⟨A, c, rfl, ⟨(h.bel.trans (hbW.mono (Nat.le_succ _))).setCell (Nat.le_refl _) _, h.hb, ?_, ?_, ?_, ?_, kept_setN k3 _ _, ?_, ?_, ?_, fun k hk => ?_⟩⟩
  · have := hm.set 0 (.slice A (p.vs.length + 1) c)
    show Whole _ _ _ #[.slice A (p.vs ++ [x]).length c, _, _, _]
    rw [hl]
    exact this
  · have := kept_set ho 0 (.slice A (p.vs.length + 1) c)
    show World.ownsRow _ _ _ _ (.slice A (p.vs ++ [x]).length c) (p.vs ++ [x]).length _
    rw [hl, rowM_app _ (iv p.vs) _ (fun k hk => by unfold iv; rw [gi_snoc_lt hk])]
    unfold iv at this ⊢
    rw [gi_snoc_last]
    exact this
  · exact kept_set k1 _ _
  · exact kept_set k2 _ _
  · intro g h1 h2
    have e1 : (Value.slice A (p.vs ++ [x]).length c).ownBlock = some g := h1
    rw [hl] at e1
    rcases hor with e | e
    · rw [e] at e1
      exact h.d01 g e1 h2
    · rw [e] at e1
      injection e1 with e1
      have := (own_at h.o1 h2).2.1
      omega
  · intro g h1 h2
    have e1 : (Value.slice A (p.vs ++ [x]).length c).ownBlock = some g := h1
    rw [hl] at e1
    rcases hor with e | e
    · rw [e] at e1
      exact h.d02 g e1 h2
    · rw [e] at e1
      injection e1 with e1
      have := (own_at h.o2 h2).2.1
      omega
  · exact h.d12
  · obtain ⟨m1, m2⟩ := h.m3 k hk
    exact ⟨(m1.other h.o0 (by decide) (by decide) hg).set _ _, (m2.other h.o0 (by decide) (by decide) hg).set _ _⟩
/-- now grows by one -/
theorem PB.push1 (h : PB w0 b p q F W) {x : Int} {v' : Value} (ho : W'.ownsRow (b + 1) 3 1 v' (p.now.length + 1) (rowM p.now.length (iv p.now) ++ [.int .i64 x])) (hg : W.grownBy W' (Value.slice q.a1 p.now.length q.c1).ownBlock)
    (hor : v'.ownBlock = (Value.slice q.a1 p.now.length q.c1).ownBlock ∨ v'.ownBlock = some W.heap.size) :
    ∃ A c, v' = .slice A (p.now.length + 1) c ∧ PB w0 b { p with now := p.now ++ [x] } { q with a1 := A, c1 := c } F (W'.setCell ⟨b, 1, none⟩ (.slice A (p.now.length + 1) c)) := by
  obtain ⟨A, c, rfl, _⟩ := own_form ho
  have hbW : Below (b + 1) W W' := own_below h.o1 hg h.size
  have hm : Whole W' b 25 _ := h.pb.below hbW (Nat.lt_succ_self _)
  have k0 := h.o0.kept hg (by
    cases hx : (Value.slice q.a0 p.vs.length q.c0).ownBlock with
    | none => exact Or.inl rfl
    | some g => exact Or.inr fun e => h.d01 g hx e.symm)
  have k2 := h.o2.kept hg (by
    cases hx : (Value.slice q.a2 p.tgt.length q.c2).ownBlock with
    | none => exact Or.inl rfl
    | some g => exact Or.inr fun e => h.d12 g e.symm hx)
  have k3 := ownO_other h.o3 h.o1 (by decide) hg
  have hl : (p.now ++ [x]).length = p.now.length + 1 := by simp
  refine ⟨A, c, rfl, ⟨(h.bel.trans (hbW.mono (Nat.le_succ _))).setCell (Nat.le_refl _) _, h.hb, ?_, ?_, ?_, ?_, kept_setN k3 _ _, ?_, ?_, ?_, fun k hk => ?_⟩⟩
  · have := hm.set 1 (.slice A (p.now.length + 1) c)
    show Whole _ _ _ #[_, .slice A (p.now ++ [x]).length c, _, _]
    rw [hl]
    exact this
  · exact kept_set k0 _ _
  · have := kept_set ho 1 (.slice A (p.now.length + 1) c)
    show World.ownsRow _ _ _ _ (.slice A (p.now ++ [x]).length c) (p.now ++ [x]).length _
    rw [hl, rowM_app _ (iv p.now) _ (fun k hk => by unfold iv; rw [gi_snoc_lt hk])]
    unfold iv at this ⊢
    rw [gi_snoc_last]
    exact this
  · exact kept_set k2 _ _
  · intro g h1 h2
    have e1 : (Value.slice A (p.now ++ [x]).length c).ownBlock = some g := h2
    rw [hl] at e1
    rcases hor with e | e
    · rw [e] at e1
      exact h.d01 g h1 e1
    · rw [e] at e1
      injection e1 with e1
      have := (own_at h.o0 h1).2.1
      omega
  · exact h.d02
  · intro g h1 h2
    have e1 : (Value.slice A (p.now ++ [x]).length c).ownBlock = some g := h1
    rw [hl] at e1
    rcases hor with e | e
    · rw [e] at e1
      exact h.d12 g e1 h2
    · rw [e] at e1
      injection e1 with e1
      have := (own_at h.o2 h2).2.1
      omega
  · obtain ⟨m1, m2⟩ := h.m3 k hk
    exact ⟨(m1.other h.o1 (by decide) (by decide) hg).set _ _, (m2.other h.o1 (by decide) (by decide) hg).set _ _⟩
/-- tgt grows by one -/
theorem PB.push2 (h : PB w0 b p q F W) {x : Int} {v' : Value} (ho : W'.ownsRow (b + 1) 3 1 v' (p.tgt.length + 1) (rowM p.tgt.length (iv p.tgt) ++ [.int .i64 x])) (hg : W.grownBy W' (Value.slice q.a2 p.tgt.length q.c2).ownBlock)
    (hor : v'.ownBlock = (Value.slice q.a2 p.tgt.length q.c2).ownBlock ∨ v'.ownBlock = some W.heap.size) :
    ∃ A c, v' = .slice A (p.tgt.length + 1) c ∧ PB w0 b { p with tgt := p.tgt ++ [x] } { q with a2 := A, c2 := c } F (W'.setCell ⟨b, 2, none⟩ (.slice A (p.tgt.length + 1) c)) := by
  obtain ⟨A, c, rfl, _⟩ := own_form ho
  have hbW : Below (b + 1) W W' := own_below h.o2 hg h.size
  have hm : Whole W' b 25 _ := h.pb.below hbW (Nat.lt_succ_self _)
  have k0 := h.o0.kept hg (by
    cases hx : (Value.slice q.a0 p.vs.length q.c0).ownBlock with
    | none => exact Or.inl rfl
    | some g => exact Or.inr fun e => h.d02 g hx e.symm)
  have k1 := h.o1.kept hg (by
    cases hx : (Value.slice q.a1 p.now.length q.c1).ownBlock with
    | none => exact Or.inl rfl
    | some g => exact Or.inr fun e => h.d12 g hx e.symm)
  have k3 := ownO_other h.o3 h.o2 (by decide) hg
  have hl : (p.tgt ++ [x]).length = p.tgt.length + 1 := by simp
  refine ⟨A, c, rfl, ⟨(h.bel.trans (hbW.mono (Nat.le_succ _))).setCell (Nat.le_refl _) _, h.hb, ?_, ?_, ?_, ?_, kept_setN k3 _ _, ?_, ?_, ?_, fun k hk => ?_⟩⟩
  · have := hm.set 2 (.slice A (p.tgt.length + 1) c)
    show Whole _ _ _ #[_, _, .slice A (p.tgt ++ [x]).length c, _]
    rw [hl]
    exact this
  · exact kept_set k0 _ _
  · exact kept_set k1 _ _
  · have := kept_set ho 2 (.slice A (p.tgt.length + 1) c)
    show World.ownsRow _ _ _ _ (.slice A (p.tgt ++ [x]).length c) (p.tgt ++ [x]).length _
    rw [hl, rowM_app _ (iv p.tgt) _ (fun k hk => by unfold iv; rw [gi_snoc_lt hk])]
    unfold iv at this ⊢
    rw [gi_snoc_last]
    exact this
  · exact h.d01
  · intro g h1 h2
    have e1 : (Value.slice A (p.tgt ++ [x]).length c).ownBlock = some g := h2
    rw [hl] at e1
    rcases hor with e | e
    · rw [e] at e1
      exact h.d02 g h1 e1
    · rw [e] at e1
      injection e1 with e1
      have := (own_at h.o0 h1).2.1
      omega
  · intro g h1 h2
    have e1 : (Value.slice A (p.tgt ++ [x]).length c).ownBlock = some g := h2
    rw [hl] at e1
    rcases hor with e | e
    · rw [e] at e1
      exact h.d12 g h1 e1
    · rw [e] at e1
      injection e1 with e1
      have := (own_at h.o1 h1).2.1
      omega
  · obtain ⟨m1, m2⟩ := h.m3 k hk
    exact ⟨(m1.other h.o2 (by decide) (by decide) hg).set _ _, (m2.other h.o2 (by decide) (by decide) hg).set _ _⟩
/-- the tables grow by one -/
theorem PB.push3 (h : PB w0 b p q F W) {t : Tab} {y : TabP} {v' : Value} (ho : W'.ownsRow (b + 1) 68 6 v' (p.tabs.length + 1) (tbRow p.tabs F ++ [.int .i64 t.kind, .int .i64 t.src, .int .i64 t.dst, .bool t.aware, .slice y.okA t.ok.length y.okC, .slice y.rwA t.rw.length y.rwC])) (hg : W.grownBy W' (Value.slice q.a3 p.tabs.length q.c3).ownBlock)
    (hm : OwnMt W (b + 1) t.ok (.slice y.okA t.ok.length y.okC)) (hm' : OwnMt W (b + 1) t.rw (.slice y.rwA t.rw.length y.rwC)) :
    ∃ A c, v' = .slice A (p.tabs.length + 1) c ∧ PB w0 b { p with tabs := p.tabs ++ [t] } { q with a3 := A, c3 := c } (Fs p.tabs.length F y) (W'.setCell ⟨b, 3, none⟩ (.slice A (p.tabs.length + 1) c)) := by
  obtain ⟨A, c, rfl, _⟩ := own_form ho
  have hbW : Below (b + 1) W W' := own_below h.o3 hg h.size
  have hw : Whole W' b 25 _ := h.pb.below hbW (Nat.lt_succ_self _)
  have hl : (p.tabs ++ [t]).length = p.tabs.length + 1 := by simp
  have kept : ∀ {m v}, OwnMt W (b + 1) m v → OwnMt (W'.setCell ⟨b, 3, none⟩ (.slice A (p.tabs.length + 1) c)) (b + 1) m v := fun hm => (hm.other h.o3 (by decide) (by decide) hg).set _ _
  refine ⟨A, c, rfl, ⟨(h.bel.trans (hbW.mono (Nat.le_succ _))).setCell (Nat.le_refl _) _, h.hb, ?_, kept_set (ownO_other h.o0 h.o3 (by decide) hg) _ _, kept_set (ownO_other h.o1 h.o3 (by decide) hg) _ _, kept_set (ownO_other h.o2 h.o3 (by decide) hg) _ _, ?_, h.d01, h.d02, h.d12, fun k hk => ?_⟩⟩
  · have := hw.set 3 (.slice A (p.tabs.length + 1) c)
    show Whole _ _ _ #[_, _, _, .slice A (p.tabs ++ [t]).length c]
    rw [hl]
    exact this
  · have := kept_setN ho 3 (.slice A (p.tabs.length + 1) c)
    show World.ownsRow _ _ _ _ (.slice A (p.tabs ++ [t]).length c) (p.tabs ++ [t]).length _
    rw [tbRow_snoc, hl]
    exact this
  · have hk : k < (p.tabs ++ [t]).length := hk
    show OwnMt _ _ (tab (p.tabs ++ [t]) k).ok (.slice (Fs p.tabs.length F y k).okA (tab (p.tabs ++ [t]) k).ok.length _) ∧ OwnMt _ _ (tab (p.tabs ++ [t]) k).rw (.slice _ (tab (p.tabs ++ [t]) k).rw.length _)
    by_cases e : k = p.tabs.length
    · subst e
      rw [tab_snoc_last, Fs_at]
      exact ⟨kept hm, kept hm'⟩
    · have hk' : k < p.tabs.length := by omega
      rw [tab_snoc_lt hk', Fs_lt hk']
      exact ⟨kept (h.m3 k hk').1, kept (h.m3 k hk').2⟩
end
end Go.Proofs.Ytcjnfciemangkaa
namespace Go.Proofs.Ytcjnfciemangkaa
open Go.RowKit Go.Sv
def lkAt (l : List Lnk) (k : Nat) : Lnk := (l[k]?).getD default
def lkC (t : Lnk) : Nat → Value
  | 0 => .int .u8 t.kind
  | 1 => .int .u8 t.src
  | 2 => .int .u8 t.dst
  | 3 => .bool t.aware
  | 4 => .int .u16 t.bad
  | _ => .int .u16 t.lost
abbrev draV (d : Dra) (q : ProbP) : Value := .agg #[.slice q.a0 d.vs.length q.c0, .slice q.a1 d.now.length q.c1, .slice q.a2 d.tgt.length q.c2, .slice q.a3 d.lk.length q.c3]
structure RDra (w : World) (B : Nat) (d : Dra) (q : ProbP) : Prop where
  r0 : Arr w B q.a0 d.vs.length (u8v d.vs)
  r1 : Arr w B q.a1 d.now.length (u8v d.now)
  r2 : Arr w B q.a2 d.tgt.length (u8v d.tgt)
  r3 : ArrN w B 6 q.a3 d.lk.length (fun k i => lkC (lkAt d.lk k) i)
theorem RDra.below {w w' : World} {B : Nat} {d : Dra} {q : ProbP} (h : RDra w B d q) (hb : Below B w w') : RDra w' B d q := ⟨h.r0.below hb, h.r1.below hb, h.r2.below hb, h.r3.below hb⟩
theorem RDra.more {w : World} {B B' : Nat} {d : Dra} {q : ProbP} (h : RDra w B d q) (hb : B ≤ B') : RDra w B' d q := ⟨h.r0.more hb, h.r1.more hb, h.r2.more hb, h.r3.more hb⟩
def Bt8 (l : List Int) : Prop := (∀ k, k < l.length → 0 ≤ gi l k ∧ gi l k < 256) ∧ l.length ≤ 9223372036854775807
structure DBd (d : Dra) : Prop where
  v : Bt8 d.vs
  n : Bt8 d.now
  t : Bt8 d.tgt
  ll : d.lk.length ≤ 9223372036854775807
  l : ∀ k, k < d.lk.length → (0 ≤ (lkAt d.lk k).kind ∧ (lkAt d.lk k).kind < 256) ∧ (0 ≤ (lkAt d.lk k).src ∧ (lkAt d.lk k).src < 256) ∧ (0 ≤ (lkAt d.lk k).dst ∧ (lkAt d.lk k).dst < 256) ∧ (0 ≤ (lkAt d.lk k).bad ∧ (lkAt d.lk k).bad < 65536) ∧ (0 ≤ (lkAt d.lk k).lost ∧ (lkAt d.lk k).lost < 65536)
def dW (d : Dra) (i : Nat) : Int := 1 + gi d.vs i % 3
/-- the problem after k services -/
def dP (d : Dra) (k : Nat) : Prob := ⟨(List.range k).map (dW d), (List.range k).map (fun i => dcode d.now i % dW d i), (List.range k).map (fun i => dcode d.tgt i % dW d i), []⟩
/-- the problem after all services and j tables -/
def dQ (d : Dra) (j : Nat) : Prob := ⟨dVs d, dNow d d.now, dNow d d.tgt, (List.range j).map (fun i => dTab (dVs d) (lkAt d.lk i))⟩
theorem dP_lv (d : Dra) (k : Nat) : (dP d k).vs.length = k := by simp [dP]
theorem dP_ln (d : Dra) (k : Nat) : (dP d k).now.length = k := by simp [dP]
theorem dP_lt (d : Dra) (k : Nat) : (dP d k).tgt.length = k := by simp [dP]
theorem dP_snoc {d : Dra} {k : Nat} : (⟨(dP d k).vs ++ [dW d k], (dP d k).now ++ [dcode d.now k % dW d k], (dP d k).tgt ++ [dcode d.tgt k % dW d k], (dP d k).tabs⟩ : Prob) = dP d (k + 1) := by simp [dP, List.range_succ]
theorem dP_all (d : Dra) : dP d d.vs.length = dQ d 0 := rfl
theorem dQ_snoc {d : Dra} {k : Nat} : (⟨(dQ d k).vs, (dQ d k).now, (dQ d k).tgt, (dQ d k).tabs ++ [dTab (dVs d) (lkAt d.lk k)]⟩ : Prob) = dQ d (k + 1) := by simp [dQ, List.range_succ]
theorem dQ_lv (d : Dra) (j : Nat) : (dQ d j).vs.length = d.vs.length := dVs_len d
theorem dQ_lt (d : Dra) (j : Nat) : (dQ d j).tabs.length = j := by simp [dQ]
theorem lk_cells {w : World} {b off k : Nat} {l : List Lnk} (h : ∀ i, i < 6 → w.cell? ⟨b, off + k * 6 + i, none⟩ = some (lkC (lkAt l k) i)) :
    w.cell? ⟨b, off + k * 6, none⟩ = some (.int .u8 (lkAt l k).kind) ∧ w.cell? ⟨b, off + k * 6 + 1, none⟩ = some (.int .u8 (lkAt l k).src) ∧ w.cell? ⟨b, off + k * 6 + 2, none⟩ = some (.int .u8 (lkAt l k).dst) ∧
      w.cell? ⟨b, off + k * 6 + 3, none⟩ = some (.bool (lkAt l k).aware) ∧ w.cell? ⟨b, off + k * 6 + 4, none⟩ = some (.int .u16 (lkAt l k).bad) ∧ w.cell? ⟨b, off + k * 6 + 5, none⟩ = some (.int .u16 (lkAt l k).lost) :=
  ⟨h 0 (by decide), h 1 (by decide), h 2 (by decide), h 3 (by decide), h 4 (by decide), h 5 (by decide)⟩
theorem cell_off {w : World} {b i j : Nat} {v : Value} (h : j ≠ i) : (w.setCell ⟨b, j, none⟩ v).cell? ⟨b, i, none⟩ = w.cell? ⟨b, i, none⟩ :=
  World.cell?_setCell_other _ _ _ _ fun e => h (by injection e)
theorem OwnMt.nil (W : World) (B : Nat) : OwnMt W B [] (.slice none ([] : List (List Bool)).length 0) :=
  ⟨fun _ => (none, 0), World.ownsRow_nil _ _ _ _, fun k hk => by cases hk⟩
theorem dTab_mk {d : Dra} {lk ls ld lb lo K : Int} {la : Bool} {a b nA nB : Nat} (hK : 1 + lk % 4 = K) (ha : ls.tmod (d.vs.length : Int) = (a : Int)) (s0 : 0 ≤ ls) (hb : ld.tmod (d.vs.length : Int) = (b : Int)) (d0 : 0 ≤ ld) (hA : gi (dVs d) a = (nA : Int)) (hB : gi (dVs d) b = (nB : Int)) :
    dTab (dVs d) ⟨lk, ls, ld, la, lb, lo⟩ = ⟨K, a, b, la && !stB K, bitsM nA nB lb false, if K = 4 then bitsM nA nA lo true else []⟩ := by
  unfold dTab
  dsimp only
  rw [dVs_len, hK, ← Int.tmod_eq_emod_of_nonneg s0, ← Int.tmod_eq_emod_of_nonneg d0, ha, hb]
  simp only [Int.toNat_natCast, hA, hB]
theorem own_far {W : World} {B b s : Nat} {e : TypeId} {v : Value} {n : Nat} {xs : List Value} (h : W.ownsRow B e s v n xs) (hb : b < B) (i : Nat) (u : Value) : (W.setCell ⟨b, i, none⟩ u).ownsRow B e s v n xs :=
  h.kept (grownBy_set W b i u) (by
    cases hx : v.ownBlock with
    | none => exact Or.inl rfl
    | some g =>
      refine Or.inr fun e => ?_
      injection e with e
      rcases h.2 with ⟨rfl, _⟩ | ⟨g', cap, cur, rfl, hb, _⟩
      · cases hx
      · have hx : some g' = some g := hx
        injection hx with hx
        omega)
theorem OwnMt.far {W : World} {B b : Nat} {m : List (List Bool)} {v : Value} (h : OwnMt W B m v) (hb : b < B) (i : Nat) (u : Value) : OwnMt (W.setCell ⟨b, i, none⟩ u) B m v := by
  obtain ⟨r, h3, h4⟩ := h
  exact ⟨r, own_far h3 hb _ _, fun k hk => own_far (h4 k hk) hb _ _⟩
/-- a problem whose rows the call owns -/
structure PO (W : World) (B : Nat) (p : Prob) (q : ProbP) (F : Nat → TabP) : Prop where
  o0 : W.ownsRow B 3 1 (.slice q.a0 p.vs.length q.c0) p.vs.length (rowM p.vs.length (iv p.vs))
  o1 : W.ownsRow B 3 1 (.slice q.a1 p.now.length q.c1) p.now.length (rowM p.now.length (iv p.now))
  o2 : W.ownsRow B 3 1 (.slice q.a2 p.tgt.length q.c2) p.tgt.length (rowM p.tgt.length (iv p.tgt))
  o3 : W.ownsRow B 68 6 (.slice q.a3 p.tabs.length q.c3) p.tabs.length (tbRow p.tabs F)
  m3 : ∀ k, k < p.tabs.length → OwnMt W B (tab p.tabs k).ok (.slice (F k).okA (tab p.tabs k).ok.length (F k).okC) ∧ OwnMt W B (tab p.tabs k).rw (.slice (F k).rwA (tab p.tabs k).rw.length (F k).rwC)
theorem PB.po {w0 W : World} {b : Nat} {p : Prob} {q : ProbP} {F : Nat → TabP} (h : PB w0 b p q F W) : PO W (b + 1) p q F := ⟨h.o0, h.o1, h.o2, h.o3, h.m3⟩
theorem PO.far {W : World} {B b : Nat} {p : Prob} {q : ProbP} {F : Nat → TabP} (h : PO W B p q F) (hb : b < B) (i : Nat) (u : Value) : PO (W.setCell ⟨b, i, none⟩ u) B p q F :=
  ⟨own_far h.o0 hb _ _, own_far h.o1 hb _ _, own_far h.o2 hb _ _, own_far h.o3 hb _ _, fun k hk => ⟨(h.m3 k hk).1.far hb _ _, (h.m3 k hk).2.far hb _ _⟩⟩
theorem PO.to {W W' : World} {B : Nat} {p : Prob} {q : ProbP} {F : Nat → TabP} (h : PO W B p q F) (hb : Below W.heap.size W W') : PO W' B p q F :=
  ⟨own_to h.o0 hb, own_to h.o1 hb, own_to h.o2 hb, own_to h.o3 hb, fun k hk => ⟨(h.m3 k hk).1.to hb, (h.m3 k hk).2.to hb⟩⟩
theorem PO.base {W : World} {B B' : Nat} {p : Prob} {q : ProbP} {F : Nat → TabP} (h : PO W B p q F) (hb : B' ≤ B) : PO W B' p q F :=
  ⟨own_base h.o0 hb, own_base h.o1 hb, own_base h.o2 hb, own_base h.o3 hb, fun k hk => ⟨(h.m3 k hk).1.base hb, (h.m3 k hk).2.base hb⟩⟩
theorem PO.prob {W : World} {B : Nat} {p : Prob} {q : ProbP} {F : Nat → TabP} (h : PO W B p q F) : RProb W W.heap.size p q := by
  refine ⟨?_, ?_, ?_, F, ?_, fun k hk => ⟨(h.m3 k hk).1.mat, (h.m3 k hk).2.mat⟩⟩
  · obtain ⟨A, c, hv, _, _, ha⟩ := own_arr h.o0 (fun k hk => rowM_get hk)
    injection hv with h1; rw [h1]; exact ha
  · obtain ⟨A, c, hv, _, _, ha⟩ := own_arr h.o1 (fun k hk => rowM_get hk)
    injection hv with h1; rw [h1]; exact ha
  · obtain ⟨A, c, hv, _, _, ha⟩ := own_arr h.o2 (fun k hk => rowM_get hk)
    injection hv with h1; rw [h1]; exact ha
  · obtain ⟨A, c, hv, _, _, ha⟩ := own_arrN (f := fun k i => tabCells (tab p.tabs k) (F k) i) h.o3 (fun k hk i hi => rowN_get hk hi)
    injection hv with h1; rw [h1]; exact ha
theorem PO.far4 {W : World} {B b : Nat} {p : Prob} {q : ProbP} {F : Nat → TabP} (h : PO W B p q F) (hb : b < B) (u0 u1 u2 u3 : Value) : PO ((((W.setCell ⟨b, 0, none⟩ u0).setCell ⟨b, 1, none⟩ u1).setCell ⟨b, 2, none⟩ u2).setCell ⟨b, 3, none⟩ u3) B p q F :=
  (((h.far hb _ _).far hb _ _).far hb _ _).far hb _ _
theorem tmod_nat {x : Int} {n : Nat} (h : 0 ≤ x) (hn : 0 < n) : ∃ a : Nat, x.tmod (n : Int) = (a : Int) ∧ a < n := by
  have h1 : 0 ≤ x % (n : Int) := Int.emod_nonneg _ (by omega)
  have h2 : x % (n : Int) < n := Int.emod_lt_of_pos _ (by omega)
  exact ⟨(x % n).toNat, by rw [Int.tmod_eq_emod_of_nonneg h]; omega, by omega⟩
theorem dQ_all {d : Dra} (h : d.vs.length ≠ 0) : dQ d d.lk.length = dProb d := by
  unfold dQ dProb
  rw [if_neg h]
  congr 1
  apply List.ext_getElem
  · simp
  · intro i h1 h2
    have : i < d.lk.length := by simpa using h2
    simp [lkAt, this]
theorem dQ_nil {d : Dra} (h : d.vs.length = 0) : dQ d 0 = dProb d := by
  unfold dQ dProb
  rw [if_pos h]
  rfl
theorem dcode_bd {l : List Int} (h : Bt8 l) (k : Nat) : 0 ≤ dcode l k ∧ dcode l k < 256 := by
  unfold dcode
  by_cases hk : k < l.length
  · rw [if_pos hk]; exact h.1 k hk
  · rw [if_neg hk]; omega
/-- what sheaveref35.Of hands back -/
def DraR (w : World) (d : Dra) (v : Value) (w' : World) : Prop :=
  Below w.heap.size w w' ∧ (if d.vs.length ≤ 3 ∧ d.lk.length ≤ 4 then ∃ q F, v = .tuple #[probV (dProb d) q, .bool true] ∧ PO w' w.heap.size (dProb d) q F
    else v = .tuple #[probV ⟨[], [], [], []⟩ ⟨none, 0, none, 0, none, 0, none, 0⟩, .bool false])
end Go.Proofs.Ytcjnfciemangkaa
namespace Go.Proofs.Ytcjnfciemangkaa
open Go.RowKit Go.Sv
set_option maxHeartbeats 4000000 in
set_option maxRecDepth 100000 in
theorem of35_any (d : Dra) (q : ProbP) (w : World) (hd : RDra w w.heap.size d q) (hbd : DBd d) :
    Calls Try.prog 22 #[draV d q] w (Ret (DraR w d)) := by
  have S0 := ((Fm.init w).box 48 [.slice q.a0 d.vs.length q.c0, .slice q.a1 d.now.length q.c1, .slice q.a2 d.tgt.length q.c2, .slice q.a3 d.lk.length q.c3]).box' 25 [.slice none 0 0, .slice none 0 0, .slice none 0 0, .slice none 0 0] (K := w.heap.size + 1) (by simp)
  obtain ⟨W, hW, hWs, S⟩ : ∃ W, (w.alloc (.cells #[.slice q.a0 d.vs.length q.c0, .slice q.a1 d.now.length q.c1, .slice q.a2 d.tgt.length q.c2, .slice q.a3 d.lk.length q.c3] 48)).alloc (.cells #[.slice none 0 0, .slice none 0 0, .slice none 0 0, .slice none 0 0] 25) = W ∧ W.heap.size = w.heap.size + 1 + 1 ∧ Fm w W [⟨w.heap.size + 1, 25, [.slice none 0 0, .slice none 0 0, .slice none 0 0, .slice none 0 0]⟩, ⟨w.heap.size, 48, [.slice q.a0 d.vs.length q.c0, .slice q.a1 d.now.length q.c1, .slice q.a2 d.tgt.length q.c2, .slice q.a3 d.lk.length q.c3]⟩] [] := ⟨_, rfl, by simp, S0⟩
  have hdW := Lib.hid (hd.below S.bel)
  have hbb := Lib.hid hbd
  obtain ⟨qa0, qc0, qa1, qc1, qa2, qc2, qa3, qc3⟩ := q
  dsimp only at hW S ⊢
  obtain ⟨⟨r1, f1, r10, r11, r12, r13, -⟩, ⟨r2, f2, r20, r21, r22, r23, -⟩, -⟩ := S.facts
  have SW := Lib.hid S
  replace hWs := Lib.hid hWs
  clear S0 S hd hbd
  by_cases h3 : d.vs.length ≤ 3
  · by_cases h4 : d.lk.length ≤ 4
    · have j3 : ¬ (3 : Int) < (d.vs.length : Int) := by omega
      have j4 : ¬ (4 : Int) < (d.lk.length : Int) := by omega
      have M0 := Lib.hid (PB.new W (fun _ => ⟨none, 0, none, 0⟩))
      obtain ⟨W2, hW2, hb2⟩ : ∃ W2, W.alloc (.cells #[.slice none 0 0, .slice none 0 0, .slice none 0 0, .slice none 0 0] 25) = W2 ∧ Below W.heap.size W W2 := ⟨_, rfl, (Below.refl _ _).alloc (Nat.le_refl _) _⟩
      rw [hW2] at M0
      go_enter Try.func22, Try.ntmps22
      go_wp2
      clear hW2 hW j3 j4 r1 f1 r10 r11 r12 r13 r2 f2 r20 r21 r22 r23
      go_loopw [5] (fun s5 wr => ∃ (k : Nat) (y : ProbP), s5 = .int .i64 k ∧ k ≤ d.vs.length ∧ PB W W.heap.size (dP d k) y (fun _ => ⟨none, 0, none, 0⟩) wr) (fun s5 _ => d.vs.length - (intOf s5).toNat)
      case atStart => exact ⟨0, _, rfl, Nat.zero_le _, M0.out⟩
      case round =>
        obtain ⟨k, ⟨y0, z0, y1, z1, y2, z2, y3, z3⟩, rfl, hk, M⟩ := hrel
        have T := Lib.hid (SW.out.call M.bel)
        have hdr := (hdW.out.below (M.bel.mono (by have := hWs.out; omega)))
        obtain ⟨zM, fM, m0, m1, m2, m3⟩ := M.facts
        rw [dP_lv] at m0
        rw [dP_ln] at m1
        rw [dP_lt] at m2
        have O0 := M.o0
        rw [dP_lv] at O0
        dsimp only at O0 m0 m1 m2 m3
        replace O0 := Lib.hid O0
        have hsM : W.heap.size + 1 ≤ wr.heap.size := M.size
        obtain ⟨⟨r1, f1, r10, r11, r12, r13, -⟩, ⟨r2, f2, r20, r21, r22, r23, -⟩, -⟩ := T.out.facts
        by_cases hlt : k < d.vs.length
        · obtain ⟨bn, on, e0, hbn, hcn⟩ := hdr.r0 (by omega)
          dsimp only at e0
          subst e0
          have c := hcn k hlt
          unfold u8v at c
          have hv := hbb.out.v.1 k hlt
          obtain ⟨v, hvv⟩ : ∃ v, gi d.vs k = v := ⟨_, rfl⟩
          rw [hvv] at c hv
          have jk : (k : Int) < (d.vs.length : Int) := by omega
          obtain ⟨n, hn, n0, n1⟩ : ∃ n, 1 + v % 3 = n ∧ 1 ≤ n ∧ n ≤ 3 := ⟨_, rfl, by omega, by omega⟩
          have hM := Lib.hid M
          have hD := Lib.hid hdr
          clear M hcn hdr
          have hF : Hid (n = dW d k) := Lib.hid (by unfold dW; rw [hvv, ← hn])
          have hsz1 : W.heap.size + 1 ≤ wr.heap.size := hsM
          go_wp2_with (at_builtin; refine push_own elInt rfl _ _ rfl (W.heap.size + 1) _ k _ O0.out rfl [.int .i64 n] rfl rfl rfl (by omega) (by omega) hsz1 ?_)
          intro v' w5 hown5 hg5 hb5 hs5 hor5
          obtain ⟨A5, c5, rfl, M5⟩ := ((hM.out.to ((Below.refl _ _).alloc (Nat.le_refl _) (.cells [Value.int .i64 n].toArray 3))).push0 (x := n) (by rw [dP_lv]; exact hown5) (by rw [dP_lv]; exact hg5) (by rw [dP_lv]; simpa using hor5))
          dsimp only at M5
          have hwM := hM.out.pb.below hb5 (Nat.lt_succ_self _)
          have z5 := hwM.lt
          have f5 := fun o => hwM.frozen o
          have e0 : w5.cell? ⟨W.heap.size, 0, none⟩ = some (.slice y0 (dP d k).vs.length z0) := hwM.cell 0
          clear hwM hown5 hg5 hb5 hs5 hor5 zM fM m0 m1 m2 m3
          go_wp2_with fail
          generalize hWW6 : w5.setCell ⟨W.heap.size, 0, none⟩ (.slice A5 ((dP d k).vs.length + 1) c5) = W6 at M5 ⊢
          replace hWW6 := Lib.hid hWW6
          replace M5 := Lib.hid M5
          clear r1 f1 r10 r11 r12 r13 r2 f2 r20 r21 r22 r23
          have T1 := Lib.hid (SW.out.call M5.out.bel)
          obtain ⟨⟨r1, f1, r10, r11, r12, r13, -⟩, ⟨r2, f2, r20, r21, r22, r23, -⟩, -⟩ := T1.out.facts
          obtain ⟨zM, fM, m0, m1, m2, m3⟩ := M5.out.facts
          have R1 := Lib.hid (hdW.out.below (M5.out.bel.mono (by have := hWs.out; omega)))
          have hz1 : W.heap.size + 1 ≤ W6.heap.size := M5.out.size
          have hzw1 : w.heap.size + 2 ≤ W.heap.size := by have := hWs.out; omega
          have Md1 := Lib.hid (M5.out.to ((Drawn.refl W6).drew).below)
          have O1 := Md1.out.o1
          dsimp only at O1 m0 m1 m2 m3
          rw [dP_ln] at m1 O1
          replace O1 := Lib.hid O1
          have HC1 := Lib.hid (code5_any qa1 qc1 d.now k W6.drew w.heap.size (R1.out.below ((Drawn.refl W6).drew).below).r1 hbb.out.n.1 hbb.out.n.2 (by omega))
          obtain ⟨x1, hx1, hx1p⟩ : ∃ x, dcode d.now k = x ∧ 0 ≤ x := ⟨_, rfl, (dcode_bd hbb.out.n k).1⟩
          rw [hx1] at HC1
          replace hx1 := Lib.hid hx1
          have n1 : x1.tmod n = x1 % n := Int.tmod_eq_emod_of_nonneg hx1p
          obtain ⟨u1x, hu1⟩ : ∃ u, x1 % n = u := ⟨_, rfl⟩
          rw [hu1] at n1
          replace hu1 := Lib.hid hu1
          have nz : ¬ n = 0 := by omega
          have i11 : ¬ w.heap.size = W.heap.size := by omega
          have i12 : ¬ W.heap.size = w.heap.size := by omega
          go_wp2_with fail
          go_upto_region 9 with fail
          go_cut [51] (fun sx wx => ∃ (A : Option Addr) (c : Nat), sx = .slice A (k + 1) c ∧ PB W W.heap.size ⟨(dP d k).vs ++ [n], (dP d k).now ++ [u1x], (dP d k).tgt, (dP d k).tabs⟩ ⟨A5, c5, A, c, y2, z2, y3, z3⟩ (fun _ => ⟨none, 0, none, 0⟩) wx)
          case first =>
            go_region_law
              (first
                | (go_simp; go_at_call 35; refine HC1.out.mono ?_
                   rintro e w9 ⟨rfl, rfl⟩
                   have g1 := (((Drawn.refl W6).drew).cell ⟨w.heap.size, 1, none⟩).trans r21
                   have g2 := (((Drawn.refl W6).drew).cell ⟨W.heap.size, 1, none⟩).trans m1)
                | (refine step_own2 elInt (by rfl) _ _ (by rfl) (W.heap.size + 1) _ k _ (O1.out.alloc _) (by rfl) _ (by rfl) _ (World.cell?_alloc_new _ _ _ 0) (by rfl) (by omega) (by omega) (by simp; omega) ?_
                   intro v' w6 hown6 hg6 hor6
                   have hb6 := (((Below.refl (W.heap.size + 1) W6).drew).alloc hz1 _).trans (own_below (O1.out.alloc _) hg6 (by simp; omega))
                   have x1 := (hb6.cell (p := ⟨w.heap.size, 1, none⟩) (by show w.heap.size < _; omega)).trans r21
                   have hwM := M5.out.pb.below hb6 (Nat.lt_succ_self _)
                   have z6 := hwM.lt
                   have f6 := fun o => hwM.frozen o
                   have c6 : w6.cell? ⟨W.heap.size, 1, none⟩ = some (.slice y1 (dP d k).now.length z1) := hwM.cell 1
                   rw [dP_ln] at c6
                   obtain ⟨A1, q1, rfl, M6⟩ := ((Md1.out.to ((Below.refl _ _).alloc (Nat.le_refl _) _)).push1 (x := u1x) (by dsimp only; rw [dP_ln]; exact hown6) (by dsimp only; rw [dP_ln]; exact hg6) (by dsimp only; rw [dP_ln]; exact hor6))
                   dsimp only at M6
                   replace M6 := Lib.hid M6
                   clear hwM hown6 hg6 hor6))
            all_goals (go_wp2_with fail; go_meet)
            all_goals exact ⟨_, _, (by rw [dP_ln]), M6.out⟩
          obtain ⟨A1, q1, rfl, M7⟩ := hcut
          rename World => W7
          replace M7 := Lib.hid M7
          clear r1 f1 r10 r11 r12 r13 r2 f2 r20 r21 r22 r23
          have T2 := Lib.hid (SW.out.call M7.out.bel)
          obtain ⟨⟨r1, f1, r10, r11, r12, r13, -⟩, ⟨r2, f2, r20, r21, r22, r23, -⟩, -⟩ := T2.out.facts
          obtain ⟨zM, fM, m0, m1, m2, m3⟩ := M7.out.facts
          have R2 := Lib.hid (hdW.out.below (M7.out.bel.mono (by have := hWs.out; omega)))
          have hz2 : W.heap.size + 1 ≤ W7.heap.size := M7.out.size
          have hzw2 : w.heap.size + 2 ≤ W.heap.size := by have := hWs.out; omega
          have Md2 := Lib.hid (M7.out.to ((Drawn.refl W7).drew).below)
          have O2 := Md2.out.o2
          dsimp only at O2 m0 m1 m2 m3
          rw [dP_lt] at m2 O2
          replace O2 := Lib.hid O2
          have HC2 := Lib.hid (code5_any qa2 qc2 d.tgt k W7.drew w.heap.size (R2.out.below ((Drawn.refl W7).drew).below).r2 hbb.out.t.1 hbb.out.t.2 (by omega))
          obtain ⟨x2, hx2, hx2p⟩ : ∃ x, dcode d.tgt k = x ∧ 0 ≤ x := ⟨_, rfl, (dcode_bd hbb.out.t k).1⟩
          rw [hx2] at HC2
          replace hx2 := Lib.hid hx2
          have n2 : x2.tmod n = x2 % n := Int.tmod_eq_emod_of_nonneg hx2p
          obtain ⟨u2x, hu2⟩ : ∃ u, x2 % n = u := ⟨_, rfl⟩
          rw [hu2] at n2
          replace hu2 := Lib.hid hu2
          have nz : ¬ n = 0 := by omega
          have i21 : ¬ w.heap.size = W.heap.size := by omega
          have i22 : ¬ W.heap.size = w.heap.size := by omega
          go_wp2_with fail
          go_region_law
            (first
              | (go_simp; go_at_call 35; refine HC2.out.mono ?_
                 rintro e w9 ⟨rfl, rfl⟩
                 have g1 := (((Drawn.refl W7).drew).cell ⟨w.heap.size, 2, none⟩).trans r22
                 have g2 := (((Drawn.refl W7).drew).cell ⟨W.heap.size, 2, none⟩).trans m2)
              | (refine step_own2 elInt (by rfl) _ _ (by rfl) (W.heap.size + 1) _ k _ (O2.out.alloc _) (by rfl) _ (by rfl) _ (World.cell?_alloc_new _ _ _ 0) (by rfl) (by omega) (by omega) (by simp; omega) ?_
                 intro v' w6 hown6 hg6 hor6
                 have hb6 := (((Below.refl (W.heap.size + 1) W7).drew).alloc hz2 _).trans (own_below (O2.out.alloc _) hg6 (by simp; omega))
                 have x1 := (hb6.cell (p := ⟨w.heap.size, 2, none⟩) (by show w.heap.size < _; omega)).trans r22
                 have hwM := M7.out.pb.below hb6 (Nat.lt_succ_self _)
                 have z6 := hwM.lt
                 have f6 := fun o => hwM.frozen o
                 have c6 : w6.cell? ⟨W.heap.size, 2, none⟩ = some (.slice y2 (dP d k).tgt.length z2) := hwM.cell 2
                 rw [dP_lt] at c6
                 obtain ⟨A2, q2, rfl, M6⟩ := ((Md2.out.to ((Below.refl _ _).alloc (Nat.le_refl _) _)).push2 (x := u2x) (by dsimp only; rw [dP_lt]; exact hown6) (by dsimp only; rw [dP_lt]; exact hg6) (by dsimp only; rw [dP_lt]; exact hor6))
                 dsimp only at M6
                 replace M6 := Lib.hid M6
                 clear hwM hown6 hg6 hor6))
          all_goals
            have M9 := M6.out
            rw [hF.out, ← hu1.out, ← hu2.out, ← hx1.out, ← hx2.out, hF.out, dP_snoc] at M9
            replace M9 := Lib.hid M9
            clear zM fM m0 m1 m2 m3
            go_wp2
            go_roundw
            case rel => exact ⟨k + 1, _, by go_num, by omega, M9.out⟩
            case measure => simp [intOf]; omega
        · obtain rfl : k = d.vs.length := by omega
          have hMo := Lib.hid M
          rw [dP_all] at hMo
          clear hlt hdr O0 M zM fM m0 m1 m2 m3 r1 f1 r10 r11 r12 r13 r2 f2 r20 r21 r22 r23
          rename World => wo
          obtain ⟨⟨r1, f1, r10, r11, r12, r13, -⟩, ⟨r2, f2, r20, r21, r22, r23, -⟩, -⟩ := T.out.facts
          go_wp2
          clear r1 f1 r10 r11 r12 r13 r2 f2 r20 r21 r22 r23
          go_loopw [7] (fun s7 wr => ∃ (j : Nat) (y : ProbP) (F : Nat → TabP), s7 = .int .i64 j ∧ j ≤ d.lk.length ∧ (j = 0 ∨ d.vs.length ≠ 0) ∧ PB W W.heap.size (dQ d j) y F wr) (fun s7 _ => d.lk.length - (intOf s7).toNat)
          case atStart => exact ⟨0, _, _, rfl, Nat.zero_le _, Or.inl rfl, hMo.out⟩
          case round =>
            clear T hMo
            obtain ⟨j, ⟨y0, z0, y1, z1, y2, z2, y3, z3⟩, F, rfl, hj, hj0, M⟩ := hrel
            have T := Lib.hid (SW.out.call M.bel)
            have hdr := (hdW.out.below (M.bel.mono (by have := hWs.out; omega)))
            obtain ⟨zM, fM, m0, m1, m2, m3⟩ := M.facts
            rw [dQ_lv] at m0
            rw [dQ_lt] at m3
            dsimp only at m0 m1 m2 m3
            have hsM : W.heap.size + 1 ≤ wr.heap.size := M.size
            have hzw : w.heap.size + 2 ≤ W.heap.size := by have := hWs.out; omega
            obtain ⟨⟨r1, f1, r10, r11, r12, r13, -⟩, ⟨r2, f2, r20, r21, r22, r23, -⟩, -⟩ := T.out.facts
            by_cases hlt : j < d.lk.length
            · by_cases hv0 : 0 < d.vs.length
              · obtain ⟨bl, ol, e3, hbl, hcl⟩ := hdr.r3 (by omega)
                dsimp only at e3
                subst e3
                obtain ⟨c0, c1, c2, c3, c4, c5⟩ := lk_cells (hcl j hlt)
                obtain ⟨⟨k0, k1⟩, ⟨s0, s1⟩, ⟨d0, d1⟩, ⟨b0, b1⟩, ⟨o0, o1⟩⟩ := hbb.out.l j hlt
                obtain ⟨l, hl⟩ : ∃ l, lkAt d.lk j = l := ⟨_, rfl⟩
                rw [hl] at c0 c1 c2 c3 c4 c5 k0 k1 s0 s1 d0 d1 b0 b1 o0 o1
                obtain ⟨lk, ls, ld, la, lb, lo⟩ := l
                dsimp only at c0 c1 c2 c3 c4 c5 k0 k1 s0 s1 d0 d1 b0 b1 o0 o1
                have jk : (j : Int) < (d.lk.length : Int) := by omega
                have jv : (0 : Int) < (d.vs.length : Int) := by omega
                have hM := Lib.hid M
                have hD := Lib.hid hdr
                replace hl := Lib.hid hl
                obtain ⟨bv, ov, e0, hbv, hcv⟩ := hM.out.prob.r0 (by rw [dQ_lv]; exact hv0)
                dsimp only at e0
                subst e0
                clear M hcl hdr
                obtain ⟨K, hK, K0, K1⟩ : ∃ n, 1 + lk % 4 = n ∧ 1 ≤ n ∧ n ≤ 4 := ⟨_, rfl, by omega, by omega⟩
                obtain ⟨a, ha, a1⟩ : ∃ a : Nat, ls.tmod (d.vs.length : Int) = (a : Int) ∧ a < d.vs.length := tmod_nat s0 hv0
                obtain ⟨b, hb, b1'⟩ : ∃ a : Nat, ld.tmod (d.vs.length : Int) = (a : Int) ∧ a < d.vs.length := tmod_nat d0 hv0
                obtain ⟨W4, hW4, S4, hB4⟩ := fm_boxE (Fm.init wr) 74 [.int .u8 lk, .int .u8 ls, .int .u8 ld, .bool la, .int .u16 lb, .int .u16 lo]
                go_wp2_with fail
                clear hW4 zM fM m0 m1 m2 m3 r1 f1 r10 r11 r12 r13 r2 f2 r20 r21 r22 r23 c0 c1 c2 c3 c4 c5
                have M4 := Lib.hid (hM.out.to hB4)
                obtain ⟨zM, fM, m0, m1, m2, m3⟩ := M4.out.facts
                rw [dQ_lv] at m0
                rw [dQ_lt] at m3
                dsimp only at m0 m1 m2 m3
                obtain ⟨⟨l1, g1, l10, l11, l12, l13, l14, l15, -⟩, -⟩ := S4.facts
                have hS4 := Lib.hid S4
                have w41 : wr.heap.size < W4.heap.size := l1
                clear S4
                have nz : ¬ d.vs = [] := fun h => by rw [h] at hv0; exact absurd hv0 (by decide)
                have nz1 : ¬ (d.vs.length : Int) = 0 := by omega
                have n1 := World.new_ne W4.drew ⟨wr.heap.size, 0, none⟩ ((by simpa using l10 : W4.drew.cell? ⟨wr.heap.size, 0, none⟩ = some (.int .u8 lk)))
                have n2 := World.new_ne W4.drew ⟨W.heap.size, 0, none⟩ ((by simpa using m0 : W4.drew.cell? ⟨W.heap.size, 0, none⟩ = some (.slice (some ⟨bv, ov, none⟩) d.vs.length z0)))
                have hw1 : IntKind.i64.wrap ls = ls := by simp [IntKind.wrap, IntKind.bits, IntKind.signed]; omega
                have hw2 : IntKind.i64.wrap ld = ld := by simp [IntKind.wrap, IntKind.bits, IntKind.signed]; omega
                have hw3 : IntKind.i64.wrap (lk.tmod 4) = lk % 4 := by rw [Int.tmod_eq_emod_of_nonneg k0]; simp [IntKind.wrap, IntKind.bits, IntKind.signed]; omega
                have hw4 : IntKind.i64.wrap K = K := by simp [IntKind.wrap, IntKind.bits, IntKind.signed]; omega
                go_region_held3 (fun w' => w'.cell? ⟨wr.heap.size, 0, none⟩ = some (.int .u8 lk) ∧ w'.cell? ⟨wr.heap.size, 1, none⟩ = some (.int .u8 ls) ∧ w'.cell? ⟨wr.heap.size, 2, none⟩ = some (.int .u8 ld) ∧ w'.cell? ⟨W.heap.size, 0, none⟩ = some (.slice (some ⟨bv, ov, none⟩) d.vs.length z0)) (go_keep) (first | (fail))
                obtain ⟨W5, hW5, S5, hB5⟩ : ∃ W5, (W4.alloc (.cells #[.int .i64 K, .int .i64 (a : Int), .int .i64 (b : Int), .bool false, .slice none 0 0, .slice none 0 0] 68)).drew = W5 ∧ Fm wr W5 [⟨W4.heap.size, 68, [.int .i64 K, .int .i64 (a : Int), .int .i64 (b : Int), .bool false, .slice none 0 0, .slice none 0 0]⟩, ⟨wr.heap.size, 74, [.int .u8 lk, .int .u8 ls, .int .u8 ld, .bool la, .int .u16 lb, .int .u16 lo]⟩] [] ∧ Below wr.heap.size wr W5 := ⟨_, rfl, (hS4.out.box 68 _).drew, ((hS4.out.box 68 _).drew).bel⟩
                rw [hW5]
                replace hW5 := Lib.hid hW5
                clear l1 g1 l10 l11 l12 l13 l14 l15 zM fM m0 m1 m2 m3 n1 n2
                obtain ⟨⟨t1, h1, t10, t11, t12, t13, t14, t15, -⟩, ⟨l1, g1, l10, l11, l12, l13, l14, l15, -⟩, -⟩ := S5.facts
                have hS5 := Lib.hid S5
                clear S5
                have HS := Lib.hid (rstored_any ⟨K, a, b, false, [], []⟩ ⟨none, 0, none, 0⟩ W5)
                unfold tabV at HS
                dsimp only [List.length_nil] at HS
                obtain ⟨aw, haw⟩ : ∃ aw, (la && !stB K) = aw := ⟨_, rfl⟩
                replace haw := Lib.hid haw
                go_upto_region 16 with fail
                go_cut [108] (fun sx wx => sx = .bool aw ∧ Fm wr wx [⟨W4.heap.size, 68, [.int .i64 K, .int .i64 (a : Int), .int .i64 (b : Int), .bool aw, .slice none 0 0, .slice none 0 0]⟩, ⟨wr.heap.size, 74, [.int .u8 lk, .int .u8 ls, .int .u8 ld, .bool la, .int .u16 lb, .int .u16 lo]⟩] [])
                case first =>
                  cases la with
                  | true =>
                    go_wp2_with fail
                    with_reducible refine HS.out.mono ?_
                    rintro e w6 ⟨rfl, hb6⟩
                    have hs6 := Lib.hid (hS5.out.call hb6)
                    clear t1 h1 t10 t11 t12 t13 t14 t15 l1 g1 l10 l11 l12 l13 l14 l15
                    obtain ⟨⟨t1, h1, t10, t11, t12, t13, t14, t15, -⟩, -⟩ := hs6.out.facts
                    go_wp2_with fail
                    go_meet
                    exact ⟨by rw [← haw.out]; rfl, by rw [← haw.out]; exact hs6.out.set 0 rfl 3 _⟩
                  | false =>
                    go_wp2_with fail
                    go_meet
                    exact ⟨by rw [← haw.out]; rfl, by rw [← haw.out]; exact hS5.out.set 0 rfl 3 _⟩
                clear t1 h1 t10 t11 t12 t13 t14 t15 l1 g1 l10 l11 l12 l13 l14 l15 hw1 hw2 hw3 hw4
                obtain ⟨hsx, S6⟩ := hcut
                obtain ⟨nA, hnA, nA0, nA3⟩ : ∃ n : Nat, gi (dVs d) a = (n : Int) ∧ 1 ≤ n ∧ n ≤ 3 := ⟨(gi (dVs d) a).toNat, by have := dVs_bd (d := d) a1; omega, by have := dVs_bd (d := d) a1; omega, by have := dVs_bd (d := d) a1; omega⟩
                obtain ⟨nB, hnB, nB0, nB3⟩ : ∃ n : Nat, gi (dVs d) b = (n : Int) ∧ 1 ≤ n ∧ n ≤ 3 := ⟨(gi (dVs d) b).toNat, by have := dVs_bd (d := d) b1'; omega, by have := dVs_bd (d := d) b1'; omega, by have := dVs_bd (d := d) b1'; omega⟩
                have va := hcv a (by rw [dQ_lv]; exact a1)
                have vb := hcv b (by rw [dQ_lv]; exact b1')
                unfold iv at va vb
                rw [show gi (dQ d j).vs a = (nA : Int) from hnA] at va
                rw [show gi (dQ d j).vs b = (nB : Int) from hnB] at vb
                replace hsx := Lib.hid hsx
                replace hnA := Lib.hid hnA
                replace hnB := Lib.hid hnB
                replace hK := Lib.hid hK
                replace ha := Lib.hid ha
                replace hb := Lib.hid hb
                clear hcv
                obtain ⟨M1, hM1⟩ : ∃ m, bitsM nA nB lb false = m := ⟨_, rfl⟩
                have HB := Lib.hid (fun W => bits_any nA nB lb false W nA3 nB3 b0 b1)
                rw [hM1] at HB
                replace hM1 := Lib.hid hM1
                have M6 := Lib.hid (hM.out.to S6.bel)
                obtain ⟨zM, fM, m0, m1, m2, m3⟩ := M6.out.facts
                rw [dQ_lv] at m0
                rw [dQ_lt] at m3
                dsimp only at m0 m1 m2 m3
                have va6 := (S6.bel.cell (p := ⟨bv, ov + a, none⟩) hbv).trans va
                have vb6 := (S6.bel.cell (p := ⟨bv, ov + b, none⟩) hbv).trans vb
                obtain ⟨⟨t1, h1, t10, t11, t12, t13, t14, t15, -⟩, ⟨l1, g1, l10, l11, l12, l13, l14, l15, -⟩, -⟩ := S6.facts
                have hS6 := Lib.hid S6
                have ja : (a : Int) < (d.vs.length : Int) := by omega
                have jb : (b : Int) < (d.vs.length : Int) := by omega
                have hbv6 := Nat.lt_of_lt_of_le hbv hS6.out.bel.size
                have i1 : ¬ bv = W4.heap.size := by omega
                have i2 : ¬ W4.heap.size = bv := by omega
                have i3 : ¬ wr.heap.size = W4.heap.size := by omega
                have i4 : ¬ W4.heap.size = wr.heap.size := by omega
                have i5 : ¬ W.heap.size = W4.heap.size := by omega
                have i6 : ¬ W4.heap.size = W.heap.size := by omega
                replace va := Lib.hid va
                replace vb := Lib.hid vb
                clear S6
                rename World => W6
                go_wp2_with fail
                go_region_held3 (fun w' => w'.cell? ⟨W.heap.size, 0, none⟩ = some (.slice (some ⟨bv, ov, none⟩) d.vs.length z0) ∧ w'.cell? ⟨W4.heap.size, 1, none⟩ = some (.int .i64 (a : Int)) ∧ w'.cell? ⟨W4.heap.size, 2, none⟩ = some (.int .i64 (b : Int)) ∧ w'.cell? ⟨bv, ov + a, none⟩ = some (.int .i64 (nA : Int)) ∧ w'.cell? ⟨bv, ov + b, none⟩ = some (.int .i64 (nB : Int)) ∧ w'.cell? ⟨wr.heap.size, 4, none⟩ = some (.int .u16 lb)) (simp [*, World.cell?_setCell_far, cell_off])
                  (first
                    | ((with_reducible refine (HB.out W6.drew).mono ?_)
                       rintro e w9 ⟨_, rfl, hb9, A4, c4, rfl, hO9⟩
                       have hd9 := ((Drawn.refl W6).drew).below.trans hb9
                       have S9 := Lib.hid (hS6.out.call hd9)
                       have M9 := Lib.hid (M6.out.to hd9)
                       have va9 := (hd9.cell (p := ⟨bv, ov + a, none⟩) (by exact hbv6)).trans va6
                       have vb9 := (hd9.cell (p := ⟨bv, ov + b, none⟩) (by exact hbv6)).trans vb6
                       have hO := Lib.hid (hO9.base (B' := W4.heap.size + 1) (by show W4.heap.size < W6.heap.size; exact t1))
                       clear zM fM m0 m1 m2 m3 t1 h1 t10 t11 t12 t13 t14 t15 l1 g1 l10 l11 l12 l13 l14 l15 hb9 hO9
                       obtain ⟨zM, fM, m0, m1, m2, m3⟩ := M9.out.facts
                       rw [dQ_lv] at m0
                       rw [dQ_lt] at m3
                       dsimp only at m0 m1 m2 m3
                       obtain ⟨⟨t1, h1, t10, t11, t12, t13, t14, t15, -⟩, ⟨l1, g1, l10, l11, l12, l13, l14, l15, -⟩, -⟩ := S9.out.facts))
                generalize hW7 : w9.setCell ⟨W4.heap.size, 4, none⟩ (.slice A4 M1.length c4) = W7
                have S7 : Hid (Fm wr W7 [⟨W4.heap.size, 68, [.int .i64 K, .int .i64 (a : Int), .int .i64 (b : Int), .bool aw, .slice A4 M1.length c4, .slice none 0 0]⟩, ⟨wr.heap.size, 74, [.int .u8 lk, .int .u8 ls, .int .u8 ld, .bool la, .int .u16 lb, .int .u16 lo]⟩] []) := Lib.hid (by rw [← hW7]; exact S9.out.set 0 rfl 4 _)
                have O7 : Hid (OwnMt W7 (W4.heap.size + 1) M1 (.slice A4 M1.length c4)) := Lib.hid (by rw [← hW7]; exact hO.out.set 4 _)
                replace hW7 := Lib.hid hW7
                have M7 := Lib.hid (hM.out.to S7.out.bel)
                have va7 := (S7.out.bel.cell (p := ⟨bv, ov + a, none⟩) hbv).trans va.out
                have vb7 := (S7.out.bel.cell (p := ⟨bv, ov + b, none⟩) hbv).trans vb.out
                clear zM fM m0 m1 m2 m3 t1 h1 t10 t11 t12 t13 t14 t15 l1 g1 l10 l11 l12 l13 l14 l15 va6 vb6 va9 vb9 S9 M9 hO hd9 M6 hS6
                obtain ⟨zM, fM, m0, m1, m2, m3⟩ := M7.out.facts
                rw [dQ_lv] at m0
                rw [dQ_lt] at m3
                dsimp only at m0 m1 m2 m3
                obtain ⟨⟨t1, h1, t10, t11, t12, t13, t14, t15, -⟩, ⟨l1, g1, l10, l11, l12, l13, l14, l15, -⟩, -⟩ := S7.out.facts
                have hbv7 := Nat.lt_of_lt_of_le hbv S7.out.bel.size
                cases hk4 : (K == 4) with
                | false =>
                  have hk4' := Lib.hid (beq_eq_false_iff_ne.1 hk4)
                  have P7 := Lib.hid (OwnMt.nil W7 (W.heap.size + 1))
                  have O7b := Lib.hid (O7.out.base (B' := W.heap.size + 1) (by omega))
                  have Q3 := M7.out.o3
                  dsimp only at Q3
                  rw [dQ_lt] at Q3
                  replace Q3 := Lib.hid Q3
                  have hz : W.heap.size + 1 ≤ W7.heap.size := M7.out.size
                  go_wp2_with (at_builtin; refine push_own elTab rfl _ _ rfl (W.heap.size + 1) _ j _ Q3.out rfl [.int .i64 K, .int .i64 (a : Int), .int .i64 (b : Int), .bool aw, .slice A4 M1.length c4, .slice none 0 0] rfl rfl rfl (by omega) (by omega) hz ?_)
                  intro v' w5 hown5 hg5 hb5 hs5 hor5
                  have ha5 : Below W7.heap.size W7 (W7.alloc (.cells [Value.int .i64 K, .int .i64 (a : Int), .int .i64 (b : Int), .bool aw, .slice A4 M1.length c4, .slice none 0 0].toArray 68)) := (Below.refl _ _).alloc (Nat.le_refl _) _
                  obtain ⟨A9, c9, rfl, M9⟩ := (M7.out.to ha5).push3 (t := ⟨K, a, b, aw, M1, []⟩) (y := ⟨A4, c4, none, 0⟩) (by dsimp only; rw [dQ_lt]; exact hown5) (by dsimp only; rw [dQ_lt]; exact hg5) (O7b.out.to ha5) (P7.out.to ha5)
                  have hT : (⟨K, a, b, aw, M1, []⟩ : Tab) = dTab (dVs d) (lkAt d.lk j) := by
                    rw [hl.out, dTab_mk hK.out ha.out s0 hb.out d0 hnA.out hnB.out, if_neg hk4'.out, haw.out, hM1.out]
                  rw [hT, dQ_snoc] at M9
                  replace hT := Lib.hid hT
                  dsimp only at M9
                  replace M9 := Lib.hid M9
                  have hwM := M7.out.pb.below hb5 (Nat.lt_succ_self _)
                  have z5 := hwM.lt
                  have f5 := fun o => hwM.frozen o
                  have e0 : w5.cell? ⟨W.heap.size, 3, none⟩ = some (.slice y3 (dQ d j).tabs.length z3) := hwM.cell 3
                  clear hwM hown5 hg5 hb5 hs5 hor5 ha5 zM fM m0 m1 m2 m3 t1 h1 t10 t11 t12 t13 t14 t15 l1 g1 l10 l11 l12 l13 l14 l15
                  go_wp2_with fail
                  go_roundw
                  case rel => exact ⟨j + 1, _, _, by go_num, by omega, Or.inr (by omega), M9.out⟩
                  case measure => simp [intOf]; omega
                | true =>
                  have hk4' := Lib.hid (beq_iff_eq.1 hk4)
                  obtain ⟨M2, hM2⟩ : ∃ m, bitsM nA nA lo true = m := ⟨_, rfl⟩
                  have HB2 := Lib.hid (fun W => bits_any nA nA lo true W nA3 nA3 o0 o1)
                  rw [hM2] at HB2
                  replace hM2 := Lib.hid hM2
                  go_wp2_with fail
                  go_region_held3 (fun w' => w'.cell? ⟨W.heap.size, 0, none⟩ = some (.slice (some ⟨bv, ov, none⟩) d.vs.length z0) ∧ w'.cell? ⟨W4.heap.size, 1, none⟩ = some (.int .i64 (a : Int)) ∧ w'.cell? ⟨bv, ov + a, none⟩ = some (.int .i64 (nA : Int)) ∧ w'.cell? ⟨wr.heap.size, 5, none⟩ = some (.int .u16 lo)) (simp [*, World.cell?_setCell_far, cell_off])
                    (first
                      | ((with_reducible refine (HB2.out W7.drew).mono ?_)
                         rintro e w11 ⟨_, rfl, hb11, A5, c5, rfl, hO11⟩
                         have hd11 := ((Drawn.refl W7).drew).below.trans hb11
                         have S11 := Lib.hid (S7.out.call hd11)
                         have M11 := Lib.hid (M7.out.to hd11)
                         have O11 := Lib.hid (O7.out.to hd11)
                         have va11 := (hd11.cell (p := ⟨bv, ov + a, none⟩) (by exact hbv7)).trans va7
                         have hO := Lib.hid (hO11.base (B' := W4.heap.size + 1) (by show W4.heap.size < W7.heap.size; exact t1))
                         clear zM fM m0 m1 m2 m3 t1 h1 t10 t11 t12 t13 t14 t15 l1 g1 l10 l11 l12 l13 l14 l15 hb11 hO11
                         obtain ⟨zM, fM, m0, m1, m2, m3⟩ := M11.out.facts
                         rw [dQ_lv] at m0
                         rw [dQ_lt] at m3
                         dsimp only at m0 m1 m2 m3
                         obtain ⟨⟨t1, h1, t10, t11, t12, t13, t14, t15, -⟩, ⟨l1, g1, l10, l11, l12, l13, l14, l15, -⟩, -⟩ := S11.out.facts))
                  generalize hW8 : w11.setCell ⟨W4.heap.size, 5, none⟩ (.slice A5 M2.length c5) = W8
                  have S8 : Hid (Fm wr W8 [⟨W4.heap.size, 68, [.int .i64 K, .int .i64 (a : Int), .int .i64 (b : Int), .bool aw, .slice A4 M1.length c4, .slice A5 M2.length c5]⟩, ⟨wr.heap.size, 74, [.int .u8 lk, .int .u8 ls, .int .u8 ld, .bool la, .int .u16 lb, .int .u16 lo]⟩] []) := Lib.hid (by rw [← hW8]; exact S11.out.set 0 rfl 5 _)
                  have O8 : Hid (OwnMt W8 (W.heap.size + 1) M1 (.slice A4 M1.length c4)) := Lib.hid (by rw [← hW8]; exact (O11.out.set 5 _).base (by omega))
                  have P8 : Hid (OwnMt W8 (W.heap.size + 1) M2 (.slice A5 M2.length c5)) := Lib.hid (by rw [← hW8]; exact (hO.out.set 5 _).base (by omega))
                  replace hW8 := Lib.hid hW8
                  have M8 := Lib.hid (hM.out.to S8.out.bel)
                  clear zM fM m0 m1 m2 m3 t1 h1 t10 t11 t12 t13 t14 t15 l1 g1 l10 l11 l12 l13 l14 l15 va11 va7 vb7 S11 M11 O11 O7 hO hd11 M7 S7
                  obtain ⟨zM, fM, m0, m1, m2, m3⟩ := M8.out.facts
                  rw [dQ_lv] at m0
                  rw [dQ_lt] at m3
                  dsimp only at m0 m1 m2 m3
                  obtain ⟨⟨t1, h1, t10, t11, t12, t13, t14, t15, -⟩, ⟨l1, g1, l10, l11, l12, l13, l14, l15, -⟩, -⟩ := S8.out.facts
                  have O8b := Lib.hid (O8.out.base (B' := W.heap.size + 1) (by omega))
                  have Q3 := M8.out.o3
                  dsimp only at Q3
                  rw [dQ_lt] at Q3
                  replace Q3 := Lib.hid Q3
                  have hz : W.heap.size + 1 ≤ W8.heap.size := M8.out.size
                  go_wp2_with (at_builtin; refine push_own elTab rfl _ _ rfl (W.heap.size + 1) _ j _ Q3.out rfl [.int .i64 K, .int .i64 (a : Int), .int .i64 (b : Int), .bool aw, .slice A4 M1.length c4, .slice A5 M2.length c5] rfl rfl rfl (by omega) (by omega) hz ?_)
                  intro v' w5 hown5 hg5 hb5 hs5 hor5
                  have ha5 : Below W8.heap.size W8 (W8.alloc (.cells [Value.int .i64 K, .int .i64 (a : Int), .int .i64 (b : Int), .bool aw, .slice A4 M1.length c4, .slice A5 M2.length c5].toArray 68)) := (Below.refl _ _).alloc (Nat.le_refl _) _
                  obtain ⟨A9, c9, rfl, M9⟩ := (M8.out.to ha5).push3 (t := ⟨K, a, b, aw, M1, M2⟩) (y := ⟨A4, c4, A5, c5⟩) (by dsimp only; rw [dQ_lt]; exact hown5) (by dsimp only; rw [dQ_lt]; exact hg5) (O8b.out.to ha5) (P8.out.to ha5)
                  have hT : (⟨K, a, b, aw, M1, M2⟩ : Tab) = dTab (dVs d) (lkAt d.lk j) := by
                    rw [hl.out, dTab_mk hK.out ha.out s0 hb.out d0 hnA.out hnB.out, if_pos hk4'.out, hM2.out, haw.out, hM1.out]
                  rw [hT, dQ_snoc] at M9
                  replace hT := Lib.hid hT
                  dsimp only at M9
                  replace M9 := Lib.hid M9
                  have hwM := M8.out.pb.below hb5 (Nat.lt_succ_self _)
                  have z5 := hwM.lt
                  have f5 := fun o => hwM.frozen o
                  have e0 : w5.cell? ⟨W.heap.size, 3, none⟩ = some (.slice y3 (dQ d j).tabs.length z3) := hwM.cell 3
                  clear hwM hown5 hg5 hb5 hs5 hor5 ha5 zM fM m0 m1 m2 m3 t1 h1 t10 t11 t12 t13 t14 t15 l1 g1 l10 l11 l12 l13 l14 l15
                  go_wp2_with fail
                  go_roundw
                  case rel => exact ⟨j + 1, _, _, by go_num, by omega, Or.inr (by omega), M9.out⟩
                  case measure => simp [intOf]; omega
              · have jk : (j : Int) < (d.lk.length : Int) := by omega
                have jv : ¬ (0 : Int) < (d.vs.length : Int) := by omega
                have hj' : j = 0 := by omega
                obtain rfl := hj'
                have hQ := Lib.hid (dQ_nil (d := d) (by omega))
                have S9 := Lib.hid ((((T.out.set 0 rfl 0 (.slice y0 d.vs.length z0)).set 0 rfl 1 (.slice y1 (dQ d 0).now.length z1)).set 0 rfl 2 (.slice y2 (dQ d 0).tgt.length z2)).set 0 rfl 3 (.slice y3 0 z3))
                have hA9 := Lib.hid (M.po.far4 (b := w.heap.size + 1) (by omega) (.slice y0 d.vs.length z0) (.slice y1 (dQ d 0).now.length z1) (.slice y2 (dQ d 0).tgt.length z2) (.slice y3 0 z3))
                clear hdr M
                go_wp2
                clear zM fM m0 m1 m2 m3 r1 f1 r10 r11 r12 r13 r2 f2 r20 r21 r22 r23
                obtain ⟨⟨r1, f1, r10, r11, r12, r13, -⟩, -⟩ := S9.out.facts
                refine bodyPost_ret (v := .tuple #[.agg #[.slice y0 d.vs.length z0, .slice y1 (dQ d 0).now.length z1, .slice y2 (dQ d 0).tgt.length z2, .slice y3 0 z3], .bool true]) (by simp [results, Try.results22, go_sem, r10, r11, r12, r13]) rfl ?_
                refine Ret.mk ⟨S9.out.bel, ?_⟩
                rw [if_pos ⟨h3, h4⟩]
                refine ⟨⟨y0, z0, y1, z1, y2, z2, y3, z3⟩, F, ?_, ?_⟩
                · rw [← hQ.out]
                  dsimp only [probV]
                  rw [dQ_lv, dQ_lt]
                · rw [← hQ.out]
                  exact hA9.out.base (by omega)
            · have jk : ¬ (j : Int) < (d.lk.length : Int) := by omega
              by_cases hv0 : d.vs.length = 0
              · have hj0' : j = 0 := by omega
                have hj' : j = 0 := by omega
                obtain rfl := hj'
                have hQ := Lib.hid (dQ_nil (d := d) (by omega))
                replace hv0 := Lib.hid hv0
                have S9 := Lib.hid ((((T.out.set 0 rfl 0 (.slice y0 d.vs.length z0)).set 0 rfl 1 (.slice y1 (dQ d 0).now.length z1)).set 0 rfl 2 (.slice y2 (dQ d 0).tgt.length z2)).set 0 rfl 3 (.slice y3 0 z3))
                have hA9 := Lib.hid (M.po.far4 (b := w.heap.size + 1) (by omega) (.slice y0 d.vs.length z0) (.slice y1 (dQ d 0).now.length z1) (.slice y2 (dQ d 0).tgt.length z2) (.slice y3 0 z3))
                clear hdr M
                go_wp2
                clear zM fM m0 m1 m2 m3 r1 f1 r10 r11 r12 r13 r2 f2 r20 r21 r22 r23
                obtain ⟨⟨r1, f1, r10, r11, r12, r13, -⟩, -⟩ := S9.out.facts
                refine bodyPost_ret (v := .tuple #[.agg #[.slice y0 d.vs.length z0, .slice y1 (dQ d 0).now.length z1, .slice y2 (dQ d 0).tgt.length z2, .slice y3 0 z3], .bool true]) (by simp [results, Try.results22, go_sem, r10, r11, r12, r13]) rfl ?_
                refine Ret.mk ⟨S9.out.bel, ?_⟩
                rw [if_pos ⟨h3, h4⟩]
                refine ⟨⟨y0, z0, y1, z1, y2, z2, y3, z3⟩, F, ?_, ?_⟩
                · rw [← hQ.out]
                  dsimp only [probV]
                  rw [dQ_lv, dQ_lt]
                · rw [← hQ.out]
                  exact hA9.out.base (by omega)
              · clear jk
                have jk : ¬ (j : Int) < (d.lk.length : Int) := by omega
                have hj' : j = d.lk.length := by omega
                obtain rfl := hj'
                have hQ := Lib.hid (dQ_all (d := d) (by omega))
                have S9 := Lib.hid ((((T.out.set 0 rfl 0 (.slice y0 d.vs.length z0)).set 0 rfl 1 (.slice y1 (dQ d d.lk.length).now.length z1)).set 0 rfl 2 (.slice y2 (dQ d d.lk.length).tgt.length z2)).set 0 rfl 3 (.slice y3 d.lk.length z3))
                have hA9 := Lib.hid (M.po.far4 (b := w.heap.size + 1) (by omega) (.slice y0 d.vs.length z0) (.slice y1 (dQ d d.lk.length).now.length z1) (.slice y2 (dQ d d.lk.length).tgt.length z2) (.slice y3 d.lk.length z3))
                clear hdr M
                go_wp2
                clear zM fM m0 m1 m2 m3 r1 f1 r10 r11 r12 r13 r2 f2 r20 r21 r22 r23
                obtain ⟨⟨r1, f1, r10, r11, r12, r13, -⟩, -⟩ := S9.out.facts
                refine bodyPost_ret (v := .tuple #[.agg #[.slice y0 d.vs.length z0, .slice y1 (dQ d d.lk.length).now.length z1, .slice y2 (dQ d d.lk.length).tgt.length z2, .slice y3 d.lk.length z3], .bool true]) (by simp [results, Try.results22, go_sem, r10, r11, r12, r13]) rfl ?_
                refine Ret.mk ⟨S9.out.bel, ?_⟩
                rw [if_pos ⟨h3, h4⟩]
                refine ⟨⟨y0, z0, y1, z1, y2, z2, y3, z3⟩, F, ?_, ?_⟩
                · rw [← hQ.out]
                  dsimp only [probV]
                  rw [dQ_lv, dQ_lt]
                · rw [← hQ.out]
                  exact hA9.out.base (by omega)
          
    · have j3 : ¬ (3 : Int) < (d.vs.length : Int) := by omega
      have j4 : (4 : Int) < (d.lk.length : Int) := by omega
      have S4 := Lib.hid ((((SW.out.set 0 rfl 0 (.slice none 0 0)).set 0 rfl 1 (.slice none 0 0)).set 0 rfl 2 (.slice none 0 0)).set 0 rfl 3 (.slice none 0 0))
      go_enter Try.func22, Try.ntmps22
      go_wp2
      clear hW r1 f1 r10 r11 r12 r13 r2 f2 r20 r21 r22 r23
      obtain ⟨⟨r1, f1, r10, r11, r12, r13, -⟩, -⟩ := S4.out.facts
      refine bodyPost_ret (v := .tuple #[.agg #[.slice none 0 0, .slice none 0 0, .slice none 0 0, .slice none 0 0], .bool false]) (by simp [results, Try.results22, go_sem, r10, r11, r12, r13]) rfl ?_
      refine Ret.mk ⟨S4.out.bel, ?_⟩
      rw [if_neg (fun h => h4 h.2)]
      rfl
  · have j3 : (3 : Int) < (d.vs.length : Int) := by omega
    have S4 := Lib.hid ((((SW.out.set 0 rfl 0 (.slice none 0 0)).set 0 rfl 1 (.slice none 0 0)).set 0 rfl 2 (.slice none 0 0)).set 0 rfl 3 (.slice none 0 0))
    go_enter Try.func22, Try.ntmps22
    go_wp2
    clear hW r1 f1 r10 r11 r12 r13 r2 f2 r20 r21 r22 r23
    obtain ⟨⟨r1, f1, r10, r11, r12, r13, -⟩, -⟩ := S4.out.facts
    refine bodyPost_ret (v := .tuple #[.agg #[.slice none 0 0, .slice none 0 0, .slice none 0 0, .slice none 0 0], .bool false]) (by simp [results, Try.results22, go_sem, r10, r11, r12, r13]) rfl ?_
    refine Ret.mk ⟨S4.out.bel, ?_⟩
    rw [if_neg (fun h => h3 h.1)]
    rfl
end Go.Proofs.Ytcjnfciemangkaa
