/-
  MIXES in memory; CONTRACTS of stored, running (both texts) and Has.
  Conditions: those that each theorem names.
-/
import Derived.Test.YtickckehhfdoeaaFleetF
import Derived.Test.YtickckehhfdoeaaSb2
import Derived.Test.YtickckehhfdoeaaFm

namespace Go.Proofs.Ytickckehhfdoeaa
open Go.RowKit Go.Sv
structure MixP where
  a0 : Option Addr
  c0 : Nat
  a1 : Option Addr
  c1 : Nat
  a2 : Option Addr
  c2 : Nat
def u8v (l : List Int) (k : Nat) : Value := .int .u8 (gi l k)
abbrev mixV (m : Mx) (q : MixP) : Value := .agg #[.slice q.a0 m.base.length q.c0, .slice q.a1 m.next.length q.c1, .slice q.a2 m.held.length q.c2]
structure RMix (w : World) (B : Nat) (m : Mx) (q : MixP) : Prop where
  r0 : Arr w B q.a0 m.base.length (iv m.base)
  r1 : Arr w B q.a1 m.next.length (iv m.next)
  r2 : Arr w B q.a2 m.held.length (u8v m.held)
theorem RMix.below {w w' : World} {B : Nat} {m : Mx} {q : MixP} (h : RMix w B m q) (hb : Below B w w') : RMix w' B m q := ⟨h.r0.below hb, h.r1.below hb, h.r2.below hb⟩
theorem RMix.more {w : World} {B B' : Nat} {m : Mx} {q : MixP} (h : RMix w B m q) (hB : B ≤ B') : RMix w B' m q := ⟨h.r0.more hB, h.r1.more hB, h.r2.more hB⟩
theorem RMix.to {w w' : World} {m : Mx} {q : MixP} (h : RMix w w.heap.size m q) (hb : Below w.heap.size w w') : RMix w' w'.heap.size m q := (h.below hb).more hb.size
/-- what a mix's numbers and slices obey -/
structure MBd (m : Mx) (q : MixP) : Prop where
  l0 : m.base.length ≤ 9223372036854775807
  l1 : m.next.length ≤ 9223372036854775807
  l2 : m.held.length ≤ 9223372036854775807
  n0 : q.a0 = none → m.base.length = 0 ∧ q.c0 = 0
  n1 : q.a1 = none → m.next.length = 0 ∧ q.c1 = 0
  n2 : q.a2 = none → m.held.length = 0 ∧ q.c2 = 0
  h8 : ∀ i, i < m.held.length → 0 ≤ gi m.held i ∧ gi m.held i < 256
theorem stB_iff (k : Int) : stB k = (k == 3 || k == 4) := by unfold stB; by_cases h : k = 3 <;> by_cases h2 : k = 4 <;> simp [h, h2]
theorem pow8 {b : Nat} (h : b < 8) : 2 ^ b < 256 := by
  have : 2 ^ b ≤ 2 ^ 7 := Nat.pow_le_pow_right (by decide) (by omega)
  omega
theorem shl8 {x : Int} (h0 : 0 ≤ x) (h : x < 8) : IntKind.u8.wrap (1 * 2 ^ x.toNat) = ((2 ^ x.toNat : Nat) : Int) := by
  have e : (1 : Int) * 2 ^ x.toNat = ((2 ^ x.toNat : Nat) : Int) := by rw [Int.one_mul]; simp
  rw [e]
  exact back8 (pow8 (by omega))
theorem shl8' {x : Int} (h0 : 0 ≤ x) (h : x < 8) : IntKind.u8.wrap (2 ^ x.toNat) = ((2 ^ x.toNat : Nat) : Int) := by
  have := shl8 h0 h
  rwa [Int.one_mul] at this
theorem or8p {x z : Nat} (hx : x < 8) (hz : z < 8) : bits .or .u8 (2 ^ x) (2 ^ z) = ((2 ^ x ||| 2 ^ z : Nat) : Int) := by
  have := bits_or8 (pow8 hx) (pow8 hz)
  simpa using this
theorem mstored_any (t : Tab) (q : TabP) (w : World) : Calls Try.prog 40 #[tabV t q] w fun e w' => e = .returned (.bool (stB t.kind)) ∧ Below w.heap.size w w' := by
  have hb := Lib.hid ((Below.refl w.heap.size w).alloc (Nat.le_refl _) (.cells #[.int .i64 t.kind, .int .i64 t.src, .int .i64 t.dst, .bool t.aware, .slice q.okA t.ok.length q.okC, .slice q.rwA t.rw.length q.rwC] 47))
  rw [stB_iff]
  cases h2 : (t.kind == 3) with
  | true =>
    go_enter Try.func40, Try.ntmps40
    go_wp2
    go_ret
    exact ⟨ret_b rfl, hb.out⟩
  | false =>
    go_enter Try.func40, Try.ntmps40
    go_wp2
    go_ret
    exact ⟨ret_b rfl, hb.out⟩
theorem sstored_any (t : Tab) (q : TabP) (w : World) : Calls Try.prog 89 #[tabV t q] w fun e w' => e = .returned (.bool (stB t.kind)) ∧ Below w.heap.size w w' := by
  have hb := Lib.hid ((Below.refl w.heap.size w).alloc (Nat.le_refl _) (.cells #[.int .i64 t.kind, .int .i64 t.src, .int .i64 t.dst, .bool t.aware, .slice q.okA t.ok.length q.okC, .slice q.rwA t.rw.length q.rwC] 47))
  rw [stB_iff]
  cases h2 : (t.kind == 3) with
  | true =>
    go_enter Try.func89, Try.ntmps89
    go_wp2
    go_ret
    exact ⟨ret_b rfl, hb.out⟩
  | false =>
    go_enter Try.func89, Try.ntmps89
    go_wp2
    go_ret
    exact ⟨ret_b rfl, hb.out⟩
theorem rstored_any (t : Tab) (q : TabP) (w : World) : Calls Try.prog 30 #[tabV t q] w fun e w' => e = .returned (.bool (stB t.kind)) ∧ Below w.heap.size w w' := by
  have hb := Lib.hid ((Below.refl w.heap.size w).alloc (Nat.le_refl _) (.cells #[.int .i64 t.kind, .int .i64 t.src, .int .i64 t.dst, .bool t.aware, .slice q.okA t.ok.length q.okC, .slice q.rwA t.rw.length q.rwC] 47))
  rw [stB_iff]
  cases h2 : (t.kind == 3) with
  | true =>
    go_enter Try.func30, Try.ntmps30
    go_wp2
    go_ret
    exact ⟨ret_b rfl, hb.out⟩
  | false =>
    go_enter Try.func30, Try.ntmps30
    go_wp2
    go_ret
    exact ⟨ret_b rfl, hb.out⟩
set_option maxRecDepth 100000 in
theorem mrun_any (m : Mx) (q : MixP) (k : Nat) (w : World) (hm : RMix w w.heap.size m q) (h0 : k < m.base.length) (h1 : k < m.next.length) (b0 : 0 ≤ gi m.base k) (b1 : gi m.base k < 8) (n0 : -1 ≤ gi m.next k) (n1 : gi m.next k < 8) :
    Calls Try.prog 62 #[mixV m q, .int .i64 k] w fun e w' => e = .returned (.int .u8 (run m k)) ∧ Below w.heap.size w w' := by
  obtain ⟨b, off, e0, hb, hc⟩ := hm.r0 (by omega)
  obtain ⟨b2, off2, e1, hb2, hc2⟩ := hm.r1 (by omega)
  have y0 := hc k h0
  have y1 := hc2 k h1
  unfold iv at y0 y1
  have hB := Lib.hid ((Below.refl w.heap.size w).alloc (Nat.le_refl _) (.cells #[.slice q.a0 m.base.length q.c0, .slice q.a1 m.next.length q.c1, .slice q.a2 m.held.length q.c2] 56))
  rw [e0, e1] at hB
  unfold run
  obtain ⟨x, hx⟩ : ∃ x, gi m.base k = x := ⟨_, rfl⟩
  obtain ⟨z, hz⟩ : ∃ z, gi m.next k = z := ⟨_, rfl⟩
  rw [hx] at y0 b0 b1 ⊢
  rw [hz] at y1 n0 n1 ⊢
  obtain ⟨a0, c0, a1, c1, a2, c2⟩ := q
  dsimp only at e0 e1 hB
  subst e0 e1
  have j0 : (k : Int) < (m.base.length : Int) := by omega
  have j1 : (k : Int) < (m.next.length : Int) := by omega
  have j2 : x ≤ 8 := by omega
  have w1 := shl8' b0 b1
  clear hm hc hc2 hx hz
  by_cases hn : 0 ≤ z
  · have i1 : decide (0 ≤ z) = true := decide_eq_true hn
    have w2 := shl8' hn n1
    have j3 : z ≤ 8 := by omega
    have w3 := or8p (show x.toNat < 8 by omega) (show z.toNat < 8 by omega)
    rw [if_pos hn]
    go_enter Try.func62, Try.ntmps62
    go_wp2
    go_ret
    exact ⟨rfl, hB.out⟩
  · have i1 : decide (0 ≤ z) = false := decide_eq_false hn
    rw [if_neg hn, Nat.or_zero]
    go_enter Try.func62, Try.ntmps62
    go_wp2
    go_ret
    exact ⟨rfl, hB.out⟩
set_option maxRecDepth 100000 in
theorem srun_any (m : Mx) (q : MixP) (k : Nat) (w : World) (hm : RMix w w.heap.size m q) (h0 : k < m.base.length) (h1 : k < m.next.length) (b0 : 0 ≤ gi m.base k) (b1 : gi m.base k < 8) (n0 : -1 ≤ gi m.next k) (n1 : gi m.next k < 8) :
    Calls Try.prog 90 #[mixV m q, .int .i64 k] w fun e w' => e = .returned (.int .u8 (run m k)) ∧ Below w.heap.size w w' := by
  obtain ⟨b, off, e0, hb, hc⟩ := hm.r0 (by omega)
  obtain ⟨b2, off2, e1, hb2, hc2⟩ := hm.r1 (by omega)
  have y0 := hc k h0
  have y1 := hc2 k h1
  unfold iv at y0 y1
  have hB := Lib.hid ((Below.refl w.heap.size w).alloc (Nat.le_refl _) (.cells #[.slice q.a0 m.base.length q.c0, .slice q.a1 m.next.length q.c1, .slice q.a2 m.held.length q.c2] 56))
  rw [e0, e1] at hB
  unfold run
  obtain ⟨x, hx⟩ : ∃ x, gi m.base k = x := ⟨_, rfl⟩
  obtain ⟨z, hz⟩ : ∃ z, gi m.next k = z := ⟨_, rfl⟩
  rw [hx] at y0 b0 b1 ⊢
  rw [hz] at y1 n0 n1 ⊢
  obtain ⟨a0, c0, a1, c1, a2, c2⟩ := q
  dsimp only at e0 e1 hB
  subst e0 e1
  have j0 : (k : Int) < (m.base.length : Int) := by omega
  have j1 : (k : Int) < (m.next.length : Int) := by omega
  have j2 : x ≤ 8 := by omega
  have w1 := shl8' b0 b1
  clear hm hc hc2 hx hz
  by_cases hn : 0 ≤ z
  · have i1 : decide (0 ≤ z) = true := decide_eq_true hn
    have w2 := shl8' hn n1
    have j3 : z ≤ 8 := by omega
    have w3 := or8p (show x.toNat < 8 by omega) (show z.toNat < 8 by omega)
    rw [if_pos hn]
    go_enter Try.func90, Try.ntmps90
    go_wp2
    go_ret
    exact ⟨rfl, hB.out⟩
  · have i1 : decide (0 ≤ z) = false := decide_eq_false hn
    rw [if_neg hn, Nat.or_zero]
    go_enter Try.func90, Try.ntmps90
    go_wp2
    go_ret
    exact ⟨rfl, hB.out⟩
set_option maxRecDepth 100000 in
theorem rrun_any (m : Mx) (q : MixP) (k : Nat) (w : World) (hm : RMix w w.heap.size m q) (h0 : k < m.base.length) (h1 : k < m.next.length) (b0 : 0 ≤ gi m.base k) (b1 : gi m.base k < 8) (n0 : -1 ≤ gi m.next k) (n1 : gi m.next k < 8) :
    Calls Try.prog 31 #[mixV m q, .int .i64 k] w fun e w' => e = .returned (.int .u8 (run m k)) ∧ Below w.heap.size w w' := by
  obtain ⟨b, off, e0, hb, hc⟩ := hm.r0 (by omega)
  obtain ⟨b2, off2, e1, hb2, hc2⟩ := hm.r1 (by omega)
  have y0 := hc k h0
  have y1 := hc2 k h1
  unfold iv at y0 y1
  have hB := Lib.hid ((Below.refl w.heap.size w).alloc (Nat.le_refl _) (.cells #[.slice q.a0 m.base.length q.c0, .slice q.a1 m.next.length q.c1, .slice q.a2 m.held.length q.c2] 56))
  rw [e0, e1] at hB
  unfold run
  obtain ⟨x, hx⟩ : ∃ x, gi m.base k = x := ⟨_, rfl⟩
  obtain ⟨z, hz⟩ : ∃ z, gi m.next k = z := ⟨_, rfl⟩
  rw [hx] at y0 b0 b1 ⊢
  rw [hz] at y1 n0 n1 ⊢
  obtain ⟨a0, c0, a1, c1, a2, c2⟩ := q
  dsimp only at e0 e1 hB
  subst e0 e1
  have j0 : (k : Int) < (m.base.length : Int) := by omega
  have j1 : (k : Int) < (m.next.length : Int) := by omega
  have j2 : x ≤ 8 := by omega
  have w1 := shl8' b0 b1
  clear hm hc hc2 hx hz
  by_cases hn : 0 ≤ z
  · have i1 : decide (0 ≤ z) = true := decide_eq_true hn
    have w2 := shl8' hn n1
    have j3 : z ≤ 8 := by omega
    have w3 := or8p (show x.toNat < 8 by omega) (show z.toNat < 8 by omega)
    rw [if_pos hn]
    go_enter Try.func31, Try.ntmps31
    go_wp2
    go_ret
    exact ⟨rfl, hB.out⟩
  · have i1 : decide (0 ≤ z) = false := decide_eq_false hn
    rw [if_neg hn, Nat.or_zero]
    go_enter Try.func31, Try.ntmps31
    go_wp2
    go_ret
    exact ⟨rfl, hB.out⟩
end Go.Proofs.Ytickckehhfdoeaa

namespace Go.Sv
open Go.RowKit
theorem firstE_hit {f : Nat → Int} : ∀ (n s k : Nat), s ≤ k → k < s + n → (∀ i, s ≤ i → i < k → f i = 0) → f k ≠ 0 → firstE f s n = f k
  | 0, s, k, h1, h2, _, _ => by omega
  | n + 1, s, k, h1, h2, h, hk => by
    rw [firstE]
    by_cases e : s = k
    · subst e; rw [if_neg hk]
    · rw [if_pos (h s (Nat.le_refl _) (by omega))]
      exact firstE_hit n (s + 1) k (by omega) (by omega) (fun i a b => h i (by omega) b) hk
theorem mixE_p {p : Prob} {m : Mx} (h : probE p ≠ 0) : mixE p m = probE p := by unfold mixE; rw [if_pos h]
theorem mixE_6 {p : Prob} {m : Mx} (h : probE p = 0) (h2 : m.base.length ≠ p.vs.length ∨ m.next.length ≠ p.vs.length ∨ m.held.length ≠ p.tabs.length) : mixE p m = 6 := by
  unfold mixE; rw [if_neg (by rw [h]; simp), if_pos h2]
structure MLen (p : Prob) (m : Mx) : Prop where
  pr : probE p = 0
  lb : m.base.length = p.vs.length
  ln : m.next.length = p.vs.length
  lh : m.held.length = p.tabs.length
theorem mixE_s {p : Prob} {m : Mx} (h : MLen p m) {k : Nat} (hk : k < p.vs.length) (hall : ∀ i, i < k → svcE p m i = 0) (hb : svcE p m k ≠ 0) : mixE p m = svcE p m k := by
  have e := firstE_hit p.vs.length 0 k (Nat.zero_le _) (by omega) (fun i _ hi => hall i hi) hb
  unfold mixE
  rw [if_neg (by rw [h.pr]; simp), if_neg (by have := h.lb; have := h.ln; have := h.lh; omega), if_pos (by rw [e]; exact hb), e]
theorem mixE_t {p : Prob} {m : Mx} (h : MLen p m) (hs : ∀ i, i < p.vs.length → svcE p m i = 0) {k : Nat} (hk : k < p.tabs.length) (hall : ∀ i, i < k → tblE p m i = 0) (hb : tblE p m k ≠ 0) : mixE p m = tblE p m k := by
  have e := firstE_hit p.tabs.length 0 k (Nat.zero_le _) (by omega) (fun i _ hi => hall i hi) hb
  have e2 := firstE_0 (f := svcE p m) p.vs.length 0 (fun i _ hi => hs i (by omega))
  unfold mixE
  rw [if_neg (by rw [h.pr]; simp), if_neg (by have := h.lb; have := h.ln; have := h.lh; omega), if_neg (by rw [e2]; simp), e]
theorem mixE_0 {p : Prob} {m : Mx} (h : MLen p m) (hs : ∀ i, i < p.vs.length → svcE p m i = 0) (hall : ∀ i, i < p.tabs.length → tblE p m i = 0) : mixE p m = 0 := by
  have e := firstE_0 (f := tblE p m) p.tabs.length 0 (fun i _ hi => hall i (by omega))
  have e2 := firstE_0 (f := svcE p m) p.vs.length 0 (fun i _ hi => hs i (by omega))
  unfold mixE
  rw [if_neg (by rw [h.pr]; simp), if_neg (by have := h.lb; have := h.ln; have := h.lh; omega), if_neg (by rw [e2]; simp), e]
theorem svcE_7 {p : Prob} {m : Mx} {i : Nat} (h : gi m.base i < 0 ∨ gi p.vs i ≤ gi m.base i ∨ gi m.next i < -1 ∨ gi p.vs i ≤ gi m.next i) : svcE p m i = 7 := by unfold svcE; rw [if_pos h]
theorem svcE_1 {p : Prob} {m : Mx} {i : Nat} (h : ¬ (gi m.base i < 0 ∨ gi p.vs i ≤ gi m.base i ∨ gi m.next i < -1 ∨ gi p.vs i ≤ gi m.next i)) (h2 : gi m.base i = gi m.next i) : svcE p m i = 1 := by unfold svcE; rw [if_neg h, if_pos h2]
theorem svcE_0 {p : Prob} {m : Mx} {i : Nat} (h : ¬ (gi m.base i < 0 ∨ gi p.vs i ≤ gi m.base i ∨ gi m.next i < -1 ∨ gi p.vs i ≤ gi m.next i)) (h2 : gi m.base i ≠ gi m.next i) : svcE p m i = 0 := by unfold svcE; rw [if_neg h, if_neg h2]
theorem svcE_in {p : Prob} {m : Mx} {i : Nat} (h : svcE p m i = 0) : 0 ≤ gi m.base i ∧ gi m.base i < gi p.vs i ∧ -1 ≤ gi m.next i ∧ gi m.next i < gi p.vs i ∧ gi m.base i ≠ gi m.next i := by
  unfold svcE at h
  split at h
  · cases h
  · split at h
    · cases h
    · omega
/-- the machine's two tests of a stored table -/
theorem tblE_st {p : Prob} {m : Mx} {i : Nat} (hs : stB (tab p.tabs i).kind = true) (h8 : 0 ≤ gi m.held i ∧ gi m.held i < 256) (hr : run m (tab p.tabs i).src.toNat < 256) (hv : (gi p.vs (tab p.tabs i).src.toNat).toNat ≤ 6) :
    tblE p m i = if (((diff (run m (tab p.tabs i).src.toNat) (hd m i) : Nat) : Int) != 0) = true ∨ (((diff (hd m i) (2 ^ (gi p.vs (tab p.tabs i).src.toNat).toNat - 1) : Nat) : Int) != 0) = true then 1 else 0 := by
  have hh : hd m i < 256 := by unfold hd; omega
  have ha : 2 ^ (gi p.vs (tab p.tabs i).src.toNat).toNat - 1 < 256 := by
    have : 2 ^ (gi p.vs (tab p.tabs i).src.toNat).toNat ≤ 2 ^ 6 := Nat.pow_le_pow_right (by decide) hv
    omega
  have d1 := diff_0 hr hh
  have d2 := diff_0 hh ha
  unfold tblE
  rw [if_pos (show Go.Sv.stored _ = true from hs)]
  simp only [bne_iff_ne, ne_eq, Int.natCast_eq_zero, d1, d2]
  by_cases a : sub (run m (tab p.tabs i).src.toNat) (hd m i) <;> by_cases b : sub (hd m i) (2 ^ (gi p.vs (tab p.tabs i).src.toNat).toNat - 1) <;> simp [a, b]
theorem tblE_ns {p : Prob} {m : Mx} {i : Nat} (hs : stB (tab p.tabs i).kind = false) : tblE p m i = if (gi m.held i != 0) = true then 1 else 0 := by
  unfold tblE
  rw [if_neg (show ¬ Go.Sv.stored _ = true by rw [show Go.Sv.stored _ = stB _ from rfl, hs]; decide)]
  by_cases a : gi m.held i = 0 <;> simp [a]
end Go.Sv
namespace Go.Proofs.Ytickckehhfdoeaa
open Go.RowKit Go.Sv
/-- the two boxes of a function of a problem and a mix -/
theorem pm_boxes (p : Prob) (q : ProbP) (m : Mx) (qm : MixP) (w : World) : ∃ W, (w.alloc (.cells #[.slice q.a0 p.vs.length q.c0, .slice q.a1 p.now.length q.c1, .slice q.a2 p.tgt.length q.c2, .slice q.a3 p.tabs.length q.c3] 39)).alloc (.cells #[.slice qm.a0 m.base.length qm.c0, .slice qm.a1 m.next.length qm.c1, .slice qm.a2 m.held.length qm.c2] 56) = W ∧
    Fm w W [⟨w.heap.size + 1, 56, [.slice qm.a0 m.base.length qm.c0, .slice qm.a1 m.next.length qm.c1, .slice qm.a2 m.held.length qm.c2]⟩, ⟨w.heap.size, 39, [.slice q.a0 p.vs.length q.c0, .slice q.a1 p.now.length q.c1, .slice q.a2 p.tgt.length q.c2, .slice q.a3 p.tabs.length q.c3]⟩] [] :=
  ⟨_, rfl, ((Fm.init w).box 39 _).box' 56 _ (by simp)⟩
theorem fm_boxE {w W : World} {bs : List Bx} {rs : List Rd} (h : Fm w W bs rs) (t : TypeId) (cs : List Value) : ∃ W2, W.alloc (.cells cs.toArray t) = W2 ∧ Fm w W2 (⟨W.heap.size, t, cs⟩ :: bs) rs ∧ Below W.heap.size W W2 :=
  ⟨_, rfl, h.box t cs, (Below.refl _ _).alloc (Nat.le_refl _) _⟩
theorem bneI {a b : Nat} (h : a ≠ b) : ((a : Int) != (b : Int)) = true := by rw [bne_iff_ne]; omega
theorem bneI0 {a b : Nat} (h : a = b) : ((a : Int) != (b : Int)) = false := by rw [bne_eq_false_iff_eq]; omega
set_option maxHeartbeats 4000000 in
set_option maxRecDepth 100000 in
theorem mvalid_any (p : Prob) (q : ProbP) (m : Mx) (qm : MixP) (w : World) (hp : RProb w w.heap.size p q) (hbd : PBd p) (hm : RMix w w.heap.size m qm) (hmb : MBd m qm) :
    Calls Try.prog 33 #[probV p q, mixV m qm] w fun e w' => e = .returned (.int .i64 (mixE p m)) ∧ Below w.heap.size w w' := by
  obtain ⟨qa0, qc0, qa1, qc1, qa2, qc2, qa3, qc3⟩ := q
  obtain ⟨ma0, mc0, ma1, mc1, ma2, mc2⟩ := qm
  obtain ⟨W, hW, S⟩ := pm_boxes p ⟨qa0, qc0, qa1, qc1, qa2, qc2, qa3, qc3⟩ m ⟨ma0, mc0, ma1, mc1, ma2, mc2⟩ w
  dsimp only at hW S
  have HP := Lib.hid (validProblem_any p ⟨qa0, qc0, qa1, qc1, qa2, qc2, qa3, qc3⟩ W (hp.to S.bel) hbd)
  replace S := Lib.hid S
  by_cases he : probE p = 0
  case neg =>
    have E := Lib.hid (mixE_p (m := m) he)
    have i1 : (probE p != 0) = true := bne_iff_ne.2 he
    obtain ⟨z, hz⟩ : ∃ z, probE p = z := ⟨_, rfl⟩
    rw [hz] at i1 HP E
    clear he hz
    obtain ⟨⟨y1, f1, y10, y11, y12, -⟩, ⟨y2, f2, y20, y21, y22, y23, -⟩, -⟩ := S.out.facts
    go_enter Try.func33, Try.ntmps33
    go_wp2_with fail
    clear hW y1 f1 y10 y11 y12 y2 f2 y20 y21 y22 y23
    refine HP.out.mono ?_
    rintro e w1 ⟨rfl, hb1⟩
    replace S := Lib.hid (S.out.call hb1)
    clear hb1
    go_wp2
    go_ret
    exact ⟨ret_i E.out.symm, S.out.bel⟩
  rw [he] at HP
  by_cases g1 : m.base.length = p.vs.length
  case neg =>
    have E := Lib.hid (mixE_6 he (Or.inl g1))
    have i1 := bneI g1
    clear g1
    obtain ⟨⟨y1, f1, y10, y11, y12, -⟩, ⟨y2, f2, y20, y21, y22, y23, -⟩, -⟩ := S.out.facts
    go_enter Try.func33, Try.ntmps33
    go_wp2_with fail
    clear hW y1 f1 y10 y11 y12 y2 f2 y20 y21 y22 y23
    refine HP.out.mono ?_
    rintro e w1 ⟨rfl, hb1⟩
    replace S := Lib.hid (S.out.call hb1)
    clear hb1
    obtain ⟨⟨y1, f1, y10, y11, y12, -⟩, ⟨y2, f2, y20, y21, y22, y23, -⟩, -⟩ := S.out.facts
    go_wp2
    go_ret
    exact ⟨ret_i E.out.symm, S.out.bel⟩
  have i1 := bneI0 g1
  by_cases g2 : m.next.length = p.vs.length
  case neg =>
    have E := Lib.hid (mixE_6 he (Or.inr (Or.inl g2)))
    have i2 := bneI g2
    clear g2 g1
    obtain ⟨⟨y1, f1, y10, y11, y12, -⟩, ⟨y2, f2, y20, y21, y22, y23, -⟩, -⟩ := S.out.facts
    go_enter Try.func33, Try.ntmps33
    go_wp2_with fail
    clear hW y1 f1 y10 y11 y12 y2 f2 y20 y21 y22 y23
    refine HP.out.mono ?_
    rintro e w1 ⟨rfl, hb1⟩
    replace S := Lib.hid (S.out.call hb1)
    clear hb1
    obtain ⟨⟨y1, f1, y10, y11, y12, -⟩, ⟨y2, f2, y20, y21, y22, y23, -⟩, -⟩ := S.out.facts
    go_wp2
    go_ret
    exact ⟨ret_i E.out.symm, S.out.bel⟩
  have i2 := bneI0 g2
  by_cases g3 : m.held.length = p.tabs.length
  case neg =>
    have E := Lib.hid (mixE_6 he (Or.inr (Or.inr g3)))
    have i3 := bneI g3
    clear g3 g2 g1
    obtain ⟨⟨y1, f1, y10, y11, y12, -⟩, ⟨y2, f2, y20, y21, y22, y23, -⟩, -⟩ := S.out.facts
    go_enter Try.func33, Try.ntmps33
    go_wp2_with fail
    clear hW y1 f1 y10 y11 y12 y2 f2 y20 y21 y22 y23
    refine HP.out.mono ?_
    rintro e w1 ⟨rfl, hb1⟩
    replace S := Lib.hid (S.out.call hb1)
    clear hb1
    obtain ⟨⟨y1, f1, y10, y11, y12, -⟩, ⟨y2, f2, y20, y21, y22, y23, -⟩, -⟩ := S.out.facts
    go_wp2
    go_ret
    exact ⟨ret_i E.out.symm, S.out.bel⟩
  have i3 := bneI0 g3
  have ML : Hid (MLen p m) := Lib.hid ⟨he, g1, g2, g3⟩
  replace hp := Lib.hid hp
  replace hm := Lib.hid hm
  clear g1 g2 g3
  have hn := hbd.b0
  have hn3 := hbd.b3
  replace he := Lib.hid he
  obtain ⟨⟨y1, f1, y10, y11, y12, -⟩, ⟨y2, f2, y20, y21, y22, y23, -⟩, -⟩ := S.out.facts
  go_enter Try.func33, Try.ntmps33
  go_wp2_with fail
  clear hW y1 f1 y10 y11 y12 y2 f2 y20 y21 y22 y23
  refine HP.out.mono ?_
  rintro e w1 ⟨rfl, hb1⟩
  replace S := Lib.hid (S.out.call hb1)
  clear hb1 HP
  obtain ⟨⟨y1, f1, y10, y11, y12, -⟩, ⟨y2, f2, y20, y21, y22, y23, -⟩, -⟩ := S.out.facts
  go_wp2
  clear i1 i2 i3
  go_loopw [45] (fun i wr => ∃ k : Nat, k ≤ p.vs.length ∧ i = .int .i64 k ∧ (∀ j, j < k → svcE p m j = 0) ∧ Drawn w1 wr) (fun i _ => p.vs.length - (intOf i).toNat)
  case atStart => exact ⟨0, Nat.zero_le _, rfl, fun j hj => by omega, Drawn.refl _⟩
  case round =>
    obtain ⟨k, hk, rfl, hall, hdr⟩ := hrel
    replace hall := Lib.hid hall
    have T := Lib.hid (S.out.call hdr.below)
    clear y1 f1 y10 y11 y12 y2 f2 y20 y21 y22 y23
    obtain ⟨⟨y1, f1, y10, y11, y12, -⟩, ⟨y2, f2, y20, y21, y22, y23, -⟩, -⟩ := T.out.facts
    by_cases hlt : k < p.vs.length
    · have hmr := hm.out.below T.out.bel
      have hpr := hp.out.below T.out.bel
      obtain ⟨b0, o0, e0, hb0, hc0⟩ := hmr.r0 (by have := ML.out.lb; omega)
      obtain ⟨b1, o1, e1, hb1, hc1⟩ := hmr.r1 (by have := ML.out.ln; omega)
      obtain ⟨b2, o2, e2, hb2, hc2⟩ := hpr.r0 (by omega)
      have d0 := hc0 k (by have := ML.out.lb; omega)
      have d1 := hc1 k (by have := ML.out.ln; omega)
      have d2 := hc2 k hlt
      unfold iv at d0 d1 d2
      dsimp only at e0 e1 e2
      subst e0 e1 e2
      have j1 : (k : Int) < (m.base.length : Int) := by have := ML.out.lb; omega
      have j2 : (k : Int) < (m.next.length : Int) := by have := ML.out.ln; omega
      have j3 : k < m.base.length := by omega
      have j4 : k < m.next.length := by omega
      have h7 := Lib.hid (fun h => (⟨mixE_s ML.out hlt hall.out (by rw [svcE_7 h]; decide), svcE_7 h⟩ : mixE p m = svcE p m k ∧ svcE p m k = 7))
      have h1 := Lib.hid (fun h h2 => (⟨mixE_s ML.out hlt hall.out (by rw [svcE_1 h h2]; decide), svcE_1 h h2⟩ : mixE p m = svcE p m k ∧ svcE p m k = 1))
      have h0 : Hid (svcE p m k = 0 → ∀ j, j < k + 1 → svcE p m j = 0) := Lib.hid fun h j hj => by
        rcases Nat.lt_succ_iff_lt_or_eq.1 hj with h' | h'
        · exact hall.out j h'
        · rw [h']; exact h
      have h00 := Lib.hid (fun h h2 => h0.out (svcE_0 (p := p) (m := m) (i := k) h h2))
      obtain ⟨x, hx⟩ : ∃ x, gi m.base k = x := ⟨_, rfl⟩
      obtain ⟨z, hz⟩ : ∃ z, gi m.next k = z := ⟨_, rfl⟩
      obtain ⟨n, hn'⟩ : ∃ n, gi p.vs k = n := ⟨_, rfl⟩
      rw [hx] at d0 h7 h1 h00
      rw [hz] at d1 h7 h1 h00
      rw [hn'] at d2 h7 h1 h00
      clear hc0 hc1 hc2 hmr hpr hx hz hn' h0
      have hF := Lib.hid T.out.bel
      by_cases c1 : x < 0
      · have E := Lib.hid (h7.out (Or.inl c1))
        have k1 : decide (x < 0) = true := decide_eq_true c1
        clear c1
        go_wp2
        go_ret
        exact ⟨ret_i (E.out.1.trans E.out.2).symm, hF.out⟩
      have k1 : decide (x < 0) = false := decide_eq_false c1
      by_cases c2 : n ≤ x
      · have E := Lib.hid (h7.out (Or.inr (Or.inl c2)))
        have k2 : decide (n ≤ x) = true := decide_eq_true c2
        clear c1 c2
        go_wp2
        go_ret
        exact ⟨ret_i (E.out.1.trans E.out.2).symm, hF.out⟩
      have k2 : decide (n ≤ x) = false := decide_eq_false c2
      by_cases c3 : z < -1
      · have E := Lib.hid (h7.out (Or.inr (Or.inr (Or.inl c3))))
        have k3 : decide (z < -1) = true := decide_eq_true c3
        clear c1 c2 c3
        go_wp2
        go_ret
        exact ⟨ret_i (E.out.1.trans E.out.2).symm, hF.out⟩
      have k3 : decide (z < -1) = false := decide_eq_false c3
      by_cases c4 : n ≤ z
      · have E := Lib.hid (h7.out (Or.inr (Or.inr (Or.inr c4))))
        have k4 : decide (n ≤ z) = true := decide_eq_true c4
        clear c1 c2 c3 c4
        go_wp2
        go_ret
        exact ⟨ret_i (E.out.1.trans E.out.2).symm, hF.out⟩
      have k4 : decide (n ≤ z) = false := decide_eq_false c4
      have c5 : ¬ (x < 0 ∨ n ≤ x ∨ z < -1 ∨ n ≤ z) := by omega
      clear c1 c2 c3 c4
      by_cases c6 : x = z
      · have E := Lib.hid (h1.out c5 c6)
        have k5 : (x == z) = true := beq_iff_eq.2 c6
        clear c5 c6 h7 h1 h00
        go_wp2_with fail
        go_big_quiet (fail)
        go_wp2
        go_ret
        exact ⟨ret_i (E.out.1.trans E.out.2).symm, hF.out.drawn ((Drawn.refl _).drewN _)⟩
      · have E := Lib.hid (h00.out c5 c6)
        have k5 : (x == z) = false := beq_eq_false_iff_ne.2 c6
        clear c5 c6 h7 h1 h00
        go_wp2_with fail
        go_big_quiet (fail)
        go_wp2
        go_roundw
        case rel => exact ⟨k + 1, by omega, by go_num, E.out, hdr.drewN _⟩
        case measure => simp [intOf]; omega
    · obtain rfl : k = p.vs.length := by omega
      rename World => wo
      have hsv := Lib.hid hall.out
      have hTo := Lib.hid (T.out)
      clear hlt hall hdr S
      go_wp2
      clear y1 f1 y10 y11 y12 y2 f2 y20 y21 y22 y23 T
      go_loopw [97] (fun i wr => ∃ k : Nat, k ≤ p.tabs.length ∧ i = .int .i64 k ∧ (∀ j, j < k → tblE p m j = 0) ∧ Below wo.heap.size wo wr) (fun i _ => p.tabs.length - (intOf i).toNat)
      case atStart => exact ⟨0, Nat.zero_le _, rfl, fun j hj => by omega, Below.refl _ _⟩
      case round =>
        obtain ⟨k, hk, rfl, hall, hbel⟩ := hrel
        have hB := hbel.size
        have T := hTo.out.call hbel
        by_cases hlt : k < p.tabs.length
        · have hmr := hm.out.below T.bel
          have hpr := hp.out.below T.bel
          have hsz := T.bel.size
          obtain ⟨qt, hq1, hq2⟩ := hpr.r3
          obtain ⟨b3, o3, e3, hb3, hc3⟩ := hq1 (by omega)
          obtain ⟨sr0, sr1⟩ := tab_src he.out hlt
          obtain ⟨vv0, vv1⟩ := vs_le he.out (i := (tab p.tabs k).src.toNat) (by omega)
          obtain ⟨b2, o2, e2, hb2, hc2⟩ := hpr.r0 (by omega)
          obtain ⟨b1, o1, e1, hb1, hc1⟩ := hmr.r2 (by have := ML.out.lh; omega)
          have d2 := hc2 (tab p.tabs k).src.toNat (by omega)
          have d1 := hc1 k (by have := ML.out.lh; omega)
          unfold iv at d2
          unfold u8v at d1
          dsimp only at e1 e2 e3
          obtain ⟨t0, t1, t2, t3, t4, t5⟩ := tab_cells (hc3 k hlt)
          have hh8 := hmb.h8 k (by have := ML.out.lh; omega)
          have hHI : gi m.held k = ((hd m k : Nat) : Int) := by unfold hd; omega
          have hH : hd m k < 256 := by unfold hd; omega
          obtain ⟨u0, u1, u2, u3, u4⟩ := svcE_in (hsv.out (tab p.tabs k).src.toNat (by omega))
          have hR8 : run m (tab p.tabs k).src.toNat < 256 := by
            unfold run
            refine Nat.or_lt_two_pow (n := 8) (pow8 (by omega)) ?_
            split
            · exact pow8 (by omega)
            · decide
          have hst := fun h => tblE_st (p := p) (m := m) (i := k) h hh8 hR8 (by omega)
          have hns := fun h => tblE_ns (p := p) (m := m) (i := k) h
          have HR := Lib.hid (fun W h => mrun_any m ⟨ma0, mc0, ma1, mc1, ma2, mc2⟩ (tab p.tabs k).src.toNat W h (by have := ML.out.lb; omega) (by have := ML.out.ln; omega) u0 (by omega) u2 (by omega))
          have HS := Lib.hid (fun W => mstored_any (tab p.tabs k) (qt k) W)
          have hbad := Lib.hid (fun h => mixE_t (k := k) ML.out hsv.out hlt hall h)
          have h0 : Hid (tblE p m k = 0 → ∀ j, j < k + 1 → tblE p m j = 0) := Lib.hid fun h j hj => by
            rcases Nat.lt_succ_iff_lt_or_eq.1 hj with h' | h'
            · exact hall j h'
            · rw [h']; exact h
          rw [hHI] at d1 hns
          obtain ⟨s, hs⟩ : ∃ s : Nat, (tab p.tabs k).src.toNat = s := ⟨_, rfl⟩
          have hsi : (tab p.tabs k).src = (s : Int) := by omega
          rw [hs] at HR hst hR8 d2 vv0 vv1
          unfold tabV at HS
          rw [hsi] at t1 HS
          have js : (s : Int) < (p.vs.length : Int) := by omega
          have js' : s < p.vs.length := by omega
          have jk : (k : Int) < (p.tabs.length : Int) := by omega
          have jh : (k : Int) < (m.held.length : Int) := by have := ML.out.lh; omega
          have jh' : k < m.held.length := by omega
          subst e1 e2 e3
          obtain ⟨W2, (hW2 : wr.alloc (.cells #[.int .i64 (tab p.tabs k).kind, .int .i64 s, .int .i64 (tab p.tabs k).dst, .bool (tab p.tabs k).aware, .slice (qt k).okA (tab p.tabs k).ok.length (qt k).okC, .slice (qt k).rwA (tab p.tabs k).rw.length (qt k).rwC] 47) = W2), U, hWW⟩ := fm_boxE T 47 [.int .i64 (tab p.tabs k).kind, .int .i64 s, .int .i64 (tab p.tabs k).dst, .bool (tab p.tabs k).aware, .slice (qt k).okA (tab p.tabs k).ok.length (qt k).okC, .slice (qt k).rwA (tab p.tabs k).rw.length (qt k).rwC]
          have hmW := Lib.hid (hm.out.to U.bel)
          have dd1 := (hWW.cell (p := ⟨b1, o1 + k, none⟩) (by show b1 < _; omega)).trans d1
          have dd2 := (hWW.cell (p := ⟨b2, o2 + s, none⟩) (by show b2 < _; omega)).trans d2
          have hb1w : b1 < W2.heap.size := by have := U.bel.size; omega
          have hb2w : b2 < W2.heap.size := by have := U.bel.size; omega
          have hb3w : b3 < wr.heap.size := by omega
          clear hc1 hc2 hc3 hq1 hq2 hpr hmr
          obtain ⟨⟨x1, g1, x10, x11, x12, x13, x14, x15, -⟩, ⟨y1, f1, y10, y11, y12, -⟩, ⟨y2, f2, y20, y21, y22, y23, -⟩, -⟩ := U.facts
          obtain ⟨-, ⟨v1, h1, v10, v11, v12, -⟩, ⟨v2, h2, v20, v21, v22, v23, -⟩, -⟩ := U.facts
          obtain ⟨⟨r1, l1, r10, r11, r12, -⟩, ⟨r2, l2, r20, r21, r22, r23, -⟩, -⟩ := T.facts
          replace U := Lib.hid U
          obtain ⟨H, hHH⟩ : ∃ H, hd m k = H := ⟨_, rfl⟩
          rw [hHH] at dd1 d1 hns hst hH
          cases hkd : stB (tab p.tabs k).kind with
          | false =>
            have hns' := hns hkd
            rw [hkd] at HS
            have n1 : bits .andNot .u8 0 (H : Int) = 0 := by
              have := bits_andNot8 (a := 0) (b := H) (by omega) hH
              simpa [diff] using this
            have n2 : bits .andNot .u8 (H : Int) 0 = (H : Int) := by
              have := bits_andNot8 (a := H) (b := 0) hH (by omega)
              have e : diff H 0 = H := Nat.eq_of_testBit_eq fun i => by rw [diff_bit hH (by omega)]; simp
              rw [e] at this
              exact this
            clear hst hmW HR hkd hns hHI hHH
            cases hz : ((H : Int) != 0) with
            | true =>
              rw [hz, if_pos rfl] at hns'
              have E := Lib.hid (hbad.out (by rw [hns']; decide))
              replace hns' := Lib.hid hns'
              clear hbad h0
              go_wp2_with fail
              clear hW2
              refine (HS.out W2).mono ?_
              rintro e w3 ⟨rfl, hb3'⟩
              replace U := Lib.hid (U.out.call hb3')
              have de1 := (hb3'.cell (p := ⟨b1, o1 + k, none⟩) hb1w).trans dd1
              have hb1x := Nat.lt_of_lt_of_le hb1w hb3'.size
              clear hb3' dd1 dd2
              clear x1 g1 x10 x11 x12 x13 x14 x15 v1 h1 v10 v11 v12 v2 h2 v20 v21 v22 v23 y1 f1 y10 y11 y12 y2 f2 y20 y21 y22 y23 r1 l1 r10 r11 r12 r2 l2 r20 r21 r22 r23
              obtain ⟨⟨x1, g1, x10, x11, x12, x13, x14, x15, -⟩, ⟨y1, f1, y10, y11, y12, -⟩, ⟨y2, f2, y20, y21, y22, y23, -⟩, -⟩ := U.out.facts
              go_wp2
              go_ret
              exact ⟨ret_i (E.out.trans hns'.out).symm, U.out.bel⟩
            | false =>
              rw [hz, if_neg (by decide)] at hns'
              have E := Lib.hid (h0.out hns')
              clear hbad h0 hns'
              go_wp2_with fail
              clear hW2
              refine (HS.out W2).mono ?_
              rintro e w3 ⟨rfl, hb3'⟩
              replace U := Lib.hid (U.out.call hb3')
              have hFF := Lib.hid (hbel.trans ((hWW.trans (hb3'.mono hWW.size)).mono hB))
              have de1 := (hb3'.cell (p := ⟨b1, o1 + k, none⟩) hb1w).trans dd1
              have hb1x := Nat.lt_of_lt_of_le hb1w hb3'.size
              clear hb3' dd1 dd2
              clear x1 g1 x10 x11 x12 x13 x14 x15 v1 h1 v10 v11 v12 v2 h2 v20 v21 v22 v23 y1 f1 y10 y11 y12 y2 f2 y20 y21 y22 y23 r1 l1 r10 r11 r12 r2 l2 r20 r21 r22 r23
              obtain ⟨⟨x1, g1, x10, x11, x12, x13, x14, x15, -⟩, ⟨y1, f1, y10, y11, y12, -⟩, ⟨y2, f2, y20, y21, y22, y23, -⟩, -⟩ := U.out.facts
              go_wp2
              go_roundw
              case rel => exact ⟨k + 1, by omega, by go_num, E.out, hFF.out⟩
              case measure => simp [intOf]; omega
          | true =>
            have hst' := hst hkd
            rw [hkd] at HS
            obtain ⟨R, hR⟩ : ∃ R, run m s = R := ⟨_, rfl⟩
            rw [hR] at HR hst' hR8
            obtain ⟨v, hv⟩ : ∃ v, gi p.vs s = v := ⟨_, rfl⟩
            rw [hv] at dd2 hst' vv0 vv1
            obtain ⟨M, hM⟩ : ∃ M, 2 ^ v.toNat - 1 = M := ⟨_, rfl⟩
            have hp2 : 2 ^ v.toNat ≤ 2 ^ 6 := Nat.pow_le_pow_right (by decide) (by omega)
            have hp1 : 1 ≤ 2 ^ v.toNat := Nat.one_le_two_pow
            have hM8 : M < 256 := by omega
            have ws := shl8' (x := v) (by omega) (by omega)
            have e1 : ((2 ^ v.toNat : Nat) : Int) = (M : Int) + 1 := by omega
            rw [e1] at ws
            have j8 : v ≤ 8 := by omega
            have w2' : IntKind.u8.wrap ((M : Int) + 1 - 1) = (M : Int) := by rw [show ((M : Int) + 1 - 1) = (M : Int) by omega]; exact back8 hM8
            have w3' : IntKind.u8.wrap (M : Int) = (M : Int) := back8 hM8
            have n1 := bits_andNot8 (a := R) (b := H) hR8 hH
            have n2 := bits_andNot8 (a := H) (b := M) hH hM8
            rw [hM] at hst'
            obtain ⟨D1, hD1⟩ : ∃ D, ((diff R H : Nat) : Int) = D := ⟨_, rfl⟩
            obtain ⟨D2, hD2⟩ : ∃ D, ((diff H M : Nat) : Int) = D := ⟨_, rfl⟩
            rw [hD1] at n1 hst'
            rw [hD2] at n2 hst'
            clear hst hkd hns hHI hHH hM hp2 hp1 e1 hv hR hD1 hD2
            have key : (∃ b1 b2, (D1 != 0) = b1 ∧ (D2 != 0) = b2) := ⟨_, _, rfl, rfl⟩
            have base : ∀ (P : Prop), (∀ w3 w4 : World, True → P) → True := fun _ _ => trivial
            clear base
            obtain ⟨z1, z2, hz1, hz2⟩ := key
            rw [hz1, hz2] at hst'
            go_wp2_with fail
            clear hW2
            refine (HS.out W2).mono ?_
            rintro e w3 ⟨rfl, hb3'⟩
            replace U := Lib.hid (U.out.call hb3')
            have de1 := (hb3'.cell (p := ⟨b1, o1 + k, none⟩) hb1w).trans dd1
            have de2 := (hb3'.cell (p := ⟨b2, o2 + s, none⟩) hb2w).trans dd2
            have hb1x := Nat.lt_of_lt_of_le hb1w hb3'.size
            have hb2x := Nat.lt_of_lt_of_le hb2w hb3'.size
            have hm3 := Lib.hid (hmW.out.to hb3')
            have hW3 := Lib.hid (hWW.trans (hb3'.mono hWW.size))
            clear hb3' dd1 dd2 hmW
            clear x1 g1 x10 x11 x12 x13 x14 x15 v1 h1 v10 v11 v12 v2 h2 v20 v21 v22 v23 y1 f1 y10 y11 y12 y2 f2 y20 y21 y22 y23 r1 l1 r10 r11 r12 r2 l2 r20 r21 r22 r23
            obtain ⟨⟨x1, g1, x10, x11, x12, x13, x14, x15, -⟩, ⟨y1, f1, y10, y11, y12, -⟩, ⟨y2, f2, y20, y21, y22, y23, -⟩, -⟩ := U.out.facts
            have hX := Lib.hid (fun x : GrowX w3 => calm_b (HR.out _ (hm3.out.to (grow_is w3 x))))
            go_wp2_with fail
            refine wp_region_calm (by kernel_rfl) (by kernel_rfl) ?_
            repeat (go_big_quiet_step (((go_at_call 62; with_reducible exact hX.out _))))
            refine wpQuiet_nil ?_
            intro w4 hw4
            have hb4 := grow_below hw4
            clear hw4 hX
            replace U := Lib.hid (U.out.call hb4)
            have dg1 := (hb4.cell (p := ⟨b1, o1 + k, none⟩) hb1x).trans de1
            have hb1y := Nat.lt_of_lt_of_le hb1x hb4.size
            have hFF := Lib.hid (hbel.trans ((hW3.out.trans (hb4.mono hW3.out.size)).mono hB))
            clear hb4 de1 de2
            clear x1 g1 x10 x11 x12 x13 x14 x15 y1 f1 y10 y11 y12 y2 f2 y20 y21 y22 y23
            obtain ⟨⟨x1, g1, x10, x11, x12, x13, x14, x15, -⟩, ⟨y1, f1, y10, y11, y12, -⟩, ⟨y2, f2, y20, y21, y22, y23, -⟩, -⟩ := U.out.facts
            cases z1 with
            | true =>
              rw [if_pos (Or.inl rfl)] at hst'
              have E := Lib.hid (hbad.out (by rw [hst']; decide))
              replace hst' := Lib.hid hst'
              clear hbad h0
              go_wp2
              go_ret
              exact ⟨ret_i (E.out.trans hst'.out).symm, U.out.bel⟩
            | false =>
              cases z2 with
              | true =>
                rw [if_pos (Or.inr rfl)] at hst'
                have E := Lib.hid (hbad.out (by rw [hst']; decide))
                replace hst' := Lib.hid hst'
                clear hbad h0
                go_wp2
                go_ret
                exact ⟨ret_i (E.out.trans hst'.out).symm, U.out.bel⟩
              | false =>
                rw [if_neg (by decide)] at hst'
                have E := Lib.hid (h0.out hst')
                clear hbad h0 hst'
                go_wp2
                go_roundw
                case rel => exact ⟨k + 1, by omega, by go_num, E.out, hFF.out⟩
                case measure => simp [intOf]; omega
        · obtain rfl : k = p.tabs.length := by omega
          have E := Lib.hid (mixE_0 ML.out hsv.out hall)
          have hF := Lib.hid T.bel
          clear hall T hbel hlt
          go_wp2
          go_ret
          exact ⟨ret_i E.out.symm, hF.out⟩
end Go.Proofs.Ytickckehhfdoeaa
