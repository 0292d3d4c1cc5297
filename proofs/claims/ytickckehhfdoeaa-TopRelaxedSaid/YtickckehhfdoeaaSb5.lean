/-
  THE STATE while a step changes a mix that the caller owns.
  Conditions: those that each theorem names.
-/
import Derived.Test.YtickckehhfdoeaaStB
import Derived.Deep.RegionLaw
import Derived.Test.YtickckehhfdoeaaSb2

namespace Go.Proofs.Ytickckehhfdoeaa
open Go.RowKit Go.Sv
/-- the state while a step changes the caller's mix: b: the mix's variable; B: the caller's rows lie from there on -/
structure SSt (w : World) (B b : Nat) (pq : Value × Value × Value × Value) (t2 : TypeId) (cs2 : Array Value) (m : Mx) (qm : MixP) (wr : World) : Prop where
  bel : Below B w wr
  sz : w.heap.size + 2 ≤ wr.heap.size
  nb1 : ∀ g, keyV (.slice qm.a1 m.next.length qm.c1) = some g → b ≠ g
  nb2 : ∀ g, keyV (.slice qm.a2 m.held.length qm.c2) = some g → b ≠ g
  hB : B ≤ w.heap.size
  pb : Whole wr w.heap.size 39 #[pq.1, pq.2.1, pq.2.2.1, pq.2.2.2]
  sb : Whole wr (w.heap.size + 1) t2 cs2
  mb : Whole wr b 56 #[.slice qm.a0 m.base.length qm.c0, .slice qm.a1 m.next.length qm.c1, .slice qm.a2 m.held.length qm.c2]
  ao : AO wr B m qm
  u1 : ∀ g, keyV (.slice qm.a1 m.next.length qm.c1) = some g → g < w.heap.size
  u2 : ∀ g, keyV (.slice qm.a2 m.held.length qm.c2) = some g → g < w.heap.size
section
variable {w wr wr' : World} {B b : Nat} {pq : Value × Value × Value × Value} {t2 : TypeId} {cs2 : Array Value} {m : Mx} {qm : MixP}
theorem SSt.to (h : SSt w B b pq t2 cs2 m qm wr) (hb : Below wr.heap.size wr wr') : SSt w B b pq t2 cs2 m qm wr' :=
  have hB := Nat.le_trans h.hB (Nat.le_trans (Nat.le_add_right _ 2) h.sz)
  ⟨h.bel.trans (hb.mono hB), Nat.le_trans h.sz hb.size, h.nb1, h.nb2, h.hB, h.pb.below hb h.pb.lt, h.sb.below hb h.sb.lt, h.mb.below hb h.mb.lt, h.ao.to hb, h.u1, h.u2⟩
theorem key_pos {A : Option Addr} {n c g : Nat} (hA : A = some ⟨g, 0, none⟩) (hn : 0 < n) : keyV (.slice A n c) = some g := by
  obtain ⟨k, rfl⟩ : ∃ k, n = k + 1 := ⟨n - 1, by omega⟩
  subst hA; rfl
theorem SSt.facts (h : SSt w B b pq t2 cs2 m qm wr) : wr.cell? ⟨w.heap.size, 0, none⟩ = some pq.1 ∧ wr.cell? ⟨w.heap.size, 1, none⟩ = some pq.2.1 ∧ wr.cell? ⟨w.heap.size, 2, none⟩ = some pq.2.2.1 ∧ wr.cell? ⟨w.heap.size, 3, none⟩ = some pq.2.2.2 ∧
    wr.cell? ⟨b, 0, none⟩ = some (.slice qm.a0 m.base.length qm.c0) ∧ wr.cell? ⟨b, 1, none⟩ = some (.slice qm.a1 m.next.length qm.c1) ∧ wr.cell? ⟨b, 2, none⟩ = some (.slice qm.a2 m.held.length qm.c2) :=
  ⟨h.pb.cell 0, h.pb.cell 1, h.pb.cell 2, h.pb.cell 3, h.mb.cell 0, h.mb.cell 1, h.mb.cell 2⟩
theorem SSt.c3 {a0 a1 a2 : Value} (h : SSt w B b pq t2 #[a0, a1, a2] m qm wr) : wr.cell? ⟨w.heap.size + 1, 0, none⟩ = some a0 ∧ wr.cell? ⟨w.heap.size + 1, 1, none⟩ = some a1 ∧ wr.cell? ⟨w.heap.size + 1, 2, none⟩ = some a2 := ⟨h.sb.cell 0, h.sb.cell 1, h.sb.cell 2⟩
theorem SSt.c6 {a0 a1 a2 a3 a4 a5 : Value} (h : SSt w B b pq t2 #[a0, a1, a2, a3, a4, a5] m qm wr) : wr.cell? ⟨w.heap.size + 1, 0, none⟩ = some a0 ∧ wr.cell? ⟨w.heap.size + 1, 1, none⟩ = some a1 ∧ wr.cell? ⟨w.heap.size + 1, 2, none⟩ = some a2 ∧ wr.cell? ⟨w.heap.size + 1, 3, none⟩ = some a3 ∧ wr.cell? ⟨w.heap.size + 1, 4, none⟩ = some a4 ∧ wr.cell? ⟨w.heap.size + 1, 5, none⟩ = some a5 := ⟨h.sb.cell 0, h.sb.cell 1, h.sb.cell 2, h.sb.cell 3, h.sb.cell 4, h.sb.cell 5⟩
theorem SSt.set1 (h : SSt w B b pq t2 cs2 m qm wr) {i : Nat} (hi : i < m.next.length) :
    ∃ g, qm.a1 = some ⟨g, 0, none⟩ ∧ B ≤ g ∧ g < w.heap.size ∧ (∀ o, wr.frozen? ⟨g, o, none⟩ = false) ∧ wr.cell? ⟨g, i, none⟩ = some (.int .i64 (gi m.next i)) ∧ ∀ x : Int, SSt w B b pq t2 cs2 { m with next := m.next.set i x } qm (wr.setCell ⟨g, i, none⟩ (.int .i64 x)) := by
  obtain ⟨g, e, hb, hl, hf, hc, hs⟩ := h.ao.set1 hi
  have hg := h.u1 g (key_pos e (by omega))
  refine ⟨g, e, hb, hg, hf, hc, fun x => ⟨h.bel.setCell hb _, by have := h.sz; simpa [World.setCell] using this, ?_, h.nb2, h.hB, h.pb.far (by show w.heap.size ≠ g; omega) _, h.sb.far (by show w.heap.size + 1 ≠ g; omega) _, ?_, hs x, ?_, h.u2⟩⟩
  · intro g' h1
    have h1 : keyV (.slice qm.a1 (m.next.set i x).length qm.c1) = some g' := h1
    rw [List.length_set] at h1
    exact h.nb1 g' h1
  · have := h.mb.far (p := ⟨g, i, none⟩) (h.nb1 g (key_pos e (by omega))) (.int .i64 x)
    show Whole _ _ _ #[_, .slice qm.a1 (m.next.set i x).length qm.c1, _]
    rw [List.length_set]; exact this
  · intro g' h1
    have h1 : keyV (.slice qm.a1 (m.next.set i x).length qm.c1) = some g' := h1
    rw [List.length_set] at h1
    exact h.u1 g' h1
theorem SSt.set2 (h : SSt w B b pq t2 cs2 m qm wr) {i : Nat} (hi : i < m.held.length) :
    ∃ g, qm.a2 = some ⟨g, 0, none⟩ ∧ B ≤ g ∧ g < w.heap.size ∧ (∀ o, wr.frozen? ⟨g, o, none⟩ = false) ∧ wr.cell? ⟨g, i, none⟩ = some (.int .u8 (gi m.held i)) ∧ ∀ x : Int, SSt w B b pq t2 cs2 { m with held := m.held.set i x } qm (wr.setCell ⟨g, i, none⟩ (.int .u8 x)) := by
  obtain ⟨g, e, hb, hl, hf, hc, hs⟩ := h.ao.set2 hi
  have hg := h.u2 g (key_pos e (by omega))
  refine ⟨g, e, hb, hg, hf, hc, fun x => ⟨h.bel.setCell hb _, by have := h.sz; simpa [World.setCell] using this, h.nb1, ?_, h.hB, h.pb.far (by show w.heap.size ≠ g; omega) _, h.sb.far (by show w.heap.size + 1 ≠ g; omega) _, ?_, hs x, h.u1, ?_⟩⟩
  · intro g' h1
    have h1 : keyV (.slice qm.a2 (m.held.set i x).length qm.c2) = some g' := h1
    rw [List.length_set] at h1
    exact h.nb2 g' h1
  · have := h.mb.far (p := ⟨g, i, none⟩) (h.nb2 g (key_pos e (by omega))) (.int .u8 x)
    show Whole _ _ _ #[_, _, .slice qm.a2 (m.held.set i x).length qm.c2]
    rw [List.length_set]; exact this
  · intro g' h1
    have h1 : keyV (.slice qm.a2 (m.held.set i x).length qm.c2) = some g' := h1
    rw [List.length_set] at h1
    exact h.u2 g' h1
theorem SSt.put2 (h : SSt w B b pq t2 cs2 m qm wr) (hd : Drawn wr wr') {i g : Nat} (hi : i < m.held.length) (hg : qm.a2 = some ⟨g, 0, none⟩) (x : Int) : SSt w B b pq t2 cs2 { m with held := m.held.set i x } qm (wr'.setCell ⟨g, i, none⟩ (.int .u8 x)) := by
  obtain ⟨g', e, _, _, _, _, hs⟩ := (h.to hd.below).set2 hi
  rw [hg] at e
  injection e with e
  injection e with e
  subst e
  exact hs x
theorem SSt.put1 (h : SSt w B b pq t2 cs2 m qm wr) (hd : Drawn wr wr') {i g : Nat} (hi : i < m.next.length) (hg : qm.a1 = some ⟨g, 0, none⟩) (x : Int) : SSt w B b pq t2 cs2 { m with next := m.next.set i x } qm (wr'.setCell ⟨g, i, none⟩ (.int .i64 x)) := by
  obtain ⟨g', e, _, _, _, _, hs⟩ := (h.to hd.below).set1 hi
  rw [hg] at e
  injection e with e
  injection e with e
  subst e
  exact hs x
end
/-- what is held when the first k tables are done -/
def heldN (p : Prob) (m : Mx) (i v : Int) (K : Nat) : List Int := (List.range m.held.length).map fun k => if k < K ∧ (tab p.tabs k).src = i ∧ Go.Sv.stored (tab p.tabs k) = true then ((hd m k ||| 2 ^ v.toNat : Nat) : Int) else gi m.held k
theorem heldN_len (p : Prob) (m : Mx) (i v : Int) (K : Nat) : (heldN p m i v K).length = m.held.length := by simp [heldN]
theorem heldN_gi {p : Prob} {m : Mx} {i v : Int} {K k : Nat} (h : k < m.held.length) : gi (heldN p m i v K) k = if k < K ∧ (tab p.tabs k).src = i ∧ Go.Sv.stored (tab p.tabs k) = true then ((hd m k ||| 2 ^ v.toNat : Nat) : Int) else gi m.held k := gi_map h
theorem heldN_0 (p : Prob) (m : Mx) (i v : Int) : heldN p m i v 0 = m.held := by
  refine gi_ext (heldN_len ..) fun k hk => ?_
  rw [heldN_len] at hk
  rw [heldN_gi hk, if_neg (by omega)]
theorem heldN_skip {p : Prob} {m : Mx} {i v : Int} {K : Nat} (h : ¬ ((tab p.tabs K).src = i ∧ Go.Sv.stored (tab p.tabs K) = true)) : heldN p m i v (K + 1) = heldN p m i v K := by
  refine gi_ext (by rw [heldN_len, heldN_len]) fun k hk => ?_
  rw [heldN_len] at hk
  rw [heldN_gi hk, heldN_gi hk]
  by_cases e : k = K
  · subst e
    rw [if_neg (fun c => h c.2), if_neg (fun c => h c.2)]
  · by_cases c : k < K
    · simp [c, Nat.lt_succ_of_lt c]
    · rw [if_neg (by omega), if_neg (by omega)]
theorem heldN_take {p : Prob} {m : Mx} {i v : Int} {K : Nat} (hK : K < m.held.length) (h : (tab p.tabs K).src = i ∧ Go.Sv.stored (tab p.tabs K) = true) : heldN p m i v (K + 1) = (heldN p m i v K).set K ((hd m K ||| 2 ^ v.toNat : Nat) : Int) := by
  refine gi_ext (by rw [List.length_set, heldN_len, heldN_len]) fun k hk => ?_
  rw [heldN_len] at hk
  rw [set_gi (by rw [heldN_len]; exact hK), heldN_gi hk]
  by_cases e : k = K
  · subst e
    rw [if_pos ⟨by omega, h⟩, if_pos rfl]
  · rw [if_neg e, heldN_gi hk]
    by_cases c : k < K
    · simp [c, Nat.lt_succ_of_lt c]
    · rw [if_neg (by omega), if_neg (by omega)]
/-- the mix behind a start whose first k tables are done -/
def mixN (p : Prob) (m : Mx) (i : Nat) (v : Int) (K : Nat) : Mx := ⟨m.base, m.next.set i v, heldN p m i v K⟩
theorem or8h {h x : Nat} (hh : h < 256) (hx : x < 8) : bits .or .u8 (h : Int) (2 ^ x) = ((h ||| 2 ^ x : Nat) : Int) := by
  have h2 : 2 ^ x < 256 := Nat.lt_of_lt_of_le (Nat.pow_lt_pow_right (by decide) hx) (by decide)
  have := bits_or8 hh h2
  rw [← this]
  congr 1
/-- what a step in place hands back -/
def StepIn (w : World) (B b : Nat) (m : Mx) (o : Option Mx) (qm : MixP) (e : Ending) (w' : World) : Prop := Below B w w' ∧ Whole w' b 56 #[.slice qm.a0 m.base.length qm.c0, .slice qm.a1 m.next.length qm.c1, .slice qm.a2 m.held.length qm.c2] ∧ ((o = none ∧ e = .returned (.bool false)) ∨ ∃ m', o = some m' ∧ e = .returned (.bool true) ∧ AO w' B m' qm)
/-- the state at the start -/
theorem sst_new (p : Prob) (q : ProbP) (m : Mx) (qm : MixP) (w : World) (B b : Nat) (t2 : TypeId) (cs2 : Array Value) (hB : B ≤ w.heap.size) (hn1 : ∀ g, keyV (.slice qm.a1 m.next.length qm.c1) = some g → b ≠ g) (hn2 : ∀ g, keyV (.slice qm.a2 m.held.length qm.c2) = some g → b ≠ g)
    (hmb : Whole w b 56 #[.slice qm.a0 m.base.length qm.c0, .slice qm.a1 m.next.length qm.c1, .slice qm.a2 m.held.length qm.c2]) (ha : AO w B m qm) :
    ∃ W, (w.alloc (.cells #[.slice q.a0 p.vs.length q.c0, .slice q.a1 p.now.length q.c1, .slice q.a2 p.tgt.length q.c2, .slice q.a3 p.tabs.length q.c3] 39)).alloc (.cells cs2 t2) = W ∧
      SSt w B b (.slice q.a0 p.vs.length q.c0, .slice q.a1 p.now.length q.c1, .slice q.a2 p.tgt.length q.c2, .slice q.a3 p.tabs.length q.c3) t2 cs2 m qm W := by
  refine ⟨_, rfl, ((Below.refl _ _).alloc hB _).alloc (by simp; omega) _, by simp, hn1, hn2, hB, ?_, ?_, ?_, ?_, ?_, ?_⟩
  · exact (Whole.new w _ _).alloc _
  · have := Whole.new (w.alloc (.cells #[.slice q.a0 p.vs.length q.c0, .slice q.a1 p.now.length q.c1, .slice q.a2 p.tgt.length q.c2, .slice q.a3 p.tabs.length q.c3] 39)) t2 cs2
    simpa using this
  · exact (hmb.alloc _).alloc _
  · exact ha.to (((Below.refl _ _).alloc (Nat.le_refl _) _).alloc (by simp) _)
  · exact fun g hg => (keyV_lt ha.o1 g hg).2
  · exact fun g hg => (keyV_lt ha.o2 g hg).2
theorem StepIn.no {w w' : World} {B b : Nat} {m : Mx} {pq : Value × Value × Value × Value} {t2 : TypeId} {cs2 : Array Value} {o : Option Mx} {qm : MixP} (h : SSt w B b pq t2 cs2 m qm w') (ho : o = none) : StepIn w B b m o qm (.returned (.bool false)) w' := ⟨h.bel, h.mb, Or.inl ⟨ho, rfl⟩⟩
theorem StepIn.yes {w w' : World} {B b : Nat} {m m' : Mx} {pq : Value × Value × Value × Value} {t2 : TypeId} {cs2 : Array Value} {o : Option Mx} {qm : MixP} (h : SSt w B b pq t2 cs2 m' qm w') (ho : o = some m') (l0 : m'.base.length = m.base.length) (l1 : m'.next.length = m.next.length) (l2 : m'.held.length = m.held.length) : StepIn w B b m o qm (.returned (.bool true)) w' :=
  ⟨h.bel, by have := h.mb; rw [l0, l1, l2] at this; exact this, Or.inr ⟨m', ho, rfl, h.ao⟩⟩
theorem mixN_0 {p : Prob} {m : Mx} {i : Nat} {v : Int} : mixN p m i v 0 = { m with next := m.next.set i v } := by unfold mixN; rw [heldN_0]
theorem mixN_skip {p : Prob} {m : Mx} {i : Nat} {v : Int} {K : Nat} (h : ¬ ((tab p.tabs K).src = (i : Int) ∧ Go.Sv.stored (tab p.tabs K) = true)) : mixN p m i v (K + 1) = mixN p m i v K := by unfold mixN; rw [heldN_skip h]
theorem mixN_take {p : Prob} {m : Mx} {i : Nat} {v : Int} {K : Nat} (hK : K < m.held.length) (h : (tab p.tabs K).src = (i : Int) ∧ Go.Sv.stored (tab p.tabs K) = true) : mixN p m i v (K + 1) = { mixN p m i v K with held := (mixN p m i v K).held.set K ((hd m K ||| 2 ^ v.toNat : Nat) : Int) } := by unfold mixN; rw [heldN_take hK h]
theorem mixN_hlen (p : Prob) (m : Mx) (i : Nat) (v : Int) (K : Nat) : (mixN p m i v K).held.length = m.held.length := heldN_len ..
theorem mixN_nlen (p : Prob) (m : Mx) (i : Nat) (v : Int) (K : Nat) : (mixN p m i v K).next.length = m.next.length := List.length_set ..
theorem mixN_held {p : Prob} {m : Mx} {i : Nat} {v : Int} {K : Nat} (h : K < m.held.length) : gi (mixN p m i v K).held K = gi m.held K := by
  show gi (heldN p m i v K) K = _
  rw [heldN_gi h, if_neg (by omega)]
theorem mixN_done {p : Prob} {m : Mx} {i : Nat} {v : Int} : mixN p m i v p.tabs.length = { m with next := m.next.set i v, held := heldS p m (i : Int) v } := rfl
end Go.Proofs.Ytickckehhfdoeaa

namespace Go.Proofs.Ytickckehhfdoeaa
open Go.RowKit Go.Sv
set_option maxHeartbeats 4000000 in
set_option maxRecDepth 100000 in
theorem start_any (p : Prob) (q : ProbP) (m : Mx) (qm : MixP) (s : Sp) (w : World) (B b : Nat) (hp : RProb w B p q) (_hbd : PBd p) (hB : B ≤ w.heap.size) (hn1 : ∀ g, keyV (.slice qm.a1 m.next.length qm.c1) = some g → b ≠ g) (hn2 : ∀ g, keyV (.slice qm.a2 m.held.length qm.c2) = some g → b ≠ g)
    (hmb : Whole w b 56 #[.slice qm.a0 m.base.length qm.c0, .slice qm.a1 m.next.length qm.c1, .slice qm.a2 m.held.length qm.c2]) (ha : AO w B m qm)
    (hok : MOk p m) (h8 : H8 m) (hk : s.kind = 1) (h0 : 0 ≤ s.ix) (h1 : s.ix < p.vs.length) (v0 : 0 ≤ s.ver) (v1 : s.ver < gi p.vs s.ix.toNat) :
    Calls Try.prog 70 #[probV p q, .pointer (some ⟨b, 0, none⟩), stepV s] w (StepIn w B b m (aft p m s) qm) := by
  obtain ⟨qa0, qc0, qa1, qc1, qa2, qc2, qa3, qc3⟩ := q
  obtain ⟨W, hW, S⟩ := sst_new p ⟨qa0, qc0, qa1, qc1, qa2, qc2, qa3, qc3⟩ m qm w B b 63 #[.int .i64 s.kind, .int .i64 s.ix, .int .i64 s.ver] hB hn1 hn2 hmb ha
  have lb := hok.lb
  have ln := hok.ln
  have lh := hok.lh
  obtain ⟨s0, s1, s2, s3, -⟩ := hok.sv s.ix.toNat (by omega)
  obtain ⟨vv0, vv1⟩ := vs_le hok.pr (i := s.ix.toNat) (by omega)
  have hbase := (hok.lb)
  obtain ⟨kd, ix, v⟩ := s
  dsimp only at hk h0 h1 v0 v1 hW s0 s1 s2 s3 vv0 vv1 ⊢
  subst hk
  obtain ⟨i, rfl⟩ : ∃ i : Nat, ix = (i : Int) := ⟨ix.toNat, by omega⟩
  rw [Int.toNat_natCast] at v1 s0 s1 s2 s3 vv0 vv1
  have hilt : i < p.vs.length := by omega
  have v0' := v0
  have haft : aft p m ⟨1, (i : Int), v⟩ = if 0 ≤ gi m.next i ∨ gi m.base i = v then none else some { m with next := m.next.set i v, held := heldS p m (i : Int) v } := by
    unfold aft
    simp
  obtain ⟨g1, e1, gB1, gl1, gf1, gc1, gs1⟩ := S.set1 (i := i) (by omega)
  obtain ⟨g0, e0, gB0, gl0, gf0, gc0, gs0⟩ := S.ao.set0 (i := i) (by omega)
  obtain ⟨z0, z1, z2, z3, y0, y1, y2⟩ := S.facts
  obtain ⟨x0, x1, x2⟩ := S.c3
  obtain ⟨ma0, mc0, ma1, mc1, ma2, mc2⟩ := qm
  dsimp only at e0 e1 x0 x1 x2 y0 y1 y2
  subst e0 e1
  have hbW : b < W.heap.size := S.mb.lt
  have hpW : w.heap.size < W.heap.size := S.pb.lt
  have hsW : w.heap.size + 1 < W.heap.size := S.sb.lt
  have hg1W : g1 < W.heap.size := by omega
  have jn : (i : Int) < (m.next.length : Int) := by omega
  have jb : (i : Int) < (m.base.length : Int) := by omega
  have jn' : i < m.next.length := by omega
  have jb' : i < m.base.length := by omega
  have hi1 := Lib.hid (S.nb1 g1 (key_pos rfl (by omega)))
  replace hn1 := Lib.hid hn1
  replace hn2 := Lib.hid hn2
  have hps : p.tabs.length ≤ 12 := (prob_small hok.pr).2.1
  replace hp := Lib.hid hp
  replace hok := Lib.hid hok
  have H8' := Lib.hid h8
  clear h8
  cases c1 : decide (0 ≤ gi m.next i) with
  | true =>
    rw [if_pos (Or.inl (of_decide_eq_true c1))] at haft
    replace haft := Lib.hid haft
    replace gs1 := Lib.hid gs1
    replace gs0 := Lib.hid gs0
    go_enter Try.func70, Try.ntmps70
    go_wp2_with fail
    clear hW
    go_big_quiet (fail)
    go_wp2
    go_ret
    exact StepIn.no (S.to ((Drawn.refl _).drewN _).below) haft.out
  | false =>
    cases c2 : (gi m.base i == v) with
    | true =>
      rw [if_pos (Or.inr (by simpa using c2))] at haft
      replace haft := Lib.hid haft
      replace gs1 := Lib.hid gs1
      replace gs0 := Lib.hid gs0
      go_enter Try.func70, Try.ntmps70
      go_wp2_with fail
      clear hW
      go_big_quiet (fail)
      go_wp2
      go_ret
      exact StepIn.no (S.to ((Drawn.refl _).drewN _).below) haft.out
    | false =>
      rw [if_neg (fun h => h.elim (fun h => by rw [decide_eq_true h] at c1; cases c1) (fun h => by rw [beq_iff_eq.2 h] at c2; cases c2))] at haft
      replace haft := Lib.hid haft
      replace gs0 := Lib.hid gs0
      have S1 := Lib.hid (gs1 v)
      clear gs1
      obtain ⟨W1, hW1⟩ : ∃ W1, W.setCell ⟨g1, i, none⟩ (.int .i64 v) = W1 := ⟨_, rfl⟩
      have n1 : ¬ b = g1 := hi1.out
      have n1' : ¬ g1 = b := fun h => hi1.out h.symm
      have n2 : ¬ w.heap.size + 1 = g1 := by omega
      have n2' : ¬ g1 = w.heap.size + 1 := by omega
      go_enter Try.func70, Try.ntmps70
      go_wp2_with fail
      clear hW
      go_big_quiet (fail)
      go_wp2_with fail
      go_region_held3 (fun w' => w'.cell? ⟨b, 1, none⟩ = some (.slice (some ⟨g1, 0, none⟩) m.next.length mc1) ∧ w'.cell? ⟨w.heap.size + 1, 1, none⟩ = some (.int .i64 (i : Int)) ∧ w'.cell? ⟨w.heap.size + 1, 2, none⟩ = some (.int .i64 v)) (go_keep) (fail)
      go_wp2
      go_loopw [43] (fun s43 wr => ∃ k : Nat, k ≤ p.tabs.length ∧ s43 = .int .i64 k ∧ SSt w B b (.slice qa0 p.vs.length qc0, .slice qa1 p.now.length qc1, .slice qa2 p.tgt.length qc2, .slice qa3 p.tabs.length qc3) 63 #[.int .i64 1, .int .i64 (i : Int), .int .i64 v] (mixN p m i v k) ⟨some ⟨g0, 0, none⟩, mc0, some ⟨g1, 0, none⟩, mc1, ma2, mc2⟩ wr) (fun s43 _ => p.tabs.length - (intOf s43).toNat)
      case atStart => exact ⟨0, Nat.zero_le _, rfl, by rw [mixN_0]; exact S.put1 ((Drawn.refl _).drewN _) jn' rfl v⟩
      case round =>
        obtain ⟨k, hk, rfl, T⟩ := hrel
        replace T := Lib.hid T
        clear z0 z1 z2 z3 x0 x1 x2 y0 y1 y2
        obtain ⟨z0, z1, z2, z3, y0, y1, y2⟩ := T.out.facts
        obtain ⟨x0, x1, x2⟩ := T.out.c3
        rw [mixN_hlen] at y2
        rw [mixN_nlen] at y1
        by_cases hlt : k < p.tabs.length
        · obtain ⟨qt, hq1, hq2⟩ := (hp.out.below T.out.bel).r3
          obtain ⟨b3, o3, e3, hb3, hc3⟩ := hq1 (by omega)
          dsimp only at e3
          subst e3
          obtain ⟨t0, t1, t2, t3, t4, t5⟩ := tab_cells (hc3 k hlt)
          clear hc3 hq1 hq2
          have F := tab_facts hok.out.pr hlt
          have jk : (k : Int) < (p.tabs.length : Int) := by omega
          have jh' : k < m.held.length := by omega
          have jh : (k : Int) < (m.held.length : Int) := by omega
          have hgk := h8_hd H8'.out jh'
          have hH := hd_lt hok.out hlt
          have hsz := T.out.sz
          have hb3w : b3 < wr.heap.size := by omega
          have HS := Lib.hid (fun W => sstored_any (tab p.tabs k) (qt k) W)
          unfold tabV at HS
          obtain ⟨W2, hW2, hBW⟩ : ∃ W2, wr.alloc (.cells #[.int .i64 (tab p.tabs k).kind, .int .i64 (tab p.tabs k).src, .int .i64 (tab p.tabs k).dst, .bool (tab p.tabs k).aware, .slice (qt k).okA (tab p.tabs k).ok.length (qt k).okC, .slice (qt k).rwA (tab p.tabs k).rw.length (qt k).rwC] 47) = W2 ∧ Below wr.heap.size wr W2 := ⟨_, rfl, (Below.refl _ _).alloc (Nat.le_refl _) _⟩
          have U := Lib.hid (T.out.to hBW)
          obtain ⟨u0, u1, u2⟩ := U.out.c3
          have uW : wr.heap.size < W2.heap.size := by rw [← hW2]; simp
          have hbx : Whole W2 wr.heap.size 47 #[.int .i64 (tab p.tabs k).kind, .int .i64 (tab p.tabs k).src, .int .i64 (tab p.tabs k).dst, .bool (tab p.tabs k).aware, .slice (qt k).okA (tab p.tabs k).ok.length (qt k).okC, .slice (qt k).rwA (tab p.tabs k).rw.length (qt k).rwC] := by rw [← hW2]; exact Whole.new ..
          obtain ⟨v0, v1, v2, v3, v4, v5⟩ := And.intro (hbx.cell 0) (And.intro (hbx.cell 1) (And.intro (hbx.cell 2) (And.intro (hbx.cell 3) (And.intro (hbx.cell 4) (hbx.cell 5)))))
          replace F := Lib.hid F
          replace hbx := Lib.hid hbx
          cases hsrc : ((tab p.tabs k).src == (i : Int)) with
          | false =>
            have hsk := Lib.hid (mixN_skip (p := p) (m := m) (i := i) (v := v) (K := k) (fun h => by rw [beq_iff_eq.2 h.1] at hsrc; cases hsrc))
            clear hgk hH
            go_wp2
            go_roundw
            case rel => exact ⟨k + 1, by omega, by go_num, by rw [hsk.out]; exact U.out⟩
            case measure => simp [intOf]; omega
          | true =>
            have hsrc' := beq_iff_eq.1 hsrc
            have HSW := Lib.hid (HS.out W2)
            clear HS
            cases hkd : stB (tab p.tabs k).kind with
            | false =>
              have hsk := Lib.hid (mixN_skip (p := p) (m := m) (i := i) (v := v) (K := k) (fun h => by have := h.2; unfold Go.Sv.stored at this; rw [hkd] at this; cases this))
              rw [hkd] at HSW
              clear hgk hH hsrc' hkd
              go_wp2_with (go_at_call 89; with_reducible refine HSW.out.mono ?_; rintro e w3 ⟨rfl, hb3'⟩)
              go_roundw
              case rel => exact ⟨k + 1, by omega, by go_num, by rw [hsk.out]; exact U.out.to hb3'⟩
              case measure => simp [intOf]; omega
            | true =>
              have htk := Lib.hid (mixN_take (p := p) (m := m) (i := i) (v := v) (K := k) jh' ⟨hsrc', hkd⟩)
              rw [hkd] at HSW
              clear hkd hsrc'
              go_wp2_with (go_at_call 89; with_reducible refine HSW.out.mono ?_; rintro e w3 ⟨rfl, hb3'⟩)
              have U3 := Lib.hid (U.out.to hb3')
              clear z0 z1 z2 z3 x0 x1 x2 y0 y1 y2 u0 u1 u2 v0 v1 v2 v3 v4 v5 hb3' hW2
              obtain ⟨z0, z1, z2, z3, y0, y1, y2⟩ := U3.out.facts
              obtain ⟨x0, x1, x2⟩ := U3.out.c3
              obtain ⟨g2, e2, gB2, gl2, gf2, gc2, gs2⟩ := U3.out.set2 (i := k) (by rw [mixN_hlen]; exact jh')
              rw [mixN_held jh', hgk] at gc2
              rw [mixN_hlen] at y2
              rw [mixN_nlen] at y1
              dsimp only at e2
              subst e2
              have hi2 := Lib.hid (U3.out.nb2 g2 (key_pos rfl (by rw [mixN_hlen]; omega)))
              obtain ⟨H, hHe⟩ : ∃ H, hd m k = H := ⟨_, rfl⟩
              rw [hHe] at gc2 hH htk
              clear hHe hgk
              have w1 := shl8' v0' (show v < 8 by omega)
              have w2 := or8h hH (show v.toNat < 8 by omega)
              have j8 : v ≤ 8 := by omega
              have i1 : ¬ b = g2 := hi2.out
              have i2 : ¬ g2 = b := fun h => hi2.out h.symm
              have i3 : ¬ w.heap.size + 1 = g2 := by have := U3.out.sz; omega
              have i4 : ¬ g2 = w.heap.size + 1 := by omega
              replace gs2 := Lib.hid gs2
              go_wp2_with fail
              go_region_law ((fail))
              all_goals
                go_wp2
                go_roundw
                case rel => exact ⟨k + 1, by omega, by go_num, by rw [htk.out]; exact U3.out.put2 ((Drawn.refl _).drewN _) (by rw [mixN_hlen]; exact jh') rfl _⟩
                case measure => simp [intOf]; omega
        · obtain rfl : k = p.tabs.length := by omega
          clear hlt
          go_wp2
          go_ret
          exact StepIn.yes (by have := T.out; rw [mixN_done] at this; exact this) haft.out rfl (List.length_set ..) (heldS_len ..)
end Go.Proofs.Ytickckehhfdoeaa

namespace Go.Proofs.Ytickckehhfdoeaa
open Go.RowKit Go.Sv
abbrev tabCs (t : Tab) (q : TabP) : Array Value := #[.int .i64 t.kind, .int .i64 t.src, .int .i64 t.dst, .bool t.aware, .slice q.okA t.ok.length q.okC, .slice q.rwA t.rw.length q.rwC]
open Classical in
/-- what step.clear changes the mix to -/
theorem aft_clear {p : Prob} {m : Mx} {s : Sp} (hk : s.kind = 3) : aft p m s = (if Go.Sv.stored (tab p.tabs s.ix.toNat) = false ∨ hd m s.ix.toNat = run m (tab p.tabs s.ix.toNat).src.toNat ∨ ((tab p.tabs s.ix.toNat).kind = 4 ∧ ¬ rewB p m s.ix.toNat) then none else some { m with held := m.held.set s.ix.toNat (run m (tab p.tabs s.ix.toNat).src.toNat : Nat) }) := by
  unfold aft
  rw [hk]
  rfl
open Classical in
set_option maxHeartbeats 4000000 in
set_option maxRecDepth 100000 in
theorem clear_any (p : Prob) (q : ProbP) (m : Mx) (qm : MixP) (s : Sp) (w : World) (B b : Nat) (hp : RProb w B p q) (_hbd : PBd p) (hB : B ≤ w.heap.size) (hn1 : ∀ g, keyV (.slice qm.a1 m.next.length qm.c1) = some g → b ≠ g) (hn2 : ∀ g, keyV (.slice qm.a2 m.held.length qm.c2) = some g → b ≠ g)
    (hmb : Whole w b 56 #[.slice qm.a0 m.base.length qm.c0, .slice qm.a1 m.next.length qm.c1, .slice qm.a2 m.held.length qm.c2]) (ha : AO w B m qm)
    (hok : MOk p m) (h8 : H8 m) (hk : s.kind = 3) (h0 : 0 ≤ s.ix) (h1 : s.ix < p.tabs.length) :
    Calls Try.prog 71 #[probV p q, .pointer (some ⟨b, 0, none⟩), .int .i64 s.ix] w (StepIn w B b m (aft p m s) qm) := by
  have hA := aft_clear (p := p) (m := m) hk
  obtain ⟨kd, ix, v⟩ := s
  dsimp only at hk h0 h1 hA ⊢
  rw [hA]
  clear hA hk
  obtain ⟨k, rfl⟩ : ∃ k : Nat, ix = (k : Int) := ⟨ix.toNat, by omega⟩
  rw [Int.toNat_natCast]
  have hlt : k < p.tabs.length := by omega
  obtain ⟨qa0, qc0, qa1, qc1, qa2, qc2, qa3, qc3⟩ := q
  obtain ⟨qt, hq1, hq2⟩ := hp.r3
  dsimp only at hq1
  obtain ⟨b3, o3, e3, hb3, hc3⟩ := hq1 (by omega)
  subst e3
  obtain ⟨t0, t1, t2, t3, t4, t5⟩ := tab_cells (hc3 k hlt)
  obtain ⟨W, hW, S⟩ := sst_new p ⟨qa0, qc0, qa1, qc1, qa2, qc2, some ⟨b3, o3, none⟩, qc3⟩ m qm w B b 47 (tabCs (tab p.tabs k) (qt k)) hB hn1 hn2 hmb ha
  have F := tab_facts hok.pr hlt
  obtain ⟨s, hs⟩ : ∃ s : Nat, (tab p.tabs k).src = (s : Int) := ⟨(tab p.tabs k).src.toNat, by have := F.s0; omega⟩
  have hsv : s < p.vs.length := by have := F.s1; omega
  have hst : (tab p.tabs k).src.toNat = s := by omega
  obtain ⟨s0, s1, s2, s3, -⟩ := hok.sv s hsv
  obtain ⟨vv0, vv1⟩ := vs_le hok.pr hsv
  have lb := hok.lb
  have ln := hok.ln
  have lh := hok.lh
  have hH := hd_lt hok hlt
  have hR := run_lt hok hsv
  have hrr := rew_rows hok hlt
  have hrew := rew_iff (p := p) (m := m) (i := k)
  rw [hst] at hrr hrew ⊢
  replace hrew := hrew hH hR
  have HS := Lib.hid (fun W => sstored_any (tab p.tabs k) (qt k) W)
  have HR := Lib.hid (fun W (h : RMix W W.heap.size m qm) => srun_any m qm s W h (by omega) (by omega) s0 (by omega) s2 (by omega))
  have HW := Lib.hid (fun h4 W (h : RTab W W.heap.size (tab p.tabs k) (qt k)) => rewritable_any (tab p.tabs k) (qt k) (diff (hd m k) (run m s)) (gi m.base s).toNat W h (diff_lt hH) (hrr h4))
  have hRT := Lib.hid (fun W (h : Below B w W) => ((hq2 k hlt).below h).more (Nat.le_trans hB h.size))
  have hgk := h8_hd h8 (k := k) (by omega)
  have hgb : ((gi m.base s).toNat : Int) = gi m.base s := by omega
  obtain ⟨H, hHe⟩ : ∃ H, hd m k = H := ⟨_, rfl⟩
  obtain ⟨R, hRe⟩ : ∃ R, run m s = R := ⟨_, rfl⟩
  rw [hHe] at hH hgk HW hrew
  rw [hRe] at hR HR HW hrew
  have n1 := bits_andNot8 hH hR
  obtain ⟨D, hDe⟩ : ∃ D, diff H R = D := ⟨_, rfl⟩
  rw [hDe] at n1 HW hrew
  replace hHe := Lib.hid hHe
  replace hRe := Lib.hid hRe
  clear hDe hrr
  have jh'0 : k < m.held.length := by omega
  obtain ⟨g2, e2, gB2, gl2, gf2, gc2, gs2⟩ := S.set2 (i := k) (by omega)
  obtain ⟨g1, e1, gB1, gl1, gf1, gc1, gs1⟩ := S.set1 (i := s) (by omega)
  obtain ⟨g0, e0, gB0, gl0, gf0, gc0, gs0⟩ := S.ao.set0 (i := s) (by omega)
  obtain ⟨z0, z1, z2, z3, y0, y1, y2⟩ := S.facts
  obtain ⟨x0, x1, x2, x3, x4, x5⟩ := S.c6
  obtain ⟨ma0, mc0, ma1, mc1, ma2, mc2⟩ := qm
  dsimp only at e0 e1 e2 y0 y1 y2
  subst e0 e1 e2
  have hb3w : b3 < w.heap.size := by omega
  have hb3w' : b3 < w.heap.size + 1 := by omega
  have hi1 := Lib.hid (S.nb2 g2 (key_pos rfl (by omega)))
  replace hn1 := Lib.hid hn1
  replace hn2 := Lib.hid hn2
  have hMx := Lib.hid (fun W' (h : Below W.heap.size W W') => (S.to h).ao.mix)
  have jk : (k : Int) < (p.tabs.length : Int) := by omega
  have jh : (k : Int) < (m.held.length : Int) := by omega
  have jh' : k < m.held.length := by omega
  unfold tabV at HS
  unfold tabCs at hW S
  rw [hs] at t1 x1 HS hW
  have jb' : s < m.base.length := by omega
  have jb : (s : Int) < (m.base.length : Int) := by omega
  clear lb ln lh F
  replace gs0 := Lib.hid gs0
  replace gs1 := Lib.hid gs1
  replace gs2 := Lib.hid gs2
  replace hrew := Lib.hid hrew
  clear hc3 hq1 hp ha hmb
  obtain ⟨o, ho⟩ : ∃ o, (if Go.Sv.stored (tab p.tabs k) = false ∨ hd m k = run m s ∨ ((tab p.tabs k).kind = 4 ∧ ¬ rewB p m k) then none else some { m with held := m.held.set k (run m s : Nat) }) = o := ⟨_, rfl⟩
  rw [ho]
  replace ho := Lib.hid ho
  cases hkd : stB (tab p.tabs k).kind with
  | false =>
    rw [hkd] at HS
    have hno : Hid (Go.Sv.stored (tab p.tabs k) = false) := Lib.hid hkd
    clear hkd
    go_enter Try.func71, Try.ntmps71
    go_wp2_with fail
    clear hW
    with_reducible refine (HS.out W).mono ?_
    rintro e w3 ⟨rfl, hb3'⟩
    have hE := Lib.hid (S.to hb3')
    clear z0 z1 z2 z3 y0 y1 y2 x0 x1 x2 x3 x4 x5 hb3'
    go_wp2
    go_ret
    exact StepIn.no hE.out (ho.out.symm.trans (if_pos (Or.inl hno.out)))
  | true =>
    rw [hkd] at HS
    have hyes : Hid (Go.Sv.stored (tab p.tabs k) = true) := Lib.hid hkd
    clear hkd
    go_enter Try.func71, Try.ntmps71
    go_wp2_with fail
    clear hW
    with_reducible refine (HS.out W).mono ?_
    rintro e w3 ⟨rfl, hb3'⟩
    have hW3 := Lib.hid hb3'
    replace S := Lib.hid (S.to hb3')
    have hMx3 := Lib.hid (hMx.out w3 hb3')
    clear z0 z1 z2 z3 y0 y1 y2 x0 x1 x2 x3 x4 x5 hb3' HS
    obtain ⟨z0, z1, z2, z3, y0, y1, y2⟩ := S.out.facts
    obtain ⟨x0, x1, x2, x3, x4, x5⟩ := S.out.c6
    have zB := S.out.sb.lt
    have zP := S.out.pb.lt
    have zM := S.out.mb.lt
    rw [hs] at x1
    go_wp2_with fail
    go_region_held3 (fun w' => w'.cell? ⟨b, 0, none⟩ = some (.slice (some ⟨g0, 0, none⟩) m.base.length mc0) ∧ w'.cell? ⟨b, 1, none⟩ = some (.slice (some ⟨g1, 0, none⟩) m.next.length mc1) ∧ w'.cell? ⟨b, 2, none⟩ = some (.slice (some ⟨g2, 0, none⟩) m.held.length mc2) ∧ w'.cell? ⟨w.heap.size + 1, 1, none⟩ = some (.int .i64 (s : Int))) (go_keep)
      (first
        | ((with_reducible refine (HR.out w3.drew (hMx3.out.to ((Drawn.refl _).drew).below)).mono ?_)
           rintro e w4 ⟨rfl, hb4⟩
           have S4 := Lib.hid (S.out.to (((Drawn.refl _).drew).below.trans hb4))
           clear z0 z1 z2 z3 y0 y1 y2 x0 x1 x2 x3 x4 x5 zB zP zM
           obtain ⟨z0, z1, z2, z3, y0, y1, y2⟩ := S4.out.facts
           obtain ⟨x0, x1, x2, x3, x4, x5⟩ := S4.out.c6))
    obtain ⟨g2', e2', -, hg2w, gf2, gc2, gs2⟩ := S4.out.set2 (i := k) jh'
    obtain rfl : g2 = g2' := by injection e2' with e; injection e
    obtain ⟨g0', e0', -, hg0w, gf0, gc0, -⟩ := S4.out.ao.set0 (i := s) jb'
    obtain rfl : g0 = g0' := by injection e0' with e; injection e
    rw [hs] at x1
    rw [hgk] at gc2
    have zB := S4.out.sb.lt
    have zP := S4.out.pb.lt
    have zM := S4.out.mb.lt
    have i1 : ¬ b = g2 := hi1.out
    have i2 : ¬ g2 = b := fun h => hi1.out h.symm
    replace gs2 := Lib.hid (gs2 (R : Int))
    clear e2' e0' hgk
    cases hHR : ((H : Int) == (R : Int)) with
    | true =>
      have hc := Lib.hid (ho.out.symm.trans (if_pos (Or.inr (Or.inl (by rw [hHe.out, hRe.out]; have := beq_iff_eq.1 hHR; omega)))))
      go_wp2_with fail
      go_big_quiet (fail)
      go_wp2
      go_ret
      exact StepIn.no (S4.out.to ((Drawn.refl _).drewN _).below) hc.out
    | false =>
      have hne : Hid (¬ hd m k = run m s) := Lib.hid (by rw [hHe.out, hRe.out]; intro h; rw [h] at hHR; simp at hHR)
      cases hk4 : ((tab p.tabs k).kind == 4) with
      | false =>
        have hc := Lib.hid (ho.out.symm.trans (if_neg (not_or.2 ⟨by rw [hyes.out]; decide, not_or.2 ⟨hne.out, fun h => by rw [beq_iff_eq.2 h.1] at hk4; cases hk4⟩⟩)))
        go_wp2_with fail
        go_big_quiet (fail)
        go_wp2
        go_ret
        exact StepIn.yes (S4.out.put2 ((Drawn.refl _).drewN _) jh' rfl _) ((congrArg (fun r : Nat => some { m with held := m.held.set k (r : Int) }) hRe.out) ▸ hc.out) rfl rfl (List.length_set ..)
      | true =>
        have h4 : (tab p.tabs k).kind = 4 := beq_iff_eq.1 hk4
        have hWW := Lib.hid (HW.out h4)
        clear h4
        have hg2x : g2 < w4.heap.size := by have := S4.out.sz; omega
        have hX := Lib.hid (fun x : GrowX w4 => calm_b (hWW.out (grow w4 x) (hRT.out _ (S4.out.bel.trans ((grow_is w4 x).mono (Nat.le_trans hB (Nat.le_trans (Nat.le_add_right _ 2) S4.out.sz)))))))
        unfold tabV at hX
        rw [hgb, hs] at hX
        cases hall : allOn (fun u => mat (tab p.tabs k).rw u (gi m.base s).toNat) D with
        | true =>
          rw [hall] at hX
          have hc := Lib.hid (ho.out.symm.trans (if_neg (not_or.2 ⟨by rw [hyes.out]; decide, not_or.2 ⟨hne.out, fun h => h.2 (hrew.out.1 hall)⟩⟩)))
          clear hall
          go_wp2_with fail
          refine wp_region_calm (by kernel_rfl) (by kernel_rfl) ?_
          repeat (go_big_quiet_step (((go_at_call 91; with_reducible exact hX.out _))))
          refine wpQuiet_nil ?_
          intro w5 hw5
          have hb5 := grow_below hw5
          clear hw5 hX
          have S5 := Lib.hid (S4.out.to hb5)
          clear gs2 gf2 gc2 gc0 gf0 hb5 zB zP zM z0 z1 z2 z3 y0 y1 y2 x0 x1 x2 x3 x4 x5
          obtain ⟨z0, z1, z2, z3, y0, y1, y2⟩ := S5.out.facts
          obtain ⟨g2', e2', -, -, gf2, gc2, -⟩ := S5.out.set2 (i := k) jh'
          obtain rfl : g2 = g2' := by injection e2' with e; injection e
          clear e2'
          go_wp2
          go_ret
          exact StepIn.yes (S5.out.put2 (Drawn.refl _) jh' rfl _) ((congrArg (fun r : Nat => some { m with held := m.held.set k (r : Int) }) hRe.out) ▸ hc.out) rfl rfl (List.length_set ..)
        | false =>
          rw [hall] at hX
          have hc := Lib.hid (ho.out.symm.trans (if_pos (Or.inr (Or.inr ⟨beq_iff_eq.1 hk4, fun h => by rw [hrew.out.2 h] at hall; cases hall⟩))))
          clear hall
          go_wp2_with fail
          refine wp_region_calm (by kernel_rfl) (by kernel_rfl) ?_
          repeat (go_big_quiet_step (((go_at_call 91; with_reducible exact hX.out _))))
          refine wpQuiet_nil ?_
          intro w5 hw5
          have hb5 := grow_below hw5
          clear hw5 hX
          have S5 := Lib.hid (S4.out.to hb5)
          clear gs2 gf2 gc2 gc0 gf0 hb5 zB zP zM z0 z1 z2 z3 y0 y1 y2 x0 x1 x2 x3 x4 x5
          go_wp2
          go_ret
          exact StepIn.no S5.out hc.out
end Go.Proofs.Ytickckehhfdoeaa

namespace Go.Proofs.Ytickckehhfdoeaa
open Go.RowKit Go.Sv
/-- a mix of the call's own and whether it is one -/
def AftR (w : World) (p : Prob) (m : Mx) (s : Sp) (v : Value) (w' : World) : Prop := Below w.heap.size w w' ∧ ∃ x q, v = .tuple #[mixV x q, .bool (aftB p m s)] ∧ ∀ x', aft p m s = some x' → x = x' ∧ AO w' w.heap.size x q
/-- the four boxes of a function of a problem, a mix and a step that hands back a mix -/
theorem pms_boxes (p : Prob) (q : ProbP) (m : Mx) (qm : MixP) (s : Sp) (w : World) : ∃ W, (((w.alloc (.cells #[.slice q.a0 p.vs.length q.c0, .slice q.a1 p.now.length q.c1, .slice q.a2 p.tgt.length q.c2, .slice q.a3 p.tabs.length q.c3] 39)).alloc (.cells #[.slice qm.a0 m.base.length qm.c0, .slice qm.a1 m.next.length qm.c1, .slice qm.a2 m.held.length qm.c2] 56)).alloc (.cells #[.int .i64 s.kind, .int .i64 s.ix, .int .i64 s.ver] 63)).alloc (.cells #[.slice none 0 0, .slice none 0 0, .slice none 0 0] 56) = W ∧ W.heap.size = w.heap.size + 4 ∧
    Fm w W [⟨w.heap.size + 1 + 1 + 1, 56, [.slice none 0 0, .slice none 0 0, .slice none 0 0]⟩, ⟨w.heap.size + 1 + 1, 63, [.int .i64 s.kind, .int .i64 s.ix, .int .i64 s.ver]⟩, ⟨w.heap.size + 1, 56, [.slice qm.a0 m.base.length qm.c0, .slice qm.a1 m.next.length qm.c1, .slice qm.a2 m.held.length qm.c2]⟩, ⟨w.heap.size, 39, [.slice q.a0 p.vs.length q.c0, .slice q.a1 p.now.length q.c1, .slice q.a2 p.tgt.length q.c2, .slice q.a3 p.tabs.length q.c3]⟩] [] :=
  ⟨_, rfl, by simp, ((((Fm.init w).box 39 _).box' 56 _ (by simp)).box' 63 _ (by simp)).box' 56 _ (by simp)⟩
theorem _root_.Go.Sv.Fm.off {w W : World} {bs : List Bx} (h : Fm w W bs []) {p : Addr} (hp : w.heap.size ≤ p.block) (hb : ∀ x ∈ bs, x.b ≠ p.block) (v : Value) : Fm w (W.setCell p v) bs [] :=
  ⟨h.bel.setCell hp v, allB_of fun x hx => (allB_at h.bx x hx).far (hb x hx) v, trivial, h.lo, (fun r hr => by cases hr), h.dis⟩
theorem StepIn.nope {w w' : World} {B b : Nat} {m : Mx} {qm : MixP} {e : Ending} (h : StepIn w B b m none qm e w') : e = .returned (.bool false) ∧ Below B w w' ∧ Whole w' b 56 #[.slice qm.a0 m.base.length qm.c0, .slice qm.a1 m.next.length qm.c1, .slice qm.a2 m.held.length qm.c2] := by
  obtain ⟨h1, h2, ⟨_, h3⟩ | ⟨m', h3, _⟩⟩ := h
  · exact ⟨h3, h1, h2⟩
  · cases h3
theorem StepIn.yep {w w' : World} {B b : Nat} {m m' : Mx} {qm : MixP} {e : Ending} (h : StepIn w B b m (some m') qm e w') : e = .returned (.bool true) ∧ Below B w w' ∧ Whole w' b 56 #[.slice qm.a0 m.base.length qm.c0, .slice qm.a1 m.next.length qm.c1, .slice qm.a2 m.held.length qm.c2] ∧ AO w' B m' qm := by
  obtain ⟨h1, h2, ⟨h3, _⟩ | ⟨m2, h3, h4, h5⟩⟩ := h
  · cases h3
  · injection h3 with h3
    subst h3
    exact ⟨h4, h1, h2, h5⟩
theorem AO.far3 {W : World} {B g : Nat} {m : Mx} {q : MixP} (h : AO W B m q) (hg : g < B) (a b c : Value) : AO (((W.setCell ⟨g, 0, none⟩ a).setCell ⟨g, 1, none⟩ b).setCell ⟨g, 2, none⟩ c) B m q := ((h.far (p := ⟨g, 0, none⟩) hg a).far (p := ⟨g, 1, none⟩) hg b).far (p := ⟨g, 2, none⟩) hg c
set_option maxHeartbeats 4000000 in
set_option maxRecDepth 100000 in
theorem after_any (p : Prob) (q : ProbP) (m : Mx) (qm : MixP) (s : Sp) (w : World) (hp : RProb w w.heap.size p q) (hbd : PBd p) (hm : RMix w w.heap.size m qm) (hmb : MBd m qm) (hok : MOk p m)
    (hs : spB s = true) (he : existsB p s = true) :
    Calls Try.prog 44 #[probV p q, mixV m qm, stepV s] w (Ret (AftR w p m s)) := by
  have h8 : H8 m := hmb.h8
  have hps := prob_small hok.pr
  have lb := hok.lb
  have ln := hok.ln
  have lh := hok.lh
  obtain ⟨W, hW, hsz, S⟩ := pms_boxes p q m qm s w
  have SW := Lib.hid S
  have HC := Lib.hid (cloned_any m qm W (hm.to S.bel) hmb (by omega) (by omega) (by omega))
  have HST := Lib.hid (fun (b : Nat) (q' : MixP) (W2 : World) (h : Below W.heap.size W W2) (hb : Whole W2 b 56 #[.slice q'.a0 m.base.length q'.c0, .slice q'.a1 m.next.length q'.c1, .slice q'.a2 m.held.length q'.c2]) (ha : AO W2 W.heap.size m q') (hn1 : ∀ g, keyV (.slice q'.a1 m.next.length q'.c1) = some g → b ≠ g) (hn2 : ∀ g, keyV (.slice q'.a2 m.held.length q'.c2) = some g → b ≠ g) (hk : s.kind = 1) => start_any p q m q' s W2 W.heap.size b ((hp.to S.bel).below h) hbd h.size hn1 hn2 hb ha hok h8 hk)
  have HCL := Lib.hid (fun (b : Nat) (q' : MixP) (W2 : World) (h : Below W.heap.size W W2) (hb : Whole W2 b 56 #[.slice q'.a0 m.base.length q'.c0, .slice q'.a1 m.next.length q'.c1, .slice q'.a2 m.held.length q'.c2]) (ha : AO W2 W.heap.size m q') (hn1 : ∀ g, keyV (.slice q'.a1 m.next.length q'.c1) = some g → b ≠ g) (hn2 : ∀ g, keyV (.slice q'.a2 m.held.length q'.c2) = some g → b ≠ g) (hk : s.kind = 3) => clear_any p q m q' s W2 W.heap.size b ((hp.to S.bel).below h) hbd h.size hn1 hn2 hb ha hok h8 hk)
  obtain ⟨qa0, qc0, qa1, qc1, qa2, qc2, qa3, qc3⟩ := q
  obtain ⟨ma0, mc0, ma1, mc1, ma2, mc2⟩ := qm
  obtain ⟨kd, ix, v⟩ := s
  unfold spB at hs
  have hs := of_decide_eq_true hs
  unfold existsB at he
  dsimp only at hs he HST HCL hW S ⊢
  obtain ⟨hs1, hs2, hs3, hs4, hs5⟩ := hs
  replace hps := Lib.hid hps
  replace lb := Lib.hid lb
  replace ln := Lib.hid ln
  replace lh := Lib.hid lh
  clear hm hmb
  obtain ⟨⟨r1, f1, r10, r11, r12, -⟩, ⟨r2, f2, r20, r21, r22, -⟩, ⟨r3, f3, r30, r31, r32, -⟩, ⟨r4, f4, r40, r41, r42, r43, -⟩, -⟩ := S.facts
  go_enter Try.func44, Try.ntmps44
  go_wp2_with fail
  clear hW
  with_reducible refine HC.out.mono ?_
  rintro e w1 ⟨_, rfl, q', rfl, ha1, hb1⟩
  have S1 := S.call hb1
  obtain ⟨n0, c0, n1, c1, n2, c2⟩ := q'
  have k1 := keyV_lt ha1.o1
  have k2 := keyV_lt ha1.o2
  dsimp only at k1 k2
  obtain ⟨W2, hW2, S2, hb2⟩ := fm_boxE S1 56 [.slice n0 m.base.length c0, .slice n1 m.next.length c1, .slice n2 m.held.length c2]
  have ha2 := Lib.hid (ha1.to hb2)
  have hao1 := Lib.hid ha1
  have hn1 := Lib.hid (fun g (h : keyV (.slice n1 m.next.length c1) = some g) => (show w1.heap.size ≠ g by have := k1 g h; omega))
  have hn2 := Lib.hid (fun g (h : keyV (.slice n2 m.held.length c2) = some g) => (show w1.heap.size ≠ g by have := k2 g h; omega))
  have hB2 := Lib.hid (hb1.trans (hb2.mono hb1.size))
  have hs21 := hb1.size
  clear hb1 hb2 S1 ha1 k1 k2 r1 f1 r10 r11 r12 r2 f2 r20 r21 r22 r3 f3 r30 r31 r32 r4 f4 r40 r41 r42 r43
  obtain ⟨⟨x0, f0, x00, x01, x02, -⟩, ⟨r1, f1, r10, r11, r12, -⟩, ⟨r2, f2, r20, r21, r22, -⟩, ⟨r3, f3, r30, r31, r32, -⟩, ⟨r4, f4, r40, r41, r42, r43, -⟩, -⟩ := S2.facts
  replace S2 := Lib.hid S2
  have i1 : ¬ w1.heap.size = w.heap.size + 1 + 1 + 1 := by omega
  have i2 : ¬ w.heap.size + 1 + 1 + 1 = w1.heap.size := by omega
  have i3 : ¬ w.heap.size = w.heap.size + 1 + 1 + 1 := by omega
  have i4 : ¬ w.heap.size + 1 + 1 + 1 = w.heap.size := by omega
  cases hk1 : (kd == 1) with
  | true =>
    have hkk := beq_iff_eq.1 hk1
    subst hkk
    have he1 : ix < (p.vs.length : Int) ∧ v < gi p.vs ix.toNat := by simpa using he
    have HA := Lib.hid (fun W' (hd : Drawn W2 W') => HST.out w1.heap.size ⟨n0, c0, n1, c1, n2, c2⟩ W' (hB2.out.trans hd.below) (S2.out.drawn hd).bx.1 (ha2.out.to hd.below) hn1.out hn2.out rfl hs3 he1.1 hs4 he1.2)
    clear HST HCL he he1 hk1 hs1 hs2
    cases haf : aft p m ⟨1, ix, v⟩ with
    | none =>
      have hab := Lib.hid (aftB_none haf)
      rw [haf] at HA
      replace haf := Lib.hid haf
      go_wp2_with fail
      go_region_held3 (fun w' => w'.cell? ⟨w1.heap.size, 0, none⟩ = some (.slice n0 m.base.length c0) ∧ w'.cell? ⟨w1.heap.size, 1, none⟩ = some (.slice n1 m.next.length c1) ∧ w'.cell? ⟨w1.heap.size, 2, none⟩ = some (.slice n2 m.held.length c2) ∧ w'.cell? ⟨w.heap.size, 0, none⟩ = some (.slice qa0 p.vs.length qc0) ∧ w'.cell? ⟨w.heap.size, 1, none⟩ = some (.slice qa1 p.now.length qc1) ∧ w'.cell? ⟨w.heap.size, 2, none⟩ = some (.slice qa2 p.tgt.length qc2) ∧ w'.cell? ⟨w.heap.size, 3, none⟩ = some (.slice qa3 p.tabs.length qc3) ∧ w'.cell? ⟨w.heap.size + 1 + 1, 0, none⟩ = some (.int .i64 1) ∧ w'.cell? ⟨w.heap.size + 1 + 1, 1, none⟩ = some (.int .i64 ix) ∧ w'.cell? ⟨w.heap.size + 1 + 1, 2, none⟩ = some (.int .i64 v)) (go_keep)
        (first
          | ((with_reducible refine (HA.out W2.drew ((Drawn.refl _).drew)).mono ?_)
             intro e w3 hE
             obtain ⟨rfl, hbl, hwb⟩ := hE.nope
             clear hE x0 f0 x00 x01 x02 r1 f1 r10 r11 r12 r2 f2 r20 r21 r22 r3 f3 r30 r31 r32 r4 f4 r40 r41 r42 r43
             have S3 := Lib.hid (SW.out.call (hB2.out.trans (((Drawn.refl _).drew).below.trans hbl)))
             obtain ⟨⟨r1, f1, r10, r11, r12, -⟩, ⟨r2, f2, r20, r21, r22, -⟩, ⟨r3, f3, r30, r31, r32, -⟩, ⟨r4, f4, r40, r41, r42, r43, -⟩, -⟩ := S3.out.facts
             have x0 := hwb.lt
             have f0 := fun o => hwb.frozen o
             have x00 := hwb.cell 0
             have x01 := hwb.cell 1
             have x02 := hwb.cell 2
             clear hbl hwb))
      all_goals have S4 := Lib.hid (((S3.out.set 0 rfl 0 (.slice n0 m.base.length c0)).set 0 rfl 1 (.slice n1 m.next.length c1)).set 0 rfl 2 (.slice n2 m.held.length c2))
      all_goals clear x0 f0 x00 x01 x02 r1 f1 r10 r11 r12 r2 f2 r20 r21 r22 r3 f3 r30 r31 r32 r4 f4 r40 r41 r42 r43
      all_goals obtain ⟨⟨r1, f1, r10, r11, r12, -⟩, -⟩ := S4.out.facts
      all_goals (try go_wp2)
      all_goals refine bodyPost_ret (v := .tuple #[mixV m ⟨n0, c0, n1, c1, n2, c2⟩, .bool false]) (by simp [results, Try.results44, go_sem, r10, r11, r12]) rfl ?_
      all_goals exact Ret.mk ⟨S4.out.bel, m, ⟨n0, c0, n1, c1, n2, c2⟩, by rw [hab.out], fun x' hx => by rw [haf.out] at hx; cases hx⟩
    | some m' =>
      have hab := Lib.hid (aftB_some haf)
      have hl := Lib.hid (aft_len haf)
      rw [haf] at HA
      replace haf := Lib.hid haf
      go_wp2_with fail
      go_region_held3 (fun w' => w'.cell? ⟨w1.heap.size, 0, none⟩ = some (.slice n0 m.base.length c0) ∧ w'.cell? ⟨w1.heap.size, 1, none⟩ = some (.slice n1 m.next.length c1) ∧ w'.cell? ⟨w1.heap.size, 2, none⟩ = some (.slice n2 m.held.length c2) ∧ w'.cell? ⟨w.heap.size, 0, none⟩ = some (.slice qa0 p.vs.length qc0) ∧ w'.cell? ⟨w.heap.size, 1, none⟩ = some (.slice qa1 p.now.length qc1) ∧ w'.cell? ⟨w.heap.size, 2, none⟩ = some (.slice qa2 p.tgt.length qc2) ∧ w'.cell? ⟨w.heap.size, 3, none⟩ = some (.slice qa3 p.tabs.length qc3) ∧ w'.cell? ⟨w.heap.size + 1 + 1, 0, none⟩ = some (.int .i64 1) ∧ w'.cell? ⟨w.heap.size + 1 + 1, 1, none⟩ = some (.int .i64 ix) ∧ w'.cell? ⟨w.heap.size + 1 + 1, 2, none⟩ = some (.int .i64 v)) (go_keep)
        (first
          | ((with_reducible refine (HA.out W2.drew ((Drawn.refl _).drew)).mono ?_)
             intro e w3 hE
             obtain ⟨rfl, hbl, hwb, ha3⟩ := hE.yep
             clear hE x0 f0 x00 x01 x02 r1 f1 r10 r11 r12 r2 f2 r20 r21 r22 r3 f3 r30 r31 r32 r4 f4 r40 r41 r42 r43
             have S3 := Lib.hid (SW.out.call (hB2.out.trans (((Drawn.refl _).drew).below.trans hbl)))
             obtain ⟨⟨r1, f1, r10, r11, r12, -⟩, ⟨r2, f2, r20, r21, r22, -⟩, ⟨r3, f3, r30, r31, r32, -⟩, ⟨r4, f4, r40, r41, r42, r43, -⟩, -⟩ := S3.out.facts
             have x0 := hwb.lt
             have f0 := fun o => hwb.frozen o
             have x00 := hwb.cell 0
             have x01 := hwb.cell 1
             have x02 := hwb.cell 2
             replace ha3 := Lib.hid ha3
             clear hbl hwb))
      all_goals have S4 := Lib.hid (((S3.out.set 0 rfl 0 (.slice n0 m.base.length c0)).set 0 rfl 1 (.slice n1 m.next.length c1)).set 0 rfl 2 (.slice n2 m.held.length c2))
      all_goals have ha4 := Lib.hid (ha3.out.far3 (g := w.heap.size + 1 + 1 + 1) (by omega) (.slice n0 m.base.length c0) (.slice n1 m.next.length c1) (.slice n2 m.held.length c2))
      all_goals clear x0 f0 x00 x01 x02 r1 f1 r10 r11 r12 r2 f2 r20 r21 r22 r3 f3 r30 r31 r32 r4 f4 r40 r41 r42 r43
      all_goals obtain ⟨⟨r1, f1, r10, r11, r12, -⟩, -⟩ := S4.out.facts
      all_goals (try go_wp2)
      all_goals refine bodyPost_ret (v := .tuple #[mixV m ⟨n0, c0, n1, c1, n2, c2⟩, .bool true]) (by simp [results, Try.results44, go_sem, r10, r11, r12]) rfl ?_
      all_goals exact Ret.mk ⟨S4.out.bel, m', ⟨n0, c0, n1, c1, n2, c2⟩, by rw [hab.out]; unfold mixV; rw [hl.out.b, hl.out.x, hl.out.h], fun x' hx => by
        rw [haf.out] at hx
        injection hx with hx
        subst hx
        exact ⟨rfl, ha4.out.base (by omega)⟩⟩
  | false =>
    cases hk3 : (kd == 3) with
    | true =>
      have hkk := beq_iff_eq.1 hk3
      subst hkk
      have he1 : ix < (p.tabs.length : Int) := by simpa using he
      have HA := Lib.hid (fun W' (hd : Drawn W2 W') => HCL.out w1.heap.size ⟨n0, c0, n1, c1, n2, c2⟩ W' (hB2.out.trans hd.below) (S2.out.drawn hd).bx.1 (ha2.out.to hd.below) hn1.out hn2.out rfl hs3 he1)
      clear HST HCL he he1 hk3 hs1 hs2
      cases haf : aft p m ⟨3, ix, v⟩ with
      | none =>
        have hab := Lib.hid (aftB_none haf)
        rw [haf] at HA
        replace haf := Lib.hid haf
        go_wp2_with fail
        go_region_held3 (fun w' => w'.cell? ⟨w1.heap.size, 0, none⟩ = some (.slice n0 m.base.length c0) ∧ w'.cell? ⟨w1.heap.size, 1, none⟩ = some (.slice n1 m.next.length c1) ∧ w'.cell? ⟨w1.heap.size, 2, none⟩ = some (.slice n2 m.held.length c2) ∧ w'.cell? ⟨w.heap.size, 0, none⟩ = some (.slice qa0 p.vs.length qc0) ∧ w'.cell? ⟨w.heap.size, 1, none⟩ = some (.slice qa1 p.now.length qc1) ∧ w'.cell? ⟨w.heap.size, 2, none⟩ = some (.slice qa2 p.tgt.length qc2) ∧ w'.cell? ⟨w.heap.size, 3, none⟩ = some (.slice qa3 p.tabs.length qc3) ∧ w'.cell? ⟨w.heap.size + 1 + 1, 1, none⟩ = some (.int .i64 ix)) (go_keep)
          (first
            | ((with_reducible refine (HA.out W2.drew ((Drawn.refl _).drew)).mono ?_)
               intro e w3 hE
               obtain ⟨rfl, hbl, hwb⟩ := hE.nope
               clear hE x0 f0 x00 x01 x02 r1 f1 r10 r11 r12 r2 f2 r20 r21 r22 r3 f3 r30 r31 r32 r4 f4 r40 r41 r42 r43
               have S3 := Lib.hid (SW.out.call (hB2.out.trans (((Drawn.refl _).drew).below.trans hbl)))
               obtain ⟨⟨r1, f1, r10, r11, r12, -⟩, ⟨r2, f2, r20, r21, r22, -⟩, ⟨r3, f3, r30, r31, r32, -⟩, ⟨r4, f4, r40, r41, r42, r43, -⟩, -⟩ := S3.out.facts
               have x0 := hwb.lt
               have f0 := fun o => hwb.frozen o
               have x00 := hwb.cell 0
               have x01 := hwb.cell 1
               have x02 := hwb.cell 2
               clear hbl hwb))
        all_goals have S4 := Lib.hid (((S3.out.set 0 rfl 0 (.slice n0 m.base.length c0)).set 0 rfl 1 (.slice n1 m.next.length c1)).set 0 rfl 2 (.slice n2 m.held.length c2))
        all_goals clear x0 f0 x00 x01 x02 r1 f1 r10 r11 r12 r2 f2 r20 r21 r22 r3 f3 r30 r31 r32 r4 f4 r40 r41 r42 r43
        all_goals obtain ⟨⟨r1, f1, r10, r11, r12, -⟩, -⟩ := S4.out.facts
        all_goals (try go_wp2)
        all_goals refine bodyPost_ret (v := .tuple #[mixV m ⟨n0, c0, n1, c1, n2, c2⟩, .bool false]) (by simp [results, Try.results44, go_sem, r10, r11, r12]) rfl ?_
        all_goals exact Ret.mk ⟨S4.out.bel, m, ⟨n0, c0, n1, c1, n2, c2⟩, by rw [hab.out], fun x' hx => by rw [haf.out] at hx; cases hx⟩
      | some m' =>
        have hab := Lib.hid (aftB_some haf)
        have hl := Lib.hid (aft_len haf)
        rw [haf] at HA
        replace haf := Lib.hid haf
        go_wp2_with fail
        go_region_held3 (fun w' => w'.cell? ⟨w1.heap.size, 0, none⟩ = some (.slice n0 m.base.length c0) ∧ w'.cell? ⟨w1.heap.size, 1, none⟩ = some (.slice n1 m.next.length c1) ∧ w'.cell? ⟨w1.heap.size, 2, none⟩ = some (.slice n2 m.held.length c2) ∧ w'.cell? ⟨w.heap.size, 0, none⟩ = some (.slice qa0 p.vs.length qc0) ∧ w'.cell? ⟨w.heap.size, 1, none⟩ = some (.slice qa1 p.now.length qc1) ∧ w'.cell? ⟨w.heap.size, 2, none⟩ = some (.slice qa2 p.tgt.length qc2) ∧ w'.cell? ⟨w.heap.size, 3, none⟩ = some (.slice qa3 p.tabs.length qc3) ∧ w'.cell? ⟨w.heap.size + 1 + 1, 1, none⟩ = some (.int .i64 ix)) (go_keep)
          (first
            | ((with_reducible refine (HA.out W2.drew ((Drawn.refl _).drew)).mono ?_)
               intro e w3 hE
               obtain ⟨rfl, hbl, hwb, ha3⟩ := hE.yep
               clear hE x0 f0 x00 x01 x02 r1 f1 r10 r11 r12 r2 f2 r20 r21 r22 r3 f3 r30 r31 r32 r4 f4 r40 r41 r42 r43
               have S3 := Lib.hid (SW.out.call (hB2.out.trans (((Drawn.refl _).drew).below.trans hbl)))
               obtain ⟨⟨r1, f1, r10, r11, r12, -⟩, ⟨r2, f2, r20, r21, r22, -⟩, ⟨r3, f3, r30, r31, r32, -⟩, ⟨r4, f4, r40, r41, r42, r43, -⟩, -⟩ := S3.out.facts
               have x0 := hwb.lt
               have f0 := fun o => hwb.frozen o
               have x00 := hwb.cell 0
               have x01 := hwb.cell 1
               have x02 := hwb.cell 2
               replace ha3 := Lib.hid ha3
               clear hbl hwb))
        all_goals have S4 := Lib.hid (((S3.out.set 0 rfl 0 (.slice n0 m.base.length c0)).set 0 rfl 1 (.slice n1 m.next.length c1)).set 0 rfl 2 (.slice n2 m.held.length c2))
        all_goals have ha4 := Lib.hid (ha3.out.far3 (g := w.heap.size + 1 + 1 + 1) (by omega) (.slice n0 m.base.length c0) (.slice n1 m.next.length c1) (.slice n2 m.held.length c2))
        all_goals clear x0 f0 x00 x01 x02 r1 f1 r10 r11 r12 r2 f2 r20 r21 r22 r3 f3 r30 r31 r32 r4 f4 r40 r41 r42 r43
        all_goals obtain ⟨⟨r1, f1, r10, r11, r12, -⟩, -⟩ := S4.out.facts
        all_goals (try go_wp2)
        all_goals refine bodyPost_ret (v := .tuple #[mixV m ⟨n0, c0, n1, c1, n2, c2⟩, .bool true]) (by simp [results, Try.results44, go_sem, r10, r11, r12]) rfl ?_
        all_goals exact Ret.mk ⟨S4.out.bel, m', ⟨n0, c0, n1, c1, n2, c2⟩, by rw [hab.out]; unfold mixV; rw [hl.out.b, hl.out.x, hl.out.h], fun x' hx => by
          rw [haf.out] at hx
          injection hx with hx
          subst hx
          exact ⟨rfl, ha4.out.base (by omega)⟩⟩
    | false =>
      have hne1 : ¬ kd = 1 := fun h => by rw [beq_iff_eq.2 h] at hk1; cases hk1
      have hne3 : ¬ kd = 3 := fun h => by rw [beq_iff_eq.2 h] at hk3; cases hk3
      have he1 : ix < (p.vs.length : Int) := by
        rw [if_neg hne3] at he
        simpa [hne1] using he
      obtain ⟨i, rfl⟩ : ∃ i : Nat, ix = (i : Int) := ⟨ix.toNat, by omega⟩
      have hil : i < p.vs.length := by omega
      have jn' : i < m.next.length := by have := ln.out; omega
      have jb' : i < m.base.length := by have := lb.out; omega
      have jn : (i : Int) < (m.next.length : Int) := by omega
      have jb : (i : Int) < (m.base.length : Int) := by omega
      have haft : aft p m ⟨kd, (i : Int), v⟩ = if gi m.next i < 0 then none else if kd = 2 then some { m with base := m.base.set i (gi m.next i), next := m.next.set i (-1) } else some { m with next := m.next.set i (-1) } := by
        unfold aft
        simp [hne1, hne3]
      obtain ⟨g1, e1, gB1, gl1, gf1, gc1, gs1⟩ := ha2.out.set1 (i := i) jn'
      dsimp only at e1
      subst e1
      have hn1' := hn1.out g1 (key_pos rfl (by omega))
      clear he he1 hs1 hs2 hs5 HST HCL hne1 hne3
      cases hnx : decide (gi m.next i < 0) with
      | true =>
        rw [if_pos (of_decide_eq_true hnx)] at haft
        have hab := Lib.hid (aftB_none haft)
        replace haft := Lib.hid haft
        have S4 := Lib.hid (((S2.out.set 1 rfl 0 (.slice n0 m.base.length c0)).set 1 rfl 1 (.slice (some ⟨g1, 0, none⟩) m.next.length c1)).set 1 rfl 2 (.slice n2 m.held.length c2))
        go_wp2
        clear x0 f0 x00 x01 x02 r1 f1 r10 r11 r12 r2 f2 r20 r21 r22 r3 f3 r30 r31 r32 r4 f4 r40 r41 r42 r43
        obtain ⟨-, ⟨r1, f1, r10, r11, r12, -⟩, -⟩ := S4.out.facts
        refine bodyPost_ret (v := .tuple #[mixV m ⟨n0, c0, some ⟨g1, 0, none⟩, c1, n2, c2⟩, .bool false]) (by simp [results, Try.results44, go_sem, r10, r11, r12]) rfl ?_
        exact Ret.mk ⟨S4.out.bel, m, ⟨n0, c0, some ⟨g1, 0, none⟩, c1, n2, c2⟩, by rw [hab.out], fun x' hx => by rw [haft.out] at hx; cases hx⟩
      | false =>
        rw [if_neg (of_decide_eq_false hnx)] at haft
        have hgw : w.heap.size + 4 ≤ g1 := by omega
        have j1 : ¬ w1.heap.size = g1 := hn1'
        have j2 : ¬ g1 = w1.heap.size := fun h => hn1' h.symm
        have j3 : ¬ w.heap.size + 1 + 1 = g1 := by omega
        have j4 : ¬ g1 = w.heap.size + 1 + 1 := by omega
        have j5 : ¬ w.heap.size + 1 + 1 + 1 = g1 := by omega
        have j6 : ¬ g1 = w.heap.size + 1 + 1 + 1 := by omega
        have S3 := Lib.hid (S2.out.off (p := ⟨g1, i, none⟩) (by show w.heap.size ≤ g1; omega) (by
          intro x hx
          simp only [List.mem_cons, List.not_mem_nil, or_false] at hx
          rcases hx with rfl | rfl | rfl | rfl | rfl
          · exact j1
          · exact j5
          · exact j3
          · show w.heap.size + 1 ≠ g1; omega
          · show w.heap.size ≠ g1; omega) (.int .i64 (-1)))
        have ha3 := Lib.hid (gs1 (-1))
        clear gs1
        cases hk2 : (kd == 2) with
        | true =>
          rw [if_pos (beq_iff_eq.1 hk2)] at haft
          have hab := Lib.hid (aftB_some haft)
          replace haft := Lib.hid haft
          obtain ⟨g0, e0, gB0, gl0, gf0, gc0, gs0⟩ := ha3.out.set0 (i := i) jb'
          obtain ⟨g0', e0', gB0', gl0', gf0', gc0', -⟩ := ha2.out.set0 (i := i) jb'
          dsimp only at e0 e0'
          subst e0
          obtain rfl : g0 = g0' := by injection e0' with e; injection e
          clear e0'
          have hd01 := ha2.out.d01 g0 (key_pos rfl (by omega))
          have hk2 := keyV_lt ha2.out.o0 g0 (key_pos rfl (by omega))
          have j7 : ¬ g0 = g1 := fun h => hd01 (by rw [h]; exact key_pos rfl (by omega))
          have j8 : ¬ g1 = g0 := fun h => j7 h.symm
          have hgw0 : w.heap.size + 4 ≤ g0 := by omega
          have k0 := keyV_lt hao1.out.o0 g0 (key_pos rfl (by omega))
          have j9 : ¬ w1.heap.size = g0 := by omega
          have j10 : ¬ g0 = w1.heap.size := by omega
          have j11 : ¬ w.heap.size + 1 + 1 = g0 := by omega
          have j12 : ¬ g0 = w.heap.size + 1 + 1 := by omega
          have j13 : ¬ w.heap.size + 1 + 1 + 1 = g0 := by omega
          have j14 : ¬ g0 = w.heap.size + 1 + 1 + 1 := by omega
          have S5 := Lib.hid (S3.out.off (p := ⟨g0, i, none⟩) (by show w.heap.size ≤ g0; omega) (by
            intro x hx
            simp only [List.mem_cons, List.not_mem_nil, or_false] at hx
            rcases hx with rfl | rfl | rfl | rfl | rfl
            · exact j9
            · exact j13
            · exact j11
            · show w.heap.size + 1 ≠ g0; omega
            · show w.heap.size ≠ g0; omega) (.int .i64 (gi m.next i)))
          have ha5 := Lib.hid (gs0 (gi m.next i))
          clear gs0 hd01 hk2 k0
          have S4 := Lib.hid (((S5.out.set 1 rfl 0 (.slice (some ⟨g0, 0, none⟩) m.base.length c0)).set 1 rfl 1 (.slice (some ⟨g1, 0, none⟩) m.next.length c1)).set 1 rfl 2 (.slice n2 m.held.length c2))
          have ha4 := Lib.hid (ha5.out.far3 (g := w.heap.size + 1 + 1 + 1) (by omega) (.slice (some ⟨g0, 0, none⟩) m.base.length c0) (.slice (some ⟨g1, 0, none⟩) m.next.length c1) (.slice n2 m.held.length c2))
          go_wp2
          clear x0 f0 x00 x01 x02 r1 f1 r10 r11 r12 r2 f2 r20 r21 r22 r3 f3 r30 r31 r32 r4 f4 r40 r41 r42 r43
          obtain ⟨-, ⟨r1, f1, r10, r11, r12, -⟩, -⟩ := S4.out.facts
          refine bodyPost_ret (v := .tuple #[mixV m ⟨some ⟨g0, 0, none⟩, c0, some ⟨g1, 0, none⟩, c1, n2, c2⟩, .bool true]) (by simp [results, Try.results44, go_sem, r10, r11, r12]) rfl ?_
          exact Ret.mk ⟨S4.out.bel, { m with base := m.base.set i (gi m.next i), next := m.next.set i (-1) }, ⟨some ⟨g0, 0, none⟩, c0, some ⟨g1, 0, none⟩, c1, n2, c2⟩, by rw [hab.out]; unfold mixV; rw [List.length_set, List.length_set], fun x' hx => by
            rw [haft.out] at hx
            injection hx with hx
            subst hx
            exact ⟨rfl, ha4.out.base (by omega)⟩⟩
        | false =>
          rw [if_neg (fun h => by rw [beq_iff_eq.2 h] at hk2; cases hk2)] at haft
          have hab := Lib.hid (aftB_some haft)
          replace haft := Lib.hid haft
          have S4 := Lib.hid (((S3.out.set 1 rfl 0 (.slice n0 m.base.length c0)).set 1 rfl 1 (.slice (some ⟨g1, 0, none⟩) m.next.length c1)).set 1 rfl 2 (.slice n2 m.held.length c2))
          have ha4 := Lib.hid (ha3.out.far3 (g := w.heap.size + 1 + 1 + 1) (by omega) (.slice n0 m.base.length c0) (.slice (some ⟨g1, 0, none⟩) m.next.length c1) (.slice n2 m.held.length c2))
          go_wp2
          clear x0 f0 x00 x01 x02 r1 f1 r10 r11 r12 r2 f2 r20 r21 r22 r3 f3 r30 r31 r32 r4 f4 r40 r41 r42 r43
          obtain ⟨-, ⟨r1, f1, r10, r11, r12, -⟩, -⟩ := S4.out.facts
          refine bodyPost_ret (v := .tuple #[mixV m ⟨n0, c0, some ⟨g1, 0, none⟩, c1, n2, c2⟩, .bool true]) (by simp [results, Try.results44, go_sem, r10, r11, r12]) rfl ?_
          exact Ret.mk ⟨S4.out.bel, { m with next := m.next.set i (-1) }, ⟨n0, c0, some ⟨g1, 0, none⟩, c1, n2, c2⟩, by rw [hab.out]; unfold mixV; rw [List.length_set], fun x' hx => by
            rw [haft.out] at hx
            injection hx with hx
            subst hx
            exact ⟨rfl, ha4.out.base (by omega)⟩⟩
end Go.Proofs.Ytickckehhfdoeaa

namespace Go.Proofs.Ytickckehhfdoeaa
open Go.RowKit Go.Sv
/-- a mix of the call's own and an error -/
def ApR (w : World) (x : Mx) (e : Int) (v : Value) (w' : World) : Prop := Below w.heap.size w w' ∧ ∃ q, v = .tuple #[mixV x q, .int .i64 e] ∧ AO w' w.heap.size x q
theorem ao_nil (w : World) (B : Nat) : AO w B mx0 ⟨none, 0, none, 0, none, 0⟩ :=
  ⟨World.ownsRow_nil _ _ _ _, World.ownsRow_nil _ _ _ _, World.ownsRow_nil _ _ _ _, (fun g h => by cases h), (fun g h => by cases h), (fun g h => by cases h)⟩
set_option maxHeartbeats 4000000 in
set_option maxRecDepth 100000 in
theorem apply_any (p : Prob) (q : ProbP) (m : Mx) (qm : MixP) (s : Sp) (w : World) (hp : RProb w w.heap.size p q) (hbd : PBd p) (hm : RMix w w.heap.size m qm) (hmb : MBd m qm) (hok : MOk p m) :
    Calls Try.prog 34 #[probV p q, mixV m qm, stepV s] w (Ret (ApR w (apM p m s) (appE p m s))) := by
  obtain ⟨W, hW, hsz, S⟩ := pms_boxes p q m qm s w
  have HV := Lib.hid (svalid_any s W)
  have HE := Lib.hid (fun W2 (h : Below W.heap.size W W2) (h0 : 0 ≤ s.ix) => sexists_any p q s W2 ((hp.to S.bel).to h) hbd h0)
  have HA := Lib.hid (fun W2 (h : Below W.heap.size W W2) (hs : spB s = true) (he : existsB p s = true) => after_any p q m qm s W2 ((hp.to S.bel).to h) hbd ((hm.to S.bel).to h) hmb hok hs he)
  have SW := Lib.hid S
  have hpos : spB s = true → 0 ≤ s.ix := fun h => by unfold spB at h; have := of_decide_eq_true h; omega
  obtain ⟨qa0, qc0, qa1, qc1, qa2, qc2, qa3, qc3⟩ := q
  obtain ⟨ma0, mc0, ma1, mc1, ma2, mc2⟩ := qm
  obtain ⟨kd, ix, v⟩ := s
  clear hm hmb hp hbd hok
  dsimp only at HV HE HA hW S SW hpos ⊢
  obtain ⟨⟨r1, f1, r10, r11, r12, -⟩, ⟨r2, f2, r20, r21, r22, -⟩, ⟨r3, f3, r30, r31, r32, -⟩, ⟨r4, f4, r40, r41, r42, r43, -⟩, -⟩ := S.facts
  clear S
  cases hs : spB ⟨kd, ix, v⟩ with
  | false =>
    rw [hs] at HV
    have hE := Lib.hid (appE_1 (p := p) (m := m) hs)
    have hM := Lib.hid (apM_no (p := p) (m := m) (s := ⟨kd, ix, v⟩) (by rw [hE.out]; decide))
    rw [hE.out, hM.out]
    clear hs hpos HE HA
    go_enter Try.func34, Try.ntmps34
    go_wp2_with fail
    clear hW
    with_reducible refine HV.out.mono ?_
    rintro e w1 ⟨rfl, hb1⟩
    clear r1 f1 r10 r11 r12 r2 f2 r20 r21 r22 r3 f3 r30 r31 r32 r4 f4 r40 r41 r42 r43
    have S1 := Lib.hid (SW.out.call hb1)
    replace hb1 := Lib.hid hb1
    obtain ⟨⟨r1, f1, r10, r11, r12, -⟩, ⟨r2, f2, r20, r21, r22, -⟩, ⟨r3, f3, r30, r31, r32, -⟩, ⟨r4, f4, r40, r41, r42, r43, -⟩, -⟩ := S1.out.facts
    go_wp2
    have S4 := Lib.hid (((S1.out.set 0 rfl 0 (.slice none 0 0)).set 0 rfl 1 (.slice none 0 0)).set 0 rfl 2 (.slice none 0 0))
    clear r1 f1 r10 r11 r12 r2 f2 r20 r21 r22 r3 f3 r30 r31 r32 r4 f4 r40 r41 r42 r43
    obtain ⟨⟨r1, f1, r10, r11, r12, -⟩, -⟩ := S4.out.facts
    refine bodyPost_ret (v := .tuple #[.agg #[.slice none 0 0, .slice none 0 0, .slice none 0 0], .int .i64 1]) (by simp [results, Try.results34, go_sem, r10, r11, r12]) rfl ?_
    exact Ret.mk ⟨S4.out.bel, ⟨none, 0, none, 0, none, 0⟩, rfl, ao_nil _ _⟩
  | true =>
    rw [hs] at HV
    have hix : 0 ≤ ix := hpos hs
    clear hpos
    cases he : existsB p ⟨kd, ix, v⟩ with
    | false =>
      rw [he] at HE
      have hE := Lib.hid (appE_4 (p := p) (m := m) hs he)
      have hM := Lib.hid (apM_no (p := p) (m := m) (s := ⟨kd, ix, v⟩) (by rw [hE.out]; decide))
      rw [hE.out, hM.out]
      clear hs he HA
      go_enter Try.func34, Try.ntmps34
      go_wp2_with fail
      clear hW
      with_reducible refine HV.out.mono ?_
      rintro e w1 ⟨rfl, hb1⟩
      clear r1 f1 r10 r11 r12 r2 f2 r20 r21 r22 r3 f3 r30 r31 r32 r4 f4 r40 r41 r42 r43
      have S1 := Lib.hid (SW.out.call hb1)
      replace hb1 := Lib.hid hb1
      obtain ⟨⟨r1, f1, r10, r11, r12, -⟩, ⟨r2, f2, r20, r21, r22, -⟩, ⟨r3, f3, r30, r31, r32, -⟩, ⟨r4, f4, r40, r41, r42, r43, -⟩, -⟩ := S1.out.facts
      go_wp2_with fail
      with_reducible refine (HE.out w1 hb1.out hix).mono ?_
      rintro e w2 ⟨rfl, hb2⟩
      clear r1 f1 r10 r11 r12 r2 f2 r20 r21 r22 r3 f3 r30 r31 r32 r4 f4 r40 r41 r42 r43
      have S2 := Lib.hid (S1.out.call hb2)
      replace hb2 := Lib.hid (hb1.out.trans (hb2.mono hb1.out.size))
      obtain ⟨⟨r1, f1, r10, r11, r12, -⟩, ⟨r2, f2, r20, r21, r22, -⟩, ⟨r3, f3, r30, r31, r32, -⟩, ⟨r4, f4, r40, r41, r42, r43, -⟩, -⟩ := S2.out.facts
      go_wp2
      have S4 := Lib.hid (((S2.out.set 0 rfl 0 (.slice none 0 0)).set 0 rfl 1 (.slice none 0 0)).set 0 rfl 2 (.slice none 0 0))
      clear r1 f1 r10 r11 r12 r2 f2 r20 r21 r22 r3 f3 r30 r31 r32 r4 f4 r40 r41 r42 r43
      obtain ⟨⟨r1, f1, r10, r11, r12, -⟩, -⟩ := S4.out.facts
      refine bodyPost_ret (v := .tuple #[.agg #[.slice none 0 0, .slice none 0 0, .slice none 0 0], .int .i64 4]) (by simp [results, Try.results34, go_sem, r10, r11, r12]) rfl ?_
      exact Ret.mk ⟨S4.out.bel, ⟨none, 0, none, 0, none, 0⟩, rfl, ao_nil _ _⟩
    | true =>
      rw [he] at HE
      cases hab : aftB p m ⟨kd, ix, v⟩ with
      | false =>
        have hE := Lib.hid (appE_11 (p := p) (m := m) hs he hab)
        have hM := Lib.hid (apM_no (p := p) (m := m) (s := ⟨kd, ix, v⟩) (by rw [hE.out]; decide))
        rw [hE.out, hM.out]
        go_enter Try.func34, Try.ntmps34
        go_wp2_with fail
        clear hW
        with_reducible refine HV.out.mono ?_
        rintro e w1 ⟨rfl, hb1⟩
        clear r1 f1 r10 r11 r12 r2 f2 r20 r21 r22 r3 f3 r30 r31 r32 r4 f4 r40 r41 r42 r43
        have S1 := Lib.hid (SW.out.call hb1)
        replace hb1 := Lib.hid hb1
        obtain ⟨⟨r1, f1, r10, r11, r12, -⟩, ⟨r2, f2, r20, r21, r22, -⟩, ⟨r3, f3, r30, r31, r32, -⟩, ⟨r4, f4, r40, r41, r42, r43, -⟩, -⟩ := S1.out.facts
        go_wp2_with fail
        with_reducible refine (HE.out w1 hb1.out hix).mono ?_
        rintro e w2 ⟨rfl, hb2⟩
        clear r1 f1 r10 r11 r12 r2 f2 r20 r21 r22 r3 f3 r30 r31 r32 r4 f4 r40 r41 r42 r43
        have S2 := Lib.hid (S1.out.call hb2)
        replace hb2 := Lib.hid (hb1.out.trans (hb2.mono hb1.out.size))
        obtain ⟨⟨r1, f1, r10, r11, r12, -⟩, ⟨r2, f2, r20, r21, r22, -⟩, ⟨r3, f3, r30, r31, r32, -⟩, ⟨r4, f4, r40, r41, r42, r43, -⟩, -⟩ := S2.out.facts
        go_wp2_with fail
        with_reducible refine (HA.out w2 hb2.out hs he).mono ?_
        rintro e w3 ⟨_, rfl, hb3, x, ⟨x0, y0, x1, y1, x2, y2⟩, rfl, hx⟩
        rw [hab]
        clear r1 f1 r10 r11 r12 r2 f2 r20 r21 r22 r3 f3 r30 r31 r32 r4 f4 r40 r41 r42 r43
        have S3 := Lib.hid (S2.out.call hb3)
        replace hx := Lib.hid hx
        replace hb3 := Lib.hid hb3
        obtain ⟨⟨r1, f1, r10, r11, r12, -⟩, ⟨r2, f2, r20, r21, r22, -⟩, ⟨r3, f3, r30, r31, r32, -⟩, ⟨r4, f4, r40, r41, r42, r43, -⟩, -⟩ := S3.out.facts
        go_wp2
        have S4 := Lib.hid ((((S3.out.set 0 rfl 0 (.slice none 0 0)).set 0 rfl 1 (.slice none 0 0)).set 0 rfl 2 (.slice none 0 0)).box' 56 [.slice x0 x.base.length y0, .slice x1 x.next.length y1, .slice x2 x.held.length y2] (K := w3.heap.size) (by simp))
        clear r1 f1 r10 r11 r12 r2 f2 r20 r21 r22 r3 f3 r30 r31 r32 r4 f4 r40 r41 r42 r43
        obtain ⟨-, ⟨r1, f1, r10, r11, r12, -⟩, -⟩ := S4.out.facts
        refine bodyPost_ret (v := .tuple #[.agg #[.slice none 0 0, .slice none 0 0, .slice none 0 0], .int .i64 11]) (by simp [results, Try.results34, go_sem, r10, r11, r12]) rfl ?_
        exact Ret.mk ⟨S4.out.bel, ⟨none, 0, none, 0, none, 0⟩, rfl, ao_nil _ _⟩
      | true =>
        obtain ⟨x', hx'⟩ : ∃ x', aft p m ⟨kd, ix, v⟩ = some x' := Option.isSome_iff_exists.1 hab
        have hE := Lib.hid (appE_ok.2 ⟨hs, he, x', hx'⟩)
        have hM := Lib.hid (apM_ok hs he hx')
        rw [hE.out, hM.out]
        replace hx' := Lib.hid hx'
        go_enter Try.func34, Try.ntmps34
        go_wp2_with fail
        clear hW
        with_reducible refine HV.out.mono ?_
        rintro e w1 ⟨rfl, hb1⟩
        clear r1 f1 r10 r11 r12 r2 f2 r20 r21 r22 r3 f3 r30 r31 r32 r4 f4 r40 r41 r42 r43
        have S1 := Lib.hid (SW.out.call hb1)
        replace hb1 := Lib.hid hb1
        obtain ⟨⟨r1, f1, r10, r11, r12, -⟩, ⟨r2, f2, r20, r21, r22, -⟩, ⟨r3, f3, r30, r31, r32, -⟩, ⟨r4, f4, r40, r41, r42, r43, -⟩, -⟩ := S1.out.facts
        go_wp2_with fail
        with_reducible refine (HE.out w1 hb1.out hix).mono ?_
        rintro e w2 ⟨rfl, hb2⟩
        clear r1 f1 r10 r11 r12 r2 f2 r20 r21 r22 r3 f3 r30 r31 r32 r4 f4 r40 r41 r42 r43
        have S2 := Lib.hid (S1.out.call hb2)
        replace hb2 := Lib.hid (hb1.out.trans (hb2.mono hb1.out.size))
        obtain ⟨⟨r1, f1, r10, r11, r12, -⟩, ⟨r2, f2, r20, r21, r22, -⟩, ⟨r3, f3, r30, r31, r32, -⟩, ⟨r4, f4, r40, r41, r42, r43, -⟩, -⟩ := S2.out.facts
        go_wp2_with fail
        with_reducible refine (HA.out w2 hb2.out hs he).mono ?_
        rintro e w3 ⟨_, rfl, hb3, x, ⟨x0, y0, x1, y1, x2, y2⟩, rfl, hx⟩
        rw [hab]
        clear r1 f1 r10 r11 r12 r2 f2 r20 r21 r22 r3 f3 r30 r31 r32 r4 f4 r40 r41 r42 r43
        have S3 := Lib.hid (S2.out.call hb3)
        replace hx := Lib.hid hx
        replace hb3 := Lib.hid hb3
        obtain ⟨⟨r1, f1, r10, r11, r12, -⟩, ⟨r2, f2, r20, r21, r22, -⟩, ⟨r3, f3, r30, r31, r32, -⟩, ⟨r4, f4, r40, r41, r42, r43, -⟩, -⟩ := S3.out.facts
        obtain ⟨rfl, hax⟩ := hx.out x' hx'.out
        replace hax := Lib.hid hax
        clear hx
        go_wp2
        have S4 := Lib.hid ((((S3.out.set 0 rfl 0 (.slice x0 x.base.length y0)).set 0 rfl 1 (.slice x1 x.next.length y1)).set 0 rfl 2 (.slice x2 x.held.length y2)).box' 56 [.slice x0 x.base.length y0, .slice x1 x.next.length y1, .slice x2 x.held.length y2] (K := w3.heap.size) (by simp))
        have hz := hb2.out.size
        have ha4 := Lib.hid ((hax.out.far3 (g := w.heap.size + 1 + 1 + 1) (by omega) (.slice x0 x.base.length y0) (.slice x1 x.next.length y1) (.slice x2 x.held.length y2)).to ((Below.refl _ _).alloc (Nat.le_refl _) (.cells #[.slice x0 x.base.length y0, .slice x1 x.next.length y1, .slice x2 x.held.length y2] 56)))
        clear r1 f1 r10 r11 r12 r2 f2 r20 r21 r22 r3 f3 r30 r31 r32 r4 f4 r40 r41 r42 r43
        obtain ⟨-, ⟨r1, f1, r10, r11, r12, -⟩, -⟩ := S4.out.facts
        refine bodyPost_ret (v := .tuple #[.agg #[.slice x0 x.base.length y0, .slice x1 x.next.length y1, .slice x2 x.held.length y2], .int .i64 0]) (by simp [results, Try.results34, go_sem, r10, r11, r12]) rfl ?_
        exact Ret.mk ⟨S4.out.bel, ⟨x0, y0, x1, y1, x2, y2⟩, rfl, ha4.out.base (by omega)⟩
set_option maxHeartbeats 4000000 in
set_option maxRecDepth 100000 in
theorem Apply_any (p : Prob) (q : ProbP) (m : Mx) (qm : MixP) (s : Sp) (w : World) (hp : RProb w w.heap.size p q) (hbd : PBd p) (hm : RMix w w.heap.size m qm) (hmb : MBd m qm) :
    Calls Try.prog 15 #[probV p q, mixV m qm, stepV s] w (Ret (ApR w (ApM p m s) (ApE p m s))) := by
  obtain ⟨W, hW, hsz, S⟩ := pms_boxes p q m qm s w
  have HV := Lib.hid (mvalid_any p q m qm W (hp.to S.bel) hbd (hm.to S.bel) hmb)
  have HA := Lib.hid (fun W2 (h : Below W.heap.size W W2) (hok : MOk p m) => apply_any p q m qm s W2 ((hp.to S.bel).to h) hbd ((hm.to S.bel).to h) hmb hok)
  have SW := Lib.hid S
  obtain ⟨qa0, qc0, qa1, qc1, qa2, qc2, qa3, qc3⟩ := q
  obtain ⟨ma0, mc0, ma1, mc1, ma2, mc2⟩ := qm
  obtain ⟨kd, ix, v⟩ := s
  clear hm hmb hp hbd
  dsimp only at HV HA hW S SW ⊢
  obtain ⟨⟨r1, f1, r10, r11, r12, -⟩, ⟨r2, f2, r20, r21, r22, -⟩, ⟨r3, f3, r30, r31, r32, -⟩, ⟨r4, f4, r40, r41, r42, r43, -⟩, -⟩ := S.facts
  clear S
  unfold ApM ApE
  by_cases h0 : mixE p m = 0
  · rw [if_pos h0, if_pos h0]
    replace HA := Lib.hid (fun W2 (h : Below W.heap.size W W2) => HA.out W2 h (mixE_ok.1 h0))
    rw [h0] at HV
    clear h0
    obtain ⟨x, hx⟩ : ∃ x, apM p m ⟨kd, ix, v⟩ = x := ⟨_, rfl⟩
    obtain ⟨er, her⟩ : ∃ er, appE p m ⟨kd, ix, v⟩ = er := ⟨_, rfl⟩
    rw [hx, her] at HA ⊢
    clear hx her
    go_enter Try.func15, Try.ntmps15
    go_wp2_with fail
    clear hW
    with_reducible refine HV.out.mono ?_
    rintro e w1 ⟨rfl, hb1⟩
    clear r1 f1 r10 r11 r12 r2 f2 r20 r21 r22 r3 f3 r30 r31 r32 r4 f4 r40 r41 r42 r43
    have S1 := Lib.hid (SW.out.call hb1)
    replace hb1 := Lib.hid hb1
    obtain ⟨⟨r1, f1, r10, r11, r12, -⟩, ⟨r2, f2, r20, r21, r22, -⟩, ⟨r3, f3, r30, r31, r32, -⟩, ⟨r4, f4, r40, r41, r42, r43, -⟩, -⟩ := S1.out.facts
    go_wp2_with fail
    with_reducible refine (HA.out w1 hb1.out).mono ?_
    rintro e w2 ⟨_, rfl, hb2, ⟨x0, y0, x1, y1, x2, y2⟩, rfl, hx⟩
    clear r1 f1 r10 r11 r12 r2 f2 r20 r21 r22 r3 f3 r30 r31 r32 r4 f4 r40 r41 r42 r43
    have S2 := Lib.hid (S1.out.call hb2)
    replace hb2 := Lib.hid hb2
    obtain ⟨⟨r1, f1, r10, r11, r12, -⟩, ⟨r2, f2, r20, r21, r22, -⟩, ⟨r3, f3, r30, r31, r32, -⟩, ⟨r4, f4, r40, r41, r42, r43, -⟩, -⟩ := S2.out.facts
    replace hx := Lib.hid hx
    go_wp2
    have S4 := Lib.hid (((S2.out.set 0 rfl 0 (.slice x0 x.base.length y0)).set 0 rfl 1 (.slice x1 x.next.length y1)).set 0 rfl 2 (.slice x2 x.held.length y2))
    have hz := hb1.out.size
    have ha4 := Lib.hid (hx.out.far3 (g := w.heap.size + 1 + 1 + 1) (by omega) (.slice x0 x.base.length y0) (.slice x1 x.next.length y1) (.slice x2 x.held.length y2))
    clear r1 f1 r10 r11 r12 r2 f2 r20 r21 r22 r3 f3 r30 r31 r32 r4 f4 r40 r41 r42 r43
    obtain ⟨⟨r1, f1, r10, r11, r12, -⟩, -⟩ := S4.out.facts
    refine bodyPost_ret (v := .tuple #[.agg #[.slice x0 x.base.length y0, .slice x1 x.next.length y1, .slice x2 x.held.length y2], .int .i64 er]) (by simp [results, Try.results15, go_sem, r10, r11, r12]) rfl ?_
    exact Ret.mk ⟨S4.out.bel, ⟨x0, y0, x1, y1, x2, y2⟩, rfl, ha4.out.base (by omega)⟩
  · rw [if_neg h0, if_neg h0]
    obtain ⟨er, her⟩ : ∃ er, mixE p m = er := ⟨_, rfl⟩
    rw [her] at HV h0 ⊢
    have hne : (er != 0) = true := by simpa using h0
    clear her HA h0
    go_enter Try.func15, Try.ntmps15
    go_wp2_with fail
    clear hW
    with_reducible refine HV.out.mono ?_
    rintro e w1 ⟨rfl, hb1⟩
    clear r1 f1 r10 r11 r12 r2 f2 r20 r21 r22 r3 f3 r30 r31 r32 r4 f4 r40 r41 r42 r43
    have S1 := Lib.hid (SW.out.call hb1)
    replace hb1 := Lib.hid hb1
    obtain ⟨⟨r1, f1, r10, r11, r12, -⟩, ⟨r2, f2, r20, r21, r22, -⟩, ⟨r3, f3, r30, r31, r32, -⟩, ⟨r4, f4, r40, r41, r42, r43, -⟩, -⟩ := S1.out.facts
    go_wp2
    have S4 := Lib.hid (((S1.out.set 0 rfl 0 (.slice none 0 0)).set 0 rfl 1 (.slice none 0 0)).set 0 rfl 2 (.slice none 0 0))
    clear r1 f1 r10 r11 r12 r2 f2 r20 r21 r22 r3 f3 r30 r31 r32 r4 f4 r40 r41 r42 r43
    obtain ⟨⟨r1, f1, r10, r11, r12, -⟩, -⟩ := S4.out.facts
    refine bodyPost_ret (v := .tuple #[.agg #[.slice none 0 0, .slice none 0 0, .slice none 0 0], .int .i64 er]) (by simp [results, Try.results15, go_sem, r10, r11, r12]) rfl ?_
    exact Ret.mk ⟨S4.out.bel, ⟨none, 0, none, 0, none, 0⟩, rfl, ao_nil _ _⟩
end Go.Proofs.Ytickckehhfdoeaa
