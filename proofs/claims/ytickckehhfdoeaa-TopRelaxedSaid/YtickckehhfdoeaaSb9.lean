/-
  A MIX that is built row by row in a variable of the call's own.
  Conditions: those that each theorem names.
-/
import Derived.Test.YtickckehhfdoeaaSb7
import Derived.Deep.RegionLaw

namespace Go.Proofs.Ytickckehhfdoeaa
open Go.RowKit Go.Sv
theorem step_own2 {P : Program} {t e : TypeId} {z : Value} {bytes : Nat} {w : World} (E : ElemT P t e z 1 bytes) {ops : Array Oper} {o : Oper} {a : Act} {K : Act → World → Prop} {Q : Exit → Act → World → Prop} {X : Prop} (hgd : o.guard = none) (s x : Operand)
    (ho : o.op = .call { callee := .builtin .append, args := #[s, x], argTypes := #[t, t] }) (base : Nat) (v : Value) (n : Nat) (xs : List Value) (hown : w.ownsRow base e 1 v n xs) (hs : a.eval s = v)
    (B : Nat) (hx : a.eval x = .slice (some ⟨B, 0, none⟩) 1 1) (u : Value) (hc : w.cell? ⟨B, 0, none⟩ = some u) (hu : u.oneCell' = true) (hn : n ≤ 1000000) (hby : bytes ≤ 4096) (hbase : base ≤ w.heap.size)
    (h : ∀ v' w', w'.ownsRow base e 1 v' (n + 1) (xs ++ [u]) → w.grownBy w' v.ownBlock → (v'.ownBlock = v.ownBlock ∨ v'.ownBlock = some w.heap.size) → K (a.put o.dst v') w') :
    if Region.wanted o (yielded ops a.tmps) = true then Oper.wp P o a w K Q else X := by
  have hw : Region.wanted o (yielded ops a.tmps) = true := by simp [Region.wanted, hgd]
  rw [if_pos hw]
  obtain ⟨v', w', hr, h2, h3, h4⟩ := run_append_arr E w o.type base v n xs hown (some ⟨B, 0, none⟩) 1 1 [u] rfl (by simpa using hu) (fun h => by cases h) (fun ad had j y hy => by
    injection had with had
    subst had
    match j, hy with
    | 0, hy =>
      have : u = y := by simpa using hy
      subst this
      exact hc) (by omega) hby hbase
  unfold Oper.wp execOp
  simp only [ho, resolve, invoke, builtin, Sem.run_bind, Sem.run_pure, Result.andThen_ok, List.map_toArray, List.map_cons, List.map_nil, hs, hx, hr]
  exact h v' w' h2 h3 h4
/-- the variable b of a mix whose rows lie behind it -/
structure MB (w0 : World) (b : Nat) (m : Mx) (q : MixP) (W : World) : Prop where
  bel : Below b w0 W
  hb : b ≤ w0.heap.size
  mb : Whole W b 56 #[.slice q.a0 m.base.length q.c0, .slice q.a1 m.next.length q.c1, .slice q.a2 m.held.length q.c2]
  o0 : W.ownsRow (b + 1) 3 1 (.slice q.a0 m.base.length q.c0) m.base.length (rowM m.base.length (iv m.base))
  o1 : W.ownsRow (b + 1) 3 1 (.slice q.a1 m.next.length q.c1) m.next.length (rowM m.next.length (iv m.next))
  o2 : W.ownsRow (b + 1) 84 1 (.slice q.a2 m.held.length q.c2) m.held.length (rowM m.held.length (u8v m.held))
  ap : ∀ g, (Value.slice q.a0 m.base.length q.c0).ownBlock = some g → (Value.slice q.a1 m.next.length q.c1).ownBlock ≠ some g
theorem MB.new (w : World) : MB w w.heap.size mx0 ⟨none, 0, none, 0, none, 0⟩ (w.alloc (.cells #[.slice none 0 0, .slice none 0 0, .slice none 0 0] 56)) :=
  ⟨(Below.refl _ _).alloc (Nat.le_refl _) _, Nat.le_refl _, Whole.new .., World.ownsRow_nil _ _ _ _, World.ownsRow_nil _ _ _ _, World.ownsRow_nil _ _ _ _, fun g h => by cases h⟩
section
variable {w0 W W' : World} {b : Nat} {m : Mx} {q : MixP}
theorem MB.size (h : MB w0 b m q W) : b + 1 ≤ W.heap.size := h.mb.lt
theorem MB.to (h : MB w0 b m q W) (hb : Below W.heap.size W W') : MB w0 b m q W' :=
  ⟨h.bel.trans (hb.mono (by have := h.size; omega)), h.hb, h.mb.below hb h.mb.lt, own_to h.o0 hb, own_to h.o1 hb, own_to h.o2 hb, h.ap⟩
theorem MB.facts (h : MB w0 b m q W) : b < W.heap.size ∧ (∀ o, W.frozen? ⟨b, o, none⟩ = false) ∧ W.cell? ⟨b, 0, none⟩ = some (.slice q.a0 m.base.length q.c0) ∧ W.cell? ⟨b, 1, none⟩ = some (.slice q.a1 m.next.length q.c1) ∧ W.cell? ⟨b, 2, none⟩ = some (.slice q.a2 m.held.length q.c2) :=
  ⟨h.mb.lt, fun o => h.mb.frozen o, h.mb.cell 0, h.mb.cell 1, h.mb.cell 2⟩
theorem MB.mix (h : MB w0 b m q W) : RMix W W.heap.size m q := by
  refine ⟨?_, ?_, ?_⟩
  · obtain ⟨A, c, hv, _, _, ha⟩ := own_arr h.o0 (fun k hk => rowM_get hk)
    injection hv with h1; rw [h1]; exact ha
  · obtain ⟨A, c, hv, _, _, ha⟩ := own_arr h.o1 (fun k hk => rowM_get hk)
    injection hv with h1; rw [h1]; exact ha
  · obtain ⟨A, c, hv, _, _, ha⟩ := own_arr h.o2 (fun k hk => rowM_get hk)
    injection hv with h1; rw [h1]; exact ha
theorem own_at {e : TypeId} {v : Value} {n : Nat} {xs : List Value} (h : W.ownsRow (b + 1) e 1 v n xs) {g : Nat} (hg : v.ownBlock = some g) : b + 1 ≤ g ∧ g < W.heap.size ∧ ∃ cur, Whole W g e cur := by
  rcases h.2 with ⟨rfl, _⟩ | ⟨g', cap, cur, rfl, hb, hgg, _⟩
  · cases hg
  · have : some g' = some g := hg
    injection this with this
    subst this
    have hw : Whole W g' e cur := hgg
    exact ⟨hb, hw.lt, cur, hw⟩
theorem keyV_own {A : Option Addr} {n c g : Nat} (h : keyV (.slice A n c) = some g) : (Value.slice A n c).ownBlock = some g := by
  cases A with
  | none => cases h
  | some a => cases n with
    | zero => cases h
    | succ n => exact h
theorem MB.ao (h : MB w0 b m q W) : AO W (b + 1) m q := by
  refine ⟨h.o0, h.o1, h.o2, fun g h1 h2 => h.ap g (keyV_own h1) (keyV_own h2), fun g h1 h2 => ?_, fun g h1 h2 => ?_⟩
  · obtain ⟨_, _, c1, w1⟩ := own_at h.o0 (keyV_own h1)
    obtain ⟨_, _, c2, w2⟩ := own_at h.o2 (keyV_own h2)
    have w1' : W.heap[g]? = _ := w1
    have w2' : W.heap[g]? = _ := w2
    rw [w1'] at w2'
    injection w2' with w2'
    injection w2' with _ w3 _
    exact absurd w3 (by decide)
  · obtain ⟨_, _, c1, w1⟩ := own_at h.o1 (keyV_own h1)
    obtain ⟨_, _, c2, w2⟩ := own_at h.o2 (keyV_own h2)
    have w1' : W.heap[g]? = _ := w1
    have w2' : W.heap[g]? = _ := w2
    rw [w1'] at w2'
    injection w2' with w2'
    injection w2' with _ w3 _
    exact absurd w3 (by decide)
theorem kept_set {e : TypeId} {v : Value} {n : Nat} {xs : List Value} (h : W.ownsRow (b + 1) e 1 v n xs) (i : Nat) (u : Value) : (W.setCell ⟨b, i, none⟩ u).ownsRow (b + 1) e 1 v n xs :=
  h.kept (grownBy_set W b i u) (by
    cases hx : v.ownBlock with
    | none => exact Or.inl rfl
    | some g =>
      refine Or.inr fun e => ?_
      injection e with e
      have := (own_at h hx).1
      omega)
theorem rowM_app (n : Nat) (f g : Nat → Value) (hf : ∀ k, k < n → g k = f k) : rowM (n + 1) g = rowM n f ++ [g n] := by
  rw [rowM_snoc]
  congr 1
  unfold rowM
  apply List.map_congr_left
  intro k hk
  exact hf k (List.mem_range.1 hk)
/-- Base grows by one -/
theorem MB.push0 (h : MB w0 b m q W) {x : Int} {v' : Value} (ho : W'.ownsRow (b + 1) 3 1 v' (m.base.length + 1) (rowM m.base.length (iv m.base) ++ [.int .i64 x])) (hg : W.grownBy W' (Value.slice q.a0 m.base.length q.c0).ownBlock)
    (hor : v'.ownBlock = (Value.slice q.a0 m.base.length q.c0).ownBlock ∨ v'.ownBlock = some W.heap.size) :
    ∃ A c, v' = .slice A (m.base.length + 1) c ∧ MB w0 b { m with base := m.base ++ [x] } { q with a0 := A, c0 := c } (W'.setCell ⟨b, 0, none⟩ (.slice A (m.base.length + 1) c)) := by
  obtain ⟨A, c, rfl, _⟩ := own_form ho
  have hbW : Below (b + 1) W W' := own_below h.o0 hg h.size
  have hm : Whole W' b 56 _ := h.mb.below hbW (Nat.lt_succ_self _)
  have k1 := h.o1.kept hg (by
    cases hx : (Value.slice q.a1 m.next.length q.c1).ownBlock with
    | none => exact Or.inl rfl
    | some g => exact Or.inr fun e => h.ap g e.symm hx)
  have k2 := ownO_other h.o2 h.o0 (by decide) hg
  have hl : (m.base ++ [x]).length = m.base.length + 1 := by simp
  refine ⟨A, c, rfl, (h.bel.trans (hbW.mono (Nat.le_succ _))).setCell (Nat.le_refl _) _, h.hb, ?_, ?_, kept_set k1 _ _, kept_set k2 _ _, ?_⟩
  · have := hm.set 0 (.slice A (m.base.length + 1) c)
    show Whole _ _ _ #[.slice A (m.base ++ [x]).length c, _, _]
    rw [hl]
    exact this
  · have := kept_set ho 0 (.slice A (m.base.length + 1) c)
    show World.ownsRow _ _ _ _ (.slice A (m.base ++ [x]).length c) (m.base ++ [x]).length _
    rw [hl, rowM_app _ (iv m.base) _ (fun k hk => by unfold iv; rw [gi_snoc_lt hk])]
    unfold iv at this ⊢
    rw [gi_snoc_last]
    exact this
  · intro g h1 h2
    have h1 : (Value.slice A (m.base ++ [x]).length c).ownBlock = some g := h1
    have h1' : (Value.slice A (m.base.length + 1) c).ownBlock = some g := by rw [hl] at h1; exact h1
    rcases hor with e | e
    · rw [e] at h1'
      exact h.ap g h1' h2
    · rw [e] at h1'
      injection h1' with h1'
      have := (own_at h.o1 h2).2.1
      omega
/-- Next grows by one -/
theorem MB.push1 (h : MB w0 b m q W) {x : Int} {v' : Value} (ho : W'.ownsRow (b + 1) 3 1 v' (m.next.length + 1) (rowM m.next.length (iv m.next) ++ [.int .i64 x])) (hg : W.grownBy W' (Value.slice q.a1 m.next.length q.c1).ownBlock)
    (hor : v'.ownBlock = (Value.slice q.a1 m.next.length q.c1).ownBlock ∨ v'.ownBlock = some W.heap.size) :
    ∃ A c, v' = .slice A (m.next.length + 1) c ∧ MB w0 b { m with next := m.next ++ [x] } { q with a1 := A, c1 := c } (W'.setCell ⟨b, 1, none⟩ (.slice A (m.next.length + 1) c)) := by
  obtain ⟨A, c, rfl, _⟩ := own_form ho
  have hbW : Below (b + 1) W W' := own_below h.o1 hg h.size
  have hm : Whole W' b 56 _ := h.mb.below hbW (Nat.lt_succ_self _)
  have k1 := h.o0.kept hg (by
    cases hx : (Value.slice q.a0 m.base.length q.c0).ownBlock with
    | none => exact Or.inl rfl
    | some g => exact Or.inr fun e => h.ap g hx e.symm)
  have k2 := ownO_other h.o2 h.o1 (by decide) hg
  have hl : (m.next ++ [x]).length = m.next.length + 1 := by simp
  refine ⟨A, c, rfl, (h.bel.trans (hbW.mono (Nat.le_succ _))).setCell (Nat.le_refl _) _, h.hb, ?_, kept_set k1 _ _, ?_, kept_set k2 _ _, ?_⟩
  · have := hm.set 1 (.slice A (m.next.length + 1) c)
    show Whole _ _ _ #[_, .slice A (m.next ++ [x]).length c, _]
    rw [hl]
    exact this
  · have := kept_set ho 1 (.slice A (m.next.length + 1) c)
    show World.ownsRow _ _ _ _ (.slice A (m.next ++ [x]).length c) (m.next ++ [x]).length _
    rw [hl, rowM_app _ (iv m.next) _ (fun k hk => by unfold iv; rw [gi_snoc_lt hk])]
    unfold iv at this ⊢
    rw [gi_snoc_last]
    exact this
  · intro g h1 h2
    have h2 : (Value.slice A (m.next ++ [x]).length c).ownBlock = some g := h2
    have h2' : (Value.slice A (m.next.length + 1) c).ownBlock = some g := by rw [hl] at h2; exact h2
    rcases hor with e | e
    · rw [e] at h2'
      exact h.ap g h1 h2'
    · rw [e] at h2'
      injection h2' with h2'
      have := (own_at h.o0 h1).2.1
      omega
/-- Held grows by one -/
theorem MB.push2 (h : MB w0 b m q W) {x : Int} {v' : Value} (ho : W'.ownsRow (b + 1) 84 1 v' (m.held.length + 1) (rowM m.held.length (u8v m.held) ++ [.int .u8 x])) (hg : W.grownBy W' (Value.slice q.a2 m.held.length q.c2).ownBlock) :
    ∃ A c, v' = .slice A (m.held.length + 1) c ∧ MB w0 b { m with held := m.held ++ [x] } { q with a2 := A, c2 := c } (W'.setCell ⟨b, 2, none⟩ (.slice A (m.held.length + 1) c)) := by
  obtain ⟨A, c, rfl, _⟩ := own_form ho
  have hbW : Below (b + 1) W W' := own_below h.o2 hg h.size
  have hm : Whole W' b 56 _ := h.mb.below hbW (Nat.lt_succ_self _)
  have k1 := ownO_other h.o0 h.o2 (by decide) hg
  have k2 := ownO_other h.o1 h.o2 (by decide) hg
  have hl : (m.held ++ [x]).length = m.held.length + 1 := by simp
  refine ⟨A, c, rfl, (h.bel.trans (hbW.mono (Nat.le_succ _))).setCell (Nat.le_refl _) _, h.hb, ?_, kept_set k1 _ _, kept_set k2 _ _, ?_, h.ap⟩
  · have := hm.set 2 (.slice A (m.held.length + 1) c)
    show Whole _ _ _ #[_, _, .slice A (m.held ++ [x]).length c]
    rw [hl]
    exact this
  · have := kept_set ho 2 (.slice A (m.held.length + 1) c)
    show World.ownsRow _ _ _ _ (.slice A (m.held ++ [x]).length c) (m.held ++ [x]).length _
    rw [hl, rowM_app _ (u8v m.held) _ (fun k hk => by unfold u8v; rw [gi_snoc_lt hk])]
    unfold u8v at this ⊢
    rw [gi_snoc_last]
    exact this
end
end Go.Proofs.Ytickckehhfdoeaa

namespace Go.Proofs.Ytickckehhfdoeaa
open Go.RowKit Go.Sv
def stH (p : Prob) (i : Nat) : Int := if Go.Sv.stored (tab p.tabs i) = true then ((2 ^ (gi p.now (tab p.tabs i).src.toNat).toNat : Nat) : Int) else 0
def stM (p : Prob) (k j : Nat) : Mx := ⟨(List.range k).map (gi p.now), (List.range k).map (fun _ => -1), (List.range j).map (stH p)⟩
theorem stM_lb (p : Prob) (k j : Nat) : (stM p k j).base.length = k := by simp [stM]
theorem stM_ln (p : Prob) (k j : Nat) : (stM p k j).next.length = k := by simp [stM]
theorem stM_lh (p : Prob) (k j : Nat) : (stM p k j).held.length = j := by simp [stM]
theorem stM_snoc {p : Prob} {k : Nat} : (⟨(stM p k 0).base ++ [gi p.now k], (stM p k 0).next ++ [-1], (stM p k 0).held⟩ : Mx) = stM p (k + 1) 0 := by simp [stM, List.range_succ]
theorem stM_snocH {p : Prob} {n k : Nat} : (⟨(stM p n k).base, (stM p n k).next, (stM p n k).held ++ [stH p k]⟩ : Mx) = stM p n (k + 1) := by simp [stM, List.range_succ]
theorem now_in {p : Prob} (h : probE p = 0) {i : Nat} (hi : i < p.vs.length) : 0 ≤ gi p.now i ∧ gi p.now i < gi p.vs i := by
  unfold probE at h
  split at h
  · cases h
  · split at h
    · cases h
    · split at h
      · cases h
      · rename_i hn
        have := not_exists.1 hn i
        unfold svcBad at this
        have h2 : win (gi p.now i) (gi p.vs i) = true := by
          cases hx : win (gi p.now i) (gi p.vs i) with
          | true => rfl
          | false => exact absurd ⟨hi, Or.inr (Or.inr (Or.inl hx))⟩ this
        exact win_iff.1 h2
set_option maxHeartbeats 4000000 in
set_option maxRecDepth 100000 in
theorem rstart_any (p : Prob) (q : ProbP) (w : World) (hp : RProb w w.heap.size p q) (hbd : PBd p) (hok : probE p = 0) :
    Calls Try.prog 48 #[probV p q] w (Ret (ApR w (stM p p.vs.length p.tabs.length) 0)) := by
  obtain ⟨hv6, ht12, hnw, -⟩ := prob_small hok
  have S0 := ((Fm.init w).box 39 [.slice q.a0 p.vs.length q.c0, .slice q.a1 p.now.length q.c1, .slice q.a2 p.tgt.length q.c2, .slice q.a3 p.tabs.length q.c3]).box' 56 [.slice none 0 0, .slice none 0 0, .slice none 0 0] (K := w.heap.size + 1) (by simp)
  obtain ⟨W, hW, S⟩ : ∃ W, (w.alloc (.cells #[.slice q.a0 p.vs.length q.c0, .slice q.a1 p.now.length q.c1, .slice q.a2 p.tgt.length q.c2, .slice q.a3 p.tabs.length q.c3] 39)).alloc (.cells #[.slice none 0 0, .slice none 0 0, .slice none 0 0] 56) = W ∧ Fm w W [⟨w.heap.size + 1, 56, [.slice none 0 0, .slice none 0 0, .slice none 0 0]⟩, ⟨w.heap.size, 39, [.slice q.a0 p.vs.length q.c0, .slice q.a1 p.now.length q.c1, .slice q.a2 p.tgt.length q.c2, .slice q.a3 p.tabs.length q.c3]⟩] [] := ⟨_, rfl, S0⟩
  have HV := Lib.hid (rvalidProblem_any p q W (hp.to S.bel) hbd)
  rw [hok] at HV
  have hpW := Lib.hid (hp.to S.bel)
  replace hok := Lib.hid hok
  replace hnw := Lib.hid hnw
  obtain ⟨qa0, qc0, qa1, qc1, qa2, qc2, qa3, qc3⟩ := q
  dsimp only at HV hW S ⊢
  obtain ⟨⟨r1, f1, r10, r11, r12, -⟩, ⟨r2, f2, r20, r21, r22, r23, -⟩, -⟩ := S.facts
  have SW := Lib.hid S
  clear S0 S hp hbd
  go_enter Try.func48, Try.ntmps48
  go_wp2_with fail
  clear hW
  with_reducible refine HV.out.mono ?_
  rintro e w1 ⟨rfl, hb1⟩
  have S1 := Lib.hid (SW.out.call hb1)
  have hp1 := Lib.hid (hpW.out.to hb1)
  have M0 := Lib.hid (MB.new w1)
  obtain ⟨W2, hW2, hb2⟩ : ∃ W2, w1.alloc (.cells #[.slice none 0 0, .slice none 0 0, .slice none 0 0] 56) = W2 ∧ Below w1.heap.size w1 W2 := ⟨_, rfl, (Below.refl _ _).alloc (Nat.le_refl _) _⟩
  rw [hW2] at M0
  clear r1 f1 r10 r11 r12 r2 f2 r20 r21 r22 r23
  go_wp2
  clear hW2
  go_loopw [6] (fun s6 wr => ∃ (k : Nat) (y : MixP), s6 = .int .i64 k ∧ k ≤ p.vs.length ∧ MB w1 w1.heap.size (stM p k 0) y wr) (fun s6 _ => p.vs.length - (intOf s6).toNat)
  case atStart => exact ⟨0, _, rfl, Nat.zero_le _, M0.out⟩
  case round =>
    obtain ⟨k, ⟨y0, z0, y1, z1, y2, z2⟩, rfl, hk, M⟩ := hrel
    have T := Lib.hid (S1.out.call M.bel)
    have hpr := (hp1.out.below M.bel)
    obtain ⟨zM, fM, m0, m1, m2⟩ := M.facts
    have Md := Lib.hid (M.to ((Drawn.refl wr).drew).below)
    have O0 := Md.out.o0
    rw [stM_lb] at O0 m0
    rw [stM_ln] at m1
    rw [stM_lh] at m2
    dsimp only at O0 m0 m1 m2
    replace O0 := Lib.hid O0
    obtain ⟨⟨r1, f1, r10, r11, r12, -⟩, ⟨r2, f2, r20, r21, r22, r23, -⟩, -⟩ := T.out.facts
    have hsW := S1.out.size
    have hzW : w.heap.size + 2 ≤ w1.heap.size := by have := S1.out.b_lt (x := ⟨w.heap.size + 1, 56, [.slice none 0 0, .slice none 0 0, .slice none 0 0]⟩) (by simp); dsimp only at this; omega
    by_cases hlt : k < p.vs.length
    · obtain ⟨bn, on, e0, hbn, hcn⟩ := hpr.r1 (by rw [hnw.out]; omega)
      dsimp only at e0
      subst e0
      have d := hcn k (by rw [hnw.out]; exact hlt)
      unfold iv at d
      obtain ⟨x, hx⟩ : ∃ x, gi p.now k = x := ⟨_, rfl⟩
      rw [hx] at d
      have jk : (k : Int) < (p.vs.length : Int) := by omega
      have jn : (k : Int) < (p.now.length : Int) := by rw [hnw.out]; omega
      have hbnr : bn < wr.heap.size := by have := M.bel.size; omega
      have i1 : ¬ bn = w1.heap.size := by omega
      have i2 : ¬ w1.heap.size = bn := by omega
      have i3 : ¬ w.heap.size = w1.heap.size := by omega
      have i4 : ¬ w1.heap.size = w.heap.size := by omega
      have hM := Lib.hid M
      clear hcn M hpr
      go_wp2_with fail
      go_region_law
        (first
          | (refine step_own2 elInt (by rfl) _ _ (by rfl) (w1.heap.size + 1) _ k _ (O0.out.alloc _) (by rfl) _ (by rfl) _ (World.cell?_alloc_new _ _ _ 0) (by rfl) (by omega) (by omega) (by simp; omega) ?_
             intro v' w5 hown5 hg5 hor5
             have hb5 := (((Below.refl (w1.heap.size + 1) wr).drew).alloc zM _).trans (own_below (O0.out.alloc _) hg5 (by simp; omega))
             have x1 := (hb5.cell (p := ⟨w.heap.size, 1, none⟩) (by show w.heap.size < _; omega)).trans r21
             have x2 := (hb5.cell (p := ⟨bn, on + k, none⟩) (by show bn < _; omega)).trans d
             have hwM := hM.out.mb.below hb5 (Nat.lt_succ_self _)
             have z5 := hwM.lt
             have f5 := fun o => hwM.frozen o
             have c5 : w5.cell? ⟨w1.heap.size, 0, none⟩ = some (.slice y0 (stM p k 0).base.length z0) := hwM.cell 0
             obtain ⟨A5, c6, rfl, M5⟩ := ((Md.out.to ((Below.refl _ _).alloc (Nat.le_refl _) _)).push0 (x := x) (by rw [stM_lb]; exact hown5) (by rw [stM_lb]; exact hg5) (by rw [stM_lb]; exact hor5))
             replace M5 := Lib.hid M5
             clear hwM hown5 hg5 hor5))
      all_goals
        clear x1 x2 hb5 z5 f5 c5 zM fM m0 m1 m2 r1 f1 r10 r11 r12 r2 f2 r20 r21 r22 r23 d hM O0 T Md
        generalize hW6 : w5.setCell ⟨w1.heap.size, 0, none⟩ (.slice A5 ((stM p k 0).base.length + 1) c6) = W6 at M5 ⊢
        replace hW6 := Lib.hid hW6
        obtain ⟨zM, fM, m0, m1, m2⟩ := M5.out.facts
        have O1 := M5.out.o1
        rw [stM_ln] at m1 O1
        dsimp only at O1 m0 m1 m2
        replace O1 := Lib.hid O1
        have hs6 : w1.heap.size + 1 ≤ W6.heap.size := M5.out.size
        go_wp2_with (at_builtin; refine push_own elInt rfl _ _ rfl (w1.heap.size + 1) _ k _ O1.out rfl [.int .i64 (-1)] rfl rfl rfl (by omega) (by omega) hs6 ?_)
        intro v' w7 hown7 hg7 hb7 hs7 hor7
        obtain ⟨A7, c7, rfl, M7⟩ := ((M5.out.to ((Below.refl _ _).alloc (Nat.le_refl _) _)).push1 (x := -1) (by dsimp only; rw [stM_ln]; exact hown7) (by dsimp only; rw [stM_ln]; exact hg7) (by dsimp only; rw [stM_ln]; simpa using hor7))
        dsimp only at M7
        rw [← hx, stM_snoc] at M7
        replace M7 := Lib.hid M7
        have hwM := M5.out.mb.below hb7 (Nat.lt_succ_self _)
        have z7 := hwM.lt
        have f7 := fun o => hwM.frozen o
        have c1 : w7.cell? ⟨w1.heap.size, 1, none⟩ = some (.slice y1 (stM p k 0).next.length z1) := hwM.cell 1
        clear hwM hown7 hg7 hor7 hb7 hs7 zM fM m0 m1 m2
        go_wp2
        go_roundw
        case rel => exact ⟨k + 1, _, by go_num, by omega, M7.out⟩
        case measure => simp [intOf]; omega
    · obtain rfl : k = p.vs.length := by omega
      have hMo := Lib.hid M
      rename World => wo
      clear hpr hlt Md O0 M zM fM m0 m1 m2
      go_wp2
      clear r1 f1 r10 r11 r12 r2 f2 r20 r21 r22 r23
      go_loopw [7, 8] (fun s7 _ wr => ∃ (k : Nat) (y : MixP), s7 = .int .i64 k ∧ k ≤ p.tabs.length ∧ MB w1 w1.heap.size (stM p p.vs.length k) y wr) (fun s7 _ _ => p.tabs.length - (intOf s7).toNat)
      case atStart => exact ⟨0, _, rfl, Nat.zero_le _, hMo.out⟩
      case round =>
        clear T hMo
        obtain ⟨k, ⟨y0, z0, y1, z1, y2, z2⟩, rfl, hk, M⟩ := hrel
        have T := Lib.hid (S1.out.call M.bel)
        have hpr := (hp1.out.below M.bel)
        obtain ⟨zM, fM, m0, m1, m2⟩ := M.facts
        have O2 := M.o2
        rw [stM_lb] at m0
        rw [stM_ln] at m1
        rw [stM_lh] at m2 O2
        dsimp only at O2 m0 m1 m2
        replace O2 := Lib.hid O2
        obtain ⟨⟨r1, f1, r10, r11, r12, -⟩, ⟨r2, f2, r20, r21, r22, r23, -⟩, -⟩ := T.out.facts
        by_cases hlt : k < p.tabs.length
        · obtain ⟨qt, hq1, hq2⟩ := hpr.r3
          obtain ⟨b3, o3, e3, hb3, hc3⟩ := hq1 (by omega)
          dsimp only at e3
          subst e3
          obtain ⟨t0, t1, t2, t3, t4, t5⟩ := tab_cells (hc3 k hlt)
          have F := tab_facts hok.out hlt
          obtain ⟨s, hs⟩ : ∃ s : Nat, (tab p.tabs k).src = (s : Int) := ⟨(tab p.tabs k).src.toNat, by have := F.s0; omega⟩
          have hsv : s < p.vs.length := by have := F.s1; omega
          have hst : (tab p.tabs k).src.toNat = s := by omega
          obtain ⟨bn, on, e0, hbn, hcn⟩ := hpr.r1 (by rw [hnw.out]; omega)
          dsimp only at e0
          subst e0
          have d := hcn s (by rw [hnw.out]; exact hsv)
          unfold iv at d
          obtain ⟨nn0, nn1⟩ := now_in hok.out hsv
          obtain ⟨vv0, vv1⟩ := vs_le hok.out hsv
          obtain ⟨x, hx⟩ : ∃ x, gi p.now s = x := ⟨_, rfl⟩
          rw [hx] at d nn0 nn1
          have jk : (k : Int) < (p.tabs.length : Int) := by omega
          have jn : (s : Int) < (p.now.length : Int) := by rw [hnw.out]; omega
          have hMs := M.bel.size
          have hbnr : bn < wr.heap.size := by omega
          have hb3r : b3 < wr.heap.size := by omega
          have w1' := shl8' nn0 (show x < 8 by omega)
          have j8 : x ≤ 8 := by omega
          have HS := Lib.hid (fun W => rstored_any (tab p.tabs k) (qt k) W)
          unfold tabV at HS
          rw [hs] at t1 HS
          have hM := Lib.hid M
          have hH : Hid (stH p k = if stB (tab p.tabs k).kind = true then ((2 ^ x.toNat : Nat) : Int) else 0) := Lib.hid (by unfold stH; rw [hst, hx]; rfl)
          clear hcn M hpr hc3 hq1 hq2 F
          replace hs := Lib.hid hs
          replace hst := Lib.hid hst
          have HSW := Lib.hid (HS.out wr)
          cases hkd : stB (tab p.tabs k).kind with
          | false =>
            rw [hkd] at hH HSW
            rw [if_neg (by decide)] at hH
            clear hkd
            go_wp2_with fail
            with_reducible refine HSW.out.mono ?_
            rintro e w3 ⟨rfl, hb3'⟩
            have M3 := Lib.hid (hM.out.to hb3')
            clear hb3' zM fM m0 m1 m2 r1 f1 r10 r11 r12 r2 f2 r20 r21 r22 r23 t0 t1 t2 t3 t4 t5 d O2
            obtain ⟨zM, fM, m0, m1, m2⟩ := M3.out.facts
            have O2 := M3.out.o2
            rw [stM_lh] at m2 O2
            dsimp only at O2 m0 m1 m2
            replace O2 := Lib.hid O2
            have hs6 : w1.heap.size + 1 ≤ w3.heap.size := M3.out.size
            go_wp2_with (at_builtin; refine push_own elSet rfl _ _ rfl (w1.heap.size + 1) _ k _ O2.out rfl [.int .u8 (0)] rfl rfl rfl (by omega) (by omega) hs6 ?_)
            intro v' w7 hown7 hg7 hb7 hs7 hor7
            obtain ⟨A7, c7, rfl, M7⟩ := ((M3.out.to ((Below.refl _ _).alloc (Nat.le_refl _) _)).push2 (x := 0) (by rw [stM_lh]; exact hown7) (by rw [stM_lh]; exact hg7))
            dsimp only at M7
            rw [← hH.out, stM_snocH] at M7
            replace M7 := Lib.hid M7
            have hwM := M3.out.mb.below hb7 (Nat.lt_succ_self _)
            have z7 := hwM.lt
            have f7 := fun o => hwM.frozen o
            have c1 : w7.cell? ⟨w1.heap.size, 2, none⟩ = some (.slice y2 (stM p p.vs.length k).held.length z2) := hwM.cell 2
            clear hwM hown7 hg7 hor7 hb7 hs7 zM fM m0 m1 m2
            go_wp2
            go_roundw
            case rel => exact ⟨k + 1, _, by go_num, by omega, M7.out⟩
            case measure => simp [intOf]; omega
          | true =>
            rw [hkd] at hH HSW
            rw [if_pos rfl] at hH
            clear hkd
            go_wp2_with fail
            with_reducible refine HSW.out.mono ?_
            rintro e w4 ⟨rfl, hb3'⟩
            have T4 := Lib.hid (T.out.call hb3')
            have s1 := (hb3'.cell (p := ⟨b3, o3 + k * 6 + 1, none⟩) hb3r).trans t1
            have d1 := (hb3'.cell (p := ⟨bn, on + s, none⟩) hbnr).trans d
            have M4 := Lib.hid (hM.out.to hb3')
            have hb3s := Nat.lt_of_lt_of_le hb3r hb3'.size
            clear hb3' zM fM m0 m1 m2 r1 f1 r10 r11 r12 r2 f2 r20 r21 r22 r23 t0 t1 t2 t3 t4 t5 d O2
            obtain ⟨⟨r1, f1, r10, r11, r12, -⟩, ⟨r2, f2, r20, r21, r22, r23, -⟩, -⟩ := T4.out.facts
            go_wp2_with fail
            refine wp_region_quiet_lit (by kernel_rfl) (by kernel_rfl) ?_
            repeat (go_big_quiet_step (fail))
            refine wpQuiet_nil ?_
            intro w3 hw3
            have hd3 : Drawn w4 w3 := hw3
            have M3 := Lib.hid (M4.out.to hd3.below)
            clear hw3 hd3 r1 f1 r10 r11 r12 r2 f2 r20 r21 r22 r23 s1 d1
            obtain ⟨zM, fM, m0, m1, m2⟩ := M3.out.facts
            have O2 := M3.out.o2
            rw [stM_lh] at m2 O2
            dsimp only at O2 m0 m1 m2
            replace O2 := Lib.hid O2
            have hs6 : w1.heap.size + 1 ≤ w3.heap.size := M3.out.size
            go_wp2_with (at_builtin; refine push_own elSet rfl _ _ rfl (w1.heap.size + 1) _ k _ O2.out rfl [.int .u8 (((2 ^ x.toNat : Nat) : Int))] rfl rfl rfl (by omega) (by omega) hs6 ?_)
            intro v' w7 hown7 hg7 hb7 hs7 hor7
            obtain ⟨A7, c7, rfl, M7⟩ := ((M3.out.to ((Below.refl _ _).alloc (Nat.le_refl _) _)).push2 (x := ((2 ^ x.toNat : Nat) : Int)) (by rw [stM_lh]; exact hown7) (by rw [stM_lh]; exact hg7))
            dsimp only at M7
            rw [← hH.out, stM_snocH] at M7
            replace M7 := Lib.hid M7
            have hwM := M3.out.mb.below hb7 (Nat.lt_succ_self _)
            have z7 := hwM.lt
            have f7 := fun o => hwM.frozen o
            have c1 : w7.cell? ⟨w1.heap.size, 2, none⟩ = some (.slice y2 (stM p p.vs.length k).held.length z2) := hwM.cell 2
            clear hwM hown7 hg7 hor7 hb7 hs7 zM fM m0 m1 m2
            go_wp2
            go_roundw
            case rel => exact ⟨k + 1, _, by go_num, by omega, M7.out⟩
            case measure => simp [intOf]; omega
        · obtain rfl : k = p.tabs.length := by omega
          have S9 := Lib.hid (((T.out.set 0 rfl 0 (.slice y0 p.vs.length z0)).set 0 rfl 1 (.slice y1 p.vs.length z1)).set 0 rfl 2 (.slice y2 p.tabs.length z2))
          have hA9 := Lib.hid (M.ao.far3 (g := w.heap.size + 1) (by omega) (.slice y0 p.vs.length z0) (.slice y1 p.vs.length z1) (.slice y2 p.tabs.length z2))
          clear hlt hpr M O2
          go_wp2
          clear zM fM m0 m1 m2 r1 f1 r10 r11 r12 r2 f2 r20 r21 r22 r23
          obtain ⟨⟨r1, f1, r10, r11, r12, -⟩, -⟩ := S9.out.facts
          refine bodyPost_ret (v := .tuple #[.agg #[.slice y0 p.vs.length z0, .slice y1 p.vs.length z1, .slice y2 p.tabs.length z2], .int .i64 0]) (by simp [results, Try.results48, go_sem, r10, r11, r12]) rfl ?_
          exact Ret.mk ⟨S9.out.bel, ⟨y0, z0, y1, z1, y2, z2⟩, by dsimp only [mixV]; rw [stM_lb, stM_ln, stM_lh], hA9.out.base (by omega)⟩
end Go.Proofs.Ytickckehhfdoeaa
