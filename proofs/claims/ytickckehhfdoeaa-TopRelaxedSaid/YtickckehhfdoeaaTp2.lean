/-
  CONTRACT of mix.Aborts.
  Conditions: those that each theorem names.
-/
import Derived.Test.YtickckehhfdoeaaTp1
import Derived.Test.YtickckehhfdoeaaTopC
import Derived.Deep.RegionLaw
import Derived.Laws.CopyOwn

namespace Go.Proofs.Ytickckehhfdoeaa
open Go.RowKit Go.Sv
/-- mixes of the call's own, and an error -/
def AbR (w : World) (ms : List Mx) (e : Int) (v : Value) (w' : World) : Prop := Below w.heap.size w w' ∧ ∃ A c Q, v = .tuple #[.slice A ms.length c, .int .i64 e] ∧ MxL w' w.heap.size w.heap.size ms Q (.slice A ms.length c)
def opv (m : Mx) (k : Nat) : Value := .int .i64 ((opA m k : Nat) : Int)
def opR (m : Mx) (j : Nat) : List Value := (opN m j).map fun i => .int .i64 ((i : Nat) : Int)
theorem opR_yes {m : Mx} {j : Nat} (h : 0 ≤ gi m.next j) : opR m (j + 1) = opR m j ++ [.int .i64 (j : Int)] := by unfold opR; rw [opN_yes h, List.map_append]; rfl
theorem opR_get {m : Mx} {k : Nat} (h : k < (openL m).length) : (opR m m.next.length)[k]? = some (opv m k) := by
  unfold opR opv
  rw [opN_all, List.getElem?_map, opA_get h]
  rfl
/-- the open upgrades, in memory of the call's own -/
def OpO (wr : World) (B : Nat) (m : Mx) (j : Nat) (v : Value) : Prop := wr.ownsRow B 3 1 v (opN m j).length (opR m j)
/-- a mix that the call owns, in a variable g; w0: the world ahead of it -/
structure ASt (w0 : World) (g : Nat) (x : Mx) (q : MixP) (wr : World) : Prop where
  bel : Below w0.heap.size w0 wr
  hg : w0.heap.size ≤ g
  mb : Whole wr g 56 #[.slice q.a0 x.base.length q.c0, .slice q.a1 x.next.length q.c1, .slice q.a2 x.held.length q.c2]
  ao : AO wr w0.heap.size x q
  nb : keyV (.slice q.a1 x.next.length q.c1) ≠ some g
theorem ASt.facts {w0 wr : World} {g : Nat} {x : Mx} {q : MixP} (h : ASt w0 g x q wr) : g < wr.heap.size ∧ (∀ o, wr.frozen? ⟨g, o, none⟩ = false) ∧ wr.cell? ⟨g, 0, none⟩ = some (.slice q.a0 x.base.length q.c0) ∧ wr.cell? ⟨g, 1, none⟩ = some (.slice q.a1 x.next.length q.c1) ∧ wr.cell? ⟨g, 2, none⟩ = some (.slice q.a2 x.held.length q.c2) :=
  ⟨h.mb.lt, fun o => h.mb.frozen o, h.mb.cell 0, h.mb.cell 1, h.mb.cell 2⟩
theorem ASt.set {w0 wr : World} {g : Nat} {x : Mx} {q : MixP} (h : ASt w0 g x q wr) {i : Nat} (hi : i < x.next.length) :
    ∃ b, q.a1 = some ⟨b, 0, none⟩ ∧ b ≠ g ∧ b < wr.heap.size ∧ (∀ o, wr.frozen? ⟨b, o, none⟩ = false) ∧ wr.cell? ⟨b, i, none⟩ = some (.int .i64 (gi x.next i)) ∧ ∀ z : Int, ASt w0 g { x with next := x.next.set i z } q (wr.setCell ⟨b, i, none⟩ (.int .i64 z)) := by
  obtain ⟨b, e, hb, hl, hf, hc, hs⟩ := h.ao.set1 hi
  have hk : keyV (.slice q.a1 x.next.length q.c1) = some b := key_pos e (by omega)
  have hne : b ≠ g := fun c => h.nb (by rw [hk, c])
  refine ⟨b, e, hne, hl, hf, hc, fun z => ⟨h.bel.setCell hb _, h.hg, ?_, hs z, ?_⟩⟩
  · have := h.mb.far (p := ⟨b, i, none⟩) (Ne.symm hne) (.int .i64 z)
    show Whole _ _ _ #[_, .slice q.a1 (x.next.set i z).length q.c1, _]
    rw [List.length_set]; exact this
  · show keyV (.slice q.a1 (x.next.set i z).length q.c1) ≠ _
    rw [List.length_set]; exact h.nb
/-- the walk's test of a bit of a number below 64 -/
theorem tb64 : ∀ k : Fin 64, ∀ j : Fin 6, (bits .and .i64 (((k.val : Nat) : Int) / 2 ^ j.val) 1 == 1) = k.val.testBit j.val := by decide +kernel
theorem tb6 {k j : Nat} (hk : k < 64) (hj : j < 6) : (bits .and .i64 ((k : Int) / 2 ^ j) 1 == 1) = k.testBit j := tb64 ⟨k, hk⟩ ⟨j, hj⟩
theorem aoElse {W : World} {B : Nat} {m : Mx} {q : MixP} (h : AO W B m q) {g i : Nat} (k0 : keyV (.slice q.a0 m.base.length q.c0) ≠ some g) (k1 : keyV (.slice q.a1 m.next.length q.c1) ≠ some g) (k2 : keyV (.slice q.a2 m.held.length q.c2) ≠ some g) (u : Value) : AO (W.setCell ⟨g, i, none⟩ u) B m q :=
  ⟨own_else h.o0 k0 u, own_else h.o1 k1 u, own_else h.o2 k2 u, h.d01, h.d02, h.d12⟩
abbrev mz0 : Obj := .cells #[.slice none 0 0, .slice none 0 0, .slice none 0 0] 56
theorem ast_of {w0 v : World} {g : Nat} {m : Mx} {q : MixP} (hb : Below w0.heap.size w0 v) (hg : w0.heap.size ≤ g) (hw : Whole v g 56 #[.slice none 0 0, .slice none 0 0, .slice none 0 0]) (ha : AO v w0.heap.size m q)
    (n0 : keyV (.slice q.a0 m.base.length q.c0) ≠ some g) (n1 : keyV (.slice q.a1 m.next.length q.c1) ≠ some g) (n2 : keyV (.slice q.a2 m.held.length q.c2) ≠ some g) :
    ASt w0 g m q (((v.setCell ⟨g, 0, none⟩ (.slice q.a0 m.base.length q.c0)).setCell ⟨g, 1, none⟩ (.slice q.a1 m.next.length q.c1)).setCell ⟨g, 2, none⟩ (.slice q.a2 m.held.length q.c2)) :=
  ⟨((hb.setCell hg _).setCell hg _).setCell hg _, hg, ((hw.set 0 _).set 1 _).set 2 _, aoElse (aoElse (aoElse ha n0 n1 n2 _) n0 n1 n2 _) n0 n1 n2 _, n1⟩
section
variable {w0 v1 v2 v3 : World} {m : Mx} {A0 A1 A2 : Option Addr} {C0 C1 C2 : Nat}
theorem ast_a (h0 : v1.ownsRow w0.heap.size 3 1 (.slice A0 m.base.length C0) m.base.length (rowM m.base.length (iv m.base))) (h1 : v2.ownsRow v1.heap.size 3 1 (.slice A1 m.next.length C1) m.next.length (rowM m.next.length (iv m.next)))
    (h2 : v3.ownsRow v2.heap.size 84 1 (.slice A2 m.held.length C2) m.held.length (rowM m.held.length (u8v m.held))) (b0 : Below w0.heap.size w0 v1) (b1 : Below v1.heap.size v1 v2) (b2 : Below v2.heap.size v2 v3) :
    ASt w0 v3.heap.size m ⟨A0, C0, A1, C1, A2, C2⟩ (v3.alloc (.cells #[.slice A0 m.base.length C0, .slice A1 m.next.length C1, .slice A2 m.held.length C2] 56)) := by
  have s0 := b0.size
  have s1 := b1.size
  have s2 := b2.size
  have k1 := keyV_lt h1
  refine ⟨(b0.trans ((b1.trans (b2.mono s1)).mono s0)).alloc (by omega) _, by omega, Whole.new _ _ _, ?_, fun e => ?_⟩
  · exact ao_mk h0 h1 h2 b1 b2 ((Below.refl _ _).alloc (Nat.le_refl _) _) s0
  · have := (k1 _ e).2; omega
theorem ast_b (h0 : v1.ownsRow (w0.heap.size + 1) 3 1 (.slice A0 m.base.length C0) m.base.length (rowM m.base.length (iv m.base))) (h1 : v2.ownsRow v1.heap.size 3 1 (.slice A1 m.next.length C1) m.next.length (rowM m.next.length (iv m.next)))
    (h2 : v3.ownsRow v2.heap.size 84 1 (.slice A2 m.held.length C2) m.held.length (rowM m.held.length (u8v m.held))) (b0 : Below (w0.heap.size + 1) (w0.alloc mz0) v1) (b1 : Below v1.heap.size v1 v2) (b2 : Below v2.heap.size v2 v3) :
    ASt w0 w0.heap.size m ⟨A0, C0, A1, C1, A2, C2⟩ (((v3.setCell ⟨w0.heap.size, 0, none⟩ (.slice A0 m.base.length C0)).setCell ⟨w0.heap.size, 1, none⟩ (.slice A1 m.next.length C1)).setCell ⟨w0.heap.size, 2, none⟩ (.slice A2 m.held.length C2)) := by
  have s0 : w0.heap.size + 1 ≤ v1.heap.size := by have := b0.size; simpa using this
  have s1 := b1.size
  have s2 := b2.size
  have k0 := keyV_lt h0
  have k1 := keyV_lt h1
  have k2 := keyV_lt h2
  have hb := ((Below.refl w0.heap.size w0).alloc (Nat.le_refl _) mz0).trans (b0.mono (Nat.le_succ _))
  have hw : Whole v3 w0.heap.size _ _ := (((Whole.new w0 56 #[.slice none 0 0, .slice none 0 0, .slice none 0 0]).below b0 (Nat.lt_succ_self _)).below b1 (by omega)).below b2 (by omega)
  refine ast_of (q := ⟨A0, C0, A1, C1, A2, C2⟩) (hb.trans ((b1.trans (b2.mono s1)).mono (by omega))) (Nat.le_refl _) hw (ao_mk (own_base h0 (Nat.le_succ _)) h1 h2 b1 b2 (Below.refl _ _) (by omega)) ?_ ?_ ?_
  · intro e; have := (k0 _ e).1; omega
  · intro e; have := (k1 _ e).1; omega
  · intro e; have := (k2 _ e).1; omega
theorem ast_c (h0 : v1.ownsRow w0.heap.size 3 1 (.slice A0 m.base.length C0) m.base.length (rowM m.base.length (iv m.base))) (h1 : v2.ownsRow (v1.heap.size + 1) 3 1 (.slice A1 m.next.length C1) m.next.length (rowM m.next.length (iv m.next)))
    (h2 : v3.ownsRow v2.heap.size 84 1 (.slice A2 m.held.length C2) m.held.length (rowM m.held.length (u8v m.held))) (b0 : Below w0.heap.size w0 v1) (b1 : Below (v1.heap.size + 1) (v1.alloc mz0) v2) (b2 : Below v2.heap.size v2 v3) :
    ASt w0 v1.heap.size m ⟨A0, C0, A1, C1, A2, C2⟩ (((v3.setCell ⟨v1.heap.size, 0, none⟩ (.slice A0 m.base.length C0)).setCell ⟨v1.heap.size, 1, none⟩ (.slice A1 m.next.length C1)).setCell ⟨v1.heap.size, 2, none⟩ (.slice A2 m.held.length C2)) := by
  have s0 := b0.size
  have s1 : v1.heap.size + 1 ≤ v2.heap.size := by have := b1.size; simpa using this
  have s2 := b2.size
  have k0 := keyV_lt h0
  have k1 := keyV_lt h1
  have k2 := keyV_lt h2
  have hb1 := ((Below.refl v1.heap.size v1).alloc (Nat.le_refl _) mz0).trans (b1.mono (Nat.le_succ _))
  have hw : Whole v3 v1.heap.size _ _ := ((Whole.new v1 56 #[.slice none 0 0, .slice none 0 0, .slice none 0 0]).below b1 (Nat.lt_succ_self _)).below b2 (by omega)
  refine ast_of (q := ⟨A0, C0, A1, C1, A2, C2⟩) (b0.trans ((hb1.trans (b2.mono (by omega))).mono s0)) s0 hw (ao_mk h0 (own_base h1 (Nat.le_succ _)) h2 hb1 b2 (Below.refl _ _) s0) ?_ ?_ ?_
  · intro e; have := (k0 _ e).2; omega
  · intro e; have := (k1 _ e).1; omega
  · intro e; have := (k2 _ e).1; omega
theorem ast_d (h0 : v1.ownsRow w0.heap.size 3 1 (.slice A0 m.base.length C0) m.base.length (rowM m.base.length (iv m.base))) (h1 : v2.ownsRow v1.heap.size 3 1 (.slice A1 m.next.length C1) m.next.length (rowM m.next.length (iv m.next)))
    (h2 : v3.ownsRow (v2.heap.size + 1) 84 1 (.slice A2 m.held.length C2) m.held.length (rowM m.held.length (u8v m.held))) (b0 : Below w0.heap.size w0 v1) (b1 : Below v1.heap.size v1 v2) (b2 : Below (v2.heap.size + 1) (v2.alloc mz0) v3) :
    ASt w0 v2.heap.size m ⟨A0, C0, A1, C1, A2, C2⟩ (((v3.setCell ⟨v2.heap.size, 0, none⟩ (.slice A0 m.base.length C0)).setCell ⟨v2.heap.size, 1, none⟩ (.slice A1 m.next.length C1)).setCell ⟨v2.heap.size, 2, none⟩ (.slice A2 m.held.length C2)) := by
  have s0 := b0.size
  have s1 := b1.size
  have s2 : v2.heap.size + 1 ≤ v3.heap.size := by have := b2.size; simpa using this
  have k0 := keyV_lt h0
  have k1 := keyV_lt h1
  have k2 := keyV_lt h2
  have hb2 := ((Below.refl v2.heap.size v2).alloc (Nat.le_refl _) mz0).trans (b2.mono (Nat.le_succ _))
  have hw : Whole v3 v2.heap.size _ _ := (Whole.new v2 56 #[.slice none 0 0, .slice none 0 0, .slice none 0 0]).below b2 (Nat.lt_succ_self _)
  refine ast_of (q := ⟨A0, C0, A1, C1, A2, C2⟩) (b0.trans ((b1.trans (hb2.mono s1)).mono s0)) (by omega) hw (ao_mk h0 h1 (own_base h2 (Nat.le_succ _)) b1 hb2 (Below.refl _ _) s0) ?_ ?_ ?_
  · intro e; have := (k0 _ e).2; omega
  · intro e; have := (k1 _ e).2; omega
  · intro e; have := (k2 _ e).1; omega
end
theorem wh3 {v : World} {g : Nat} (h : Whole v g 56 #[.slice none 0 0, .slice none 0 0, .slice none 0 0]) : g < v.heap.size ∧ (∀ o, v.frozen? ⟨g, o, none⟩ = false) ∧ v.cell? ⟨g, 0, none⟩ = some (.slice none 0 0) ∧ v.cell? ⟨g, 1, none⟩ = some (.slice none 0 0) ∧ v.cell? ⟨g, 2, none⟩ = some (.slice none 0 0) :=
  ⟨h.lt, fun o => h.frozen o, h.cell 0, h.cell 1, h.cell 2⟩
theorem wh3_of {w v : World} (hb : Below (w.heap.size + 1) (w.alloc mz0) v) : Whole v w.heap.size 56 #[.slice none 0 0, .slice none 0 0, .slice none 0 0] := (Whole.new w _ _).below hb (Nat.lt_succ_self _)
/-- what Clone hands back, from a world that has one block more -/
theorem ownB {w w' : World} {o : Obj} {e : TypeId} {s n : Nat} {v : Value} {xs : List Value} (h : w'.ownsRow (w.alloc o).drew.heap.size e s v n xs) : w'.ownsRow (w.heap.size + 1) e s v n xs := by
  have e1 : (w.alloc o).drew.heap.size = w.heap.size + 1 := by show (w.alloc o).heap.size = _; simp
  rw [e1] at h; exact h
theorem ownA {w w' : World} {o : Obj} {e : TypeId} {s n : Nat} {v : Value} {xs : List Value} (h : w'.ownsRow (w.alloc o).heap.size e s v n xs) : w'.ownsRow (w.heap.size + 1) e s v n xs := by
  rw [show (w.alloc o).heap.size = w.heap.size + 1 by simp] at h; exact h
theorem belB {w w' : World} {o : Obj} (h : Below (w.alloc o).drew.heap.size (w.alloc o).drew w') : Below (w.heap.size + 1) (w.alloc o) w' := by
  have e1 : (w.alloc o).drew.heap.size = w.heap.size + 1 := by show (w.alloc o).heap.size = _; simp
  rw [e1] at h; exact ((Below.refl _ _).drew).trans h
theorem belA {w w' : World} {o : Obj} (h : Below (w.alloc o).heap.size (w.alloc o) w') : Below (w.heap.size + 1) (w.alloc o) w' := by
  rw [show (w.alloc o).heap.size = w.heap.size + 1 by simp] at h; exact h
set_option maxHeartbeats 8000000 in
set_option maxRecDepth 100000 in
theorem aborts_any (p : Prob) (q : ProbP) (m : Mx) (qm : MixP) (w : World) (hp : RProb w w.heap.size p q) (hbd : PBd p) (hm : RMix w w.heap.size m qm) (hmb : MBd m qm) (hok : MOk p m) :
    Calls Try.prog 60 #[probV p q, mixV m qm] w (Ret (AbR w (abL m) 0)) := by
  obtain ⟨W, hW, S⟩ := pm_boxes p q m qm w
  have HV := Lib.hid (mvalid_any p q m qm W (hp.to S.bel) hbd (hm.to S.bel) hmb)
  have hsz : w.heap.size + 2 ≤ W.heap.size := by rw [← hW]; simp
  have hps := prob_small hok.pr
  have h6 := open_6 hok hps.1
  have lb := hok.lb
  have ln := hok.ln
  have lh := hok.lh
  have l0 : m.base.length ≤ 1000000 := by omega
  have l1 : m.next.length ≤ 1000000 := by omega
  have l2 : m.held.length ≤ 1000000 := by omega
  have hmW := Lib.hid (fun W2 (h : Below W.heap.size W W2) => (hm.to S.bel).to h)
  rw [mixE_ok.2 hok] at HV
  have hmb0 := Lib.hid hmb
  obtain ⟨qa0, qc0, qa1, qc1, qa2, qc2, qa3, qc3⟩ := q
  obtain ⟨ma0, mc0, ma1, mc1, ma2, mc2⟩ := qm
  have H0 := Lib.hid (fun W2 (h : Below W.heap.size W W2) => cloneI_any ma0 mc0 m.base.length (iv m.base) W2 (hmW.out W2 h).r0 hmb.n0 (fun k _ => rfl) l0)
  have H1 := Lib.hid (fun W2 (h : Below W.heap.size W W2) => cloneI_any ma1 mc1 m.next.length (iv m.next) W2 (hmW.out W2 h).r1 hmb.n1 (fun k _ => rfl) l1)
  have H2 := Lib.hid (fun W2 (h : Below W.heap.size W W2) => cloneU_any ma2 mc2 m.held.length (u8v m.held) W2 (hmW.out W2 h).r2 hmb.n2 (fun k _ => rfl) l2)
  dsimp only at HV hW S hmW ⊢
  obtain ⟨⟨r1, f1, r10, r11, r12, -⟩, ⟨r2, f2, r20, r21, r22, r23, -⟩, -⟩ := S.facts
  have SW := Lib.hid S
  replace hok := Lib.hid hok
  replace lb := Lib.hid lb
  replace ln := Lib.hid ln
  replace lh := Lib.hid lh
  clear S hp hbd hm hmb hps
  go_enter Try.func60, Try.ntmps60
  go_wp2_with fail
  clear hW
  with_reducible refine HV.out.mono ?_
  rintro e w1 ⟨rfl, hb1⟩
  clear r1 f1 r10 r11 r12 r2 f2 r20 r21 r22 r23 HV
  have S1 := Lib.hid (SW.out.call hb1)
  replace hb1 := Lib.hid hb1
  obtain ⟨⟨r1, f1, r10, r11, r12, -⟩, ⟨r2, f2, r20, r21, r22, r23, -⟩, -⟩ := S1.out.facts
  go_wp2
  clear r1 f1 r10 r11 r12 r2 f2 r20 r21 r22 r23
  go_loopw [7, 24] (fun v s24 wr => ∃ j : Nat, j ≤ m.next.length ∧ s24 = .int .i64 (j : Int) ∧ OpO wr W.heap.size m j v ∧ Below W.heap.size W wr) (fun _ s24 _ => m.next.length - (intOf s24).toNat)
  case atStart => exact ⟨0, Nat.zero_le _, rfl, World.ownsRow_nil _ _ _ _, hb1.out⟩
  case round =>
    obtain ⟨j, hj, rfl, hown, hbel⟩ := hrel
    have T := Lib.hid (SW.out.call hbel)
    obtain ⟨⟨r1, f1, r10, r11, r12, -⟩, ⟨r2, f2, r20, r21, r22, r23, -⟩, -⟩ := T.out.facts
    have hB : W.heap.size ≤ wr.heap.size := hbel.size
    replace hbel := Lib.hid hbel
    by_cases hlt : j < m.next.length
    · obtain ⟨b, off, rfl, hb, hc⟩ := (hmW.out wr hbel.out).r1 (by omega)
      have y := hc j hlt
      unfold iv at y
      have jn : (j : Int) < (m.next.length : Int) := by omega
      have hl := Lib.hid (opN_len m j)
      have hY := Lib.hid (fun h => opN_yes (m := m) (j := j) h)
      have hYR := Lib.hid (fun h => opR_yes (m := m) (j := j) h)
      have hN := Lib.hid (fun h => opN_no (m := m) (j := j) h)
      obtain ⟨z, hz⟩ : ∃ z, gi m.next j = z := ⟨_, rfl⟩
      rw [hz] at y hY hYR hN
      replace hz := Lib.hid hz
      have hO := Lib.hid hown
      clear hown hc H0 H1 H2
      by_cases hn : 0 ≤ z
      · have i1 : decide (0 ≤ z) = true := decide_eq_true hn
        have hy := Lib.hid (hY.out hn)
        have hyr := Lib.hid (hYR.out hn)
        clear hY hYR hN
        go_wp2_with (at_builtin; refine push_own elInt rfl _ _ rfl W.heap.size _ (opN m j).length (opR m j) hO.out rfl [.int .i64 (j : Int)] rfl rfl rfl (by have := hl.out; omega) (by omega) hB ?_)
        intro v' w8 hown8 hgr hb8 hs8 hob8
        have hO8 : Hid (OpO w8 W.heap.size m (j + 1) v') := Lib.hid (by unfold OpO; rw [hy.out, hyr.out, List.length_append]; exact hown8)
        have hb9 : Hid (Below W.heap.size W w8) := Lib.hid (hbel.out.trans hb8)
        clear hown8 hgr hb8 hs8 hob8
        go_wp2
        go_roundw
        case rel => exact ⟨j + 1, by omega, by go_num, hO8.out, hb9.out⟩
        case measure => simp [intOf]; omega
      · have i1 : decide (0 ≤ z) = false := decide_eq_false hn
        have hO8 : Hid (OpO wr W.heap.size m (j + 1) _) := Lib.hid (by unfold OpO opR; rw [hN.out hn]; exact hO.out)
        clear hY hYR hN
        go_wp2
        go_roundw
        case rel => exact ⟨j + 1, by omega, by go_num, hO8.out, hbel.out⟩
        case measure => simp [intOf]; omega
    · obtain rfl : j = m.next.length := by omega
      obtain ⟨A, c, rfl, _, _, hA⟩ := own_arr (f := opv m) hown (fun k hk => opR_get (by rw [← opN_all]; exact hk))
      have hO := Lib.hid hown
      rw [opN_all] at hA
      obtain ⟨n, hn⟩ : ∃ n, (openL m).length = n := ⟨_, rfl⟩
      have hn2 : (opN m m.next.length).length = n := by rw [opN_all]; exact hn
      rw [hn2]
      rw [hn] at hA h6
      have w64 : 2 ^ n ≤ 64 := Nat.le_trans (Nat.pow_le_pow_right (by decide) h6) (by decide)
      replace hA := Lib.hid hA
      replace hn := Lib.hid hn
      replace hn2 := Lib.hid hn2
      rename World => wo
      clear hown hlt
      have hpw : wrap64 ((2 : Int) ^ n) = ((2 ^ n : Nat) : Int) := by
        have e : (2 : Int) ^ n = ((2 ^ n : Nat) : Int) := by simp
        rw [e]
        generalize 2 ^ n = z at w64
        unfold wrap64; omega
      obtain ⟨N, hN⟩ : ∃ N : Nat, 2 ^ n = N := ⟨_, rfl⟩
      rw [hN] at w64 hpw
      replace hN := Lib.hid hN
      go_wp2
      rw [hpw]
      clear hpw
      go_loopw [10, 39] (fun v s39 wr => ∃ (k : Nat) (Q : Nat → MixP), k ≤ N ∧ s39 = .int .i64 (k : Int) ∧ MxL wr w.heap.size wo.heap.size (abK m k) Q v ∧ Below wo.heap.size wo wr) (fun _ s39 _ => N - (intOf s39).toNat)
      case atStart => exact ⟨0, _, Nat.zero_le _, rfl, MxL.nil _ _ _, Below.refl _ _⟩
      case round =>
        clear r1 f1 r10 r11 r12 r2 f2 r20 r21 r22 r23
        rename World => wv
        obtain ⟨k, Q, hk, rfl, hM, hbo⟩ := hrel
        have hbel2 := Lib.hid (hbel.out.trans (hbo.mono hB))
        have T := Lib.hid (SW.out.call hbel2.out)
        have hsr : W.heap.size ≤ wv.heap.size := hbel2.out.size
        have hso : wo.heap.size ≤ wv.heap.size := hbo.size
        replace hbo := Lib.hid hbo
        replace hM := Lib.hid hM
        obtain ⟨⟨r1, f1, r10, r11, r12, -⟩, ⟨r2, f2, r20, r21, r22, r23, -⟩, -⟩ := T.out.facts
        by_cases hlt : k < N
        · have jk : (k : Int) < (N : Int) := by omega
          go_upto_region 15 with fail
          go_cut [12] (fun s12 wx => ∃ (g : Nat) (a0 a1 a2 : Option Addr) (c0 c1 c2 : Nat), s12 = .pointer (some ⟨g, 0, none⟩) ∧ ASt wv g m ⟨a0, c0, a1, c1, a2, c2⟩ wx)
          case first =>
            go_region_held3 (fun w' => w'.cell? ⟨w.heap.size + 1, 0, none⟩ = some (.slice ma0 m.base.length mc0) ∧ w'.cell? ⟨w.heap.size + 1, 1, none⟩ = some (.slice ma1 m.next.length mc1) ∧ w'.cell? ⟨w.heap.size + 1, 2, none⟩ = some (.slice ma2 m.held.length mc2)) (go_keep)
              (first
              | ((with_reducible refine (H0.out wv.drew (hbel2.out.drew)).mono ?_)
                 rintro e v1 ⟨_, rfl, A0, C0, rfl, own, hb⟩
                 have own0 := Lib.hid (own)
                 have hb0 := Lib.hid (((Drawn.refl wv).drew).below.trans hb)
                 have hv1 := Lib.hid (hbel2.out.trans ((((Drawn.refl wv).drew).below.trans hb).mono hsr))
                 have hs1 : W.heap.size ≤ v1.heap.size := hv1.out.size
                 have T1 := Lib.hid (SW.out.call hv1.out)
                 clear own hb r1 f1 r10 r11 r12 r2 f2 r20 r21 r22 r23
                 obtain ⟨⟨r1, f1, r10, r11, r12, -⟩, ⟨r2, f2, r20, r21, r22, r23, -⟩, -⟩ := T1.out.facts)
              | ((with_reducible refine (H0.out (wv.alloc mz0).drew ((hbel2.out.alloc hsr mz0).drew)).mono ?_)
                 rintro e v1 ⟨_, rfl, A0, C0, rfl, own, hb⟩
                 have own0 := Lib.hid (ownB own)
                 have hb0 := Lib.hid (belB hb)
                 have hv1 := Lib.hid (hbel2.out.trans ((((Below.refl wv.heap.size wv).alloc (Nat.le_refl _) mz0).trans ((belB hb).mono (Nat.le_succ _))).mono hsr))
                 have hs1 : W.heap.size ≤ v1.heap.size := hv1.out.size
                 have T1 := Lib.hid (SW.out.call hv1.out)
                 have hWh := Lib.hid (wh3_of hb0.out)
                 obtain ⟨bz, bf, b0, b1, b2⟩ := wh3 hWh.out
                 have i1 : ¬ w.heap.size + 1 = wv.heap.size := by omega
                 have i2 : ¬ wv.heap.size = w.heap.size + 1 := by omega
                 have i3 : ¬ w.heap.size = wv.heap.size := by omega
                 have i4 : ¬ wv.heap.size = w.heap.size := by omega
                 clear own hb r1 f1 r10 r11 r12 r2 f2 r20 r21 r22 r23
                 obtain ⟨⟨r1, f1, r10, r11, r12, -⟩, ⟨r2, f2, r20, r21, r22, r23, -⟩, -⟩ := T1.out.facts)
              | ((with_reducible refine (H1.out v1 hv1.out).mono ?_)
                 rintro e v2 ⟨_, rfl, A1, C1, rfl, own, hb⟩
                 have own1 := Lib.hid (own)
                 have hb1 := Lib.hid (hb)
                 have hv2 := Lib.hid (hv1.out.trans ((hb).mono hs1))
                 have hs2 : W.heap.size ≤ v2.heap.size := hv2.out.size
                 have T2 := Lib.hid (SW.out.call hv2.out)
                 first
                   | (have hWn := Lib.hid (hWh.out.below hb1.out hWh.out.lt)
                      clear hWh bz bf b0 b1 b2
                      obtain ⟨bz, bf, b0, b1, b2⟩ := wh3 hWn.out
                      rename Hid (Whole _ _ _ _) => hWh)
                   | skip
                 clear own hb r1 f1 r10 r11 r12 r2 f2 r20 r21 r22 r23
                 obtain ⟨⟨r1, f1, r10, r11, r12, -⟩, ⟨r2, f2, r20, r21, r22, r23, -⟩, -⟩ := T2.out.facts)
              | ((with_reducible refine (H1.out (v1.alloc mz0) (hv1.out.alloc hs1 mz0)).mono ?_)
                 rintro e v2 ⟨_, rfl, A1, C1, rfl, own, hb⟩
                 have own1 := Lib.hid (ownA own)
                 have hb1 := Lib.hid (belA hb)
                 have hv2 := Lib.hid (hv1.out.trans ((((Below.refl v1.heap.size v1).alloc (Nat.le_refl _) mz0).trans ((belA hb).mono (Nat.le_succ _))).mono hs1))
                 have hs2 : W.heap.size ≤ v2.heap.size := hv2.out.size
                 have T2 := Lib.hid (SW.out.call hv2.out)
                 have hWh := Lib.hid (wh3_of hb1.out)
                 obtain ⟨bz, bf, b0, b1, b2⟩ := wh3 hWh.out
                 have i1 : ¬ w.heap.size + 1 = v1.heap.size := by omega
                 have i2 : ¬ v1.heap.size = w.heap.size + 1 := by omega
                 have i3 : ¬ w.heap.size = v1.heap.size := by omega
                 have i4 : ¬ v1.heap.size = w.heap.size := by omega
                 clear own hb r1 f1 r10 r11 r12 r2 f2 r20 r21 r22 r23
                 obtain ⟨⟨r1, f1, r10, r11, r12, -⟩, ⟨r2, f2, r20, r21, r22, r23, -⟩, -⟩ := T2.out.facts)
              | ((with_reducible refine (H2.out v2 hv2.out).mono ?_)
                 rintro e v3 ⟨_, rfl, A2, C2, rfl, own, hb⟩
                 have own2 := Lib.hid (own)
                 have hb2 := Lib.hid (hb)
                 have hv3 := Lib.hid (hv2.out.trans ((hb).mono hs2))
                 have hs3 : W.heap.size ≤ v3.heap.size := hv3.out.size
                 have T3 := Lib.hid (SW.out.call hv3.out)
                 first
                   | (have hWn := Lib.hid (hWh.out.below hb2.out hWh.out.lt)
                      clear hWh bz bf b0 b1 b2
                      obtain ⟨bz, bf, b0, b1, b2⟩ := wh3 hWn.out
                      rename Hid (Whole _ _ _ _) => hWh)
                   | skip
                 clear own hb r1 f1 r10 r11 r12 r2 f2 r20 r21 r22 r23
                 obtain ⟨⟨r1, f1, r10, r11, r12, -⟩, ⟨r2, f2, r20, r21, r22, r23, -⟩, -⟩ := T3.out.facts)
              | ((with_reducible refine (H2.out (v2.alloc mz0) (hv2.out.alloc hs2 mz0)).mono ?_)
                 rintro e v3 ⟨_, rfl, A2, C2, rfl, own, hb⟩
                 have own2 := Lib.hid (ownA own)
                 have hb2 := Lib.hid (belA hb)
                 have hv3 := Lib.hid (hv2.out.trans ((((Below.refl v2.heap.size v2).alloc (Nat.le_refl _) mz0).trans ((belA hb).mono (Nat.le_succ _))).mono hs2))
                 have hs3 : W.heap.size ≤ v3.heap.size := hv3.out.size
                 have T3 := Lib.hid (SW.out.call hv3.out)
                 have hWh := Lib.hid (wh3_of hb2.out)
                 obtain ⟨bz, bf, b0, b1, b2⟩ := wh3 hWh.out
                 have i1 : ¬ w.heap.size + 1 = v2.heap.size := by omega
                 have i2 : ¬ v2.heap.size = w.heap.size + 1 := by omega
                 have i3 : ¬ w.heap.size = v2.heap.size := by omega
                 have i4 : ¬ v2.heap.size = w.heap.size := by omega
                 clear own hb r1 f1 r10 r11 r12 r2 f2 r20 r21 r22 r23
                 obtain ⟨⟨r1, f1, r10, r11, r12, -⟩, ⟨r2, f2, r20, r21, r22, r23, -⟩, -⟩ := T3.out.facts))
            all_goals (go_wp2_with fail; go_meet)
            all_goals
              first
                | exact ⟨_, A0, A1, A2, C0, C1, C2, rfl, ast_a own0.out own1.out own2.out hb0.out hb1.out hb2.out⟩
                | exact ⟨_, A0, A1, A2, C0, C1, C2, rfl, ast_b own0.out own1.out own2.out hb0.out hb1.out hb2.out⟩
                | exact ⟨_, A0, A1, A2, C0, C1, C2, rfl, ast_c own0.out own1.out own2.out hb0.out hb1.out hb2.out⟩
                | exact ⟨_, A0, A1, A2, C0, C1, C2, rfl, ast_d own0.out own1.out own2.out hb0.out hb1.out hb2.out⟩
          case rest =>
            rename World => wx
            obtain ⟨g, a0, a1, a2, c0, c1, c2, rfl, hA0⟩ := hcut
            have hl := Lib.hid (abN_len m k)
            go_wp2
            clear r1 f1 r10 r11 r12 r2 f2 r20 r21 r22 r23
            go_loopw [54] (fun s54 wi => ∃ j : Nat, j ≤ n ∧ s54 = .int .i64 (j : Int) ∧ ASt wv g (abX m k j) ⟨a0, c0, a1, c1, a2, c2⟩ wi) (fun s54 _ => n - (intOf s54).toNat)
            case atStart => exact ⟨0, Nat.zero_le _, rfl, hA0⟩
            case round =>
              rename World => wi
              obtain ⟨j, hj, rfl, hX⟩ := hrel
              have hsi := hX.bel.size
              have hbi := Lib.hid (hbo.out.trans (hX.bel.mono hso))
              have hbW := Lib.hid (hbel2.out.trans (hX.bel.mono hsr))
              have T := Lib.hid (SW.out.call hbW.out)
              obtain ⟨⟨r1, f1, r10, r11, r12, -⟩, ⟨r2, f2, r20, r21, r22, r23, -⟩, -⟩ := T.out.facts
              obtain ⟨gz, gf, g0, g1, g2⟩ := hX.facts
              dsimp only at g0 g1 g2
              by_cases hlt2 : j < n
              · obtain ⟨b, off, rfl, hb, hc⟩ := hA.out (by omega)
                have y := (hbi.out.cell (p := ⟨b, off + j, none⟩) hb).trans (hc j hlt2)
                unfold opv at y
                have hjL : j < (openL m).length := by rw [hn.out]; exact hlt2
                have hoL := (openL_lt (opA_mem hjL)).1
                have hlx : (abX m k j).next.length = m.next.length := hl.out j
                obtain ⟨bb, eb, hne, lt, fr, cl, hs⟩ := hX.set (i := opA m j) (by rw [hlx]; exact hoL)
                dsimp only at eb
                subst eb
                have ht := tb6 (k := k) (j := j) (by omega) (by omega)
                have hyes := Lib.hid (abN_yes (m := m) (k := k) hjL)
                have hno := Lib.hid (abN_no (m := m) (k := k) hjL)
                have jj : (j : Int) < (n : Int) := by omega
                have j6 : (j : Int) ≤ 64 := by omega
                have e64 : (k : Int) / 2 ^ j = ((k / 2 ^ j : Nat) : Int) := by simp
                have w64' : wrap64 ((k : Int) / 2 ^ j) = ((k / 2 ^ j : Nat) : Int) := by
                  have : k / 2 ^ j ≤ k := Nat.div_le_self _ _
                  rw [e64]
                  generalize k / 2 ^ j = z at this
                  unfold wrap64; omega
                obtain ⟨o, ho⟩ : ∃ o, opA m j = o := ⟨_, rfl⟩
                rw [ho] at y cl hs hoL hyes
                replace ho := Lib.hid ho
                have jo : (o : Int) < (m.next.length : Int) := by omega
                have g1' : wi.cell? ⟨g, 1, none⟩ = some (.slice (some ⟨bb, 0, none⟩) m.next.length c1) := by rw [g1, hlx]
                have hX2 := Lib.hid hX
                have hs2 := Lib.hid (hs (-1))
                replace hlx := Lib.hid hlx
                replace e64 := Lib.hid e64
                replace hjL := Lib.hid hjL
                clear hX hc hs g1
                cases hkb : k.testBit j with
                | true =>
                  rw [hkb] at ht
                  have hy := Lib.hid (hyes.out hkb)
                  replace hkb := Lib.hid hkb
                  clear hyes hno
                  go_wp2
                  go_roundw
                  case rel => exact ⟨j + 1, by omega, by go_num, by unfold abX; rw [hy.out]; exact hs2.out⟩
                  case measure => simp [intOf]; omega
                | false =>
                  rw [hkb] at ht
                  have hy := Lib.hid (hno.out hkb)
                  replace hkb := Lib.hid hkb
                  clear hyes hno
                  go_wp2
                  go_roundw
                  case rel => exact ⟨j + 1, by omega, by go_num, by unfold abX; rw [hy.out]; exact hX2.out⟩
                  case measure => simp [intOf]; omega
              · obtain rfl : j = n := by omega
                have hab : abX m k j = abM m k := by rw [← hn.out]; exact abX_all m k
                rw [hab] at hX g0 g1 g2
                have hEl : Hid (MEl wi w.heap.size wo.heap.size (abM m k) ⟨a0, c0, a1, c1, a2, c2⟩) := Lib.hid ⟨Or.inr (hX.ao.base hso), hX.ao.bd hmb0.out.h8⟩
                have hMi := Lib.hid (hM.out.to (by omega) hX.bel)
                have hMr := Lib.hid hMi.out.row
                have hso2 : wo.heap.size ≤ wi.heap.size := Nat.le_trans hso hsi
                have hK := Lib.hid (abK_len m k)
                have hKn := Lib.hid (abK_next m k)
                obtain ⟨x, hx⟩ : ∃ x, abM m k = x := ⟨_, rfl⟩
                rw [hx] at hEl hKn g0 g1 g2
                replace hx := Lib.hid hx
                clear hX hlt2 hab
                go_wp2_with (at_builtin; refine push_own elMix rfl _ _ rfl wo.heap.size _ (abK m k).length (mxRow (abK m k) Q) hMr.out rfl [.slice a0 x.base.length c0, .slice a1 x.next.length c1, .slice a2 x.held.length c2] rfl rfl rfl (by rw [hK.out]; omega) (by omega) hso2 ?_)
                intro v' w6 hown6 hg6 hb6 hs6 _
                have hM6 := Lib.hid (hMi.out.snoc hEl.out (by omega) hso2 hown6 hg6)
                rw [← hKn.out] at hM6
                have hb7 := Lib.hid (hbi.out.trans hb6)
                clear hown6 hg6 hb6 hs6
                go_wp2
                go_roundw
                case rel => exact ⟨k + 1, _, by omega, by go_num, hM6.out, hb7.out⟩
                case measure => simp [intOf]; omega
        · obtain rfl : k = N := by omega
          have hM7 := hM.out
          have hKN : abK m k = abL m := by rw [← hN.out, ← hn.out]; exact abK_all m
          rw [hKN] at hM7
          obtain ⟨AM, cM, rfl, -⟩ := hM7.arr
          have hM8 := Lib.hid (hM7.base (B' := w.heap.size) (by omega))
          clear hM7 hlt
          go_wp2
          refine bodyPost_ret (v := .tuple #[.slice AM (abL m).length cM, .int .i64 0]) (by simp [results, Try.results60, go_sem]) rfl ?_
          exact Ret.mk ⟨T.out.bel, AM, cM, Q, rfl, hM8.out⟩
end Go.Proofs.Ytickckehhfdoeaa

namespace Go.Proofs.Ytickckehhfdoeaa
open Go.RowKit Go.Sv
set_option maxHeartbeats 8000000 in
set_option maxRecDepth 100000 in
theorem blame_any (p : Prob) (q : ProbP) (m : Mx) (qm : MixP) (w : World) (hp : RProb w w.heap.size p q) (hbd : PBd p) (hm : RMix w w.heap.size m qm) (hmb : MBd m qm) (hok : MOk p m) :
    Calls Try.prog 32 #[probV p q, mixV m qm] w (Ret (BlaR w (blmE p m))) := by
  obtain ⟨W0, hW0, S0⟩ := pm_boxes p q m qm w
  have h8 : H8 m := hmb.h8
  have S := (S0.box' 56 [.slice none 0 0, .slice none 0 0, .slice none 0 0] (K := w.heap.size + 1 + 1) (by rw [← hW0]; simp)).box' 80 [.int .i64 0, .int .i64 0, .int .i64 0] (K := w.heap.size + 1 + 1 + 1) (by rw [← hW0]; simp)
  obtain ⟨W, hW, S⟩ : ∃ W, (W0.alloc (.cells [Value.slice none 0 0, .slice none 0 0, .slice none 0 0].toArray 56)).alloc (.cells [Value.int .i64 0, .int .i64 0, .int .i64 0].toArray 80) = W ∧ Fm w W _ _ := ⟨_, rfl, S⟩
  rw [← hW0] at hW
  have hsz : w.heap.size + 4 ≤ W.heap.size := by rw [← hW]; simp
  have hps := prob_small hok.pr
  have h6 := open_6 hok hps.1
  have HA := Lib.hid (aborts_any p q m qm W (hp.to S.bel) hbd (hm.to S.bel) hmb hok)
  have HC := Lib.hid (fun (x : Mx) (qx : MixP) (W2 : World) (h : Below W.heap.size W W2) (hx : RMix W2 W2.heap.size x qx) (hxo : MOk p x) (h8 : H8 x) => conf_any p q x qx W2 ((hp.to S.bel).to h) hx hxo h8)
  have hab := Lib.hid (fun k => abM_ok hok k)
  have hab8 := Lib.hid (fun k => abM_h8 h8 k)
  have hrA := Lib.hid (fun h => rob_all (p := p) (m := m) h)
  have hrN := Lib.hid (fun k hk h => rob_not (p := p) (m := m) (k := k) hk h)
  have hLat := Lib.hid (fun k hk => abL_at (m := m) (k := k) hk)
  obtain ⟨N, hN⟩ : ∃ N : Nat, 2 ^ (openL m).length = N := ⟨_, rfl⟩
  have hN64 : N ≤ 64 := by rw [← hN]; exact Nat.le_trans (Nat.pow_le_pow_right (by decide) h6) (by decide)
  have hLl := abL_len m
  rw [hN] at hrA hrN hLat hLl
  obtain ⟨L, hL⟩ : ∃ L, abL m = L := ⟨_, rfl⟩
  rw [hL] at HA hLat hLl
  obtain ⟨qa0, qc0, qa1, qc1, qa2, qc2, qa3, qc3⟩ := q
  obtain ⟨ma0, mc0, ma1, mc1, ma2, mc2⟩ := qm
  dsimp only at HA HC hW S hW0 ⊢
  obtain ⟨⟨r3, f3, r30, r31, r32, -⟩, ⟨r4, f4, r40, r41, r42, -⟩, ⟨r1, f1, r10, r11, r12, -⟩, ⟨r2, f2, r20, r21, r22, r23, -⟩, -⟩ := S.facts
  have SW := Lib.hid S
  replace hok := Lib.hid hok
  clear S S0 hp hbd hm hmb hps hW0 hN hL h6
  go_enter Try.func32, Try.ntmps32
  go_wp2_with fail
  clear hW
  with_reducible refine HA.out.mono ?_
  rintro e w1 ⟨_, rfl, hb1, A, c, Q, rfl, hM⟩
  clear r3 f3 r30 r31 r32 r4 f4 r40 r41 r42 r1 f1 r10 r11 r12 r2 f2 r20 r21 r22 r23 HA
  have S1 := Lib.hid (SW.out.call hb1)
  have hW1 : W.heap.size ≤ w1.heap.size := hb1.size
  replace hb1 := Lib.hid hb1
  replace hM := Lib.hid hM
  rw [hLl]
  obtain ⟨⟨r3, f3, r30, r31, r32, -⟩, ⟨r4, f4, r40, r41, r42, -⟩, ⟨r1, f1, r10, r11, r12, -⟩, ⟨r2, f2, r20, r21, r22, r23, -⟩, -⟩ := S1.out.facts
  go_wp2
  clear r3 f3 r30 r31 r32 r4 f4 r40 r41 r42 r1 f1 r10 r11 r12 r2 f2 r20 r21 r22 r23
  go_loopw [25] (fun s25 wr => ∃ k : Nat, k ≤ N ∧ s25 = .int .i64 (k : Int) ∧ (∀ j, j < k → (foundL p (abM m j)).length = 0) ∧ Below w1.heap.size w1 wr) (fun s25 _ => N - (intOf s25).toNat)
  case atStart => exact ⟨0, Nat.zero_le _, rfl, fun j hj => by omega, Below.refl _ _⟩
  case round =>
    obtain ⟨k, hk, rfl, hall, hb⟩ := hrel
    have T := Lib.hid (S1.out.call hb)
    obtain ⟨⟨r3, f3, r30, r31, r32, -⟩, ⟨r4, f4, r40, r41, r42, -⟩, ⟨r1, f1, r10, r11, r12, -⟩, ⟨r2, f2, r20, r21, r22, r23, -⟩, -⟩ := T.out.facts
    have hs1 : w1.heap.size ≤ wr.heap.size := hb.size
    replace hall := Lib.hid hall
    by_cases hlt : k < N
    · obtain ⟨AM, cM, hv, haM⟩ := hM.out.arr
      injection hv with e1 e2 e3
      subst e1 e3
      obtain ⟨bM, oM, rfl, hbM, hcM⟩ := haM (by omega)
      obtain ⟨d0, d1, d2⟩ := mx_cells (hcM k (by omega))
      have hEk := Lib.hid (((hM.out.el k (by omega)).mix hW1).to hb)
      rw [hLat.out k hlt] at d0 d1 d2 hEk
      have k0 := (hb.cell (p := ⟨bM, oM + k * 3, none⟩) hbM).trans d0
      have k1 := (hb.cell (p := ⟨bM, oM + k * 3 + 1, none⟩) hbM).trans d1
      have k2 := (hb.cell (p := ⟨bM, oM + k * 3 + 2, none⟩) hbM).trans d2
      have jk : (k : Int) < (N : Int) := by omega
      have hxo := Lib.hid (hab.out k)
      have hx8 := Lib.hid (hab8.out k)
      have hno := Lib.hid (fun h => hrN.out k hlt h)
      have hnx : Hid ((foundL p (abM m k)).length = 0 → ∀ j, j < k + 1 → (foundL p (abM m j)).length = 0) := Lib.hid fun h j hj => by
        rcases Nat.lt_succ_iff_lt_or_eq.1 hj with h1 | h1
        · exact hall.out j h1
        · rw [h1]; exact h
      obtain ⟨x, hx⟩ : ∃ x, abM m k = x := ⟨_, rfl⟩
      rw [hx] at k0 k1 k2 hEk hxo hx8 hno hnx
      obtain ⟨⟨xa0, xc0, xa1, xc1, xa2, xc2⟩, hq⟩ : ∃ y, Q k = y := ⟨_, rfl⟩
      rw [hq] at k0 k1 k2 hEk
      dsimp only at k0 k1 k2
      obtain ⟨W3, (hW3 : wr.alloc (.cells #[.slice xa0 x.base.length xc0, .slice xa1 x.next.length xc1, .slice xa2 x.held.length xc2] 56) = W3), S3, hB3⟩ := fm_boxE T.out 56 [.slice xa0 x.base.length xc0, .slice xa1 x.next.length xc1, .slice xa2 x.held.length xc2]
      have hb3 := Lib.hid (hb.trans (hB3.mono hs1))
      have H := Lib.hid (HC.out x ⟨xa0, xc0, xa1, xc1, xa2, xc2⟩ W3 (hb1.out.trans (hb3.out.mono hW1)) (hEk.out.to hB3) hxo.out hx8.out)
      obtain ⟨⟨z1, g1, z10, z11, z12, -⟩, ⟨y3, h3, y30, y31, y32, -⟩, ⟨y4, h4, y40, y41, y42, -⟩, ⟨y1, h1, y10, y11, y12, -⟩, ⟨y2, h2, y20, y21, y22, y23, -⟩, -⟩ := S3.facts
      replace S3 := Lib.hid S3
      replace hx := Lib.hid hx
      clear hcM haM d0 d1 d2 hq
      go_wp2_with fail
      clear hW3
      with_reducible refine H.out.mono ?_
      rintro e w4 ⟨_, rfl, hb4, A4, c4, rfl, hown⟩
      clear r3 f3 r30 r31 r32 r4 f4 r40 r41 r42 r1 f1 r10 r11 r12 r2 f2 r20 r21 r22 r23 z1 g1 z10 z11 z12 y3 h3 y30 y31 y32 y4 h4 y40 y41 y42 y1 h1 y10 y11 y12 y2 h2 y20 y21 y22 y23 k0 k1 k2 H
      have S4 := Lib.hid (S3.out.call hb4)
      have hb5 := Lib.hid (hb3.out.trans (hb4.mono (Nat.le_trans hs1 hB3.size)))
      obtain ⟨⟨z1, g1, z10, z11, z12, -⟩, ⟨y3, h3, y30, y31, y32, -⟩, ⟨y4, h4, y40, y41, y42, -⟩, ⟨y1, h1, y10, y11, y12, -⟩, ⟨y2, h2, y20, y21, y22, y23, -⟩, -⟩ := S4.out.facts
      obtain ⟨F, hF⟩ : ∃ F, foundL p x = F := ⟨_, rfl⟩
      rw [hF] at hown hno hnx
      rw [hF]
      replace hF := Lib.hid hF
      by_cases hlen : F.length = 0
      · have hn2 := Lib.hid (hnx.out hlen)
        rw [hlen]
        clear hown hnx hno hlen hall
        go_wp2
        go_roundw
        case rel => exact ⟨k + 1, by omega, by go_num, hn2.out, hb5.out⟩
        case measure => simp [intOf]; omega
      · obtain ⟨A', c', hv, _, _, ha⟩ := own_form hown
        injection hv with e1 e2 e3
        subst e1 e3
        obtain ⟨bF, rfl, hBF, hbF, hcF⟩ := ha (by omega)
        have c0 := (hcF 0 (by omega)).trans (cfRow_get (l := F) (k := 0) (i := 0) (by omega) (by decide))
        have c1 := (hcF 1 (by omega)).trans (cfRow_get (l := F) (k := 0) (i := 1) (by omega) (by decide))
        have c2 := (hcF 2 (by omega)).trans (cfRow_get (l := F) (k := 0) (i := 2) (by omega) (by decide))
        unfold cfF cfC at c0 c1 c2
        have hW3 : W.heap.size ≤ W3.heap.size := Nat.le_trans hW1 hb3.out.size
        have i1 : ¬ bF = w.heap.size + 1 + 1 := by omega
        have i2 : ¬ w.heap.size + 1 + 1 = bF := by omega
        have i3 : ¬ bF = w.heap.size + 1 + 1 + 1 := by omega
        have i4 : ¬ w.heap.size + 1 + 1 + 1 = bF := by omega
        have i5 : ¬ wr.heap.size = w.heap.size + 1 + 1 := by omega
        have i6 : ¬ w.heap.size + 1 + 1 = wr.heap.size := by omega
        have i7 : ¬ wr.heap.size = w.heap.size + 1 + 1 + 1 := by omega
        have i8 : ¬ w.heap.size + 1 + 1 + 1 = wr.heap.size := by omega
        have hR := Lib.hid (hno.out (by omega))
        have hE : Hid (blmE p m = 0) := Lib.hid (by unfold blmE; rw [hR.out]; rfl)
        have jF : (0 : Int) < (F.length : Int) := by omega
        have jF2 : 0 < F.length := by omega
        obtain ⟨v0, hv0⟩ : ∃ v, (cfAt F 0).table = v := ⟨_, rfl⟩
        obtain ⟨v1, hv1⟩ : ∃ v, (cfAt F 0).writer = v := ⟨_, rfl⟩
        obtain ⟨v2, hv2⟩ : ∃ v, (cfAt F 0).reader = v := ⟨_, rfl⟩
        rw [hv0] at c0
        rw [hv1] at c1
        rw [hv2] at c2
        clear hv0 hv1 hv2 hcF ha hnx hno hlen hall
        replace hown := Lib.hid hown
        have S6 := Lib.hid ((((((S4.out.set 2 rfl 0 (.slice xa0 x.base.length xc0)).set 2 rfl 1 (.slice xa1 x.next.length xc1)).set 2 rfl 2 (.slice xa2 x.held.length xc2)).set 1 rfl 0 (.int .i64 v0)).set 1 rfl 1 (.int .i64 v1)).set 1 rfl 2 (.int .i64 v2)).drew
        go_wp2
        go_region_law ((fail))
        all_goals go_wp2_with fail
        all_goals clear z1 g1 z10 z11 z12 y3 h3 y30 y31 y32 y4 h4 y40 y41 y42 y1 h1 y10 y11 y12 y2 h2 y20 y21 y22 y23 c0 c1 c2
        all_goals obtain ⟨-, ⟨y3, h3, y30, y31, y32, -⟩, ⟨y4, h4, y40, y41, y42, -⟩, -⟩ := S6.out.facts
        all_goals
          refine bodyPost_ret (v := .tuple #[.agg #[.slice xa0 x.base.length xc0, .slice xa1 x.next.length xc1, .slice xa2 x.held.length xc2], .agg #[.int .i64 v0, .int .i64 v1, .int .i64 v2], .int .i64 0]) (by simp [results, Try.results32, go_sem, y30, y31, y32, y40, y41, y42]) rfl ?_
          exact Ret.mk (by rw [hE.out]; exact ⟨S6.out.bel, _, _, _, _, _, _, _, _, _, _, _, _, rfl⟩)
    · obtain rfl : k = N := by omega
      have hE : Hid (blmE p m = 15) := Lib.hid (by unfold blmE; rw [hrA.out hall.out]; rfl)
      have S6 := Lib.hid ((((((T.out.set 1 rfl 0 (.slice none 0 0)).set 1 rfl 1 (.slice none 0 0)).set 1 rfl 2 (.slice none 0 0)).set 0 rfl 0 (.int .i64 0)).set 0 rfl 1 (.int .i64 0)).set 0 rfl 2 (.int .i64 0))
      clear hlt
      go_wp2
      clear r3 f3 r30 r31 r32 r4 f4 r40 r41 r42 r1 f1 r10 r11 r12 r2 f2 r20 r21 r22 r23
      obtain ⟨⟨y3, h3, y30, y31, y32, -⟩, ⟨y4, h4, y40, y41, y42, -⟩, -⟩ := S6.out.facts
      refine bodyPost_ret (v := .tuple #[.agg #[.slice none 0 0, .slice none 0 0, .slice none 0 0], .agg #[.int .i64 0, .int .i64 0, .int .i64 0], .int .i64 15]) (by simp [results, Try.results32, go_sem, y30, y31, y32, y40, y41, y42]) rfl ?_
      exact Ret.mk (by rw [hE.out]; exact ⟨S6.out.bel, none, none, none, 0, 0, 0, 0, 0, 0, 0, 0, 0, rfl⟩)
theorem robust_any (p : Prob) (q : ProbP) (m : Mx) (qm : MixP) (w : World) (hp : RProb w w.heap.size p q) (hbd : PBd p) (hm : RMix w w.heap.size m qm) (hmb : MBd m qm) (hok : MOk p m) :
    Calls Try.prog 14 #[probV p q, mixV m qm] w fun e w' => e = .returned (.tuple #[.bool (robB p m), .int .i64 0]) ∧ Below w.heap.size w w' := by
  have h := robust_of p q m qm (blmE p m) w (fun W hb => blame_any p q m qm W (hp.to hb) hbd (hm.to hb) hmb hok)
  have e : robA (blmE p m) = .tuple #[.bool (robB p m), .int .i64 0] := by
    unfold robA blmE
    cases robB p m <;> rfl
  rw [e] at h
  exact h
end Go.Proofs.Ytickckehhfdoeaa

namespace Go.Proofs.Ytickckehhfdoeaa
open Go.RowKit Go.Sv
set_option maxHeartbeats 4000000 in
theorem mul64_1 (n : Nat) (h : n ≤ 6) (w : World) : Calls Try.prog 88 #[.int .u64 1, .int .u64 (n : Int)] w fun e w' => e = .returned (.tuple #[.int .u64 0, .int .u64 (n : Int)]) ∧ w = w' := by
  have key : n = 0 ∨ n = 1 ∨ n = 2 ∨ n = 3 ∨ n = 4 ∨ n = 5 ∨ n = 6 := by omega
  have h1 : bits .and .u64 1 4294967295 = 1 := by decide +kernel
  have hn : bits .and .u64 (n : Int) 4294967295 = (n : Int) := by rcases key with rfl | rfl | rfl | rfl | rfl | rfl | rfl <;> decide +kernel
  have h2 : ((1 : Int) / 4294967296) = 0 := by decide
  have h3 : ((n : Int) / 4294967296) = 0 := by omega
  have h4 : bits .and .u64 0 4294967295 = 0 := by decide +kernel
  have wz : IntKind.u64.wrap 0 = 0 := by decide +kernel
  have wn : IntKind.u64.wrap (n : Int) = (n : Int) := by rw [IntKind.wrap_u64]; omega
  clear key
  go_enter Try.func88, Try.ntmps88
  go_wp2
  go_ret2
  exact ⟨rfl, rfl⟩
theorem mul_1 (n : Nat) (h : n ≤ 6) (w : World) : Calls Try.prog 67 #[.int .u64 1, .int .u64 (n : Int)] w fun e w' => e = .returned (.tuple #[.int .u64 0, .int .u64 (n : Int)]) ∧ w = w' := by
  have H := Lib.hid (mul64_1 n h w)
  have wn : IntKind.u64.wrap (n : Int) = (n : Int) := by rw [IntKind.wrap_u64]; omega
  have w1 : IntKind.u64.wrap 1 = 1 := by decide +kernel
  have w0 : IntKind.u64.wrap 0 = 0 := by decide +kernel
  go_enter Try.func67, Try.ntmps67
  go_wp2_with fail
  with_reducible refine H.out.mono ?_
  rintro e w' ⟨rfl, rfl⟩
  go_wp2
  go_ret2
  exact ⟨rfl, rfl⟩
def zeC (k : IntKind) (n : Nat) : List Value := List.replicate n (.int k 0)
theorem mk_int (n : Nat) (hn : n ≤ 1000) : ∃ O : Obj, (∀ w : World, (Instr.makeSlice 36 (.int .i64 (n : Int)) (.int .i64 (n : Int))).run Try.prog w = .ok (.slice (some ⟨w.heap.size, 0, none⟩) n n) (w.alloc O)) ∧ ∀ w : World, Whole (w.alloc O) w.heap.size 3 (zeC .i64 n).toArray := by
  obtain ⟨i, hi, e1, e2, e3⟩ := info_parts elInt.hi
  refine ⟨.cells (zeC .i64 n).toArray 3, fun w => ?_, fun w => Whole.new w _ _⟩
  have h := run_makeSlice (P := Try.prog) (w := w) 36 3 i (.int .i64 0) elInt.ht hi e1 .i64 .i64 (n : Int) (n : Int) (by omega) (Int.le_refl _) (by rw [e2, Int.toNat_natCast]; omega) (by rw [e3]; omega) (by omega)
  rw [e2] at h
  rw [h]
  simp only [Int.toNat_natCast, Nat.mul_one]
  have : madeCells (Value.int .i64 0).cells n = (zeC .i64 n).toArray := by
    apply Array.toList_inj.1
    show (madeCells #[Value.int .i64 0] n).toList = _
    rw [toList_madeCells_one]; rfl
  rw [this]
theorem wrap_add3 (k j : Nat) (h : k + j ≤ 1000000) : IntKind.i64.wrap ((k : Int) + (j : Int)) = ((k + j : Nat) : Int) := by rw [IntKind.wrap_i64]; omega
theorem wrap_add2 (k j : Nat) (h : k + j ≤ 1000000) : wrap64 ((k : Int) + (j : Int)) = ((k + j : Nat) : Int) := by unfold wrap64; omega
/-- k numbers -1, then noughts -/
def repC (n k : Nat) : List Value := List.replicate k (.int .i64 (-1)) ++ List.replicate (n - k) (.int .i64 0)
theorem repC_len {n k : Nat} (h : k ≤ n) : (repC n k).length = n := by simp [repC]; omega
theorem repC_0 (n : Nat) : zeC .i64 n = repC n 0 := by simp [repC, zeC]
theorem repC_more {n k j : Nat} (_h : k + j ≤ n) : splice (repC n k) k (List.replicate j (Value.int .i64 (-1))) = repC n (k + j) := by
  unfold splice repC
  rw [List.take_left' (by simp), List.drop_append]
  simp only [List.length_replicate]
  rw [List.drop_eq_nil_of_le (by simp), List.nil_append, show k + j - k = j by omega, List.drop_replicate, show n - k - j = n - (k + j) by omega, ← List.append_assoc, List.replicate_append_replicate]
theorem repC_get {n k i : Nat} (h : i < k) : (repC n k)[i]? = some (.int .i64 (-1)) := by
  unfold repC
  rw [List.getElem?_append_left (by simpa using h)]
  simp [h]
set_option maxHeartbeats 4000000 in
set_option maxRecDepth 100000 in
theorem repeat_any (b n : Nat) (c : Nat) (h : n ≤ 6) (w : World) (hc : w.cell? ⟨b, 0, none⟩ = some (.int .i64 (-1))) (hb : b < w.heap.size) :
    Calls Try.prog 39 #[.slice (some ⟨b, 0, none⟩) 1 c, .int .i64 (n : Int)] w (Ret (OwnM w 3 n (fun _ => .int .i64 (-1)))) := by
  have H := Lib.hid (mul_1 n h w)
  have w1 : IntKind.u64.wrap 1 = 1 := by decide +kernel
  have wn : IntKind.u64.wrap (n : Int) = (n : Int) := by rw [IntKind.wrap_u64]; omega
  have wi : wrap64 (n : Int) = (n : Int) := by unfold wrap64; omega
  have n0 : decide ((n : Int) < 0) = false := by rw [decide_eq_false_iff_not]; omega
  have n1 : decide (9223372036854775807 < (n : Int)) = false := by rw [decide_eq_false_iff_not]; omega
  obtain ⟨O, mk, BL⟩ := mk_int n (by omega)
  have hB := Lib.hid ((Below.refl w.heap.size w).alloc (Nat.le_refl _) O)
  have hwh := Lib.hid (BL w)
  have hcell := Lib.hid hc
  clear BL
  go_enter Try.func39, Try.ntmps39
  go_wp2_with fail
  with_reducible refine H.out.mono ?_
  rintro e w' ⟨rfl, rfl⟩
  obtain ⟨k1, hk1⟩ : ∃ k1, min 1 n = k1 := ⟨_, rfl⟩
  obtain ⟨cs, hcs⟩ : ∃ cs, List.replicate k1 (Value.int .i64 (-1)) = cs := ⟨_, rfl⟩
  have hl : cs.length = k1 := by rw [← hcs]; simp
  have hone : Hid (∀ v ∈ cs, v.oneCell' = true) := Lib.hid fun v hv => by rw [← hcs] at hv; rw [List.eq_of_mem_replicate hv]; rfl
  have hcat : Hid (∀ j v, cs[j]? = some v → (w.alloc O).cell? ((⟨b, 0, none⟩ : Addr).add j) = some v) := Lib.hid fun j v hj => by
    rw [← hcs] at hj
    have hj2 := (List.getElem?_eq_some_iff.1 hj).1
    rw [List.length_replicate] at hj2
    obtain rfl : j = 0 := by omega
    have : v = .int .i64 (-1) := List.eq_of_mem_replicate (List.mem_of_getElem? hj)
    rw [this]
    show (w.alloc O).cell? ⟨b, 0, none⟩ = _
    rw [World.cell?_alloc_lt _ _ _ hb]
    exact hcell.out
  have hsp : Hid (splice (repC n 0) 0 cs = repC n k1) := Lib.hid (by rw [← hcs]; have := repC_more (n := n) (k := 0) (j := k1) (by omega); rwa [Nat.zero_add] at this)
  have h00 : (repC n 0).length = n := repC_len (Nat.zero_le _)
  have hmin : Hid (cs.length = Nat.min 1 n) := Lib.hid (by rw [hl, ← hk1])
  rw [repC_0] at hwh
  replace hcs := Lib.hid hcs
  replace hk1' := Lib.hid hk1
  clear hk1
  go_wp2_with (refine wpList_copy_splice (o := ⟨some 33, _, _, _, _, _⟩) rfl (.tmp 31) (.tmp 32) 36 36 rfl 3 elInt.ht (by kernel_rfl) (some ⟨w.heap.size, 0, none⟩) (some ⟨b, 0, none⟩) n n 1 c (by go_simp) (by go_simp) w.heap.size 0 (repC n 0) 3 hwh.out cs hmin.out (fun _ => ⟨rfl, _, rfl, hcat.out⟩) (by rw [h00, hl]; have := hk1'.out; omega) hone.out w.heap.size w hB.out (Nat.le_refl _) ?_)
  intro w2 hg2 hb2
  go_wp2
  rw [hsp.out] at hg2
  clear hl hsp hmin hone hcat w1 wn wi n0 n1
  go_loopw [8] (fun s8 wr => ∃ k : Nat, s8 = .int .i64 (k : Int) ∧ k ≤ n ∧ (0 < n → 1 ≤ k) ∧ Hid (wr.heap[w.heap.size]? = some (.cells (repC n k).toArray 3 (0, 0))) ∧ Below w.heap.size w wr) (fun s8 _ => n - (intOf s8).toNat)
  case atStart => exact ⟨k1, rfl, by have := hk1'.out; omega, by have := hk1'.out; omega, hg2, hb2⟩
  case round =>
    obtain ⟨k, rfl, hk, hk0, hg, hbe⟩ := hrel
    replace hbe := Lib.hid hbe
    by_cases hlt : k < n
    · have jk : (k : Int) < (n : Int) := by omega
      have k0 := hk0 (by omega)
      obtain ⟨j, hj⟩ : ∃ j, min k (n - k) = j := ⟨_, rfl⟩
      obtain ⟨cs, hcs⟩ : ∃ cs, List.replicate j (Value.int .i64 (-1)) = cs := ⟨_, rfl⟩
      have hl : cs.length = j := by rw [← hcs]; simp
      have hone : Hid (∀ v ∈ cs, v.oneCell' = true) := Lib.hid fun v hv => by rw [← hcs] at hv; rw [List.eq_of_mem_replicate hv]; rfl
      have hcat : Hid (∀ i v, cs[i]? = some v → wr.cell? ((⟨w.heap.size, 0, none⟩ : Addr).add i) = some v) := Lib.hid fun i v hi => by
        rw [← hcs] at hi
        have hi2 := (List.getElem?_eq_some_iff.1 hi).1
        rw [List.length_replicate] at hi2
        have : v = .int .i64 (-1) := List.eq_of_mem_replicate (List.mem_of_getElem? hi)
        rw [this]
        have e : (⟨w.heap.size, 0, none⟩ : Addr).add i = ⟨w.heap.size, i, none⟩ := by
          unfold Addr.add
          split
          · rename_i h0; rw [h0]
          · simp
        rw [e, Whole.cell (show Whole wr w.heap.size _ _ from hg.out)]
        exact (by simpa using repC_get (n := n) (k := k) (i := i) (by omega))
      have hcat2 : Hid (∀ i v, cs[i]? = some v → wr.drew.cell? ((⟨w.heap.size, 0, none⟩ : Addr).add i) = some v) := Lib.hid fun i v hi => ((Drawn.refl wr).drew.cell _).trans (hcat.out i v hi)
      have hg2 : Hid (wr.drew.heap[w.heap.size]? = some (.cells (repC n k).toArray 3 (0, 0))) := Lib.hid (show wr.heap[w.heap.size]? = _ from hg.out)
      have hbd := Lib.hid hbe.out.drew
      have hsp : Hid (splice (repC n k) k cs = repC n (k + j)) := Lib.hid (by rw [← hcs]; exact repC_more (by omega))
      have hL : (repC n k).length = n := repC_len hk
      have hmin : Hid (cs.length = Nat.min k (n - k)) := Lib.hid (hl.trans hj.symm)
      have jn : 0 < j := by omega
      have jj : k + j ≤ n := by omega
      have i0 : ¬ (k : Int) < 0 := by omega
      have i1 : (k : Int) ≤ (n : Int) := by omega
      have i2 : ¬ n = k := by omega
      have i3 : 0 ≤ (k : Int) := by omega
      replace hcs := Lib.hid hcs
      replace hj := Lib.hid hj
      have wj : wrap64 ((k : Int) + (j : Int)) = ((k + j : Nat) : Int) := wrap_add2 k j (by omega)
      go_wp2
      go_region_law
        (first
          | (refine step_copy_splice (by rfl) (.tmp 41) (.tmp 44) 36 36 (by rfl) 3 elInt.ht (by kernel_rfl) (some ⟨w.heap.size, k, none⟩) (some ⟨w.heap.size, 0, none⟩) (n - k) (n - k) k n (by go_simp) (by go_simp) w.heap.size k (repC n k) 3 hg2.out cs hmin.out (fun _ => ⟨rfl, ⟨w.heap.size, 0, none⟩, rfl, hcat2.out⟩) (by rw [hL, hl]; exact jj) hone.out w.heap.size w hbd.out (Nat.le_refl _) ?_
             intro w4 hg4 hb4))
      rw [hsp.out] at hg4
      have wj2 := wrap_add3 k j (by omega)
      clear hl hsp hmin hone hcat hcat2 hL hg2 hbd wj
      simp only [List.getElem_toArray, List.getElem_cons_succ, List.getElem_cons_zero]
      go_frame
      rw [wj2]
      clear wj2
      go_wp2
      go_roundw
      case rel => exact ⟨k + j, rfl, jj, fun _ => by omega, hg4, hb4⟩
      case measure => simp [intOf]; omega
    · obtain rfl : k = n := by omega
      have hO : Hid (OwnM w 3 k (fun _ => .int .i64 (-1)) (.slice (some ⟨w.heap.size, 0, none⟩) k k) wr) := Lib.hid <| by
        have hwr : Whole wr w.heap.size 3 (repC k k).toArray := hg.out
        refine ⟨_, k, rfl, ⟨by rw [rowM_len, Nat.mul_one], Or.inr ⟨w.heap.size, k, (repC k k).toArray, rfl, Nat.le_refl _, hwr, Nat.le_refl _, by unfold maxLen; omega, by simp [repC], ?_⟩⟩, hbe.out⟩
        unfold repC rowM
        simp [List.map_const']
      clear hlt hg hk0
      go_wp2
      go_ret
      exact Ret.mk hO.out
end Go.Proofs.Ytickckehhfdoeaa
