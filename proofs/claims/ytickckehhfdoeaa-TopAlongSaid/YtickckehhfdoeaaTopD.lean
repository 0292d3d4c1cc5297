/-
  CONTRACT of mix.Aborts.
  Conditions: those that each theorem names.
-/
import Derived.Test.YtickckehhfdoeaaTopB
import Derived.Test.YtickckehhfdoeaaTopQ
namespace Go.Proofs.Ytickckehhfdoeaa
open Go.RowKit Go.Sv
/-- mixes of the call's own, and an error -/
def AbR (w : World) (ms : List Mx) (e : Int) (v : Value) (w' : World) : Prop := Below w.heap.size w w' ∧ ∃ A c Q, v = .tuple #[.slice A ms.length c, .int .i64 e] ∧ MxL w' w.heap.size w.heap.size ms Q (.slice A ms.length c)
def opv (m : Mx) (k : Nat) : Value := .int .i64 ((opA m k : Nat) : Int)
def opR (m : Mx) (j : Nat) : List Value := (opN m j).map fun i => .int .i64 ((i : Nat) : Int)
theorem opR_yes {m : Mx} {j : Nat} (h : 0 ≤ gi m.next j) : opR m (j + 1) = opR m j ++ [.int .i64 (j : Int)] := by unfold opR; rw [opN_yes h, List.map_append]; rfl
theorem opR_get {m : Mx} {k : Nat} (h : k < (openL m).length) : (opR m m.next.length)[k]? = some (opv m k) := by
  unfold opR opv
  rw [opN_all, List.getElem?_map, opA_get h]
  rfl
/-- the open upgrades, in memory of the call's own -/
def OpO (wr : World) (B : Nat) (m : Mx) (j : Nat) (v : Value) : Prop := wr.ownsRow B 3 1 v (opN m j).length (opR m j)
/-- a mix that the call owns, in a variable g; w0: the world ahead of it -/
structure ASt (w0 : World) (g : Nat) (x : Mx) (q : MixP) (wr : World) : Prop where
  bel : Below w0.heap.size w0 wr
  hg : w0.heap.size ≤ g
  mb : Whole wr g 56 #[.slice q.a0 x.base.length q.c0, .slice q.a1 x.next.length q.c1, .slice q.a2 x.held.length q.c2]
  ao : AO wr w0.heap.size x q
  nb : keyV (.slice q.a1 x.next.length q.c1) ≠ some g
theorem ASt.facts {w0 wr : World} {g : Nat} {x : Mx} {q : MixP} (h : ASt w0 g x q wr) : g < wr.heap.size ∧ (∀ o, wr.frozen? ⟨g, o, none⟩ = false) ∧ wr.cell? ⟨g, 0, none⟩ = some (.slice q.a0 x.base.length q.c0) ∧ wr.cell? ⟨g, 1, none⟩ = some (.slice q.a1 x.next.length q.c1) ∧ wr.cell? ⟨g, 2, none⟩ = some (.slice q.a2 x.held.length q.c2) :=
  ⟨h.mb.lt, fun o => h.mb.frozen o, h.mb.cell 0, h.mb.cell 1, h.mb.cell 2⟩
theorem ASt.set {w0 wr : World} {g : Nat} {x : Mx} {q : MixP} (h : ASt w0 g x q wr) {i : Nat} (hi : i < x.next.length) :
    ∃ b, q.a1 = some ⟨b, 0, none⟩ ∧ b ≠ g ∧ b < wr.heap.size ∧ (∀ o, wr.frozen? ⟨b, o, none⟩ = false) ∧ wr.cell? ⟨b, i, none⟩ = some (.int .i64 (gi x.next i)) ∧ ∀ z : Int, ASt w0 g { x with next := x.next.set i z } q (wr.setCell ⟨b, i, none⟩ (.int .i64 z)) := by
  obtain ⟨b, e, hb, hl, hf, hc, hs⟩ := h.ao.set1 hi
  have hk : keyV (.slice q.a1 x.next.length q.c1) = some b := key_pos e (by omega)
  have hne : b ≠ g := fun c => h.nb (by rw [hk, c])
  refine ⟨b, e, hne, hl, hf, hc, fun z => ⟨h.bel.setCell hb _, h.hg, ?_, hs z, ?_⟩⟩
  · have := h.mb.far (p := ⟨b, i, none⟩) (Ne.symm hne) (.int .i64 z)
    show Whole _ _ _ #[_, .slice q.a1 (x.next.set i z).length q.c1, _]
    rw [List.length_set]; exact this
  · show keyV (.slice q.a1 (x.next.set i z).length q.c1) ≠ _
    rw [List.length_set]; exact h.nb
/-- the walk's test of a bit of a number below 64 -/
theorem tb64 : ∀ k : Fin 64, ∀ j : Fin 6, (bits .and .i64 (((k.val : Nat) : Int) / 2 ^ j.val) 1 == 1) = k.val.testBit j.val := by decide +kernel
theorem tb6 {k j : Nat} (hk : k < 64) (hj : j < 6) : (bits .and .i64 ((k : Int) / 2 ^ j) 1 == 1) = k.testBit j := tb64 ⟨k, hk⟩ ⟨j, hj⟩
theorem aoElse {W : World} {B : Nat} {m : Mx} {q : MixP} (h : AO W B m q) {g i : Nat} (k0 : keyV (.slice q.a0 m.base.length q.c0) ≠ some g) (k1 : keyV (.slice q.a1 m.next.length q.c1) ≠ some g) (k2 : keyV (.slice q.a2 m.held.length q.c2) ≠ some g) (u : Value) : AO (W.setCell ⟨g, i, none⟩ u) B m q :=
  ⟨own_else h.o0 k0 u, own_else h.o1 k1 u, own_else h.o2 k2 u, h.d01, h.d02, h.d12⟩
abbrev mz0 : Obj := .cells #[.slice none 0 0, .slice none 0 0, .slice none 0 0] 56
theorem ast_of {w0 v : World} {g : Nat} {m : Mx} {q : MixP} (hb : Below w0.heap.size w0 v) (hg : w0.heap.size ≤ g) (hw : Whole v g 56 #[.slice none 0 0, .slice none 0 0, .slice none 0 0]) (ha : AO v w0.heap.size m q)
    (n0 : keyV (.slice q.a0 m.base.length q.c0) ≠ some g) (n1 : keyV (.slice q.a1 m.next.length q.c1) ≠ some g) (n2 : keyV (.slice q.a2 m.held.length q.c2) ≠ some g) :
    ASt w0 g m q (((v.setCell ⟨g, 0, none⟩ (.slice q.a0 m.base.length q.c0)).setCell ⟨g, 1, none⟩ (.slice q.a1 m.next.length q.c1)).setCell ⟨g, 2, none⟩ (.slice q.a2 m.held.length q.c2)) :=
  ⟨((hb.setCell hg _).setCell hg _).setCell hg _, hg, ((hw.set 0 _).set 1 _).set 2 _, aoElse (aoElse (aoElse ha n0 n1 n2 _) n0 n1 n2 _) n0 n1 n2 _, n1⟩
section
variable {w0 v1 v2 v3 : World} {m : Mx} {A0 A1 A2 : Option Addr} {C0 C1 C2 : Nat}
theorem ast_a (h0 : v1.ownsRow w0.heap.size 3 1 (.slice A0 m.base.length C0) m.base.length (rowM m.base.length (iv m.base))) (h1 : v2.ownsRow v1.heap.size 3 1 (.slice A1 m.next.length C1) m.next.length (rowM m.next.length (iv m.next)))
    (h2 : v3.ownsRow v2.heap.size 84 1 (.slice A2 m.held.length C2) m.held.length (rowM m.held.length (u8v m.held))) (b0 : Below w0.heap.size w0 v1) (b1 : Below v1.heap.size v1 v2) (b2 : Below v2.heap.size v2 v3) :
    ASt w0 v3.heap.size m ⟨A0, C0, A1, C1, A2, C2⟩ (v3.alloc (.cells #[.slice A0 m.base.length C0, .slice A1 m.next.length C1, .slice A2 m.held.length C2] 56)) := by
  have s0 := b0.size
  have s1 := b1.size
  have s2 := b2.size
  have k1 := keyV_lt h1
  refine ⟨(b0.trans ((b1.trans (b2.mono s1)).mono s0)).alloc (by omega) _, by omega, Whole.new _ _ _, ?_, fun e => ?_⟩
  · exact ao_mk h0 h1 h2 b1 b2 ((Below.refl _ _).alloc (Nat.le_refl _) _) s0
  · have := (k1 _ e).2; omega
theorem ast_b (h0 : v1.ownsRow (w0.heap.size + 1) 3 1 (.slice A0 m.base.length C0) m.base.length (rowM m.base.length (iv m.base))) (h1 : v2.ownsRow v1.heap.size 3 1 (.slice A1 m.next.length C1) m.next.length (rowM m.next.length (iv m.next)))
    (h2 : v3.ownsRow v2.heap.size 84 1 (.slice A2 m.held.length C2) m.held.length (rowM m.held.length (u8v m.held))) (b0 : Below (w0.heap.size + 1) (w0.alloc mz0) v1) (b1 : Below v1.heap.size v1 v2) (b2 : Below v2.heap.size v2 v3) :
    ASt w0 w0.heap.size m ⟨A0, C0, A1, C1, A2, C2⟩ (((v3.setCell ⟨w0.heap.size, 0, none⟩ (.slice A0 m.base.length C0)).setCell ⟨w0.heap.size, 1, none⟩ (.slice A1 m.next.length C1)).setCell ⟨w0.heap.size, 2, none⟩ (.slice A2 m.held.length C2)) := by
  have s0 : w0.heap.size + 1 ≤ v1.heap.size := by have := b0.size; simpa using this
  have s1 := b1.size
  have s2 := b2.size
  have k0 := keyV_lt h0
  have k1 := keyV_lt h1
  have k2 := keyV_lt h2
  have hb := ((Below.refl w0.heap.size w0).alloc (Nat.le_refl _) mz0).trans (b0.mono (Nat.le_succ _))
  have hw : Whole v3 w0.heap.size _ _ := (((Whole.new w0 56 #[.slice none 0 0, .slice none 0 0, .slice none 0 0]).below b0 (Nat.lt_succ_self _)).below b1 (by omega)).below b2 (by omega)
  refine ast_of (q := ⟨A0, C0, A1, C1, A2, C2⟩) (hb.trans ((b1.trans (b2.mono s1)).mono (by omega))) (Nat.le_refl _) hw (ao_mk (own_base h0 (Nat.le_succ _)) h1 h2 b1 b2 (Below.refl _ _) (by omega)) ?_ ?_ ?_
  · intro e; have := (k0 _ e).1; omega
  · intro e; have := (k1 _ e).1; omega
  · intro e; have := (k2 _ e).1; omega
theorem ast_c (h0 : v1.ownsRow w0.heap.size 3 1 (.slice A0 m.base.length C0) m.base.length (rowM m.base.length (iv m.base))) (h1 : v2.ownsRow (v1.heap.size + 1) 3 1 (.slice A1 m.next.length C1) m.next.length (rowM m.next.length (iv m.next)))
    (h2 : v3.ownsRow v2.heap.size 84 1 (.slice A2 m.held.length C2) m.held.length (rowM m.held.length (u8v m.held))) (b0 : Below w0.heap.size w0 v1) (b1 : Below (v1.heap.size + 1) (v1.alloc mz0) v2) (b2 : Below v2.heap.size v2 v3) :
    ASt w0 v1.heap.size m ⟨A0, C0, A1, C1, A2, C2⟩ (((v3.setCell ⟨v1.heap.size, 0, none⟩ (.slice A0 m.base.length C0)).setCell ⟨v1.heap.size, 1, none⟩ (.slice A1 m.next.length C1)).setCell ⟨v1.heap.size, 2, none⟩ (.slice A2 m.held.length C2)) := by
  have s0 := b0.size
  have s1 : v1.heap.size + 1 ≤ v2.heap.size := by have := b1.size; simpa using this
  have s2 := b2.size
  have k0 := keyV_lt h0
  have k1 := keyV_lt h1
  have k2 := keyV_lt h2
  have hb1 := ((Below.refl v1.heap.size v1).alloc (Nat.le_refl _) mz0).trans (b1.mono (Nat.le_succ _))
  have hw : Whole v3 v1.heap.size _ _ := ((Whole.new v1 56 #[.slice none 0 0, .slice none 0 0, .slice none 0 0]).below b1 (Nat.lt_succ_self _)).below b2 (by omega)
  refine ast_of (q := ⟨A0, C0, A1, C1, A2, C2⟩) (b0.trans ((hb1.trans (b2.mono (by omega))).mono s0)) s0 hw (ao_mk h0 (own_base h1 (Nat.le_succ _)) h2 hb1 b2 (Below.refl _ _) s0) ?_ ?_ ?_
  · intro e; have := (k0 _ e).2; omega
  · intro e; have := (k1 _ e).1; omega
  · intro e; have := (k2 _ e).1; omega
theorem ast_d (h0 : v1.ownsRow w0.heap.size 3 1 (.slice A0 m.base.length C0) m.base.length (rowM m.base.length (iv m.base))) (h1 : v2.ownsRow v1.heap.size 3 1 (.slice A1 m.next.length C1) m.next.length (rowM m.next.length (iv m.next)))
    (h2 : v3.ownsRow (v2.heap.size + 1) 84 1 (.slice A2 m.held.length C2) m.held.length (rowM m.held.length (u8v m.held))) (b0 : Below w0.heap.size w0 v1) (b1 : Below v1.heap.size v1 v2) (b2 : Below (v2.heap.size + 1) (v2.alloc mz0) v3) :
    ASt w0 v2.heap.size m ⟨A0, C0, A1, C1, A2, C2⟩ (((v3.setCell ⟨v2.heap.size, 0, none⟩ (.slice A0 m.base.length C0)).setCell ⟨v2.heap.size, 1, none⟩ (.slice A1 m.next.length C1)).setCell ⟨v2.heap.size, 2, none⟩ (.slice A2 m.held.length C2)) := by
  have s0 := b0.size
  have s1 := b1.size
  have s2 : v2.heap.size + 1 ≤ v3.heap.size := by have := b2.size; simpa using this
  have k0 := keyV_lt h0
  have k1 := keyV_lt h1
  have k2 := keyV_lt h2
  have hb2 := ((Below.refl v2.heap.size v2).alloc (Nat.le_refl _) mz0).trans (b2.mono (Nat.le_succ _))
  have hw : Whole v3 v2.heap.size _ _ := (Whole.new v2 56 #[.slice none 0 0, .slice none 0 0, .slice none 0 0]).below b2 (Nat.lt_succ_self _)
  refine ast_of (q := ⟨A0, C0, A1, C1, A2, C2⟩) (b0.trans ((b1.trans (hb2.mono s1)).mono s0)) (by omega) hw (ao_mk h0 h1 (own_base h2 (Nat.le_succ _)) b1 hb2 (Below.refl _ _) s0) ?_ ?_ ?_
  · intro e; have := (k0 _ e).2; omega
  · intro e; have := (k1 _ e).2; omega
  · intro e; have := (k2 _ e).1; omega
end
theorem wh3 {v : World} {g : Nat} (h : Whole v g 56 #[.slice none 0 0, .slice none 0 0, .slice none 0 0]) : g < v.heap.size ∧ (∀ o, v.frozen? ⟨g, o, none⟩ = false) ∧ v.cell? ⟨g, 0, none⟩ = some (.slice none 0 0) ∧ v.cell? ⟨g, 1, none⟩ = some (.slice none 0 0) ∧ v.cell? ⟨g, 2, none⟩ = some (.slice none 0 0) :=
  ⟨h.lt, fun o => h.frozen o, h.cell 0, h.cell 1, h.cell 2⟩
theorem wh3_of {w v : World} (hb : Below (w.heap.size + 1) (w.alloc mz0) v) : Whole v w.heap.size 56 #[.slice none 0 0, .slice none 0 0, .slice none 0 0] := (Whole.new w _ _).below hb (Nat.lt_succ_self _)
/-- what Clone hands back, from a world that has one block more -/
theorem ownB {w w' : World} {o : Obj} {e : TypeId} {s n : Nat} {v : Value} {xs : List Value} (h : w'.ownsRow (w.alloc o).drew.heap.size e s v n xs) : w'.ownsRow (w.heap.size + 1) e s v n xs := by
  have e1 : (w.alloc o).drew.heap.size = w.heap.size + 1 := by show (w.alloc o).heap.size = _; simp
  rw [e1] at h; exact h
theorem ownA {w w' : World} {o : Obj} {e : TypeId} {s n : Nat} {v : Value} {xs : List Value} (h : w'.ownsRow (w.alloc o).heap.size e s v n xs) : w'.ownsRow (w.heap.size + 1) e s v n xs := by
  rw [show (w.alloc o).heap.size = w.heap.size + 1 by simp] at h; exact h
theorem belB {w w' : World} {o : Obj} (h : Below (w.alloc o).drew.heap.size (w.alloc o).drew w') : Below (w.heap.size + 1) (w.alloc o) w' := by
  have e1 : (w.alloc o).drew.heap.size = w.heap.size + 1 := by show (w.alloc o).heap.size = _; simp
  rw [e1] at h; exact ((Below.refl _ _).drew).trans h
theorem belA {w w' : World} {o : Obj} (h : Below (w.alloc o).heap.size (w.alloc o) w') : Below (w.heap.size + 1) (w.alloc o) w' := by
  rw [show (w.alloc o).heap.size = w.heap.size + 1 by simp] at h; exact h
set_option maxHeartbeats 8000000 in
set_option maxRecDepth 100000 in
theorem aborts_any (p : Prob) (q : ProbP) (m : Mx) (qm : MixP) (w : World) (hp : RProb w w.heap.size p q) (hbd : PBd p) (hm : RMix w w.heap.size m qm) (hmb : MBd m qm) (hok : MOk p m) :
    Calls Try.prog 60 #[probV p q, mixV m qm] w (Ret (AbR w (abL m) 0)) := by
  obtain ⟨W, hW, S⟩ := pm_boxes p q m qm w
  have HV := Lib.hid (mvalid_any p q m qm W (hp.to S.bel) hbd (hm.to S.bel) hmb)
  have hsz : w.heap.size + 2 ≤ W.heap.size := by rw [← hW]; simp
  have hps := prob_small hok.pr
  have h6 := open_6 hok hps.1
  have lb := hok.lb
  have ln := hok.ln
  have lh := hok.lh
  have l0 : m.base.length ≤ 1000000 := by omega
  have l1 : m.next.length ≤ 1000000 := by omega
  have l2 : m.held.length ≤ 1000000 := by omega
  have hmW := Lib.hid (fun W2 (h : Below W.heap.size W W2) => (hm.to S.bel).to h)
  rw [mixE_ok.2 hok] at HV
  have hmb0 := Lib.hid hmb
  obtain ⟨qa0, qc0, qa1, qc1, qa2, qc2, qa3, qc3⟩ := q
  obtain ⟨ma0, mc0, ma1, mc1, ma2, mc2⟩ := qm
  have H0 := Lib.hid (fun W2 (h : Below W.heap.size W W2) => cloneI_any ma0 mc0 m.base.length (iv m.base) W2 (hmW.out W2 h).r0 hmb.n0 (fun k _ => rfl) l0)
  have H1 := Lib.hid (fun W2 (h : Below W.heap.size W W2) => cloneI_any ma1 mc1 m.next.length (iv m.next) W2 (hmW.out W2 h).r1 hmb.n1 (fun k _ => rfl) l1)
  have H2 := Lib.hid (fun W2 (h : Below W.heap.size W W2) => cloneU_any ma2 mc2 m.held.length (u8v m.held) W2 (hmW.out W2 h).r2 hmb.n2 (fun k _ => rfl) l2)
  dsimp only at HV hW S hmW ⊢
  obtain ⟨⟨r1, f1, r10, r11, r12, -⟩, ⟨r2, f2, r20, r21, r22, r23, -⟩, -⟩ := S.facts
  have SW := Lib.hid S
  replace hok := Lib.hid hok
  replace lb := Lib.hid lb
  replace ln := Lib.hid ln
  replace lh := Lib.hid lh
  clear S hp hbd hm hmb hps
  go_enter Try.func60, Try.ntmps60
  go_wp2_with fail
  clear hW
  with_reducible refine HV.out.mono ?_
  rintro e w1 ⟨rfl, hb1⟩
  clear r1 f1 r10 r11 r12 r2 f2 r20 r21 r22 r23 HV
  have S1 := Lib.hid (SW.out.call hb1)
  replace hb1 := Lib.hid hb1
  obtain ⟨⟨r1, f1, r10, r11, r12, -⟩, ⟨r2, f2, r20, r21, r22, r23, -⟩, -⟩ := S1.out.facts
  go_wp2
  clear r1 f1 r10 r11 r12 r2 f2 r20 r21 r22 r23
  go_loopw [7, 24] (fun v s24 wr => ∃ j : Nat, j ≤ m.next.length ∧ s24 = .int .i64 (j : Int) ∧ OpO wr W.heap.size m j v ∧ Below W.heap.size W wr) (fun _ s24 _ => m.next.length - (intOf s24).toNat)
  case atStart => exact ⟨0, Nat.zero_le _, rfl, World.ownsRow_nil _ _ _ _, hb1.out⟩
  case round =>
    obtain ⟨j, hj, rfl, hown, hbel⟩ := hrel
    have T := Lib.hid (SW.out.call hbel)
    obtain ⟨⟨r1, f1, r10, r11, r12, -⟩, ⟨r2, f2, r20, r21, r22, r23, -⟩, -⟩ := T.out.facts
    have hB : W.heap.size ≤ wr.heap.size := hbel.size
    replace hbel := Lib.hid hbel
    by_cases hlt : j < m.next.length
    · obtain ⟨b, off, rfl, hb, hc⟩ := (hmW.out wr hbel.out).r1 (by omega)
      have y := hc j hlt
      unfold iv at y
      have jn : (j : Int) < (m.next.length : Int) := by omega
      have hl := Lib.hid (opN_len m j)
      have hY := Lib.hid (fun h => opN_yes (m := m) (j := j) h)
      have hYR := Lib.hid (fun h => opR_yes (m := m) (j := j) h)
      have hN := Lib.hid (fun h => opN_no (m := m) (j := j) h)
      obtain ⟨z, hz⟩ : ∃ z, gi m.next j = z := ⟨_, rfl⟩
      rw [hz] at y hY hYR hN
      replace hz := Lib.hid hz
      have hO := Lib.hid hown
      clear hown hc H0 H1 H2
      by_cases hn : 0 ≤ z
      · have i1 : decide (0 ≤ z) = true := decide_eq_true hn
        have hy := Lib.hid (hY.out hn)
        have hyr := Lib.hid (hYR.out hn)
        clear hY hYR hN
        go_wp2_with (at_builtin; refine push_own elInt rfl _ _ rfl W.heap.size _ (opN m j).length (opR m j) hO.out rfl [.int .i64 (j : Int)] rfl rfl rfl (by have := hl.out; omega) (by omega) hB ?_)
        intro v' w8 hown8 hgr hb8 hs8 hob8
        have hO8 : Hid (OpO w8 W.heap.size m (j + 1) v') := Lib.hid (by unfold OpO; rw [hy.out, hyr.out, List.length_append]; exact hown8)
        have hb9 : Hid (Below W.heap.size W w8) := Lib.hid (hbel.out.trans hb8)
        clear hown8 hgr hb8 hs8 hob8
        go_wp2
        go_roundw
        case rel => exact ⟨j + 1, by omega, by go_num, hO8.out, hb9.out⟩
        case measure => simp [intOf]; omega
      · have i1 : decide (0 ≤ z) = false := decide_eq_false hn
        have hO8 : Hid (OpO wr W.heap.size m (j + 1) _) := Lib.hid (by unfold OpO opR; rw [hN.out hn]; exact hO.out)
        clear hY hYR hN
        go_wp2
        go_roundw
        case rel => exact ⟨j + 1, by omega, by go_num, hO8.out, hbel.out⟩
        case measure => simp [intOf]; omega
    · obtain rfl : j = m.next.length := by omega
      obtain ⟨A, c, rfl, _, _, hA⟩ := own_arr (f := opv m) hown (fun k hk => opR_get (by rw [← opN_all]; exact hk))
      have hO := Lib.hid hown
      rw [opN_all] at hA
      obtain ⟨n, hn⟩ : ∃ n, (openL m).length = n := ⟨_, rfl⟩
      have hn2 : (opN m m.next.length).length = n := by rw [opN_all]; exact hn
      rw [hn2]
      rw [hn] at hA h6
      have w64 : 2 ^ n ≤ 64 := Nat.le_trans (Nat.pow_le_pow_right (by decide) h6) (by decide)
      replace hA := Lib.hid hA
      replace hn := Lib.hid hn
      replace hn2 := Lib.hid hn2
      rename World => wo
      clear hown hlt
      have hpw : wrap64 ((2 : Int) ^ n) = ((2 ^ n : Nat) : Int) := by
        have e : (2 : Int) ^ n = ((2 ^ n : Nat) : Int) := by simp
        rw [e]
        generalize 2 ^ n = z at w64
        unfold wrap64; omega
      obtain ⟨N, hN⟩ : ∃ N : Nat, 2 ^ n = N := ⟨_, rfl⟩
      rw [hN] at w64 hpw
      replace hN := Lib.hid hN
      go_wp2
      rw [hpw]
      clear hpw
      go_loopw [10, 39] (fun v s39 wr => ∃ (k : Nat) (Q : Nat → MixP), k ≤ N ∧ s39 = .int .i64 (k : Int) ∧ MxL wr w.heap.size wo.heap.size (abK m k) Q v ∧ Below wo.heap.size wo wr) (fun _ s39 _ => N - (intOf s39).toNat)
      case atStart => exact ⟨0, _, Nat.zero_le _, rfl, MxL.nil _ _ _, Below.refl _ _⟩
      case round =>
        clear r1 f1 r10 r11 r12 r2 f2 r20 r21 r22 r23
        rename World => wv
        obtain ⟨k, Q, hk, rfl, hM, hbo⟩ := hrel
        have hbel2 := Lib.hid (hbel.out.trans (hbo.mono hB))
        have T := Lib.hid (SW.out.call hbel2.out)
        have hsr : W.heap.size ≤ wv.heap.size := hbel2.out.size
        have hso : wo.heap.size ≤ wv.heap.size := hbo.size
        replace hbo := Lib.hid hbo
        replace hM := Lib.hid hM
        obtain ⟨⟨r1, f1, r10, r11, r12, -⟩, ⟨r2, f2, r20, r21, r22, r23, -⟩, -⟩ := T.out.facts
        by_cases hlt : k < N
        · have jk : (k : Int) < (N : Int) := by omega
          go_upto_region 15 with fail
          go_cut [12] (fun s12 wx => ∃ (g : Nat) (a0 a1 a2 : Option Addr) (c0 c1 c2 : Nat), s12 = .pointer (some ⟨g, 0, none⟩) ∧ ASt wv g m ⟨a0, c0, a1, c1, a2, c2⟩ wx)
          case first =>
            go_region_held3 (fun w' => w'.cell? ⟨w.heap.size + 1, 0, none⟩ = some (.slice ma0 m.base.length mc0) ∧ w'.cell? ⟨w.heap.size + 1, 1, none⟩ = some (.slice ma1 m.next.length mc1) ∧ w'.cell? ⟨w.heap.size + 1, 2, none⟩ = some (.slice ma2 m.held.length mc2)) (go_keep)
              (first
              | ((with_reducible refine (H0.out wv.drew (hbel2.out.drew)).mono ?_)
                 rintro e v1 ⟨_, rfl, A0, C0, rfl, own, hb⟩
                 have own0 := Lib.hid (own)
                 have hb0 := Lib.hid (((Drawn.refl wv).drew).below.trans hb)
                 have hv1 := Lib.hid (hbel2.out.trans ((((Drawn.refl wv).drew).below.trans hb).mono hsr))
                 have hs1 : W.heap.size ≤ v1.heap.size := hv1.out.size
                 have T1 := Lib.hid (SW.out.call hv1.out)
                 clear own hb r1 f1 r10 r11 r12 r2 f2 r20 r21 r22 r23
                 obtain ⟨⟨r1, f1, r10, r11, r12, -⟩, ⟨r2, f2, r20, r21, r22, r23, -⟩, -⟩ := T1.out.facts)
              | ((with_reducible refine (H0.out (wv.alloc mz0).drew ((hbel2.out.alloc hsr mz0).drew)).mono ?_)
                 rintro e v1 ⟨_, rfl, A0, C0, rfl, own, hb⟩
                 have own0 := Lib.hid (ownB own)
                 have hb0 := Lib.hid (belB hb)
                 have hv1 := Lib.hid (hbel2.out.trans ((((Below.refl wv.heap.size wv).alloc (Nat.le_refl _) mz0).trans ((belB hb).mono (Nat.le_succ _))).mono hsr))
                 have hs1 : W.heap.size ≤ v1.heap.size := hv1.out.size
                 have T1 := Lib.hid (SW.out.call hv1.out)
                 have hWh := Lib.hid (wh3_of hb0.out)
                 obtain ⟨bz, bf, b0, b1, b2⟩ := wh3 hWh.out
                 have i1 : ¬ w.heap.size + 1 = wv.heap.size := by omega
                 have i2 : ¬ wv.heap.size = w.heap.size + 1 := by omega
                 have i3 : ¬ w.heap.size = wv.heap.size := by omega
                 have i4 : ¬ wv.heap.size = w.heap.size := by omega
                 clear own hb r1 f1 r10 r11 r12 r2 f2 r20 r21 r22 r23
                 obtain ⟨⟨r1, f1, r10, r11, r12, -⟩, ⟨r2, f2, r20, r21, r22, r23, -⟩, -⟩ := T1.out.facts)
              | ((with_reducible refine (H1.out v1 hv1.out).mono ?_)
                 rintro e v2 ⟨_, rfl, A1, C1, rfl, own, hb⟩
                 have own1 := Lib.hid (own)
                 have hb1 := Lib.hid (hb)
                 have hv2 := Lib.hid (hv1.out.trans ((hb).mono hs1))
                 have hs2 : W.heap.size ≤ v2.heap.size := hv2.out.size
                 have T2 := Lib.hid (SW.out.call hv2.out)
                 first
                   | (have hWn := Lib.hid (hWh.out.below hb1.out hWh.out.lt)
                      clear hWh bz bf b0 b1 b2
                      obtain ⟨bz, bf, b0, b1, b2⟩ := wh3 hWn.out
                      rename Hid (Whole _ _ _ _) => hWh)
                   | skip
                 clear own hb r1 f1 r10 r11 r12 r2 f2 r20 r21 r22 r23
                 obtain ⟨⟨r1, f1, r10, r11, r12, -⟩, ⟨r2, f2, r20, r21, r22, r23, -⟩, -⟩ := T2.out.facts)
              | ((with_reducible refine (H1.out (v1.alloc mz0) (hv1.out.alloc hs1 mz0)).mono ?_)
                 rintro e v2 ⟨_, rfl, A1, C1, rfl, own, hb⟩
                 have own1 := Lib.hid (ownA own)
                 have hb1 := Lib.hid (belA hb)
                 have hv2 := Lib.hid (hv1.out.trans ((((Below.refl v1.heap.size v1).alloc (Nat.le_refl _) mz0).trans ((belA hb).mono (Nat.le_succ _))).mono hs1))
                 have hs2 : W.heap.size ≤ v2.heap.size := hv2.out.size
                 have T2 := Lib.hid (SW.out.call hv2.out)
                 have hWh := Lib.hid (wh3_of hb1.out)
                 obtain ⟨bz, bf, b0, b1, b2⟩ := wh3 hWh.out
                 have i1 : ¬ w.heap.size + 1 = v1.heap.size := by omega
                 have i2 : ¬ v1.heap.size = w.heap.size + 1 := by omega
                 have i3 : ¬ w.heap.size = v1.heap.size := by omega
                 have i4 : ¬ v1.heap.size = w.heap.size := by omega
                 clear own hb r1 f1 r10 r11 r12 r2 f2 r20 r21 r22 r23
                 obtain ⟨⟨r1, f1, r10, r11, r12, -⟩, ⟨r2, f2, r20, r21, r22, r23, -⟩, -⟩ := T2.out.facts)
              | ((with_reducible refine (H2.out v2 hv2.out).mono ?_)
                 rintro e v3 ⟨_, rfl, A2, C2, rfl, own, hb⟩
                 have own2 := Lib.hid (own)
                 have hb2 := Lib.hid (hb)
                 have hv3 := Lib.hid (hv2.out.trans ((hb).mono hs2))
                 have hs3 : W.heap.size ≤ v3.heap.size := hv3.out.size
                 have T3 := Lib.hid (SW.out.call hv3.out)
                 first
                   | (have hWn := Lib.hid (hWh.out.below hb2.out hWh.out.lt)
                      clear hWh bz bf b0 b1 b2
                      obtain ⟨bz, bf, b0, b1, b2⟩ := wh3 hWn.out
                      rename Hid (Whole _ _ _ _) => hWh)
                   | skip
                 clear own hb r1 f1 r10 r11 r12 r2 f2 r20 r21 r22 r23
                 obtain ⟨⟨r1, f1, r10, r11, r12, -⟩, ⟨r2, f2, r20, r21, r22, r23, -⟩, -⟩ := T3.out.facts)
              | ((with_reducible refine (H2.out (v2.alloc mz0) (hv2.out.alloc hs2 mz0)).mono ?_)
                 rintro e v3 ⟨_, rfl, A2, C2, rfl, own, hb⟩
                 have own2 := Lib.hid (ownA own)
                 have hb2 := Lib.hid (belA hb)
                 have hv3 := Lib.hid (hv2.out.trans ((((Below.refl v2.heap.size v2).alloc (Nat.le_refl _) mz0).trans ((belA hb).mono (Nat.le_succ _))).mono hs2))
                 have hs3 : W.heap.size ≤ v3.heap.size := hv3.out.size
                 have T3 := Lib.hid (SW.out.call hv3.out)
                 have hWh := Lib.hid (wh3_of hb2.out)
                 obtain ⟨bz, bf, b0, b1, b2⟩ := wh3 hWh.out
                 have i1 : ¬ w.heap.size + 1 = v2.heap.size := by omega
                 have i2 : ¬ v2.heap.size = w.heap.size + 1 := by omega
                 have i3 : ¬ w.heap.size = v2.heap.size := by omega
                 have i4 : ¬ v2.heap.size = w.heap.size := by omega
                 clear own hb r1 f1 r10 r11 r12 r2 f2 r20 r21 r22 r23
                 obtain ⟨⟨r1, f1, r10, r11, r12, -⟩, ⟨r2, f2, r20, r21, r22, r23, -⟩, -⟩ := T3.out.facts))
            all_goals (go_wp2_with fail; go_meet)
            all_goals
              first
                | exact ⟨_, A0, A1, A2, C0, C1, C2, rfl, ast_a own0.out own1.out own2.out hb0.out hb1.out hb2.out⟩
                | exact ⟨_, A0, A1, A2, C0, C1, C2, rfl, ast_b own0.out own1.out own2.out hb0.out hb1.out hb2.out⟩
                | exact ⟨_, A0, A1, A2, C0, C1, C2, rfl, ast_c own0.out own1.out own2.out hb0.out hb1.out hb2.out⟩
                | exact ⟨_, A0, A1, A2, C0, C1, C2, rfl, ast_d own0.out own1.out own2.out hb0.out hb1.out hb2.out⟩
          case rest =>
            rename World => wx
            obtain ⟨g, a0, a1, a2, c0, c1, c2, rfl, hA0⟩ := hcut
            have hl := Lib.hid (abN_len m k)
            go_wp2
            clear r1 f1 r10 r11 r12 r2 f2 r20 r21 r22 r23
            go_loopw [54] (fun s54 wi => ∃ j : Nat, j ≤ n ∧ s54 = .int .i64 (j : Int) ∧ ASt wv g (abX m k j) ⟨a0, c0, a1, c1, a2, c2⟩ wi) (fun s54 _ => n - (intOf s54).toNat)
            case atStart => exact ⟨0, Nat.zero_le _, rfl, hA0⟩
            case round =>
              rename World => wi
              obtain ⟨j, hj, rfl, hX⟩ := hrel
              have hsi := hX.bel.size
              have hbi := Lib.hid (hbo.out.trans (hX.bel.mono hso))
              have hbW := Lib.hid (hbel2.out.trans (hX.bel.mono hsr))
              have T := Lib.hid (SW.out.call hbW.out)
              obtain ⟨⟨r1, f1, r10, r11, r12, -⟩, ⟨r2, f2, r20, r21, r22, r23, -⟩, -⟩ := T.out.facts
              obtain ⟨gz, gf, g0, g1, g2⟩ := hX.facts
              dsimp only at g0 g1 g2
              by_cases hlt2 : j < n
              · obtain ⟨b, off, rfl, hb, hc⟩ := hA.out (by omega)
                have y := (hbi.out.cell (p := ⟨b, off + j, none⟩) hb).trans (hc j hlt2)
                unfold opv at y
                have hjL : j < (openL m).length := by rw [hn.out]; exact hlt2
                have hoL := (openL_lt (opA_mem hjL)).1
                have hlx : (abX m k j).next.length = m.next.length := hl.out j
                obtain ⟨bb, eb, hne, lt, fr, cl, hs⟩ := hX.set (i := opA m j) (by rw [hlx]; exact hoL)
                dsimp only at eb
                subst eb
                have ht := tb6 (k := k) (j := j) (by omega) (by omega)
                have hyes := Lib.hid (abN_yes (m := m) (k := k) hjL)
                have hno := Lib.hid (abN_no (m := m) (k := k) hjL)
                have jj : (j : Int) < (n : Int) := by omega
                have j6 : (j : Int) ≤ 64 := by omega
                have e64 : (k : Int) / 2 ^ j = ((k / 2 ^ j : Nat) : Int) := by simp
                have w64' : wrap64 ((k : Int) / 2 ^ j) = ((k / 2 ^ j : Nat) : Int) := by
                  have : k / 2 ^ j ≤ k := Nat.div_le_self _ _
                  rw [e64]
                  generalize k / 2 ^ j = z at this
                  unfold wrap64; omega
                obtain ⟨o, ho⟩ : ∃ o, opA m j = o := ⟨_, rfl⟩
                rw [ho] at y cl hs hoL hyes
                replace ho := Lib.hid ho
                have jo : (o : Int) < (m.next.length : Int) := by omega
                have g1' : wi.cell? ⟨g, 1, none⟩ = some (.slice (some ⟨bb, 0, none⟩) m.next.length c1) := by rw [g1, hlx]
                have hX2 := Lib.hid hX
                have hs2 := Lib.hid (hs (-1))
                replace hlx := Lib.hid hlx
                replace e64 := Lib.hid e64
                replace hjL := Lib.hid hjL
                clear hX hc hs g1
                cases hkb : k.testBit j with
                | true =>
                  rw [hkb] at ht
                  have hy := Lib.hid (hyes.out hkb)
                  replace hkb := Lib.hid hkb
                  clear hyes hno
                  go_wp2
                  go_roundw
                  case rel => exact ⟨j + 1, by omega, by go_num, by unfold abX; rw [hy.out]; exact hs2.out⟩
                  case measure => simp [intOf]; omega
                | false =>
                  rw [hkb] at ht
                  have hy := Lib.hid (hno.out hkb)
                  replace hkb := Lib.hid hkb
                  clear hyes hno
                  go_wp2
                  go_roundw
                  case rel => exact ⟨j + 1, by omega, by go_num, by unfold abX; rw [hy.out]; exact hX2.out⟩
                  case measure => simp [intOf]; omega
              · obtain rfl : j = n := by omega
                have hab : abX m k j = abM m k := by rw [← hn.out]; exact abX_all m k
                rw [hab] at hX g0 g1 g2
                have hEl : Hid (MEl wi w.heap.size wo.heap.size (abM m k) ⟨a0, c0, a1, c1, a2, c2⟩) := Lib.hid ⟨Or.inr (hX.ao.base hso), hX.ao.bd hmb0.out.h8⟩
                have hMi := Lib.hid (hM.out.to (by omega) hX.bel)
                have hMr := Lib.hid hMi.out.row
                have hso2 : wo.heap.size ≤ wi.heap.size := Nat.le_trans hso hsi
                have hK := Lib.hid (abK_len m k)
                have hKn := Lib.hid (abK_next m k)
                obtain ⟨x, hx⟩ : ∃ x, abM m k = x := ⟨_, rfl⟩
                rw [hx] at hEl hKn g0 g1 g2
                replace hx := Lib.hid hx
                clear hX hlt2 hab
                go_wp2_with (at_builtin; refine push_own elMix rfl _ _ rfl wo.heap.size _ (abK m k).length (mxRow (abK m k) Q) hMr.out rfl [.slice a0 x.base.length c0, .slice a1 x.next.length c1, .slice a2 x.held.length c2] rfl rfl rfl (by rw [hK.out]; omega) (by omega) hso2 ?_)
                intro v' w6 hown6 hg6 hb6 hs6 _
                have hM6 := Lib.hid (hMi.out.snoc hEl.out (by omega) hso2 hown6 hg6)
                rw [← hKn.out] at hM6
                have hb7 := Lib.hid (hbi.out.trans hb6)
                clear hown6 hg6 hb6 hs6
                go_wp2
                go_roundw
                case rel => exact ⟨k + 1, _, by omega, by go_num, hM6.out, hb7.out⟩
                case measure => simp [intOf]; omega
        · obtain rfl : k = N := by omega
          have hM7 := hM.out
          have hKN : abK m k = abL m := by rw [← hN.out, ← hn.out]; exact abK_all m
          rw [hKN] at hM7
          obtain ⟨AM, cM, rfl, -⟩ := hM7.arr
          have hM8 := Lib.hid (hM7.base (B' := w.heap.size) (by omega))
          clear hM7 hlt
          go_wp2
          refine bodyPost_ret (v := .tuple #[.slice AM (abL m).length cM, .int .i64 0]) (by simp [results, Try.results60, go_sem]) rfl ?_
          exact Ret.mk ⟨T.out.bel, AM, cM, Q, rfl, hM8.out⟩
end Go.Proofs.Ytickckehhfdoeaa
