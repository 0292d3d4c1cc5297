/-
  LISTS of mixes; CONTRACT of step.Run.
  Conditions: those that each theorem names.
-/
import Derived.Test.YtickckehhfdoeaaSb6
import Derived.Deep.DeepCutAuto
import Derived.Test.YtickckehhfdoeaaSb2

namespace Go.Proofs.Ytickckehhfdoeaa
open Go.RowKit Go.Sv
def mxC (m : Mx) (q : MixP) : Nat → Value
  | 0 => .slice q.a0 m.base.length q.c0
  | 1 => .slice q.a1 m.next.length q.c1
  | _ => .slice q.a2 m.held.length q.c2
def mxF (ms : List Mx) (Q : Nat → MixP) (k i : Nat) : Value := mxC (mxAt ms k) (Q k) i
def mxRow (ms : List Mx) (Q : Nat → MixP) : List Value := rowN 3 ms.length (mxF ms Q)
theorem mxRow_len (ms : List Mx) (Q : Nat → MixP) : (mxRow ms Q).length = ms.length * 3 := rowN_length ..
theorem mxRow_get {ms : List Mx} {Q : Nat → MixP} {k i : Nat} (hk : k < ms.length) (hi : i < 3) : (mxRow ms Q)[k * 3 + i]? = some (mxF ms Q k i) := rowN_get hk hi
def Qs (n : Nat) (Q : Nat → MixP) (q : MixP) (k : Nat) : MixP := if k = n then q else Q k
theorem Qs_lt {n k : Nat} {Q : Nat → MixP} {q : MixP} (h : k < n) : Qs n Q q k = Q k := if_neg (by omega)
theorem Qs_at {n : Nat} {Q : Nat → MixP} {q : MixP} : Qs n Q q n = q := if_pos rfl
theorem mxRow_snoc (ms : List Mx) (Q : Nat → MixP) (m : Mx) (q : MixP) : mxRow (ms ++ [m]) (Qs ms.length Q q) = mxRow ms Q ++ [.slice q.a0 m.base.length q.c0, .slice q.a1 m.next.length q.c1, .slice q.a2 m.held.length q.c2] := by
  unfold mxRow
  rw [List.length_append, List.length_singleton, rowN_snoc (f := mxF ms Q) (by decide) (fun k hk i _ => by unfold mxF; rw [mxAt_snoc_lt hk, Qs_lt hk])]
  unfold mxF
  rw [mxAt_snoc_last, Qs_at]
  rfl
theorem mx_cells {w : World} {b off k : Nat} {ms : List Mx} {Q : Nat → MixP} (h : ∀ i, i < 3 → w.cell? ⟨b, off + k * 3 + i, none⟩ = some (mxF ms Q k i)) :
    w.cell? ⟨b, off + k * 3, none⟩ = some (.slice (Q k).a0 (mxAt ms k).base.length (Q k).c0) ∧ w.cell? ⟨b, off + k * 3 + 1, none⟩ = some (.slice (Q k).a1 (mxAt ms k).next.length (Q k).c1) ∧ w.cell? ⟨b, off + k * 3 + 2, none⟩ = some (.slice (Q k).a2 (mxAt ms k).held.length (Q k).c2) := ⟨h 0 (by decide), h 1 (by decide), h 2 (by decide)⟩
/-- rows of another element type lie in other blocks -/
theorem ownO_other {w w' : World} {base base' : Nat} {e e' : TypeId} {size size' : Nat} {v u : Value} {n m : Nat} {xs ys : List Value} (h : w.ownsRow base e size v n xs) (hu : w.ownsRow base' e' size' u m ys) (hne : e ≠ e') (hg : w.grownBy w' u.ownBlock) : w'.ownsRow base e size v n xs := by
  refine ⟨h.1, ?_⟩
  rcases h.2 with hn | ⟨g, cap, cur, hv, hb, hgg, rest⟩
  · exact Or.inl hn
  · have hw : Whole w g e cur := hgg
    refine Or.inr ⟨g, cap, cur, hv, hb, hw.grown hg ?_, rest⟩
    intro heq
    rcases hu.2 with ⟨hv2, _⟩ | ⟨g2, cap2, cur2, hv2, _, hgg2, _⟩
    · rw [hv2] at heq; cases heq
    · rw [hv2] at heq
      have h3 : some g = some g2 := heq
      injection h3 with h3
      subst h3
      rw [hgg] at hgg2
      injection hgg2 with h4
      injection h4 with _ h5 _
      exact hne h5
theorem own_one {w : World} {B s : Nat} {e : TypeId} {cs : List Value} (hl : cs.length = s) (hB : B ≤ w.heap.size) : (w.alloc (.cells cs.toArray e)).ownsRow B e s (.slice (some ⟨w.heap.size, 0, none⟩) 1 1) 1 cs :=
  ⟨by rw [hl, Nat.one_mul], Or.inr ⟨w.heap.size, 1, cs.toArray, rfl, hB, Whole.new w e cs.toArray, Nat.le_refl _, by unfold maxLen; decide, by simp [hl], by rw [Nat.one_mul, List.take_of_length_le (by simp [hl])]⟩⟩
theorem elMix : ElemT Try.prog 40 56 (.agg #[.slice none 0 0, .slice none 0 0, .slice none 0 0]) 3 72 := ⟨Try.underlying40, by kernel_rfl, by kernel_rfl, by omega⟩
/-- an element of a list of mixes: its rows lie below A, or are the call's own, from B on -/
def MEl (W : World) (A B : Nat) (m : Mx) (q : MixP) : Prop := (RMix W A m q ∨ AO W B m q) ∧ MBd m q
theorem MEl.to {W W' : World} {A B : Nat} {m : Mx} {q : MixP} (h : MEl W A B m q) (hA : A ≤ W.heap.size) (hb : Below W.heap.size W W') : MEl W' A B m q :=
  ⟨h.1.imp (fun h => h.below (hb.mono hA)) (fun h => h.to hb), h.2⟩
theorem MEl.mix {W : World} {A B : Nat} {m : Mx} {q : MixP} (h : MEl W A B m q) (hA : A ≤ W.heap.size) : RMix W W.heap.size m q :=
  h.1.elim (fun h => h.more hA) (fun h => h.mix)
theorem MEl.push {W W' : World} {A B B' s n : Nat} {m : Mx} {q : MixP} {u : Value} {ys : List Value} (h : MEl W A B m q) (hu : W.ownsRow B' 56 s u n ys) (hg : W.grownBy W' u.ownBlock) (hb : Below A W W') : MEl W' A B m q :=
  ⟨h.1.imp (fun h => h.below hb) (fun h => ⟨ownO_other h.o0 hu (by decide) hg, ownO_other h.o1 hu (by decide) hg, ownO_other h.o2 hu (by decide) hg, h.d01, h.d02, h.d12⟩), h.2⟩
theorem MEl.base {W : World} {A B B' : Nat} {m : Mx} {q : MixP} (h : MEl W A B m q) (hB : B' ≤ B) : MEl W A B' m q := ⟨h.1.imp id (fun h => h.base hB), h.2⟩
structure MxL (W : World) (A B : Nat) (ms : List Mx) (Q : Nat → MixP) (v : Value) : Prop where
  row : W.ownsRow B 56 3 v ms.length (mxRow ms Q)
  el : ∀ k, k < ms.length → MEl W A B (mxAt ms k) (Q k)
theorem MxL.to {W W' : World} {A B : Nat} {ms : List Mx} {Q : Nat → MixP} {v : Value} (h : MxL W A B ms Q v) (hA : A ≤ W.heap.size) (hb : Below W.heap.size W W') : MxL W' A B ms Q v :=
  ⟨own_to h.row hb, fun k hk => (h.el k hk).to hA hb⟩
theorem MxL.base {W : World} {A B B' : Nat} {ms : List Mx} {Q : Nat → MixP} {v : Value} (h : MxL W A B ms Q v) (hB : B' ≤ B) : MxL W A B' ms Q v :=
  ⟨own_base h.row hB, fun k hk => (h.el k hk).base hB⟩
theorem MxL.arr {W : World} {A B : Nat} {ms : List Mx} {Q : Nat → MixP} {v : Value} (h : MxL W A B ms Q v) : ∃ A c, v = .slice A ms.length c ∧ ArrN W W.heap.size 3 A ms.length (mxF ms Q) := by
  obtain ⟨A, c, hv, _, _, ha⟩ := own_arrN (f := mxF ms Q) h.row (fun k hk i hi => mxRow_get hk hi)
  exact ⟨A, c, hv, ha⟩
/-- one more mix -/
theorem MxL.snoc {W W' : World} {A B : Nat} {ms : List Mx} {Q : Nat → MixP} {v v' : Value} {m : Mx} {q : MixP} {o : Obj} (h : MxL W A B ms Q v) (hm : MEl W A B m q) (hA : A ≤ B) (hB : B ≤ W.heap.size)
    (ho : W'.ownsRow B 56 3 v' (ms.length + 1) (mxRow ms Q ++ [.slice q.a0 m.base.length q.c0, .slice q.a1 m.next.length q.c1, .slice q.a2 m.held.length q.c2])) (hg : (W.alloc o).grownBy W' v.ownBlock) : MxL W' A B (ms ++ [m]) (Qs ms.length Q q) v' := by
  have ha : Below W.heap.size W (W.alloc o) := (Below.refl _ _).alloc (Nat.le_refl _) o
  have hb2 : Below A (W.alloc o) W' := (own_below (own_to h.row ha) hg (Nat.le_trans hB ha.size)).mono hA
  have hAW := Nat.le_trans hA hB
  refine ⟨?_, fun k hk => ?_⟩
  · show World.ownsRow _ _ _ _ _ (ms ++ [m]).length _
    rw [List.length_append, List.length_singleton, mxRow_snoc]
    exact ho
  · rw [List.length_append, List.length_singleton] at hk
    by_cases c : k < ms.length
    · rw [mxAt_snoc_lt c, Qs_lt c]
      exact ((h.el k c).to hAW ha).push (own_to h.row ha) hg hb2
    · obtain rfl : k = ms.length := by omega
      rw [mxAt_snoc_last, Qs_at]
      exact (hm.to hAW ha).push (own_to h.row ha) hg hb2
/-- a list of one mix -/
theorem MxL.one {W : World} {A B : Nat} {m : Mx} {q : MixP} (hm : MEl W A B m q) (hA : A ≤ B) (hB : B ≤ W.heap.size) : MxL (W.alloc (.cells #[.slice q.a0 m.base.length q.c0, .slice q.a1 m.next.length q.c1, .slice q.a2 m.held.length q.c2] 56)) A B [m] (fun _ => q) (.slice (some ⟨W.heap.size, 0, none⟩) 1 1) :=
  ⟨by
    have h := own_one (w := W) (B := B) (e := 56) (cs := [.slice q.a0 m.base.length q.c0, .slice q.a1 m.next.length q.c1, .slice q.a2 m.held.length q.c2]) (s := 3) rfl hB
    have e : mxRow [m] (fun _ => q) = [.slice q.a0 m.base.length q.c0, .slice q.a1 m.next.length q.c1, .slice q.a2 m.held.length q.c2] := by
      unfold mxRow rowN
      simp [List.range_succ, mxF, mxC, mxAt]
    show World.ownsRow _ _ _ _ _ 1 (mxRow [m] fun _ => q)
    rw [e]
    exact h, fun k hk => by
    have : k = 0 := by simpa using hk
    subst this
    exact hm.to (Nat.le_trans hA hB) ((Below.refl _ _).alloc (Nat.le_refl _) _)⟩
theorem MxL.nil (W : World) (A B : Nat) : MxL W A B [] (fun _ => ⟨none, 0, none, 0, none, 0⟩) (.slice none 0 0) := ⟨World.ownsRow_nil _ _ _ _, fun k hk => by cases hk⟩
/-- mixes, a number, an error -/
def RunR (w : World) (ms : List Mx) (n e : Int) (v : Value) (w' : World) : Prop := Below w.heap.size w w' ∧ ∃ A c Q, v = .tuple #[.slice A ms.length c, .int .i64 n, .int .i64 e] ∧ MxL w' w.heap.size w.heap.size ms Q (.slice A ms.length c)
end Go.Proofs.Ytickckehhfdoeaa

namespace Go.Proofs.Ytickckehhfdoeaa
open Go.RowKit Go.Sv
set_option maxHeartbeats 4000000 in
set_option maxRecDepth 100000 in
theorem Run_any (p : Prob) (q : ProbP) (m : Mx) (qm : MixP) (A : Option Addr) (c : Nat) (l : List Sp) (w : World) (hp : RProb w w.heap.size p q) (hbd : PBd p) (hm : RMix w w.heap.size m qm) (hmb : MBd m qm) (hL : ArrN w w.heap.size 3 A l.length (spF l)) (hl : l.length ≤ 1000000) :
    Calls Try.prog 73 #[probV p q, mixV m qm, .slice A l.length c] w (Ret (RunR w (rnL p m l) (rnN p m l) (rnE p m l))) := by
  obtain ⟨W, hW, S⟩ := pm_boxes p q m qm w
  have HV := Lib.hid (mvalid_any p q m qm W (hp.to S.bel) hbd (hm.to S.bel) hmb)
  have hsz : w.heap.size + 2 ≤ W.heap.size := by rw [← hW]; simp
  by_cases h0 : mixE p m = 0
  · have hok := mixE_ok.1 h0
    have hps := prob_small hok.pr
    have HC := Lib.hid (fun W2 (h : Below W.heap.size W W2) => cloned_any m qm W2 ((hm.to S.bel).to h) hmb (by have := hok.lb; omega) (by have := hok.ln; omega) (by have := hok.lh; omega))
    have HA := Lib.hid (fun (x : Mx) (qx : MixP) (s : Sp) (W2 : World) (h : Below W.heap.size W W2) (hx : RMix W2 W2.heap.size x qx) (hxb : MBd x qx) (hxo : MOk p x) => apply_any p q x qx s W2 ((hp.to S.bel).to h) hbd hx hxb hxo)
    have hLw := Lib.hid (fun W2 (h : Below W.heap.size W W2) => hL.below (S.bel.trans (h.mono S.size)))
    rw [h0] at HV
    have hmb0 := Lib.hid hmb
    obtain ⟨qa0, qc0, qa1, qc1, qa2, qc2, qa3, qc3⟩ := q
    obtain ⟨ma0, mc0, ma1, mc1, ma2, mc2⟩ := qm
    dsimp only at HV HC HA hW S ⊢
    obtain ⟨⟨r1, f1, r10, r11, r12, -⟩, ⟨r2, f2, r20, r21, r22, r23, -⟩, -⟩ := S.facts
    have SW := Lib.hid S
    replace hok := Lib.hid hok
    clear S hp hbd hm hmb h0 hL hps
    go_enter Try.func73, Try.ntmps73
    go_wp2_with fail
    clear hW
    with_reducible refine HV.out.mono ?_
    rintro e w1 ⟨rfl, hb1⟩
    clear r1 f1 r10 r11 r12 r2 f2 r20 r21 r22 r23
    have S1 := Lib.hid (SW.out.call hb1)
    replace hb1 := Lib.hid hb1
    obtain ⟨⟨r1, f1, r10, r11, r12, -⟩, ⟨r2, f2, r20, r21, r22, r23, -⟩, -⟩ := S1.out.facts
    go_wp2_with fail
    with_reducible refine (HC.out w1 hb1.out).mono ?_
    rintro e w2 ⟨_, rfl, qc, rfl, ha2, hb2⟩
    have hb2' := hb1.out.trans (hb2.mono hb1.out.size)
    have hW2 : W.heap.size ≤ w2.heap.size := hb2'.size
    clear r1 f1 r10 r11 r12 r2 f2 r20 r21 r22 r23
    have hEl : Hid (MEl w2 w.heap.size W.heap.size m qc) := Lib.hid ⟨Or.inr (ha2.base hb1.out.size), ha2.bd hmb0.out.h8⟩
    have hM := Lib.hid (MxL.one hEl.out (by omega) hW2)
    have hB3 := Lib.hid (hb2'.trans (((Below.refl _ _).alloc hW2 (.cells #[.slice qc.a0 m.base.length qc.c0, .slice qc.a1 m.next.length qc.c1, .slice qc.a2 m.held.length qc.c2] 56))))
    have hRn := Lib.hid (Ran.start l hok.out)
    obtain ⟨n0, c0, n1, c1, n2, c2⟩ := qc
    clear hb2' hb2 ha2
    go_wp2
    go_loopw [10, 26] (fun s10 s26 wr => ∃ (k : Nat) (ms : List Mx) (Q : Nat → MixP), s26 = .int .i64 k ∧ Hid (Ran p m l k ms) ∧ Hid (MxL wr w.heap.size W.heap.size ms Q s10) ∧ Below W.heap.size W wr) (fun _ s26 _ => l.length - (intOf s26).toNat)
    case atStart => exact ⟨0, [m], _, rfl, hRn, hM, hB3.out⟩
    case round =>
      obtain ⟨k, ms, Q, rfl, hR, hM, hbel⟩ := hrel
      have T := Lib.hid (SW.out.call hbel)
      obtain ⟨⟨r1, f1, r10, r11, r12, -⟩, ⟨r2, f2, r20, r21, r22, r23, -⟩, -⟩ := T.out.facts
      have hkl := hR.out.hk
      have hml := Lib.hid hR.out.len
      by_cases hlt : k < l.length
      · obtain ⟨bL, oL, rfl, hbL, hcL⟩ := (hLw.out wr hbel) (by omega)
        obtain ⟨c0, c1, c2⟩ := sp_cells (hcL k hlt)
        obtain ⟨AM, cM, rfl, haM⟩ := hM.out.arr
        obtain ⟨bM, oM, rfl, hbM, hcM⟩ := haM (by rw [hml.out]; omega)
        obtain ⟨d0, d1, d2⟩ := mx_cells (hcM k (by rw [hml.out]; omega))
        have hEk := Lib.hid (hM.out.el k (by rw [hml.out]; omega))
        have hOk := Lib.hid (hR.out.ok k (by rw [hml.out]; omega))
        have hNext := Lib.hid (hR.out.next hlt)
        have hBad := Lib.hid (fun ha => hR.out.bad hok.out hlt ha)
        clear hcL hcM haM
        obtain ⟨s, hs⟩ : ∃ s, spAt l k = s := ⟨_, rfl⟩
        rw [hs] at c0 c1 c2 hNext hBad
        obtain ⟨x, hx⟩ : ∃ x, mxAt ms k = x := ⟨_, rfl⟩
        rw [hx] at d0 d1 d2 hNext hBad hEk hOk
        obtain ⟨⟨xa0, xc0, xa1, xc1, xa2, xc2⟩, hq⟩ : ∃ y, Q k = y := ⟨_, rfl⟩
        rw [hq] at d0 d1 d2 hEk
        dsimp only at d0 d1 d2
        obtain ⟨kd, ix, v⟩ := s
        dsimp only at c0 c1 c2
        obtain ⟨W3, (hW3 : wr.alloc (.cells #[.int .i64 kd, .int .i64 ix, .int .i64 v] 63) = W3), S3, hB3⟩ := fm_boxE T.out 63 [.int .i64 kd, .int .i64 ix, .int .i64 v]
        have hb3' := Lib.hid (hbel.trans (hB3.mono hbel.size))
        have jk : (k : Int) < (l.length : Int) := by omega
        have jm : (k : Int) < (ms.length : Int) := by rw [hml.out]; omega
        have e0 := (hB3.cell (p := ⟨bM, oM + k * 3, none⟩) hbM).trans d0
        have e1 := (hB3.cell (p := ⟨bM, oM + k * 3 + 1, none⟩) hbM).trans d1
        have e2 := (hB3.cell (p := ⟨bM, oM + k * 3 + 2, none⟩) hbM).trans d2
        have hwW : wr.heap.size < W3.heap.size := by rw [← hW3]; simp
        have hbM3 : bM < W3.heap.size := by omega
        have hbLw : bL < wr.heap.size := by have := S3.size; have := T.out.size; omega
        obtain ⟨⟨u1, g1, u10, u11, u12, -⟩, ⟨v1, h1, v10, v11, v12, -⟩, ⟨v2, h2, v20, v21, v22, v23, -⟩, -⟩ := S3.facts
        have hAA := Lib.hid (fun W4 (h : Below W3.heap.size W3 W4) => HA.out x ⟨xa0, xc0, xa1, xc1, xa2, xc2⟩ ⟨kd, ix, v⟩ W4 (hb3'.out.trans (h.mono hb3'.out.size)) ((hEk.out.mix (by have := T.out.size; omega)).to (hB3.trans (h.mono hB3.size))) hEk.out.2 hOk.out)
        have hMW := Lib.hid hM
        replace S3 := Lib.hid S3
        obtain ⟨y, hy⟩ : ∃ y, apM p x ⟨kd, ix, v⟩ = y := ⟨_, rfl⟩
        obtain ⟨er, her⟩ : ∃ er, appE p x ⟨kd, ix, v⟩ = er := ⟨_, rfl⟩
        have hY8 := Lib.hid (apM_h8 (s := ⟨kd, ix, v⟩) hOk.out hEk.out.2.h8)
        rw [hy, her] at hAA hY8
        dsimp only [probV, mixV, stepV] at hAA
        rw [her] at hBad hNext
        rw [hy] at hNext
        have SR := Lib.hid ((Fm.init wr).box 63 [.int .i64 kd, .int .i64 ix, .int .i64 v])
        rw [hW3] at SR
        go_upto_region 8 with fail
        go_cut [13, 14] (fun s13 s14 wx => ∃ (g : Nat) (y0 y1 y2 : Option Addr) (z0 z1 z2 : Nat), s13 = .pointer (some ⟨g, 0, none⟩) ∧ s14 = .int .i64 er ∧ Fm wr wx [⟨g, 56, [.slice y0 y.base.length z0, .slice y1 y.next.length z1, .slice y2 y.held.length z2]⟩, ⟨wr.heap.size, 63, [.int .i64 kd, .int .i64 ix, .int .i64 v]⟩] [] ∧ AO wx wr.heap.size y ⟨y0, z0, y1, z1, y2, z2⟩)
        case first =>
          clear hW3
          have lB := hB3.size
          have i1 : ¬ w.heap.size = W3.heap.size := by omega
          have i2 : ¬ W3.heap.size = w.heap.size := by omega
          have i3 : ¬ bM = W3.heap.size := by omega
          have i4 : ¬ W3.heap.size = bM := by omega
          have i5 : ¬ wr.heap.size = W3.heap.size := by omega
          have i6 : ¬ W3.heap.size = wr.heap.size := by omega
          go_region_held3 (fun w' => w'.cell? ⟨w.heap.size, 0, none⟩ = some (.slice qa0 p.vs.length qc0) ∧ w'.cell? ⟨w.heap.size, 1, none⟩ = some (.slice qa1 p.now.length qc1) ∧ w'.cell? ⟨w.heap.size, 2, none⟩ = some (.slice qa2 p.tgt.length qc2) ∧ w'.cell? ⟨w.heap.size, 3, none⟩ = some (.slice qa3 p.tabs.length qc3) ∧
              w'.cell? ⟨bM, oM + k * 3, none⟩ = some (.slice xa0 x.base.length xc0) ∧ w'.cell? ⟨bM, oM + k * 3 + 1, none⟩ = some (.slice xa1 x.next.length xc1) ∧ w'.cell? ⟨bM, oM + k * 3 + 2, none⟩ = some (.slice xa2 x.held.length xc2) ∧
              w'.cell? ⟨wr.heap.size, 0, none⟩ = some (.int .i64 kd) ∧ w'.cell? ⟨wr.heap.size, 1, none⟩ = some (.int .i64 ix) ∧ w'.cell? ⟨wr.heap.size, 2, none⟩ = some (.int .i64 v)) (go_keep)
            (first
              | ((with_reducible refine (hAA.out W3.drew ((Drawn.refl _).drew).below).mono ?_)
                 rintro e w4 ⟨_, rfl, hb4, ⟨y0, z0, y1, z1, y2, z2⟩, rfl, hay⟩
                 have hb4' := ((Drawn.refl W3).drew).below.trans hb4
                 have S4 := Lib.hid (S3.out.call hb4')
                 have k0 := (hb4'.cell (p := ⟨bM, oM + k * 3, none⟩) hbM3).trans e0
                 have k1 := (hb4'.cell (p := ⟨bM, oM + k * 3 + 1, none⟩) hbM3).trans e1
                 have k2 := (hb4'.cell (p := ⟨bM, oM + k * 3 + 2, none⟩) hbM3).trans e2
                 have kl := Nat.lt_of_lt_of_le hbM3 hb4'.size
                 have hFa := Lib.hid (And.intro ((SR.out.call hb4').box 56 [.slice y0 y.base.length z0, .slice y1 y.next.length z1, .slice y2 y.held.length z2]) ((hay.base (B' := wr.heap.size) lB).to ((Below.refl _ _).alloc (Nat.le_refl _) (.cells #[.slice y0 y.base.length z0, .slice y1 y.next.length z1, .slice y2 y.held.length z2] 56))))
                 clear r1 f1 r10 r11 r12 r2 f2 r20 r21 r22 r23 u1 g1 u10 u11 u12 v1 h1 v10 v11 v12 v2 h2 v20 v21 v22 v23 c0 c1 c2 d0 d1 d2 e0 e1 e2
                 obtain ⟨⟨u1, g1, u10, u11, u12, -⟩, ⟨v1, h1, v10, v11, v12, -⟩, ⟨v2, h2, v20, v21, v22, v23, -⟩, -⟩ := S4.out.facts
                 clear hb4 hb4' hay)
              | ((with_reducible refine (hAA.out (W3.alloc (.cells #[.slice none 0 0, .slice none 0 0, .slice none 0 0] 56)).drew (((Below.refl _ _).alloc (Nat.le_refl _) _).drawn ((Drawn.refl _).drew))).mono ?_)
                 rintro e w4 ⟨_, rfl, hb4, ⟨y0, z0, y1, z1, y2, z2⟩, rfl, hay⟩
                 have hb4a := ((Drawn.refl (W3.alloc (.cells #[.slice none 0 0, .slice none 0 0, .slice none 0 0] 56))).drew).below.trans hb4
                 have hz : (W3.alloc (.cells #[.slice none 0 0, .slice none 0 0, .slice none 0 0] 56)).heap.size = W3.heap.size + 1 := by simp
                 have hb4' := ((Below.refl W3.heap.size W3).alloc (Nat.le_refl _) (.cells #[.slice none 0 0, .slice none 0 0, .slice none 0 0] 56)).trans (hb4a.mono (Nat.le_trans (Nat.le_succ _) (Nat.le_of_eq hz.symm)))
                 have S4 := Lib.hid ((S3.out.box 56 [.slice none 0 0, .slice none 0 0, .slice none 0 0]).call hb4a)
                 have k0 := (hb4'.cell (p := ⟨bM, oM + k * 3, none⟩) hbM3).trans e0
                 have k1 := (hb4'.cell (p := ⟨bM, oM + k * 3 + 1, none⟩) hbM3).trans e1
                 have k2 := (hb4'.cell (p := ⟨bM, oM + k * 3 + 2, none⟩) hbM3).trans e2
                 have kl := Nat.lt_of_lt_of_le hbM3 hb4'.size
                 have hFb := Lib.hid (And.intro (((((SR.out.box 56 [.slice none 0 0, .slice none 0 0, .slice none 0 0]).call hb4a).set 0 rfl 0 (.slice y0 y.base.length z0)).set 0 rfl 1 (.slice y1 y.next.length z1)).set 0 rfl 2 (.slice y2 y.held.length z2)) ((hay.far3 (g := W3.heap.size) (by show W3.heap.size < (W3.alloc _).heap.size; rw [hz]; omega) (.slice y0 y.base.length z0) (.slice y1 y.next.length z1) (.slice y2 y.held.length z2)).base (B' := wr.heap.size) (Nat.le_trans lB (Nat.le_trans (Nat.le_succ _) (Nat.le_of_eq hz.symm)))))
                 clear r1 f1 r10 r11 r12 r2 f2 r20 r21 r22 r23 u1 g1 u10 u11 u12 v1 h1 v10 v11 v12 v2 h2 v20 v21 v22 v23 c0 c1 c2 d0 d1 d2 e0 e1 e2
                 obtain ⟨⟨t1, o1, t10, t11, t12, -⟩, ⟨u1, g1, u10, u11, u12, -⟩, ⟨v1, h1, v10, v11, v12, -⟩, ⟨v2, h2, v20, v21, v22, v23, -⟩, -⟩ := S4.out.facts
                 clear hb4 hb4' hb4a hay hz))
          all_goals (go_wp2_with fail; go_meet)
          all_goals
            first
              | exact ⟨_, y0, y1, y2, z0, z1, z2, rfl, rfl, hFa.out.1, hFa.out.2⟩
              | exact ⟨_, y0, y1, y2, z0, z1, z2, rfl, rfl, hFb.out.1, hFb.out.2⟩
        case rest =>
          rename World => wx
          obtain ⟨g, y0, y1, y2, z0, z1, z2, rfl, rfl, SX, hay⟩ := hcut
          clear r1 f1 r10 r11 r12 r2 f2 r20 r21 r22 r23 u1 g1 u10 u11 u12 v1 h1 v10 v11 v12 v2 h2 v20 v21 v22 v23 c0 c1 c2 d0 d1 d2 e0 e1 e2
          have hbX := Lib.hid (hbel.trans (SX.bel.mono hbel.size))
          have hsX : W.heap.size ≤ wx.heap.size := hbX.out.size
          have SY := Lib.hid (SW.out.call hbX.out)
          obtain ⟨⟨u1, g1, u10, u11, u12, -⟩, -⟩ := SX.facts
          cases her0 : (er != 0) with
          | true =>
            have hAns := Lib.hid (hBad.out (by simpa using her0))
            clear hNext hBad hY8 hay
            go_wp2
            refine bodyPost_ret (v := .tuple #[.slice none 0 0, .int .i64 k, .int .i64 er]) (by simp [results, Try.results73, go_sem]) rfl ?_
            exact Ret.mk (by rw [hAns.out.1, hAns.out.2.1, hAns.out.2.2]; exact ⟨SY.out.bel, none, 0, _, rfl, MxL.nil _ _ _⟩)
          | false =>
            have her1 : er = 0 := by simpa using her0
            have hNx := Lib.hid (hNext.out her1)
            have hY := Lib.hid (hY8.out her1)
            have hEy : Hid (MEl wx w.heap.size W.heap.size y ⟨y0, z0, y1, z1, y2, z2⟩) := Lib.hid ⟨Or.inr (hay.base hbel.size), hay.bd hY.out⟩
            have hMx := Lib.hid (hM.out.to (by have := T.out.size; omega) SX.bel)
            subst her1
            clear hNext hBad hY8 her0 hay
            have hMrow := Lib.hid hMx.out.row
            go_wp2_with (at_builtin; refine push_own elMix rfl _ _ rfl W.heap.size _ ms.length (mxRow ms Q) hMrow.out rfl [.slice y0 y.base.length z0, .slice y1 y.next.length z1, .slice y2 y.held.length z2] rfl rfl rfl (by rw [hml.out]; omega) (by omega) hsX ?_)
            intro v' w6 hown6 hg6 hb6 hs6 _
            have hM6 := Lib.hid (hMx.out.snoc hEy.out (by omega) hsX hown6 hg6)
            have hb7 := Lib.hid (hbX.out.trans hb6)
            clear hown6 hg6 hb6 hs6
            go_wp2
            go_roundw
            case rel => exact ⟨k + 1, ms ++ [y], _, by go_num, hNx, hM6, hb7.out⟩
            case measure => simp [intOf]; omega
      · obtain rfl : k = l.length := by omega
        have hAns := Lib.hid (hR.out.fin hok.out)
        obtain ⟨AM, cM, rfl, -⟩ := hM.out.arr
        have hM7 := Lib.hid (hM.out.base (B' := w.heap.size) (by omega))
        replace hbel := Lib.hid hbel
        clear hlt
        go_wp2
        refine bodyPost_ret (v := .tuple #[.slice AM ms.length cM, .int .i64 l.length, .int .i64 0]) (by simp [results, Try.results73, go_sem]) rfl ?_
        exact Ret.mk (by rw [hAns.out.1, hAns.out.2.1, hAns.out.2.2]; exact ⟨T.out.bel, AM, cM, Q, rfl, hM7.out⟩)
  · obtain ⟨a1, a2, a3⟩ := run_bad l h0
    rw [a1, a2, a3]
    obtain ⟨er, her⟩ : ∃ er, mixE p m = er := ⟨_, rfl⟩
    rw [her] at HV h0 ⊢
    have hne : (er != 0) = true := by simpa using h0
    obtain ⟨qa0, qc0, qa1, qc1, qa2, qc2, qa3, qc3⟩ := q
    obtain ⟨ma0, mc0, ma1, mc1, ma2, mc2⟩ := qm
    dsimp only at HV hW S ⊢
    obtain ⟨⟨r1, f1, r10, r11, r12, -⟩, ⟨r2, f2, r20, r21, r22, r23, -⟩, -⟩ := S.facts
    have SW := Lib.hid S
    clear S hp hbd hm hmb her h0 a1 a2 a3 hL
    go_enter Try.func73, Try.ntmps73
    go_wp2_with fail
    clear hW
    with_reducible refine HV.out.mono ?_
    rintro e w1 ⟨rfl, hb1⟩
    have S1 := Lib.hid (SW.out.call hb1)
    clear r1 f1 r10 r11 r12 r2 f2 r20 r21 r22 r23 hb1
    go_wp2
    refine bodyPost_ret (v := .tuple #[.slice none 0 0, .int .i64 0, .int .i64 er]) (by simp [results, Try.results73, go_sem]) rfl ?_
    exact Ret.mk ⟨S1.out.bel, none, 0, _, rfl, MxL.nil _ _ _⟩
end Go.Proofs.Ytickckehhfdoeaa

namespace Go.Proofs.Ytickckehhfdoeaa
open Go.RowKit Go.Sv
/-- 'out = append(out, x, y)': both lie in a new block of their own -/
theorem push2_own {P : Program} {t e : TypeId} {z : Value} {size bytes : Nat} (E : ElemT P t e z size bytes) {w : World} {ops : Array Oper} {rest : List Oper} {o : Oper} {a : Act} {Q : Exit → Act → World → Prop}
    (hgd : o.guard = none) (s x : Operand) (ho : o.op = .call { callee := .builtin .append, args := #[s, x], argTypes := #[t, t] })
    (base : Nat) (v : Value) (n : Nat) (xs : List Value) (hown : w.ownsRow base e size v n xs) (hs : a.eval s = v)
    (cs : List Value) (hx : a.eval x = .slice (some ⟨w.heap.size, 0, none⟩) 2 2) (hcl : cs.length = 2 * size) (h1 : cs.all (·.oneCell') = true)
    (hn : n ≤ 1073741824) (hby : bytes ≤ 4096) (hbase : base ≤ w.heap.size)
    (h : ∀ v' w', w'.ownsRow base e size v' (n + 2) (xs ++ cs) → (w.alloc (.cells cs.toArray e)).grownBy w' v.ownBlock → Below base w w' → wpList P ops Q rest (a.put o.dst v') w') : wpList P ops Q (o :: rest) a (w.alloc (.cells cs.toArray e)) := by
  obtain ⟨i, hi, e1, e2, e3⟩ := info_parts E.hi
  have hsz : (w.alloc (.cells cs.toArray e)).heap.size = w.heap.size + 1 := by simp
  refine wpList_append_own_at _ hgd s x t ho base e i z size bytes E.ht hi e1 e2 e3 E.hz E.hs v n xs hs (hown.alloc _) ⟨w.heap.size, 0, none⟩ 2 2 cs hx hcl ?_
    (fun u hu => List.all_eq_true.1 h1 u hu) (by unfold maxLen; omega) ?_ (by omega) ?_
  · intro j u hu
    have : (⟨w.heap.size, 0, none⟩ : Addr).add j = ⟨w.heap.size, j, none⟩ := by
      unfold Addr.add
      split
      · rename_i h0; rw [h0]
      · simp
    rw [this, World.cell?_alloc_new]
    simpa using hu
  · have : (n + 2) * bytes ≤ (1073741824 + 2) * 4096 := Nat.mul_le_mul (by omega) hby
    omega
  · intro v' w' hown' hg _ hor
    have hb : Below base w w' := ((Below.refl base w).alloc hbase _).trans (own_below (hown.alloc _) hg (by omega))
    exact h v' w' hown' hg hb
theorem dir1_any (v : Int) (w : World) : Calls Try.prog 46 #[.int .i64 v] w fun e w' => e = .returned (.bool (decide (0 ≤ v))) ∧ w = w' := by
  go_enter Try.func46, Try.ntmps46
  go_wp2
  go_ret
  exact ⟨rfl, rfl⟩
def IxN (w : World) (m : List Int) (e : Ending) (w' : World) : Prop := w = w' ∧ ∃ z : Int, e = .returned (.int .i64 z) ∧ decide (0 ≤ z) = anyB (fun i => decide (0 ≤ gi m i)) m.length
set_option maxRecDepth 100000 in
theorem ixn_any (A : Option Addr) (c : Nat) (m : List Int) (w : World) (B : Nat) (ha : Arr w B A m.length (iv m)) (hl : m.length ≤ 1000000) :
    Calls Try.prog 72 #[.slice A m.length c, .func (.func 46) #[] #[]] w (IxN w m) := by
  have HT := Lib.hid (fun v => dir1_any v w)
  replace ha := Lib.hid ha
  go_enter Try.func72, Try.ntmps72
  go_wp2
  go_loop [5, 8] (fun _ s8 => ∃ k : Nat, s8 = .int .i64 k ∧ k ≤ m.length ∧ ∀ j, j < k → decide (0 ≤ gi m j) = false) (fun _ s8 => m.length - (intOf s8).toNat)
  case atStart => exact ⟨0, rfl, Nat.zero_le _, fun j hj => by omega⟩
  case round =>
    obtain ⟨k, rfl, hk, hall⟩ := hrel
    replace hall := Lib.hid hall
    by_cases hlt : k < m.length
    · obtain ⟨b, o, rfl, -, hc⟩ := ha.out (by omega)
      have d := hc k hlt
      unfold iv at d
      obtain ⟨v, hv⟩ : ∃ v, gi m k = v := ⟨_, rfl⟩
      rw [hv] at d
      have HT1 := Lib.hid (HT.out v)
      have jk : (k : Int) < (m.length : Int) := by omega
      clear hc
      cases hq : decide (0 ≤ v) with
      | true =>
        have hF := Lib.hid (anyB_yes (f := fun i => decide (0 ≤ gi m i)) hlt (by rw [hv]; exact hq))
        rw [hq] at HT1
        replace hv := Lib.hid hv
        clear hq
        go_wp2_with fail
        with_reducible refine HT1.out.mono ?_
        rintro e w' ⟨rfl, rfl⟩
        go_wp2
        go_ret
        exact ⟨rfl, _, rfl, by rw [hF.out]; exact decide_eq_true (by omega)⟩
      | false =>
        have hn : Hid (∀ j, j < k + 1 → decide (0 ≤ gi m j) = false) := Lib.hid fun j hj => by
          rcases Nat.lt_succ_iff_lt_or_eq.1 hj with h | h
          · exact hall.out j h
          · rw [h, hv]; exact hq
        rw [hq] at HT1
        replace hv := Lib.hid hv
        clear hq
        go_wp2_with fail
        with_reducible refine HT1.out.mono ?_
        rintro e w' ⟨rfl, rfl⟩
        go_wp2
        go_round
        case rel => exact ⟨k + 1, by go_num, by omega, hn.out⟩
        case measure => simp [intOf]; omega
    · obtain rfl : k = m.length := by omega
      have hF := Lib.hid (anyB_no hall.out)
      clear hlt
      go_wp2
      go_ret
      exact ⟨rfl, _, rfl, by rw [hF.out]; rfl⟩
set_option maxRecDepth 100000 in
theorem cfn_any (A : Option Addr) (c : Nat) (m : List Int) (w : World) (B : Nat) (ha : Arr w B A m.length (iv m)) (hl : m.length ≤ 1000000) :
    Calls Try.prog 45 #[.slice A m.length c, .func (.func 46) #[] #[]] w fun e w' => e = .returned (.bool (anyB (fun i => decide (0 ≤ gi m i)) m.length)) ∧ w = w' := by
  have H := Lib.hid (ixn_any A c m w B ha hl)
  clear ha
  go_enter Try.func45, Try.ntmps45
  go_wp2_with fail
  with_reducible refine H.out.mono ?_
  rintro e w' ⟨rfl, z, rfl, hz⟩
  replace hz := Lib.hid hz
  go_wp2
  go_ret
  exact ⟨by rw [← hz.out]; rfl, rfl⟩
theorem ls2_next {w wr : World} {l l' : List Sp} {s t : Sp} {v : Value} (h : wr.ownsRow w.heap.size 63 3 v (l.length + 2) (spRow l ++ [.int .i64 s.kind, .int .i64 s.ix, .int .i64 s.ver, .int .i64 t.kind, .int .i64 t.ix, .int .i64 t.ver])) (he : l' = l ++ [s, t]) : LS w wr l' v := by
  subst he
  have e : l ++ [s, t] = (l ++ [s]) ++ [t] := by simp
  rw [e]
  show World.ownsRow _ _ _ _ _ ((l ++ [s]) ++ [t]).length _
  rw [List.length_append, List.length_append, spRow_snoc, spRow_snoc, List.append_assoc]
  exact h
set_option maxHeartbeats 4000000 in
set_option maxRecDepth 100000 in
theorem Direct_any (p : Prob) (q : ProbP) (m : Mx) (qm : MixP) (A : Option Addr) (c : Nat) (tg : List Int) (w : World) (hp : RProb w w.heap.size p q) (hbd : PBd p) (hm : RMix w w.heap.size m qm) (hmb : MBd m qm) (ht : Arr w w.heap.size A tg.length (iv tg)) (htl : tg.length ≤ 1000000) :
    Calls Try.prog 19 #[probV p q, mixV m qm, .slice A tg.length c] w (Ret (StR w (diL p m tg) (diE p m tg))) := by
  obtain ⟨W, hW, S⟩ := pm_boxes p q m qm w
  have HV := Lib.hid (mvalid_any p q m qm W (hp.to S.bel) hbd (hm.to S.bel) hmb)
  have hsz : w.heap.size + 2 ≤ W.heap.size := by rw [← hW]; simp
  have hbd0 := hbd.b0
  by_cases h0 : mixE p m = 0
  · have hok := mixE_ok.1 h0
    have hps := prob_small hok.pr
    have hln := Lib.hid hok.ln
    have hlb := Lib.hid hok.lb
    have hp1 := Lib.hid (fun W2 (h : Below W.heap.size W W2) => ((hp.to S.bel).to h).r0)
    have hm1 := Lib.hid (fun W2 (h : Below W.heap.size W W2) => (hm.to S.bel).to h)
    have ht1 := Lib.hid (fun W2 (h : Below W.heap.size W W2) => ht.below (S.bel.trans (h.mono S.size)))
    have HCF := Lib.hid (fun W2 (h : Below W.heap.size W W2) => cfn_any qm.a1 qm.c1 m.next W2 W2.heap.size ((hm.to S.bel).to h).r1 (by have := hok.ln; omega))
    rw [h0] at HV
    have hD6 := Lib.hid (fun h => di_6 (tg := tg) h0 h)
    have hD7 := Lib.hid (fun h h3 => di_7 (tg := tg) h0 h h3)
    have hD11 := Lib.hid (fun h h3 h4 => di_11 (tg := tg) h0 h h3 h4)
    have hD0 := Lib.hid (fun h h3 h4 => di_0 (tg := tg) h0 h h3 h4)
    obtain ⟨qa0, qc0, qa1, qc1, qa2, qc2, qa3, qc3⟩ := q
    obtain ⟨ma0, mc0, ma1, mc1, ma2, mc2⟩ := qm
    dsimp only at HV HCF hW S ⊢
    obtain ⟨⟨r1, f1, r10, r11, r12, -⟩, ⟨r2, f2, r20, r21, r22, r23, -⟩, -⟩ := S.facts
    have SW := Lib.hid S
    have hv6 := hps.1
    clear S hp hbd hm hmb h0 ht hps hok
    go_enter Try.func19, Try.ntmps19
    go_wp2_with fail
    clear hW
    with_reducible refine HV.out.mono ?_
    rintro e w1 ⟨rfl, hb1⟩
    clear r1 f1 r10 r11 r12 r2 f2 r20 r21 r22 r23
    have S1 := Lib.hid (SW.out.call hb1)
    replace hb1 := Lib.hid hb1
    obtain ⟨⟨r1, f1, r10, r11, r12, -⟩, ⟨r2, f2, r20, r21, r22, r23, -⟩, -⟩ := S1.out.facts
    cases hle : ((tg.length : Int) != (p.vs.length : Int)) with
    | true =>
      have hAns := Lib.hid (hD6.out (fun h => by rw [h] at hle; simp at hle))
      go_wp2
      refine bodyPost_ret (v := .tuple #[.slice none 0 0, .int .i64 6]) (by simp [results, Try.results19, go_sem]) rfl ?_
      exact Ret.mk (by rw [hAns.out.1, hAns.out.2]; exact ⟨S1.out.bel, none, 0, rfl, World.ownsRow_nil _ _ _ _⟩)
    | false =>
      have hle' : tg.length = p.vs.length := by
        have : (tg.length : Int) = (p.vs.length : Int) := by simpa using hle
        omega
      have hl6 : tg.length ≤ 6 := by omega
      replace hle' := Lib.hid hle'
      have hp2 := Lib.hid (hp1.out w1 hb1.out)
      have ht2 := Lib.hid (ht1.out w1 hb1.out)
      have hm2 := Lib.hid (hm1.out w1 hb1.out)
      go_wp2
      go_loop [28] (fun s28 => ∃ k : Nat, s28 = .int .i64 k ∧ k ≤ tg.length ∧ ∀ j, j < k → tgB p tg j = false) (fun s28 => tg.length - (intOf s28).toNat)
      case atStart => exact ⟨0, rfl, Nat.zero_le _, fun j hj => by omega⟩
      case round =>
        obtain ⟨k, rfl, hk, hall⟩ := hrel
        replace hall := Lib.hid hall
        by_cases hlt : k < tg.length
        · obtain ⟨b, o, rfl, -, hc⟩ := ht2.out (by omega)
          have d := hc k hlt
          obtain ⟨b2, o2, e2, -, hc2⟩ := hp2.out (by rw [← hle'.out]; omega)
          have d2 := hc2 k (by rw [← hle'.out]; omega)
          subst e2
          unfold iv at d d2
          obtain ⟨v, hv⟩ : ∃ v, gi tg k = v := ⟨_, rfl⟩
          obtain ⟨n, hn⟩ : ∃ n, gi p.vs k = n := ⟨_, rfl⟩
          rw [hv] at d
          rw [hn] at d2
          have jk : (k : Int) < (tg.length : Int) := by omega
          have jp : (k : Int) < (p.vs.length : Int) := by rw [← hle'.out]; omega
          have hyes : Hid (v < 0 ∨ n ≤ v → diE p m tg = 7 ∧ diL p m tg = []) := Lib.hid fun h => hD7.out hle'.out (anyB_yes hlt (by unfold tgB; rw [hv, hn]; exact decide_eq_true h))
          have hno : Hid (¬ (v < 0 ∨ n ≤ v) → ∀ j, j < k + 1 → tgB p tg j = false) := Lib.hid fun h j hj => by
            rcases Nat.lt_succ_iff_lt_or_eq.1 hj with h' | h'
            · exact hall.out j h'
            · rw [h']; unfold tgB; rw [hv, hn]; exact decide_eq_false h
          replace hv := Lib.hid hv
          replace hn := Lib.hid hn
          clear hc hc2
          cases g1 : decide (v < 0) with
          | true =>
            have hAns := Lib.hid (hyes.out (Or.inl (of_decide_eq_true g1)))
            go_wp2
            refine bodyPost_ret (v := .tuple #[.slice none 0 0, .int .i64 7]) (by simp [results, Try.results19, go_sem]) rfl ?_
            exact Ret.mk (by rw [hAns.out.1, hAns.out.2]; exact ⟨S1.out.bel, none, 0, rfl, World.ownsRow_nil _ _ _ _⟩)
          | false =>
            cases g2 : decide (n ≤ v) with
            | true =>
              have hAns := Lib.hid (hyes.out (Or.inr (of_decide_eq_true g2)))
              go_wp2
              refine bodyPost_ret (v := .tuple #[.slice none 0 0, .int .i64 7]) (by simp [results, Try.results19, go_sem]) rfl ?_
              exact Ret.mk (by rw [hAns.out.1, hAns.out.2]; exact ⟨S1.out.bel, none, 0, rfl, World.ownsRow_nil _ _ _ _⟩)
            | false =>
              have hn2 := Lib.hid (hno.out (not_or.2 ⟨of_decide_eq_false g1, of_decide_eq_false g2⟩))
              go_wp2
              go_round
              case rel => exact ⟨k + 1, by go_num, by omega, hn2.out⟩
              case measure => simp [intOf]; omega
        · obtain rfl : k = tg.length := by omega
          have h7 := Lib.hid (anyB_no hall.out)
          clear hlt
          have h7' := h7.out
          obtain ⟨AA, hAA⟩ : ∃ AA, anyB (fun i => decide (0 ≤ gi m.next i)) m.next.length = AA := ⟨_, rfl⟩
          rw [hAA] at HCF hD11 hD0
          have HC := Lib.hid (HCF.out w1 hb1.out)
          replace hAA := Lib.hid hAA
          clear HCF
          cases AA with
          | true =>
            have hAns := Lib.hid (hD11.out hle'.out h7' rfl)
            clear h7'
            go_wp2_with fail
            with_reducible refine HC.out.mono ?_
            rintro e w' ⟨rfl, rfl⟩
            go_wp2
            refine bodyPost_ret (v := .tuple #[.slice none 0 0, .int .i64 11]) (by simp [results, Try.results19, go_sem]) rfl ?_
            exact Ret.mk (by rw [hAns.out.1, hAns.out.2]; exact ⟨S1.out.bel, none, 0, rfl, World.ownsRow_nil _ _ _ _⟩)
          | false =>
            have hAns := Lib.hid (hD0.out hle'.out h7' rfl)
            clear h7'
            go_wp2_with fail
            with_reducible refine HC.out.mono ?_
            rintro e w' ⟨rfl, rfl⟩
            have hsz1 : W.heap.size ≤ w1.heap.size := hb1.out.size
            go_wp2
            go_loopw [11, 50] (fun s11 s50 wr => ∃ k : Nat, s50 = .int .i64 k ∧ k ≤ tg.length ∧ LS w1 wr (dirP m tg k) s11 ∧ Below w1.heap.size w1 wr) (fun _ s50 _ => tg.length - (intOf s50).toNat)
            case atStart => exact ⟨0, rfl, Nat.zero_le _, World.ownsRow_nil _ _ _ _, Below.refl _ _⟩
            case round =>
              clear r1 f1 r10 r11 r12 r2 f2 r20 r21 r22 r23
              obtain ⟨k, rfl, hk, hown, hbel⟩ := hrel
              have T := Lib.hid (S1.out.call hbel)
              obtain ⟨⟨r1, f1, r10, r11, r12, -⟩, ⟨r2, f2, r20, r21, r22, r23, -⟩, -⟩ := T.out.facts
              have hbs := hbel.size
              by_cases hlt : k < tg.length
              · obtain ⟨b, o, rfl, hbb, hc⟩ := ht2.out (by omega)
                have d := (hbel.cell (p := ⟨b, o + k, none⟩) (by have := S1.out.size; show b < _; omega)).trans (hc k hlt)
                obtain ⟨b2, o2, e2, hb2, hc2⟩ := hm2.out.r0 (by rw [hlb.out, ← hle'.out]; omega)
                have d2 := (hbel.cell (p := ⟨b2, o2 + k, none⟩) hb2).trans (hc2 k (by rw [hlb.out, ← hle'.out]; omega))
                (try dsimp only at e2)
                subst e2
                unfold iv at d d2
                have jk : (k : Int) < (tg.length : Int) := by omega
                have jp : (k : Int) < (m.base.length : Int) := by rw [hlb.out, ← hle'.out]; omega
                have hO := Lib.hid hown
                have hSn : Hid (dirP m tg (k + 1) = dirP m tg k ++ (if gi m.base k = gi tg k then [] else [⟨1, k, gi tg k⟩, ⟨2, k, 0⟩])) := Lib.hid rfl
                have hLn := Lib.hid (dirP_len m tg k)
                replace hbel := Lib.hid hbel
                clear hc hc2 hown
                obtain ⟨v, hv⟩ : ∃ v, gi tg k = v := ⟨_, rfl⟩
                obtain ⟨n, hn⟩ : ∃ n, gi m.base k = n := ⟨_, rfl⟩
                rw [hv] at d hSn
                rw [hn] at d2 hSn
                replace hv := Lib.hid hv
                replace hn := Lib.hid hn
                cases g1 : (n != v) with
                | true =>
                  have hS2 := Lib.hid (hSn.out.trans (by rw [if_neg (by simpa using g1)]))
                  clear hSn
                  go_wp2_with (at_builtin; refine push2_own elStep rfl _ _ rfl w1.heap.size _ (dirP m tg k).length (spRow (dirP m tg k)) hO.out rfl [.int .i64 1, .int .i64 k, .int .i64 v, .int .i64 2, .int .i64 k, .int .i64 0] rfl rfl rfl (by have := hLn.out; omega) (by omega) hbs ?_)
                  intro v' w3 hown3 hgr hb3
                  have hO3 := Lib.hid (ls2_next (s := ⟨1, k, v⟩) (t := ⟨2, k, 0⟩) hown3 hS2.out)
                  have hb4 := Lib.hid (hbel.out.trans hb3)
                  clear hown3 hgr hb3
                  go_wp2
                  go_roundw
                  case rel => exact ⟨k + 1, by go_num, by omega, hO3.out, hb4.out⟩
                  case measure => simp [intOf]; omega
                | false =>
                  have hS2 := hSn.out.trans (by rw [if_pos (by simpa using g1), List.append_nil])
                  have hO3 : Hid (LS w1 wr (dirP m tg (k + 1)) _) := Lib.hid (by rw [hS2]; exact hO.out)
                  clear hSn hS2
                  go_wp2
                  go_roundw
                  case rel => exact ⟨k + 1, by go_num, by omega, hO3.out, hbel.out⟩
                  case measure => simp [intOf]; omega
              · obtain rfl : k = tg.length := by omega
                have hR : OwnS w1 (dirL m 0 tg) _ wr := OwnS.of (by rw [← dirP_dirL]; exact hown) hbel
                obtain ⟨-, A', c', rfl, ho'⟩ := hR
                replace ho' := Lib.hid (own_base ho' S1.out.size)
                clear hlt hown hbel
                go_wp2
                refine bodyPost_ret (v := .tuple #[.slice A' (dirL m 0 tg).length c', .int .i64 0]) (by simp [results, Try.results19, go_sem]) rfl ?_
                exact Ret.mk (by rw [hAns.out.1, hAns.out.2]; exact ⟨T.out.bel, A', c', rfl, ho'.out⟩)
  · obtain ⟨a1, a2⟩ := di_m (tg := tg) h0
    rw [a1, a2]
    obtain ⟨er, her⟩ : ∃ er, mixE p m = er := ⟨_, rfl⟩
    rw [her] at HV h0 ⊢
    have hne : (er != 0) = true := by simpa using h0
    obtain ⟨qa0, qc0, qa1, qc1, qa2, qc2, qa3, qc3⟩ := q
    obtain ⟨ma0, mc0, ma1, mc1, ma2, mc2⟩ := qm
    dsimp only at HV hW S ⊢
    obtain ⟨⟨r1, f1, r10, r11, r12, -⟩, ⟨r2, f2, r20, r21, r22, r23, -⟩, -⟩ := S.facts
    have SW := Lib.hid S
    clear S hp hbd hm hmb her h0 a1 a2 ht
    go_enter Try.func19, Try.ntmps19
    go_wp2_with fail
    clear hW
    with_reducible refine HV.out.mono ?_
    rintro e w1 ⟨rfl, hb1⟩
    have S1 := Lib.hid (SW.out.call hb1)
    clear r1 f1 r10 r11 r12 r2 f2 r20 r21 r22 r23 hb1
    go_wp2
    refine bodyPost_ret (v := .tuple #[.slice none 0 0, .int .i64 er]) (by simp [results, Try.results19, go_sem]) rfl ?_
    exact Ret.mk ⟨S1.out.bel, none, 0, rfl, World.ownsRow_nil _ _ _ _⟩
end Go.Proofs.Ytickckehhfdoeaa
