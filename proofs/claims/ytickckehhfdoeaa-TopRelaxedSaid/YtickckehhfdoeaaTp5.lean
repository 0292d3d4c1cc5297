/-
  PLAIN: what Safe and Check answer along a list of steps that leads to a goal.
  Conditions: those that each theorem names.
-/
import Derived.Test.YtickckehhfdoeaaTp1
import Derived.Test.YtickckehhfdoeaaTp4

namespace Go.Sv
open Go.RowKit
/-- the check behind a mix -/
noncomputable def ckB (p : Prob) : Mx → List Sp → Bool
  | m, [] => goalB p m
  | m, s :: r => if appE p m s ≠ 0 ∨ s.kind = 4 ∨ robB p (apM p m s) = false then false else ckB p (apM p m s) r
noncomputable def chkB (p : Prob) (l : List Sp) : Bool := robB p (stMx p) && ckB p (stMx p) l
/-- a possible list -/
structure Tr (p : Prob) (m : Mx) (l : List Sp) (o : List Mx) (x : Mx) : Prop where
  go : ∀ k, goes p m l k = .ok o
  la : lastM m o = x
  ok : MOk p x
  k4 : ∀ s ∈ l, s.kind ≠ 4
theorem Tr.nil {p : Prob} {m : Mx} (h : MOk p m) : Tr p m [] [] m := ⟨fun _ => rfl, rfl, h, fun s hs => by cases hs⟩
theorem goes_app {p : Prob} : ∀ (l r : List Sp) (m : Mx) (k : Nat) (o o2 : List Mx), goes p m l k = .ok o → (∀ j, goes p (lastM m o) r j = .ok o2) → goes p m (l ++ r) k = .ok (o ++ o2)
  | [], r, m, k, o, o2, h, h2 => by
    rw [goes] at h
    injection h with h
    subst h
    exact h2 k
  | s :: l, r, m, k, o, o2, h, h2 => by
    by_cases c : appE p m s = 0
    · rw [goes, if_pos c] at h
      cases hg : goes p ((aft p m s).getD m) l (k + 1) with
      | error e => rw [hg] at h; cases h
      | ok t =>
        rw [hg] at h
        injection h with h
        subst h
        have e : lastM m ((aft p m s).getD m :: t) = lastM ((aft p m s).getD m) t := by cases t <;> rfl
        rw [e] at h2
        show goes p m (s :: (l ++ r)) k = _
        rw [goes, if_pos c, goes_app l r _ (k + 1) t o2 hg h2]
        rfl
    · rw [goes, if_neg c] at h; cases h
theorem lastM_app {m : Mx} {o o2 : List Mx} : lastM m (o ++ o2) = lastM (lastM m o) o2 := by
  cases o2 with
  | nil => rw [List.append_nil]; rfl
  | cons a t => unfold lastM; simp [List.getLastD_eq_getLast?]
theorem Tr.app {p : Prob} {m x y : Mx} {l r : List Sp} {o o2 : List Mx} (h : Tr p m l o x) (h2 : Tr p x r o2 y) : Tr p m (l ++ r) (o ++ o2) y := by
  refine ⟨fun k => goes_app l r m k o o2 (h.go k) (fun j => by rw [h.la]; exact h2.go j), by rw [lastM_app, h.la, h2.la], h2.ok, fun s hs => ?_⟩
  rcases List.mem_append.1 hs with hs | hs
  · exact h.k4 s hs
  · exact h2.k4 s hs
theorem Tr.one {p : Prob} {m : Mx} {s : Sp} (hm : MOk p m) (h : appE p m s = 0) (h4 : s.kind ≠ 4) : Tr p m [s] [apM p m s] (apM p m s) := by
  refine ⟨fun k => ?_, rfl, apM_mok hm h, fun t ht => by rw [List.mem_singleton.1 ht]; exact h4⟩
  rw [goes_step h]
  rfl
end Go.Sv

namespace Go.Proofs.Ytickckehhfdoeaa
open Go.RowKit Go.Sv
/-- a number, a mix, a conflict, an error that is 15 exactly if B -/
def FaR (w : World) (B : Bool) (v : Value) (w' : World) : Prop := Below w.heap.size w w' ∧ ∃ (k : Int) (a0 a1 a2 : Option Addr) (n0 k0 n1 k1 n2 k2 : Nat) (z0 z1 z2 E : Int), v = .tuple #[.int .i64 k, .agg #[.slice a0 n0 k0, .slice a1 n1 k1, .slice a2 n2 k2], .agg #[.int .i64 z0, .int .i64 z1, .int .i64 z2], .int .i64 E] ∧ (E = 15 ↔ B = true)
theorem ck_bad {p : Prob} {m : Mx} {l : List Sp} {k : Nat} (hk : k < l.length) (h : appE p m (spAt l k) ≠ 0 ∨ (spAt l k).kind = 4 ∨ robB p (apM p m (spAt l k)) = false) : ckB p m (l.drop k) = false := by
  rw [spAt_drop hk, ckB, if_pos h]
theorem ck_next {p : Prob} {m : Mx} {l : List Sp} {k : Nat} (hk : k < l.length) (h0 : appE p m (spAt l k) = 0) (h4 : (spAt l k).kind ≠ 4) (hr : robB p (apM p m (spAt l k)) = true) : ckB p m (l.drop k) = ckB p (apM p m (spAt l k)) (l.drop (k + 1)) := by
  rw [spAt_drop hk, ckB, if_neg (fun hx => hx.elim (fun x => x h0) (fun x => x.elim h4 (fun y => by rw [hr] at y; cases y)))]
theorem ck_end {p : Prob} {m : Mx} {l : List Sp} {k : Nat} (hk : ¬ k < l.length) : ckB p m (l.drop k) = goalB p m := by
  rw [List.drop_eq_nil_of_le (by omega), ckB]
theorem blm_0 {p : Prob} {m : Mx} (h : blmE p m = 0) : robB p m = false := by
  unfold blmE at h
  cases hr : robB p m with
  | false => rfl
  | true => rw [hr] at h; exact absurd h (by decide)
theorem blm_15 {p : Prob} {m : Mx} (h : blmE p m ≠ 0) : robB p m = true ∧ blmE p m = 15 := by
  unfold blmE at h ⊢
  cases hr : robB p m with
  | true => exact ⟨rfl, rfl⟩
  | false => rw [hr] at h; exact absurd rfl h
theorem apply1_any (p : Prob) (q : ProbP) (m : Mx) (qm : MixP) (s : Sp) (w : World) (hp : RProb w w.heap.size p q) (hbd : PBd p) (hm : RMix w w.heap.size m qm) (hmb : MBd m qm) (hok : MOk p m) :
    Calls Try.prog 15 #[probV p q, mixV m qm, stepV s] w (Ret (ApR w (apM p m s) (appE p m s))) := by
  have h := Apply_any p q m qm s w hp hbd hm hmb
  have h0 := mixE_ok.2 hok
  unfold ApM ApE at h
  rw [if_pos h0, if_pos h0] at h
  exact h
set_option maxHeartbeats 8000000 in
set_option maxRecDepth 100000 in
theorem fail_any (p : Prob) (q : ProbP) (A : Option Addr) (c : Nat) (l : List Sp) (w : World) (hp : RProb w w.heap.size p q) (hbd : PBd p) (h0 : probE p = 0) (hn1 : q.a1 = none → p.now.length = 0 ∧ q.c1 = 0) (hL : ArrN w w.heap.size 3 A l.length (spF l)) (hl : l.length ≤ 1000000) :
    Calls Try.prog 28 #[probV p q, .slice A l.length c] w (Ret (FaR w (chkB p l))) := by
  have S0 := (Fm.init w).box 39 [.slice q.a0 p.vs.length q.c0, .slice q.a1 p.now.length q.c1, .slice q.a2 p.tgt.length q.c2, .slice q.a3 p.tabs.length q.c3]
  have S := (S0.box' 56 [.slice none 0 0, .slice none 0 0, .slice none 0 0] (K := w.heap.size + 1) (by simp)).box' 80 [.int .i64 0, .int .i64 0, .int .i64 0] (K := w.heap.size + 1 + 1) (by simp)
  obtain ⟨W, hW, S⟩ : ∃ W, ((w.alloc (.cells [Value.slice q.a0 p.vs.length q.c0, .slice q.a1 p.now.length q.c1, .slice q.a2 p.tgt.length q.c2, .slice q.a3 p.tabs.length q.c3].toArray 39)).alloc (.cells [Value.slice none 0 0, .slice none 0 0, .slice none 0 0].toArray 56)).alloc (.cells [Value.int .i64 0, .int .i64 0, .int .i64 0].toArray 80) = W ∧ Fm w W _ _ := ⟨_, rfl, S⟩
  have hsz : w.heap.size + 3 ≤ W.heap.size := by rw [← hW]; simp
  have hpW := hp.to S.bel
  have hLw := Lib.hid (fun W2 (h : Below w.heap.size w W2) => (hL.below h).more h.size)
  have HS := Lib.hid (start0_any p q W hpW hbd h0 hn1)
  have HB := Lib.hid (fun (m : Mx) (qm : MixP) (W2 : World) (h : Below w.heap.size w W2) (hm : RMix W2 W2.heap.size m qm) (hmb : MBd m qm) (hok : MOk p m) => blame_any p q m qm W2 (hp.to h) hbd hm hmb hok)
  have HG := Lib.hid (fun (m : Mx) (qm : MixP) (W2 : World) (h : Below w.heap.size w W2) (hm : RMix W2 W2.heap.size m qm) (hmb : MBd m qm) => goal_any p q m qm W2 (hp.to h) hbd hm hmb)
  have HA := Lib.hid (fun (m : Mx) (qm : MixP) (s : Sp) (W2 : World) (h : Below w.heap.size w W2) (hm : RMix W2 W2.heap.size m qm) (hmb : MBd m qm) (hok : MOk p m) => apply1_any p q m qm s W2 (hp.to h) hbd hm hmb hok)
  have h8 := Lib.hid (stMx_h8 h0)
  have hmo := Lib.hid (stMx_ok h0)
  have hck : Hid (∀ B, (robB p (stMx p) && ckB p (stMx p) l) = B → chkB p l = B) := Lib.hid (fun B h => h)
  obtain ⟨C, hC⟩ : ∃ C, chkB p l = C := ⟨_, rfl⟩
  rw [hC] at hck ⊢
  obtain ⟨m, hm⟩ : ∃ m, stMx p = m := ⟨_, rfl⟩
  rw [hm] at HS h8 hmo hck
  obtain ⟨qa0, qc0, qa1, qc1, qa2, qc2, qa3, qc3⟩ := q
  dsimp only at HS HB HG HA hW S ⊢
  obtain ⟨⟨r3, f3, r30, r31, r32, -⟩, ⟨r1, f1, r10, r11, r12, -⟩, ⟨r2, f2, r20, r21, r22, r23, -⟩, -⟩ := S.facts
  have SW := Lib.hid S
  clear S S0 hp hbd h0 hn1 hpW hm hL hC
  go_enter Try.func28, Try.ntmps28
  go_wp2_with fail
  clear hW
  with_reducible refine HS.out.mono ?_
  rintro e w1 ⟨_, rfl, hb1, ⟨a0, c0, a1, c1, a2, c2⟩, rfl, ha⟩
  have S1 := SW.out.call hb1
  obtain ⟨W2, (hW2 : w1.alloc (.cells #[.slice a0 m.base.length c0, .slice a1 m.next.length c1, .slice a2 m.held.length c2] 56) = W2), S2, hB2⟩ := fm_boxE S1 56 [.slice a0 m.base.length c0, .slice a1 m.next.length c1, .slice a2 m.held.length c2]
  have ha2 := Lib.hid (ha.to hB2)
  have HF2 := Lib.hid (HB.out m ⟨a0, c0, a1, c1, a2, c2⟩ W2 S2.bel ha2.out.mix (ha2.out.bd h8.out) hmo.out)
  clear r1 f1 r10 r11 r12 r2 f2 r20 r21 r22 r23 r3 f3 r30 r31 r32 HS
  obtain ⟨⟨z1, g1, z10, z11, z12, -⟩, ⟨r3, f3, r30, r31, r32, -⟩, ⟨r1, f1, r10, r11, r12, -⟩, ⟨r2, f2, r20, r21, r22, r23, -⟩, -⟩ := S2.facts
  replace S2 := Lib.hid S2
  have hs1 : W.heap.size ≤ w1.heap.size := hb1.size
  have hs2 : w1.heap.size < W2.heap.size := by rw [← hW2]; simp
  replace hb1 := Lib.hid hb1
  clear ha S1 hB2
  go_wp2_with fail
  clear hW2
  with_reducible refine HF2.out.mono ?_
  rintro e w3 ⟨_, rfl, hb3, x0, x1, x2, n0, k0, n1, k1, n2, k2, y0, y1, y2, rfl⟩
  have ha3 := Lib.hid (ha2.out.to hb3)
  by_cases hE : blmE p m = 0
  · have hc := Lib.hid (hck.out false (by rw [blm_0 hE]; rfl))
    have T3 := Lib.hid (S2.out.call hb3)
    have S6 := Lib.hid ((((((((T3.out.set 2 rfl 0 (.slice x0 n0 k0)).set 2 rfl 1 (.slice x1 n1 k1)).set 2 rfl 2 (.slice x2 n2 k2)).set 1 rfl 0 (.int .i64 y0)).set 1 rfl 1 (.int .i64 y1)).set 1 rfl 2 (.int .i64 y2)).obj (.cells #[.slice x0 n0 k0, .slice x1 n1 k1, .slice x2 n2 k2] 56)).obj (.cells #[.int .i64 y0, .int .i64 y1, .int .i64 y2] 80)).drew
    have hs3 := hb3.size
    have i1 : ¬ w3.heap.size = w.heap.size + 1 := by omega
    have i2 : ¬ w.heap.size + 1 = w3.heap.size := by omega
    have i3 : ¬ w3.heap.size = w.heap.size + 1 + 1 := by omega
    have i4 : ¬ w.heap.size + 1 + 1 = w3.heap.size := by omega
    have i5 : ¬ w3.heap.size + 1 = w.heap.size + 1 := by omega
    have i6 : ¬ w.heap.size + 1 = w3.heap.size + 1 := by omega
    have i7 : ¬ w3.heap.size + 1 = w.heap.size + 1 + 1 := by omega
    have i8 : ¬ w.heap.size + 1 + 1 = w3.heap.size + 1 := by omega
    clear z1 g1 z10 z11 z12 r3 f3 r30 r31 r32 r1 f1 r10 r11 r12 r2 f2 r20 r21 r22 r23
    obtain ⟨⟨z1, g1, z10, z11, z12, -⟩, ⟨r3, f3, r30, r31, r32, -⟩, ⟨r1, f1, r10, r11, r12, -⟩, ⟨r2, f2, r20, r21, r22, r23, -⟩, -⟩ := T3.out.facts
    rw [hE]
    go_wp2
    go_region_law ((fail))
    all_goals go_wp2_with fail
    all_goals simp only [List.getElem_toArray, List.getElem_cons_succ, List.getElem_cons_zero, Act.put]
    all_goals clear z1 g1 z10 z11 z12 r3 f3 r30 r31 r32 r1 f1 r10 r11 r12 r2 f2 r20 r21 r22 r23
    all_goals obtain ⟨-, ⟨y3, h3, y30, y31, y32, -⟩, ⟨y4, h4, y40, y41, y42, -⟩, -⟩ := S6.out.facts
    all_goals
      refine bodyPost_ret (v := .tuple #[.int .i64 (-1), .agg #[.slice x0 n0 k0, .slice x1 n1 k1, .slice x2 n2 k2], .agg #[.int .i64 y0, .int .i64 y1, .int .i64 y2], .int .i64 0]) (by simp [results, Try.results28, go_sem, y30, y31, y32, y40, y41, y42]) rfl ?_
      exact Ret.mk ⟨S6.out.bel, _, _, _, _, _, _, _, _, _, _, _, _, _, _, rfl, by rw [hc.out]; decide⟩
  · obtain ⟨hR0, hE15⟩ := blm_15 hE
    rw [hE15]
    have hcl := Lib.hid (hck.out (ckB p m l) (by rw [hR0]; rfl))
    have T3 := Lib.hid (((S2.out.call hb3).obj (.cells #[.slice x0 n0 k0, .slice x1 n1 k1, .slice x2 n2 k2] 56)).obj (.cells #[.int .i64 y0, .int .i64 y1, .int .i64 y2] 80))
    have hA3 := (((ha2.out.to hb3).to ((Below.refl _ _).alloc (Nat.le_refl _) (.cells #[.slice x0 n0 k0, .slice x1 n1 k1, .slice x2 n2 k2] 56))).to ((Below.refl _ _).alloc (Nat.le_refl _) (.cells #[.int .i64 y0, .int .i64 y1, .int .i64 y2] 80)))
    have hM3 := Lib.hid hA3.mix
    have hM4 := Lib.hid (hA3.bd h8.out)
    clear z1 g1 z10 z11 z12 r3 f3 r30 r31 r32 r1 f1 r10 r11 r12 r2 f2 r20 r21 r22 r23 hE15 hE hR0 hck ha3 ha2 HF2 hA3 h8
    go_wp2_with fail
    go_loopw [43] (fun s43 wr => ∃ (k : Nat) (m : Mx) (b0 b1 b2 : Option Addr) (e0 e1 e2 : Nat), s43 = .int .i64 k ∧ k ≤ l.length ∧ Hid (Fm w wr [⟨w1.heap.size, 56, [.slice b0 m.base.length e0, .slice b1 m.next.length e1, .slice b2 m.held.length e2]⟩, ⟨w.heap.size + 1 + 1, 80, [.int .i64 0, .int .i64 0, .int .i64 0]⟩, ⟨w.heap.size + 1, 56, [.slice none 0 0, .slice none 0 0, .slice none 0 0]⟩, ⟨w.heap.size, 39, [.slice qa0 p.vs.length qc0, .slice qa1 p.now.length qc1, .slice qa2 p.tgt.length qc2, .slice qa3 p.tabs.length qc3]⟩] []) ∧ Hid (RMix wr wr.heap.size m ⟨b0, e0, b1, e1, b2, e2⟩) ∧ Hid (MBd m ⟨b0, e0, b1, e1, b2, e2⟩) ∧ Hid (MOk p m) ∧ Hid (C = ckB p m (l.drop k))) (fun s43 _ => l.length - (intOf s43).toNat)
    case atStart => exact ⟨0, m, a0, a1, a2, c0, c1, c2, rfl, Nat.zero_le _, T3, hM3, hM4, hmo, hcl⟩
    case round =>
      obtain ⟨k, m, b0, b1, b2, e0, e1, e2, rfl, hk, hF, hM, hMb, hOk, hC⟩ := hrel
      obtain ⟨⟨z1, g1, z10, z11, z12, -⟩, ⟨r3, f3, r30, r31, r32, -⟩, ⟨r1, f1, r10, r11, r12, -⟩, ⟨r2, f2, r20, r21, r22, r23, -⟩, -⟩ := hF.out.facts
      have hw1 : w1.heap.size < wr.heap.size := z1
      by_cases hlt : k < l.length
      · obtain ⟨bL, oL, rfl, hbL, hcL⟩ := (hLw.out wr hF.out.bel) (by omega)
        obtain ⟨q0, q1, q2⟩ := sp_cells (hcL k hlt)
        have hBad : Hid (appE p m (spAt l k) ≠ 0 ∨ (spAt l k).kind = 4 ∨ robB p (apM p m (spAt l k)) = false → C = false) := Lib.hid (fun h => by rw [hC.out]; exact ck_bad hlt h)
        have hNext : Hid (appE p m (spAt l k) = 0 → (spAt l k).kind ≠ 4 → robB p (apM p m (spAt l k)) = true → C = ckB p (apM p m (spAt l k)) (l.drop (k + 1))) := Lib.hid (fun h1 h2 h3 => by rw [hC.out]; exact ck_next hlt h1 h2 h3)
        obtain ⟨s, hs⟩ : ∃ s, spAt l k = s := ⟨_, rfl⟩
        rw [hs] at q0 q1 q2 hNext hBad
        obtain ⟨kd, ix, v⟩ := s
        dsimp only at q0 q1 q2
        obtain ⟨W4, (hW4 : wr.alloc (.cells #[.int .i64 kd, .int .i64 ix, .int .i64 v] 63) = W4), S4, hB4⟩ := fm_boxE hF.out 63 [.int .i64 kd, .int .i64 ix, .int .i64 v]
        have hs4 : wr.heap.size < W4.heap.size := by rw [← hW4]; simp
        have jk : (k : Int) < (l.length : Int) := by omega
        have hAA := Lib.hid (HA.out m ⟨b0, e0, b1, e1, b2, e2⟩ ⟨kd, ix, v⟩ W4 S4.bel (hM.out.to hB4) hMb.out hOk.out)
        have hY8 := Lib.hid (apM_h8 (s := ⟨kd, ix, v⟩) hOk.out hMb.out.h8)
        have hYo := Lib.hid (fun h => apM_mok (s := ⟨kd, ix, v⟩) hOk.out h)
        obtain ⟨y, hy⟩ : ∃ y, apM p m ⟨kd, ix, v⟩ = y := ⟨_, rfl⟩
        obtain ⟨er, her⟩ : ∃ er, appE p m ⟨kd, ix, v⟩ = er := ⟨_, rfl⟩
        rw [hy, her] at hAA hBad hNext hYo hY8
        dsimp only [probV, mixV, stepV] at hAA hBad hNext
        clear z1 g1 z10 z11 z12 r3 f3 r30 r31 r32 r1 f1 r10 r11 r12 r2 f2 r20 r21 r22 r23
        obtain ⟨⟨w1', h1, w10, w11, w12, -⟩, ⟨z1, g1, z10, z11, z12, -⟩, ⟨r3, f3, r30, r31, r32, -⟩, ⟨r1, f1, r10, r11, r12, -⟩, ⟨r2, f2, r20, r21, r22, r23, -⟩, -⟩ := S4.facts
        replace S4 := Lib.hid S4
        clear hcL hB4
        go_wp2_with fail
        clear hW4
        with_reducible refine hAA.out.mono ?_
        rintro e w5 ⟨_, rfl, hb5, ⟨t0, o0, t1, o1, t2, o2⟩, rfl, hay⟩
        have hs5 := hb5.size
        have S5 := S4.out.call hb5
        obtain ⟨W6, (hW6 : w5.alloc (.cells #[.slice t0 y.base.length o0, .slice t1 y.next.length o1, .slice t2 y.held.length o2] 56) = W6), S6a, hB6⟩ := fm_boxE S5 56 [.slice t0 y.base.length o0, .slice t1 y.next.length o1, .slice t2 y.held.length o2]
        have hay6 := Lib.hid (hay.to hB6)
        have hs6 : w5.heap.size < W6.heap.size := by rw [← hW6]; simp
        clear w1' h1 w10 w11 w12 z1 g1 z10 z11 z12 r3 f3 r30 r31 r32 r1 f1 r10 r11 r12 r2 f2 r20 r21 r22 r23 q0 q1 q2
        obtain ⟨⟨p1, l1, p10, p11, p12, -⟩, ⟨w1', h1, w10, w11, w12, -⟩, ⟨z1, g1, z10, z11, z12, -⟩, ⟨r3, f3, r30, r31, r32, -⟩, ⟨r1, f1, r10, r11, r12, -⟩, ⟨r2, f2, r20, r21, r22, r23, -⟩, -⟩ := S6a.facts
        replace S6a := Lib.hid S6a
        clear S5 hB6 hay hb5
        by_cases her0 : er = 0
        · by_cases hkd : kd = 4
          · have hc := Lib.hid (hBad.out (Or.inr (Or.inl hkd)))
            have S6 := Lib.hid ((((((S6a.out.set 4 rfl 0 (.slice none 0 0)).set 4 rfl 1 (.slice none 0 0)).set 4 rfl 2 (.slice none 0 0)).set 3 rfl 0 (.int .i64 0)).set 3 rfl 1 (.int .i64 0)).set 3 rfl 2 (.int .i64 0))
            go_wp2
            clear w1' h1 w10 w11 w12 z1 g1 z10 z11 z12 r3 f3 r30 r31 r32 r1 f1 r10 r11 r12 r2 f2 r20 r21 r22 r23 p1 l1 p10 p11 p12
            obtain ⟨-, -, -, ⟨y3, h3, y30, y31, y32, -⟩, ⟨y4, h4, y40, y41, y42, -⟩, -⟩ := S6.out.facts
            refine bodyPost_ret (v := .tuple #[.int .i64 k, .agg #[.slice none 0 0, .slice none 0 0, .slice none 0 0], .agg #[.int .i64 0, .int .i64 0, .int .i64 0], .int .i64 0]) (by simp [results, Try.results28, go_sem, y30, y31, y32, y40, y41, y42]) rfl ?_
            exact Ret.mk ⟨S6.out.bel, _, _, _, _, _, _, _, _, _, _, _, _, _, _, rfl, by rw [hc.out]; decide⟩
          · have hYb := Lib.hid (hay6.out.bd (hY8.out her0))
            have hN0 := Lib.hid (hNext.out her0 hkd)
            have hYok := Lib.hid (hYo.out her0)
            have HF6 := Lib.hid (HB.out y ⟨t0, o0, t1, o1, t2, o2⟩ W6 S6a.out.bel hay6.out.mix hYb.out hYok.out)
            subst her0
            go_wp2_with fail
            clear hW6
            with_reducible refine HF6.out.mono ?_
            rintro e w7 ⟨_, rfl, hb7, u0, u1, u2, j0, d0, j1, d1, j2, d2, v0, v1, v2, rfl⟩
            have hs7 := hb7.size
            have T7 := Lib.hid (S6a.out.call hb7)
            have hay7 := Lib.hid (hay6.out.to hb7)
            clear w1' h1 w10 w11 w12 z1 g1 z10 z11 z12 r3 f3 r30 r31 r32 r1 f1 r10 r11 r12 r2 f2 r20 r21 r22 r23 p1 l1 p10 p11 p12
            obtain ⟨⟨p1, l1, p10, p11, p12, -⟩, ⟨w1', h1, w10, w11, w12, -⟩, ⟨z1, g1, z10, z11, z12, -⟩, ⟨r3, f3, r30, r31, r32, -⟩, ⟨r1, f1, r10, r11, r12, -⟩, ⟨r2, f2, r20, r21, r22, r23, -⟩, -⟩ := T7.out.facts
            by_cases hE7 : blmE p y = 0
            · have hc := Lib.hid (hBad.out (Or.inr (Or.inr (blm_0 hE7))))
              have S6 := Lib.hid ((((((((T7.out.set 4 rfl 0 (.slice u0 j0 d0)).set 4 rfl 1 (.slice u1 j1 d1)).set 4 rfl 2 (.slice u2 j2 d2)).set 3 rfl 0 (.int .i64 v0)).set 3 rfl 1 (.int .i64 v1)).set 3 rfl 2 (.int .i64 v2)).obj (.cells #[.slice u0 j0 d0, .slice u1 j1 d1, .slice u2 j2 d2] 56)).obj (.cells #[.int .i64 v0, .int .i64 v1, .int .i64 v2] 80)).drew
              have i1 : ¬ w7.heap.size = w.heap.size + 1 := by omega
              have i2 : ¬ w.heap.size + 1 = w7.heap.size := by omega
              have i3 : ¬ w7.heap.size = w.heap.size + 1 + 1 := by omega
              have i4 : ¬ w.heap.size + 1 + 1 = w7.heap.size := by omega
              have i5 : ¬ w7.heap.size + 1 = w.heap.size + 1 := by omega
              have i6 : ¬ w.heap.size + 1 = w7.heap.size + 1 := by omega
              have i7 : ¬ w7.heap.size + 1 = w.heap.size + 1 + 1 := by omega
              have i8 : ¬ w.heap.size + 1 + 1 = w7.heap.size + 1 := by omega
              rw [hE7]
              go_wp2
              go_region_law ((fail))
              all_goals go_wp2_with fail
              all_goals simp only [List.getElem_toArray, List.getElem_cons_succ, List.getElem_cons_zero, Act.put]
              all_goals clear w1' h1 w10 w11 w12 z1 g1 z10 z11 z12 r3 f3 r30 r31 r32 r1 f1 r10 r11 r12 r2 f2 r20 r21 r22 r23 p1 l1 p10 p11 p12
              all_goals obtain ⟨-, -, -, ⟨y3, h3, y30, y31, y32, -⟩, ⟨y4, h4, y40, y41, y42, -⟩, -⟩ := S6.out.facts
              all_goals
                refine bodyPost_ret (v := .tuple #[.int .i64 k, .agg #[.slice u0 j0 d0, .slice u1 j1 d1, .slice u2 j2 d2], .agg #[.int .i64 v0, .int .i64 v1, .int .i64 v2], .int .i64 0]) (by simp [results, Try.results28, go_sem, y30, y31, y32, y40, y41, y42]) rfl ?_
                exact Ret.mk ⟨S6.out.bel, _, _, _, _, _, _, _, _, _, _, _, _, _, _, rfl, by rw [hc.out]; decide⟩
            · obtain ⟨hR7, hE15⟩ := blm_15 hE7
              rw [hE15]
              have hN := Lib.hid (hN0.out hR7)
              have S8 := Lib.hid ((((((T7.out.set 2 rfl 0 (.slice t0 y.base.length o0)).set 2 rfl 1 (.slice t1 y.next.length o1)).set 2 rfl 2 (.slice t2 y.held.length o2)).obj (.cells #[.slice u0 j0 d0, .slice u1 j1 d1, .slice u2 j2 d2] 56)).obj (.cells #[.int .i64 v0, .int .i64 v1, .int .i64 v2] 80)).drop _ _ (List.Sublist.cons _ (List.Sublist.cons _ (List.Sublist.refl _))) (List.Sublist.refl _))
              have hay8 := Lib.hid (((hay7.out.far3 (g := w1.heap.size) (by omega) (.slice t0 y.base.length o0) (.slice t1 y.next.length o1) (.slice t2 y.held.length o2)).to ((Below.refl _ _).alloc (Nat.le_refl _) (.cells #[.slice u0 j0 d0, .slice u1 j1 d1, .slice u2 j2 d2] 56))).to ((Below.refl _ _).alloc (Nat.le_refl _) (.cells #[.int .i64 v0, .int .i64 v1, .int .i64 v2] 80)))
              have hM8 := Lib.hid hay8.out.mix
              clear hBad hNext hYo hY8 hE7 hE15 hR7 hC hM hMb hOk hAA HF6 hN0
              go_wp2
              go_roundw
              case rel => exact ⟨k + 1, y, t0, t1, t2, o0, o1, o2, by go_num, by omega, S8, hM8, hYb, hYok, hN⟩
              case measure => simp [intOf]; omega
        · have hc := Lib.hid (hBad.out (Or.inl her0))
          have hne : (er != 0) = true := by simpa using her0
          have S6 := Lib.hid ((((((S6a.out.set 4 rfl 0 (.slice none 0 0)).set 4 rfl 1 (.slice none 0 0)).set 4 rfl 2 (.slice none 0 0)).set 3 rfl 0 (.int .i64 0)).set 3 rfl 1 (.int .i64 0)).set 3 rfl 2 (.int .i64 0))
          go_wp2
          clear w1' h1 w10 w11 w12 z1 g1 z10 z11 z12 r3 f3 r30 r31 r32 r1 f1 r10 r11 r12 r2 f2 r20 r21 r22 r23 p1 l1 p10 p11 p12
          obtain ⟨-, -, -, ⟨y3, h3, y30, y31, y32, -⟩, ⟨y4, h4, y40, y41, y42, -⟩, -⟩ := S6.out.facts
          refine bodyPost_ret (v := .tuple #[.int .i64 k, .agg #[.slice none 0 0, .slice none 0 0, .slice none 0 0], .agg #[.int .i64 0, .int .i64 0, .int .i64 0], .int .i64 0]) (by simp [results, Try.results28, go_sem, y30, y31, y32, y40, y41, y42]) rfl ?_
          exact Ret.mk ⟨S6.out.bel, _, _, _, _, _, _, _, _, _, _, _, _, _, _, rfl, by rw [hc.out]; decide⟩
      · have HG0 := HG.out m ⟨b0, e0, b1, e1, b2, e2⟩ wr hF.out.bel hM.out hMb.out
        rw [mixE_ok.2 hOk.out, decide_eq_true rfl, Bool.true_and] at HG0
        replace HG0 := Lib.hid HG0
        have hCe : Hid (C = goalB p m) := Lib.hid (by rw [hC.out]; exact ck_end hlt)
        have jk : ¬ (k : Int) < (l.length : Int) := by omega
        obtain ⟨gb, hgb⟩ : ∃ gb, goalB p m = gb := ⟨_, rfl⟩
        rw [hgb] at HG0 hCe
        clear hgb hC
        go_wp2_with fail
        with_reducible refine HG0.out.mono ?_
        rintro e w5 ⟨rfl, hb5⟩
        have T5 := Lib.hid (hF.out.call hb5)
        clear z1 g1 z10 z11 z12 r3 f3 r30 r31 r32 r1 f1 r10 r11 r12 r2 f2 r20 r21 r22 r23
        obtain ⟨⟨z1, g1, z10, z11, z12, -⟩, ⟨r3, f3, r30, r31, r32, -⟩, ⟨r1, f1, r10, r11, r12, -⟩, ⟨r2, f2, r20, r21, r22, r23, -⟩, -⟩ := T5.out.facts
        have S6 := Lib.hid ((((((T5.out.set 2 rfl 0 (.slice none 0 0)).set 2 rfl 1 (.slice none 0 0)).set 2 rfl 2 (.slice none 0 0)).set 1 rfl 0 (.int .i64 0)).set 1 rfl 1 (.int .i64 0)).set 1 rfl 2 (.int .i64 0))
        cases gb with
        | true =>
          have hc := hCe
          clear hCe
          go_wp2
          clear z1 g1 z10 z11 z12 r3 f3 r30 r31 r32 r1 f1 r10 r11 r12 r2 f2 r20 r21 r22 r23
          obtain ⟨-, ⟨y3, h3, y30, y31, y32, -⟩, ⟨y4, h4, y40, y41, y42, -⟩, -⟩ := S6.out.facts
          refine bodyPost_ret (v := .tuple #[.int .i64 0, .agg #[.slice none 0 0, .slice none 0 0, .slice none 0 0], .agg #[.int .i64 0, .int .i64 0, .int .i64 0], .int .i64 15]) (by simp [results, Try.results28, go_sem, y30, y31, y32, y40, y41, y42]) rfl ?_
          exact Ret.mk ⟨S6.out.bel, _, _, _, _, _, _, _, _, _, _, _, _, _, _, rfl, by rw [hc.out]; decide⟩
        | false =>
          have hc := hCe
          clear hCe
          go_wp2
          clear z1 g1 z10 z11 z12 r3 f3 r30 r31 r32 r1 f1 r10 r11 r12 r2 f2 r20 r21 r22 r23
          obtain ⟨-, ⟨y3, h3, y30, y31, y32, -⟩, ⟨y4, h4, y40, y41, y42, -⟩, -⟩ := S6.out.facts
          refine bodyPost_ret (v := .tuple #[.int .i64 (l.length : Int), .agg #[.slice none 0 0, .slice none 0 0, .slice none 0 0], .agg #[.int .i64 0, .int .i64 0, .int .i64 0], .int .i64 14]) (by simp [results, Try.results28, go_sem, y30, y31, y32, y40, y41, y42]) rfl ?_
          exact Ret.mk ⟨S6.out.bel, _, _, _, _, _, _, _, _, _, _, _, _, _, _, rfl, by rw [hc.out]; decide⟩
end Go.Proofs.Ytickckehhfdoeaa

namespace Go.Proofs.Ytickckehhfdoeaa
open Go.RowKit Go.Sv
end Go.Proofs.Ytickckehhfdoeaa

namespace Go.Proofs.Ytickckehhfdoeaa
open Go.RowKit Go.Sv
set_option maxHeartbeats 2000000 in
set_option maxRecDepth 100000 in
theorem check_any (p : Prob) (q : ProbP) (A : Option Addr) (c : Nat) (l : List Sp) (w : World) (hp : RProb w w.heap.size p q) (hbd : PBd p) (h0 : probE p = 0) (hn1 : q.a1 = none → p.now.length = 0 ∧ q.c1 = 0) (hL : ArrN w w.heap.size 3 A l.length (spF l)) (hl : l.length ≤ 1000000) :
    Calls Try.prog 12 #[probV p q, .slice A l.length c] w (fun e w' => e = .returned (.bool (chkB p l)) ∧ Below w.heap.size w w') := by
  have S := (Fm.init w).box 39 [.slice q.a0 p.vs.length q.c0, .slice q.a1 p.now.length q.c1, .slice q.a2 p.tgt.length q.c2, .slice q.a3 p.tabs.length q.c3]
  obtain ⟨W, hW, S⟩ : ∃ W, w.alloc (.cells #[.slice q.a0 p.vs.length q.c0, .slice q.a1 p.now.length q.c1, .slice q.a2 p.tgt.length q.c2, .slice q.a3 p.tabs.length q.c3] 39) = W ∧ Fm w W _ _ := ⟨_, rfl, S⟩
  have HF := Lib.hid (fail_any p q A c l W (hp.to S.bel) hbd h0 hn1 ((hL.below S.bel).more S.size) hl)
  obtain ⟨C, hC⟩ : ∃ C, chkB p l = C := ⟨_, rfl⟩
  rw [hC] at HF ⊢
  obtain ⟨n, hn⟩ : ∃ n, l.length = n := ⟨_, rfl⟩
  rw [hn] at HF ⊢
  obtain ⟨qa0, qc0, qa1, qc1, qa2, qc2, qa3, qc3⟩ := q
  dsimp only at HF hW S ⊢
  obtain ⟨⟨r2, f2, r20, r21, r22, r23, -⟩, -⟩ := S.facts
  have SW := Lib.hid S
  clear S hp hbd h0 hn1 hL hC hn hl
  go_enter Try.func12, Try.ntmps12
  go_wp2_with fail
  clear hW
  with_reducible refine HF.out.mono ?_
  rintro e w1 ⟨_, rfl, hb1, k, a0, a1, a2, n0, k0, n1, k1, n2, k2, z0, z1, z2, E, rfl, hE⟩
  have S1 := Lib.hid (SW.out.call hb1)
  clear r2 f2 r20 r21 r22 r23
  have hE2 : (E == 15) = C := by
    cases C with
    | true => simpa using hE.2 rfl
    | false =>
      have : ¬ E = 15 := fun h => by have := hE.1 h; cases this
      simpa using this
  replace hE2 := Lib.hid hE2
  clear hE
  have S2 := Lib.hid ((S1.out.obj (.cells #[.slice a0 n0 k0, .slice a1 n1 k1, .slice a2 n2 k2] 56)).obj (.cells #[.int .i64 z0, .int .i64 z1, .int .i64 z2] 80))
  go_wp2
  go_ret
  exact ⟨by rw [← hE2.out]; rfl, S2.out.bel⟩
end Go.Proofs.Ytickckehhfdoeaa
