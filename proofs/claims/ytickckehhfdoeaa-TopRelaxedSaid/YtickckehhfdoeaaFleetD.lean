/-
  CONTRACTS of the reference's table and ValidProblem: the error of a problem.
  Conditions: those that each theorem names.
-/
import Derived.Test.YtickckehhfdoeaaFleetC
namespace Go.Proofs.Ytickckehhfdoeaa
open Go.RowKit Go.Sv

theorem square_eq (A : Option Addr) (c : Nat) (m : List (List Bool)) (n k : Int) (w : World) (B : Nat) (b : Bool) (ha : RMat w B A m) (hm : m.length ≤ 9223372036854775807) (hs : sq m n k = b) :
    Calls Try.prog 79 #[.slice A m.length c, .int .i64 n, .int .i64 k] w fun e w' => e = .returned (.bool b) ∧ w = w' := by
  subst hs
  exact square_any A c m n k w B ha hm

theorem stored_any (t : Tab) (qt : TabP) (w : World) :
    Calls Try.prog 30 #[tabV t qt] w fun e w' => e = .returned (.bool (decide (t.kind = 3 ∨ t.kind = 4))) ∧ Below w.heap.size w w' := by
  by_cases h3 : t.kind = 3
  · have x3 : (t.kind == 3) = true := by rw [beq_iff_eq]; exact h3
    have E : Hid (decide (t.kind = 3 ∨ t.kind = 4) = true) := Lib.hid (decide_eq_true (Or.inl h3))
    clear h3
    go_enter Try.func30, Try.ntmps30
    go_wp2
    go_ret
    exact ⟨ret_b E.out.symm, (Below.refl _ _).alloc (Nat.le_refl _) _⟩
  · have x3 : (t.kind == 3) = false := by rw [beq_eq_false_iff_ne]; exact h3
    have E : Hid (decide (t.kind = 3 ∨ t.kind = 4) = (t.kind == 4)) := Lib.hid (by rw [Bool.eq_iff_iff]; simp [h3])
    clear h3
    go_enter Try.func30, Try.ntmps30
    go_wp2
    go_ret
    exact ⟨ret_b E.out.symm, (Below.refl _ _).alloc (Nat.le_refl _) _⟩

theorem box46 {w w' : World} {a b c d a' b' c' d' e' f' : Value} {t t' : TypeId} (hb : Below (w.heap.size + 2) ((w.alloc (.cells #[a, b, c, d] t)).alloc (.cells #[a', b', c', d', e', f'] t')) w') :
    (w'.cell? ⟨w.heap.size, 0, none⟩ = some a ∧ w'.cell? ⟨w.heap.size, 1, none⟩ = some b ∧ w'.cell? ⟨w.heap.size, 2, none⟩ = some c ∧ w'.cell? ⟨w.heap.size, 3, none⟩ = some d) ∧
    w'.cell? ⟨w.heap.size + 1, 0, none⟩ = some a' ∧ w'.cell? ⟨w.heap.size + 1, 1, none⟩ = some b' ∧ w'.cell? ⟨w.heap.size + 1, 2, none⟩ = some c' ∧ w'.cell? ⟨w.heap.size + 1, 3, none⟩ = some d' ∧
    w'.cell? ⟨w.heap.size + 1, 4, none⟩ = some e' ∧ w'.cell? ⟨w.heap.size + 1, 5, none⟩ = some f' := by
  have h1 : ∀ i, w'.cell? ⟨w.heap.size, i, none⟩ = #[a, b, c, d][i]? := fun i => by rw [hb.cell (p := ⟨w.heap.size, i, none⟩) (by simp), cell_first]
  have h2 : ∀ i, w'.cell? ⟨w.heap.size + 1, i, none⟩ = #[a', b', c', d', e', f'][i]? := fun i => by rw [hb.cell (p := ⟨w.heap.size + 1, i, none⟩) (by simp), cell_second]
  exact ⟨⟨h1 0, h1 1, h1 2, h1 3⟩, h2 0, h2 1, h2 2, h2 3, h2 4, h2 5⟩

/-- what a problem's table is from region 6 on: the boxes are there -/
theorem kindB_cases {k : Int} {aw : Bool} (h : kindB k aw = true) : 1 ≤ k ∧ k ≤ 4 ∧ (aw = true → (k = 3 ∨ k = 4) → False) := by
  unfold kindB at h
  simp at h
  refine ⟨by omega, by omega, fun ha hk => ?_⟩
  rcases h with h | h | ⟨_, h⟩
  · omega
  · omega
  · rw [ha] at h; cases h
theorem kindB_no {k : Int} {aw : Bool} (h : kindB k aw = false) : k < 1 ∨ 4 < k ∨ (aw = true ∧ (k = 3 ∨ k = 4)) := by
  unfold kindB at h
  simp at h
  cases aw
  · simp at h; omega
  · simp; omega







set_option maxHeartbeats 4000000 in
theorem rtable_false (p : Prob) (qa0 : Option Addr) (qc0 : Nat) (qa1 : Option Addr) (qc1 : Nat) (qa2 : Option Addr) (qc2 : Nat) (qa3 : Option Addr) (qc3 : Nat) (kd sr ds : Int) (okm rwm : List (List Bool)) (oA : Option Addr) (oC : Nat) (rA : Option Addr) (rC : Nat) (w : World)
    (hr0 : Arr w w.heap.size qa0 p.vs.length (iv p.vs)) (ht1 : RMat w w.heap.size oA okm) (ht2 : RMat w w.heap.size rA rwm)
    (m1 : p.vs.length ≤ 9223372036854775807) (m2 : okm.length ≤ 9223372036854775807) (m3 : rwm.length ≤ 9223372036854775807) (g1 : kindB kd false = true) :
    Calls Try.prog 53 #[.agg #[.slice qa0 p.vs.length qc0, .slice qa1 p.now.length qc1, .slice qa2 p.tgt.length qc2, .slice qa3 p.tabs.length qc3], .agg #[.int .i64 kd, .int .i64 sr, .int .i64 ds, .bool false, .slice oA okm.length oC, .slice rA rwm.length rC]] w fun e w' =>
      e = .returned (.int .i64 (tabE p.vs ⟨kd, sr, ds, false, okm, rwm⟩)) ∧ Below w.heap.size w w' := by
  have hbx : Hid (∀ o o' : Obj, Below w.heap.size w ((w.alloc o).alloc o')) := Lib.hid fun o o' => ((Below.refl _ _).alloc (Nat.le_refl _) o).alloc (by simp) o'
  have hsx : Hid (∀ o o' : Obj, ((w.alloc o).alloc o').heap.size = w.heap.size + 2) := Lib.hid fun o o' => by simp
  obtain ⟨k1, k2, k3⟩ := kindB_cases g1
  have key : Hid (∀ W : World, Below (w.heap.size + 2) ((w.alloc (.cells #[.slice qa0 p.vs.length qc0, .slice qa1 p.now.length qc1, .slice qa2 p.tgt.length qc2, .slice qa3 p.tabs.length qc3] 39)).alloc
      (.cells #[.int .i64 kd, .int .i64 sr, .int .i64 ds, .bool false, .slice oA okm.length oC, .slice rA rwm.length rC] 47)) W → Below w.heap.size w W) := Lib.hid fun W hW =>
    below_of (hbx.out _ _) (by rw [hsx.out]; omega) (hW.mono (Nat.le_of_eq (hsx.out _ _)))
  clear k3
  replace g1 := Lib.hid g1
  by_cases g2 : win sr p.vs.length = true
  case neg =>
    have E := Lib.hid (tabE_4 (t := ⟨kd, sr, ds, false, okm, rwm⟩) g1.out (Or.inl (by simpa using g2)))
    have hn := win_no.1 (show win sr p.vs.length = false by simpa using g2)
    clear g2
    replace hr0 := Lib.hid hr0
    replace ht1 := Lib.hid ht1
    replace ht2 := Lib.hid ht2
    by_cases s1 : sr < 0
    · clear hn
      go_enter Try.func53, Try.ntmps53
      go_wp2_with fail
      go_ret
      exact ⟨ret_i E.out.symm, (hbx.out _ _)⟩
    · have s2 : (p.vs.length : Int) ≤ sr := by omega
      clear hn
      go_enter Try.func53, Try.ntmps53
      go_wp2_with fail
      go_ret
      exact ⟨ret_i E.out.symm, (hbx.out _ _)⟩
  obtain ⟨sr1, sr2⟩ := win_iff.1 g2
  replace g2 := Lib.hid g2
  by_cases g3 : win ds p.vs.length = true
  case neg =>
    have E := Lib.hid (tabE_4 (t := ⟨kd, sr, ds, false, okm, rwm⟩) g1.out (Or.inr (by simpa using g3)))
    have hn := win_no.1 (show win ds p.vs.length = false by simpa using g3)
    clear g3
    replace hr0 := Lib.hid hr0
    replace ht1 := Lib.hid ht1
    replace ht2 := Lib.hid ht2
    by_cases s1 : ds < 0
    · clear hn
      go_enter Try.func53, Try.ntmps53
      go_wp2_with fail
      go_ret
      exact ⟨ret_i E.out.symm, (hbx.out _ _)⟩
    · have s2 : (p.vs.length : Int) ≤ ds := by omega
      clear hn
      go_enter Try.func53, Try.ntmps53
      go_wp2_with fail
      go_ret
      exact ⟨ret_i E.out.symm, (hbx.out _ _)⟩
  obtain ⟨ds1, ds2⟩ := win_iff.1 g3
  replace g3 := Lib.hid g3
  obtain ⟨b, off, hA, hb, hc⟩ := hr0 (by omega)
  subst hA
  have cs := hc sr.toNat (by omega)
  have cd := hc ds.toNat (by omega)
  unfold iv at cs cd
  have hbz1 : b < w.heap.size + 1 + 1 := by omega
  have hbz2 : b < w.heap.size + 1 := by omega
  replace hc := Lib.hid hc
  replace hr0 := Lib.hid hr0
  replace ht1 := Lib.hid ht1
  replace ht2 := Lib.hid ht2
  by_cases g4' : sq okm (gi p.vs sr.toNat) (gi p.vs ds.toNat) = true
  case neg =>
    have g4 : Hid (sq okm (gi p.vs sr.toNat) (gi p.vs ds.toNat) = false) := Lib.hid (by simpa using g4')
    have E := Lib.hid (tabE_6 (t := ⟨kd, sr, ds, false, okm, rwm⟩) g1.out g2.out g3.out (Or.inl g4.out))
    clear g4'
    go_enter Try.func53, Try.ntmps53
    go_wp2_with fail
    obtain ⟨w1, hw1⟩ : ∃ W, W = (w.alloc (.cells #[.slice (some ⟨b, off, none⟩) p.vs.length qc0, .slice qa1 p.now.length qc1, .slice qa2 p.tgt.length qc2, .slice qa3 p.tabs.length qc3] 39)).alloc
      (.cells #[.int .i64 kd, .int .i64 sr, .int .i64 ds, .bool false, .slice oA okm.length oC, .slice rA rwm.length rC] 47) := ⟨_, rfl⟩
    rw [← hw1]
    have hb1 : Below (w.heap.size + 2) ((w.alloc (.cells #[.slice (some ⟨b, off, none⟩) p.vs.length qc0, .slice qa1 p.now.length qc1, .slice qa2 p.tgt.length qc2, .slice qa3 p.tabs.length qc3] 39)).alloc
      (.cells #[.int .i64 kd, .int .i64 sr, .int .i64 ds, .bool false, .slice oA okm.length oC, .slice rA rwm.length rC] 47)) w1 := by rw [hw1]; exact Below.refl _ _
    clear hw1
    have hb2 := key.out _ hb1
    obtain ⟨⟨z0, z1, z2, z3⟩, y0, y1, y2, y3, y4, y5⟩ := box46 hb1
    replace hb1 := Lib.hid hb1
    have cs1 := (hb2.cell (p := ⟨b, off + sr.toNat, none⟩) hb).trans cs
    have cd1 := (hb2.cell (p := ⟨b, off + ds.toNat, none⟩) hb).trans cd
    have q1 := Lib.hid (ht1.out.below hb2)
    have q2 := Lib.hid (ht2.out.below hb2)
    clear cs cd
    replace hb2 := Lib.hid hb2
    go_quiet ((go_at_call 79; exact quiet_l (square_eq _ _ _ _ _ _ w.heap.size _ (by with_reducible exact q1.out.below (Drawn.of _).below) m2 g4.out)))
    go_wp2_with fail
    go_ret
    exact ⟨ret_i E.out.symm, below_drewN hb2.out _⟩
  have g4 := Lib.hid g4'
  clear g4'
  by_cases g5 : kd = 4
  · have k4 : (kd != 4) = false := by rw [bne_eq_false_iff_eq]; exact g5
    by_cases g6' : sq rwm (gi p.vs sr.toNat) (gi p.vs sr.toNat) = true
    case neg =>
      have g6 : Hid (sq rwm (gi p.vs sr.toNat) (gi p.vs sr.toNat) = false) := Lib.hid (by simpa using g6')
      have E := Lib.hid (tabE_6 (t := ⟨kd, sr, ds, false, okm, rwm⟩) g1.out g2.out g3.out (Or.inr (Or.inl ⟨g5, g6.out⟩)))
      clear g6' g5
      go_enter Try.func53, Try.ntmps53
      go_wp2_with fail
      obtain ⟨w1, hw1⟩ : ∃ W, W = (w.alloc (.cells #[.slice (some ⟨b, off, none⟩) p.vs.length qc0, .slice qa1 p.now.length qc1, .slice qa2 p.tgt.length qc2, .slice qa3 p.tabs.length qc3] 39)).alloc
        (.cells #[.int .i64 kd, .int .i64 sr, .int .i64 ds, .bool false, .slice oA okm.length oC, .slice rA rwm.length rC] 47) := ⟨_, rfl⟩
      rw [← hw1]
      have hb1 : Below (w.heap.size + 2) ((w.alloc (.cells #[.slice (some ⟨b, off, none⟩) p.vs.length qc0, .slice qa1 p.now.length qc1, .slice qa2 p.tgt.length qc2, .slice qa3 p.tabs.length qc3] 39)).alloc
        (.cells #[.int .i64 kd, .int .i64 sr, .int .i64 ds, .bool false, .slice oA okm.length oC, .slice rA rwm.length rC] 47)) w1 := by rw [hw1]; exact Below.refl _ _
      clear hw1
      have hb2 := key.out _ hb1
      obtain ⟨⟨z0, z1, z2, z3⟩, y0, y1, y2, y3, y4, y5⟩ := box46 hb1
      replace hb1 := Lib.hid hb1
      have cs1 := (hb2.cell (p := ⟨b, off + sr.toNat, none⟩) hb).trans cs
      have cd1 := (hb2.cell (p := ⟨b, off + ds.toNat, none⟩) hb).trans cd
      have q1 := Lib.hid (ht1.out.below hb2)
      have q2 := Lib.hid (ht2.out.below hb2)
      clear cs cd
      replace hb2 := Lib.hid hb2
      go_quiet ((go_at_call 79; exact quiet_l (square_eq _ _ _ _ _ _ w.heap.size _ (by with_reducible exact q1.out.below (Drawn.of _).below) m2 g4.out)))
      go_wp2_with fail
      obtain ⟨n1, rfl⟩ : ∃ n1 : Nat, n1 = nq := ⟨_, rfl⟩
      go_quiet ((go_at_call 79; exact quiet_al (square_eq _ _ _ _ _ _ w.heap.size _ (by with_reducible exact q2.out.below (Drawn.of _).below) m3 g6.out)))
      go_wp2_with fail
      go_ret
      exact ⟨ret_i E.out.symm, below_drewN (below_drewN hb2.out _) _⟩
    have NB : Hid (¬ (sq okm (gi p.vs sr.toNat) (gi p.vs ds.toNat) = false ∨ (kd = 4 ∧ sq rwm (gi p.vs sr.toNat) (gi p.vs sr.toNat) = false) ∨ (kd ≠ 4 ∧ 0 < rwm.length))) :=
      Lib.hid (by simp [g4.out, g6', g5])
    have g6 := Lib.hid g6'
    clear g5 g6'
    go_enter Try.func53, Try.ntmps53
    go_wp2_with fail
    obtain ⟨w1, hw1⟩ : ∃ W, W = (w.alloc (.cells #[.slice (some ⟨b, off, none⟩) p.vs.length qc0, .slice qa1 p.now.length qc1, .slice qa2 p.tgt.length qc2, .slice qa3 p.tabs.length qc3] 39)).alloc
      (.cells #[.int .i64 kd, .int .i64 sr, .int .i64 ds, .bool false, .slice oA okm.length oC, .slice rA rwm.length rC] 47) := ⟨_, rfl⟩
    rw [← hw1]
    have hb1 : Below (w.heap.size + 2) ((w.alloc (.cells #[.slice (some ⟨b, off, none⟩) p.vs.length qc0, .slice qa1 p.now.length qc1, .slice qa2 p.tgt.length qc2, .slice qa3 p.tabs.length qc3] 39)).alloc
      (.cells #[.int .i64 kd, .int .i64 sr, .int .i64 ds, .bool false, .slice oA okm.length oC, .slice rA rwm.length rC] 47)) w1 := by rw [hw1]; exact Below.refl _ _
    clear hw1
    have hb2 := key.out _ hb1
    obtain ⟨⟨z0, z1, z2, z3⟩, y0, y1, y2, y3, y4, y5⟩ := box46 hb1
    replace hb1 := Lib.hid hb1
    have cs1 := (hb2.cell (p := ⟨b, off + sr.toNat, none⟩) hb).trans cs
    have cd1 := (hb2.cell (p := ⟨b, off + ds.toNat, none⟩) hb).trans cd
    have q1 := Lib.hid (ht1.out.below hb2)
    have q2 := Lib.hid (ht2.out.below hb2)
    clear cs cd
    replace hb2 := Lib.hid hb2
    go_quiet ((go_at_call 79; exact quiet_l (square_eq _ _ _ _ _ _ w.heap.size _ (by with_reducible exact q1.out.below (Drawn.of _).below) m2 g4.out)))
    go_wp2_with fail
    obtain ⟨n1, rfl⟩ : ∃ n1 : Nat, n1 = nq := ⟨_, rfl⟩
    go_quiet ((go_at_call 79; exact quiet_al (square_eq _ _ _ _ _ _ w.heap.size _ (by with_reducible exact q2.out.below (Drawn.of _).below) m3 g6.out)))
    go_wp2_with fail
    obtain ⟨w2, hw2⟩ : ∃ W, W = (w1.drewN n1).drewN nq := ⟨_, rfl⟩
    rw [← hw2]
    have hd2 : Drawn w1 w2 := by rw [hw2]; exact (Drawn.of _).drewN _
    clear hw2
    have c5 := (hd2.cell _).trans y5
    have hrm := (q2.out).below (B := w.heap.size) hd2.below
    have hb3 := Lib.hid (hb2.out.drawn hd2)
    clear hd2
    go_wp2_with fail
    go_loop [6] (fun i => ∃ j : Nat, j ≤ rwm.length ∧ i = .int .i64 j ∧ ∀ k, k < j → mat rwm k k = true) (fun i => rwm.length - (intOf i).toNat)
    case atStart => exact ⟨0, Nat.zero_le _, rfl, fun k hk => by omega⟩
    case round =>
      obtain ⟨j, hj, rfl, hall⟩ := hrel
      replace hall := Lib.hid hall
      by_cases hlt : j < rwm.length
      · obtain ⟨r, h1, h2⟩ := hrm
        obtain ⟨b1, o1, e1, _, hc1⟩ := h1 (by omega)
        have d1 := hc1 j hlt
        have hml : j < mlen rwm j := by have := (sq_len g6.out).2 j hlt; have := (sq_len g6.out).1; omega
        obtain ⟨b2, o2, e2, _, hc2⟩ := h2 j hlt (by omega)
        have d2 := hc2 j hml
        dsimp only at d1 d2
        rw [e2] at d1
        rw [e1] at c5
        clear h1 h2 hc1 hc2 e1 e2
        by_cases hm : mat rwm j j = true
        · replace hm := Lib.hid hm
          rw [hm.out] at d2
          go_wp2
          go_round
          case rel => exact ⟨j + 1, by omega, by go_num, fun k hk => by (rcases Nat.lt_succ_iff_lt_or_eq.1 hk with h | h; exact hall.out k h; rw [h]; exact hm.out)⟩
          case measure => simp [intOf]; omega
        · have hm' : mat rwm j j = false := by simpa using hm
          have E := Lib.hid (tabE_d (t := ⟨kd, sr, ds, false, okm, rwm⟩) g1.out g2.out g3.out NB.out hlt hm')
          rw [hm'] at d2
          clear hm hm'
          go_wp2
          go_ret
          exact ⟨ret_i E.out.symm, hb3.out⟩
      · obtain rfl : j = rwm.length := by omega
        have E := Lib.hid (tabE_0 (t := ⟨kd, sr, ds, false, okm, rwm⟩) g1.out g2.out g3.out NB.out hall.out)
        go_wp2
        go_ret
        exact ⟨ret_i E.out.symm, hb3.out⟩
  · have k4 : (kd != 4) = true := by rw [bne_iff_ne]; exact g5
    by_cases g7 : 0 < rwm.length
    · have E := Lib.hid (tabE_6 (t := ⟨kd, sr, ds, false, okm, rwm⟩) g1.out g2.out g3.out (Or.inr (Or.inr ⟨g5, g7⟩)))
      have g8 : ((rwm.length : Int) != 0) = true := by rw [bne_iff_ne]; omega
      clear g5
      go_enter Try.func53, Try.ntmps53
      go_wp2_with fail
      obtain ⟨w1, hw1⟩ : ∃ W, W = (w.alloc (.cells #[.slice (some ⟨b, off, none⟩) p.vs.length qc0, .slice qa1 p.now.length qc1, .slice qa2 p.tgt.length qc2, .slice qa3 p.tabs.length qc3] 39)).alloc
        (.cells #[.int .i64 kd, .int .i64 sr, .int .i64 ds, .bool false, .slice oA okm.length oC, .slice rA rwm.length rC] 47) := ⟨_, rfl⟩
      rw [← hw1]
      have hb1 : Below (w.heap.size + 2) ((w.alloc (.cells #[.slice (some ⟨b, off, none⟩) p.vs.length qc0, .slice qa1 p.now.length qc1, .slice qa2 p.tgt.length qc2, .slice qa3 p.tabs.length qc3] 39)).alloc
        (.cells #[.int .i64 kd, .int .i64 sr, .int .i64 ds, .bool false, .slice oA okm.length oC, .slice rA rwm.length rC] 47)) w1 := by rw [hw1]; exact Below.refl _ _
      clear hw1
      have hb2 := key.out _ hb1
      obtain ⟨⟨z0, z1, z2, z3⟩, y0, y1, y2, y3, y4, y5⟩ := box46 hb1
      replace hb1 := Lib.hid hb1
      have cs1 := (hb2.cell (p := ⟨b, off + sr.toNat, none⟩) hb).trans cs
      have cd1 := (hb2.cell (p := ⟨b, off + ds.toNat, none⟩) hb).trans cd
      have q1 := Lib.hid (ht1.out.below hb2)
      have q2 := Lib.hid (ht2.out.below hb2)
      clear cs cd
      replace hb2 := Lib.hid hb2
      go_quiet ((go_at_call 79; exact quiet_l (square_eq _ _ _ _ _ _ w.heap.size _ (by with_reducible exact q1.out.below (Drawn.of _).below) m2 g4.out)))
      go_wp2_with fail
      go_ret
      exact ⟨ret_i E.out.symm, below_drewN hb2.out _⟩
    · have NB : Hid (¬ (sq okm (gi p.vs sr.toNat) (gi p.vs ds.toNat) = false ∨ (kd = 4 ∧ sq rwm (gi p.vs sr.toNat) (gi p.vs sr.toNat) = false) ∨ (kd ≠ 4 ∧ 0 < rwm.length))) :=
        Lib.hid (by
          rintro (h | ⟨h, _⟩ | ⟨_, h⟩)
          · rw [g4.out] at h; cases h
          · exact g5 h
          · exact g7 h)
      have E := Lib.hid (tabE_0 (t := ⟨kd, sr, ds, false, okm, rwm⟩) g1.out g2.out g3.out NB.out (fun i hi => by dsimp only at hi; omega))
      have g8 : ((rwm.length : Int) != 0) = false := by rw [bne_eq_false_iff_eq]; omega
      clear g5
      go_enter Try.func53, Try.ntmps53
      go_wp2_with fail
      obtain ⟨w1, hw1⟩ : ∃ W, W = (w.alloc (.cells #[.slice (some ⟨b, off, none⟩) p.vs.length qc0, .slice qa1 p.now.length qc1, .slice qa2 p.tgt.length qc2, .slice qa3 p.tabs.length qc3] 39)).alloc
        (.cells #[.int .i64 kd, .int .i64 sr, .int .i64 ds, .bool false, .slice oA okm.length oC, .slice rA rwm.length rC] 47) := ⟨_, rfl⟩
      rw [← hw1]
      have hb1 : Below (w.heap.size + 2) ((w.alloc (.cells #[.slice (some ⟨b, off, none⟩) p.vs.length qc0, .slice qa1 p.now.length qc1, .slice qa2 p.tgt.length qc2, .slice qa3 p.tabs.length qc3] 39)).alloc
        (.cells #[.int .i64 kd, .int .i64 sr, .int .i64 ds, .bool false, .slice oA okm.length oC, .slice rA rwm.length rC] 47)) w1 := by rw [hw1]; exact Below.refl _ _
      clear hw1
      have hb2 := key.out _ hb1
      obtain ⟨⟨z0, z1, z2, z3⟩, y0, y1, y2, y3, y4, y5⟩ := box46 hb1
      replace hb1 := Lib.hid hb1
      have cs1 := (hb2.cell (p := ⟨b, off + sr.toNat, none⟩) hb).trans cs
      have cd1 := (hb2.cell (p := ⟨b, off + ds.toNat, none⟩) hb).trans cd
      have q1 := Lib.hid (ht1.out.below hb2)
      have q2 := Lib.hid (ht2.out.below hb2)
      clear cs cd
      replace hb2 := Lib.hid hb2
      go_quiet ((go_at_call 79; exact quiet_l (square_eq _ _ _ _ _ _ w.heap.size _ (by with_reducible exact q1.out.below (Drawn.of _).below) m2 g4.out)))
      go_wp2_with fail
      go_ret
      exact ⟨ret_i E.out.symm, below_drewN hb2.out _⟩

set_option maxHeartbeats 4000000 in
theorem rtable_true (p : Prob) (qa0 : Option Addr) (qc0 : Nat) (qa1 : Option Addr) (qc1 : Nat) (qa2 : Option Addr) (qc2 : Nat) (qa3 : Option Addr) (qc3 : Nat) (kd sr ds : Int) (okm rwm : List (List Bool)) (oA : Option Addr) (oC : Nat) (rA : Option Addr) (rC : Nat) (w : World)
    (hr0 : Arr w w.heap.size qa0 p.vs.length (iv p.vs)) (ht1 : RMat w w.heap.size oA okm) (ht2 : RMat w w.heap.size rA rwm)
    (m1 : p.vs.length ≤ 9223372036854775807) (m2 : okm.length ≤ 9223372036854775807) (m3 : rwm.length ≤ 9223372036854775807) (g1 : kindB kd true = true) :
    Calls Try.prog 53 #[.agg #[.slice qa0 p.vs.length qc0, .slice qa1 p.now.length qc1, .slice qa2 p.tgt.length qc2, .slice qa3 p.tabs.length qc3], .agg #[.int .i64 kd, .int .i64 sr, .int .i64 ds, .bool true, .slice oA okm.length oC, .slice rA rwm.length rC]] w fun e w' =>
      e = .returned (.int .i64 (tabE p.vs ⟨kd, sr, ds, true, okm, rwm⟩)) ∧ Below w.heap.size w w' := by
  have hbx : Hid (∀ o o' : Obj, Below w.heap.size w ((w.alloc o).alloc o')) := Lib.hid fun o o' => ((Below.refl _ _).alloc (Nat.le_refl _) o).alloc (by simp) o'
  have hsx : Hid (∀ o o' : Obj, ((w.alloc o).alloc o').heap.size = w.heap.size + 2) := Lib.hid fun o o' => by simp
  obtain ⟨k1, k2, k3⟩ := kindB_cases g1
  have hst : Hid (∀ X : World, Calls Try.prog 30 #[.agg #[.int .i64 kd, .int .i64 sr, .int .i64 ds, .bool true, .slice oA okm.length oC, .slice rA rwm.length rC]] X fun e w' => e = .returned (.bool false) ∧ Below X.heap.size X w') := Lib.hid (fun X =>
    (stored_any ⟨kd, sr, ds, true, okm, rwm⟩ ⟨oA, oC, rA, rC⟩ X).mono fun e w' ⟨he, hb⟩ => ⟨by rw [he, decide_eq_false (fun h => k3 rfl h)], hb⟩)
  have key : Hid (∀ W : World, Below (w.heap.size + 2) ((w.alloc (.cells #[.slice qa0 p.vs.length qc0, .slice qa1 p.now.length qc1, .slice qa2 p.tgt.length qc2, .slice qa3 p.tabs.length qc3] 39)).alloc
      (.cells #[.int .i64 kd, .int .i64 sr, .int .i64 ds, .bool true, .slice oA okm.length oC, .slice rA rwm.length rC] 47)) W → Below w.heap.size w W) := Lib.hid fun W hW =>
    below_of (hbx.out _ _) (by rw [hsx.out]; omega) (hW.mono (Nat.le_of_eq (hsx.out _ _)))
  clear k3
  replace g1 := Lib.hid g1
  by_cases g2 : win sr p.vs.length = true
  case neg =>
    have E := Lib.hid (tabE_4 (t := ⟨kd, sr, ds, true, okm, rwm⟩) g1.out (Or.inl (by simpa using g2)))
    have hn := win_no.1 (show win sr p.vs.length = false by simpa using g2)
    clear g2
    replace hr0 := Lib.hid hr0
    replace ht1 := Lib.hid ht1
    replace ht2 := Lib.hid ht2
    by_cases s1 : sr < 0
    · clear hn
      go_enter Try.func53, Try.ntmps53
      go_wp2_with (go_at_call 30; refine (hst.out _).mono ?_; rintro e w1 ⟨rfl, hb1⟩; rw [hsx.out] at hb1; obtain ⟨⟨z0, z1, z2, z3⟩, y0, y1, y2, y3, y4, y5⟩ := box46 hb1; have hb2 := key.out _ hb1; replace hb1 := Lib.hid hb1)
      go_ret
      exact ⟨ret_i E.out.symm, hb2⟩
    · have s2 : (p.vs.length : Int) ≤ sr := by omega
      clear hn
      go_enter Try.func53, Try.ntmps53
      go_wp2_with (go_at_call 30; refine (hst.out _).mono ?_; rintro e w1 ⟨rfl, hb1⟩; rw [hsx.out] at hb1; obtain ⟨⟨z0, z1, z2, z3⟩, y0, y1, y2, y3, y4, y5⟩ := box46 hb1; have hb2 := key.out _ hb1; replace hb1 := Lib.hid hb1)
      go_ret
      exact ⟨ret_i E.out.symm, hb2⟩
  obtain ⟨sr1, sr2⟩ := win_iff.1 g2
  replace g2 := Lib.hid g2
  by_cases g3 : win ds p.vs.length = true
  case neg =>
    have E := Lib.hid (tabE_4 (t := ⟨kd, sr, ds, true, okm, rwm⟩) g1.out (Or.inr (by simpa using g3)))
    have hn := win_no.1 (show win ds p.vs.length = false by simpa using g3)
    clear g3
    replace hr0 := Lib.hid hr0
    replace ht1 := Lib.hid ht1
    replace ht2 := Lib.hid ht2
    by_cases s1 : ds < 0
    · clear hn
      go_enter Try.func53, Try.ntmps53
      go_wp2_with (go_at_call 30; refine (hst.out _).mono ?_; rintro e w1 ⟨rfl, hb1⟩; rw [hsx.out] at hb1; obtain ⟨⟨z0, z1, z2, z3⟩, y0, y1, y2, y3, y4, y5⟩ := box46 hb1; have hb2 := key.out _ hb1; replace hb1 := Lib.hid hb1)
      go_ret
      exact ⟨ret_i E.out.symm, hb2⟩
    · have s2 : (p.vs.length : Int) ≤ ds := by omega
      clear hn
      go_enter Try.func53, Try.ntmps53
      go_wp2_with (go_at_call 30; refine (hst.out _).mono ?_; rintro e w1 ⟨rfl, hb1⟩; rw [hsx.out] at hb1; obtain ⟨⟨z0, z1, z2, z3⟩, y0, y1, y2, y3, y4, y5⟩ := box46 hb1; have hb2 := key.out _ hb1; replace hb1 := Lib.hid hb1)
      go_ret
      exact ⟨ret_i E.out.symm, hb2⟩
  obtain ⟨ds1, ds2⟩ := win_iff.1 g3
  replace g3 := Lib.hid g3
  obtain ⟨b, off, hA, hb, hc⟩ := hr0 (by omega)
  subst hA
  have cs := hc sr.toNat (by omega)
  have cd := hc ds.toNat (by omega)
  unfold iv at cs cd
  have hbz1 : b < w.heap.size + 1 + 1 := by omega
  have hbz2 : b < w.heap.size + 1 := by omega
  replace hc := Lib.hid hc
  replace hr0 := Lib.hid hr0
  replace ht1 := Lib.hid ht1
  replace ht2 := Lib.hid ht2
  by_cases g4' : sq okm (gi p.vs sr.toNat) (gi p.vs ds.toNat) = true
  case neg =>
    have g4 : Hid (sq okm (gi p.vs sr.toNat) (gi p.vs ds.toNat) = false) := Lib.hid (by simpa using g4')
    have E := Lib.hid (tabE_6 (t := ⟨kd, sr, ds, true, okm, rwm⟩) g1.out g2.out g3.out (Or.inl g4.out))
    clear g4'
    go_enter Try.func53, Try.ntmps53
    go_wp2_with (go_at_call 30; refine (hst.out _).mono ?_; rintro e w1 ⟨rfl, hb1⟩; rw [hsx.out] at hb1; obtain ⟨⟨z0, z1, z2, z3⟩, y0, y1, y2, y3, y4, y5⟩ := box46 hb1; have hb2 := key.out _ hb1; have cs0 := (hb2.cell (p := ⟨b, off + sr.toNat, none⟩) hb).trans cs; have cd0 := (hb2.cell (p := ⟨b, off + ds.toNat, none⟩) hb).trans cd; replace hb1 := Lib.hid hb1)
    have cs1 := (hb2.cell (p := ⟨b, off + sr.toNat, none⟩) hb).trans cs
    have cd1 := (hb2.cell (p := ⟨b, off + ds.toNat, none⟩) hb).trans cd
    have q1 := Lib.hid (ht1.out.below hb2)
    have q2 := Lib.hid (ht2.out.below hb2)
    clear cs cd
    replace hb2 := Lib.hid hb2
    go_quiet ((go_at_call 79; exact quiet_l (square_eq _ _ _ _ _ _ w.heap.size _ (by with_reducible exact q1.out.below (Drawn.of _).below) m2 g4.out)))
    go_wp2_with fail
    go_ret
    exact ⟨ret_i E.out.symm, below_drewN hb2.out _⟩
  have g4 := Lib.hid g4'
  clear g4'
  by_cases g5 : kd = 4
  · have k4 : (kd != 4) = false := by rw [bne_eq_false_iff_eq]; exact g5
    by_cases g6' : sq rwm (gi p.vs sr.toNat) (gi p.vs sr.toNat) = true
    case neg =>
      have g6 : Hid (sq rwm (gi p.vs sr.toNat) (gi p.vs sr.toNat) = false) := Lib.hid (by simpa using g6')
      have E := Lib.hid (tabE_6 (t := ⟨kd, sr, ds, true, okm, rwm⟩) g1.out g2.out g3.out (Or.inr (Or.inl ⟨g5, g6.out⟩)))
      clear g6' g5
      go_enter Try.func53, Try.ntmps53
      go_wp2_with (go_at_call 30; refine (hst.out _).mono ?_; rintro e w1 ⟨rfl, hb1⟩; rw [hsx.out] at hb1; obtain ⟨⟨z0, z1, z2, z3⟩, y0, y1, y2, y3, y4, y5⟩ := box46 hb1; have hb2 := key.out _ hb1; have cs0 := (hb2.cell (p := ⟨b, off + sr.toNat, none⟩) hb).trans cs; have cd0 := (hb2.cell (p := ⟨b, off + ds.toNat, none⟩) hb).trans cd; replace hb1 := Lib.hid hb1)
      have cs1 := (hb2.cell (p := ⟨b, off + sr.toNat, none⟩) hb).trans cs
      have cd1 := (hb2.cell (p := ⟨b, off + ds.toNat, none⟩) hb).trans cd
      have q1 := Lib.hid (ht1.out.below hb2)
      have q2 := Lib.hid (ht2.out.below hb2)
      clear cs cd
      replace hb2 := Lib.hid hb2
      go_quiet ((go_at_call 79; exact quiet_l (square_eq _ _ _ _ _ _ w.heap.size _ (by with_reducible exact q1.out.below (Drawn.of _).below) m2 g4.out)))
      go_wp2_with fail
      obtain ⟨n1, rfl⟩ : ∃ n1 : Nat, n1 = nq := ⟨_, rfl⟩
      go_quiet ((go_at_call 79; exact quiet_al (square_eq _ _ _ _ _ _ w.heap.size _ (by with_reducible exact q2.out.below (Drawn.of _).below) m3 g6.out)))
      go_wp2_with fail
      go_ret
      exact ⟨ret_i E.out.symm, below_drewN (below_drewN hb2.out _) _⟩
    have NB : Hid (¬ (sq okm (gi p.vs sr.toNat) (gi p.vs ds.toNat) = false ∨ (kd = 4 ∧ sq rwm (gi p.vs sr.toNat) (gi p.vs sr.toNat) = false) ∨ (kd ≠ 4 ∧ 0 < rwm.length))) :=
      Lib.hid (by simp [g4.out, g6', g5])
    have g6 := Lib.hid g6'
    clear g5 g6'
    go_enter Try.func53, Try.ntmps53
    go_wp2_with (go_at_call 30; refine (hst.out _).mono ?_; rintro e w1 ⟨rfl, hb1⟩; rw [hsx.out] at hb1; obtain ⟨⟨z0, z1, z2, z3⟩, y0, y1, y2, y3, y4, y5⟩ := box46 hb1; have hb2 := key.out _ hb1; have cs0 := (hb2.cell (p := ⟨b, off + sr.toNat, none⟩) hb).trans cs; have cd0 := (hb2.cell (p := ⟨b, off + ds.toNat, none⟩) hb).trans cd; replace hb1 := Lib.hid hb1)
    have cs1 := (hb2.cell (p := ⟨b, off + sr.toNat, none⟩) hb).trans cs
    have cd1 := (hb2.cell (p := ⟨b, off + ds.toNat, none⟩) hb).trans cd
    have q1 := Lib.hid (ht1.out.below hb2)
    have q2 := Lib.hid (ht2.out.below hb2)
    clear cs cd
    replace hb2 := Lib.hid hb2
    go_quiet ((go_at_call 79; exact quiet_l (square_eq _ _ _ _ _ _ w.heap.size _ (by with_reducible exact q1.out.below (Drawn.of _).below) m2 g4.out)))
    go_wp2_with fail
    obtain ⟨n1, rfl⟩ : ∃ n1 : Nat, n1 = nq := ⟨_, rfl⟩
    go_quiet ((go_at_call 79; exact quiet_al (square_eq _ _ _ _ _ _ w.heap.size _ (by with_reducible exact q2.out.below (Drawn.of _).below) m3 g6.out)))
    go_wp2_with fail
    obtain ⟨w2, hw2⟩ : ∃ W, W = (w1.drewN n1).drewN nq := ⟨_, rfl⟩
    rw [← hw2]
    have hd2 : Drawn w1 w2 := by rw [hw2]; exact (Drawn.of _).drewN _
    clear hw2
    have c5 := (hd2.cell _).trans y5
    have hrm := (q2.out).below (B := w.heap.size) hd2.below
    have hb3 := Lib.hid (hb2.out.drawn hd2)
    clear hd2
    go_wp2_with fail
    go_loop [6] (fun i => ∃ j : Nat, j ≤ rwm.length ∧ i = .int .i64 j ∧ ∀ k, k < j → mat rwm k k = true) (fun i => rwm.length - (intOf i).toNat)
    case atStart => exact ⟨0, Nat.zero_le _, rfl, fun k hk => by omega⟩
    case round =>
      obtain ⟨j, hj, rfl, hall⟩ := hrel
      replace hall := Lib.hid hall
      by_cases hlt : j < rwm.length
      · obtain ⟨r, h1, h2⟩ := hrm
        obtain ⟨b1, o1, e1, _, hc1⟩ := h1 (by omega)
        have d1 := hc1 j hlt
        have hml : j < mlen rwm j := by have := (sq_len g6.out).2 j hlt; have := (sq_len g6.out).1; omega
        obtain ⟨b2, o2, e2, _, hc2⟩ := h2 j hlt (by omega)
        have d2 := hc2 j hml
        dsimp only at d1 d2
        rw [e2] at d1
        rw [e1] at c5
        clear h1 h2 hc1 hc2 e1 e2
        by_cases hm : mat rwm j j = true
        · replace hm := Lib.hid hm
          rw [hm.out] at d2
          go_wp2
          go_round
          case rel => exact ⟨j + 1, by omega, by go_num, fun k hk => by (rcases Nat.lt_succ_iff_lt_or_eq.1 hk with h | h; exact hall.out k h; rw [h]; exact hm.out)⟩
          case measure => simp [intOf]; omega
        · have hm' : mat rwm j j = false := by simpa using hm
          have E := Lib.hid (tabE_d (t := ⟨kd, sr, ds, true, okm, rwm⟩) g1.out g2.out g3.out NB.out hlt hm')
          rw [hm'] at d2
          clear hm hm'
          go_wp2
          go_ret
          exact ⟨ret_i E.out.symm, hb3.out⟩
      · obtain rfl : j = rwm.length := by omega
        have E := Lib.hid (tabE_0 (t := ⟨kd, sr, ds, true, okm, rwm⟩) g1.out g2.out g3.out NB.out hall.out)
        go_wp2
        go_ret
        exact ⟨ret_i E.out.symm, hb3.out⟩
  · have k4 : (kd != 4) = true := by rw [bne_iff_ne]; exact g5
    by_cases g7 : 0 < rwm.length
    · have E := Lib.hid (tabE_6 (t := ⟨kd, sr, ds, true, okm, rwm⟩) g1.out g2.out g3.out (Or.inr (Or.inr ⟨g5, g7⟩)))
      have g8 : ((rwm.length : Int) != 0) = true := by rw [bne_iff_ne]; omega
      clear g5
      go_enter Try.func53, Try.ntmps53
      go_wp2_with (go_at_call 30; refine (hst.out _).mono ?_; rintro e w1 ⟨rfl, hb1⟩; rw [hsx.out] at hb1; obtain ⟨⟨z0, z1, z2, z3⟩, y0, y1, y2, y3, y4, y5⟩ := box46 hb1; have hb2 := key.out _ hb1; have cs0 := (hb2.cell (p := ⟨b, off + sr.toNat, none⟩) hb).trans cs; have cd0 := (hb2.cell (p := ⟨b, off + ds.toNat, none⟩) hb).trans cd; replace hb1 := Lib.hid hb1)
      have cs1 := (hb2.cell (p := ⟨b, off + sr.toNat, none⟩) hb).trans cs
      have cd1 := (hb2.cell (p := ⟨b, off + ds.toNat, none⟩) hb).trans cd
      have q1 := Lib.hid (ht1.out.below hb2)
      have q2 := Lib.hid (ht2.out.below hb2)
      clear cs cd
      replace hb2 := Lib.hid hb2
      go_quiet ((go_at_call 79; exact quiet_l (square_eq _ _ _ _ _ _ w.heap.size _ (by with_reducible exact q1.out.below (Drawn.of _).below) m2 g4.out)))
      go_wp2_with fail
      go_ret
      exact ⟨ret_i E.out.symm, below_drewN hb2.out _⟩
    · have NB : Hid (¬ (sq okm (gi p.vs sr.toNat) (gi p.vs ds.toNat) = false ∨ (kd = 4 ∧ sq rwm (gi p.vs sr.toNat) (gi p.vs sr.toNat) = false) ∨ (kd ≠ 4 ∧ 0 < rwm.length))) :=
        Lib.hid (by
          rintro (h | ⟨h, _⟩ | ⟨_, h⟩)
          · rw [g4.out] at h; cases h
          · exact g5 h
          · exact g7 h)
      have E := Lib.hid (tabE_0 (t := ⟨kd, sr, ds, true, okm, rwm⟩) g1.out g2.out g3.out NB.out (fun i hi => by dsimp only at hi; omega))
      have g8 : ((rwm.length : Int) != 0) = false := by rw [bne_eq_false_iff_eq]; omega
      clear g5
      go_enter Try.func53, Try.ntmps53
      go_wp2_with (go_at_call 30; refine (hst.out _).mono ?_; rintro e w1 ⟨rfl, hb1⟩; rw [hsx.out] at hb1; obtain ⟨⟨z0, z1, z2, z3⟩, y0, y1, y2, y3, y4, y5⟩ := box46 hb1; have hb2 := key.out _ hb1; have cs0 := (hb2.cell (p := ⟨b, off + sr.toNat, none⟩) hb).trans cs; have cd0 := (hb2.cell (p := ⟨b, off + ds.toNat, none⟩) hb).trans cd; replace hb1 := Lib.hid hb1)
      have cs1 := (hb2.cell (p := ⟨b, off + sr.toNat, none⟩) hb).trans cs
      have cd1 := (hb2.cell (p := ⟨b, off + ds.toNat, none⟩) hb).trans cd
      have q1 := Lib.hid (ht1.out.below hb2)
      have q2 := Lib.hid (ht2.out.below hb2)
      clear cs cd
      replace hb2 := Lib.hid hb2
      go_quiet ((go_at_call 79; exact quiet_l (square_eq _ _ _ _ _ _ w.heap.size _ (by with_reducible exact q1.out.below (Drawn.of _).below) m2 g4.out)))
      go_wp2_with fail
      go_ret
      exact ⟨ret_i E.out.symm, below_drewN hb2.out _⟩

end Go.Proofs.Ytickckehhfdoeaa
