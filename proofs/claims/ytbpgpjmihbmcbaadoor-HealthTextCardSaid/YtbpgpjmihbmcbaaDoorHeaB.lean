/-
  CONTRACTS of Decide, of both texts.
  Conditions: those that each theorem names.
-/
import Derived.Test.YtbpgpjmihbmcbaaDoorHeaA
namespace Go.Proofs.YtbpgpjmihbmcbaaDoor
open Go.RowKit Go.Sv

set_option maxHeartbeats 1000000 in
theorem decide_any (t : Tst) (q : TstP) (A : Option Addr) (l : List Bool) (c : Nat) (w : World) (h : RTst w w.heap.size t q) (hbd : TBd t) (hl : Arr w w.heap.size A l.length (bv l)) (hn : l.length ≤ 9223372036854775807) :
    Calls Tryd.prog 16 #[tstV t q, .slice A l.length c] w fun e w' => e = .returned (.tuple #[.int .i64 (decR t l).1, .int .i64 (decR t l).2, .int .i64 (validE t)]) ∧ Below w.heap.size w w' := by
  obtain ⟨qa, qc, qb, qd⟩ := q
  have hbx : Hid (∀ o : Obj, Below w.heap.size w (w.alloc o)) := Lib.hid fun o => (Below.refl _ _).alloc (Nat.le_refl _) o
  have hv : Hid (∀ o : Obj, Calls Tryd.prog 19 #[tstV t ⟨qa, qc, qb, qd⟩] (w.alloc o) fun e w' => e = .returned (.int .i64 (validE t)) ∧ Below (w.alloc o).heap.size (w.alloc o) w') :=
    Lib.hid fun o => valid_any t ⟨qa, qc, qb, qd⟩ _ (h.to (hbx.out o)) hbd
  replace h := Lib.hid h
  have b0 := hbd.b0
  by_cases g : validE t = 0
  case neg =>
    have E := decR_no (l := l) g
    rw [E]
    clear E
    have hx : (validE t != 0) = true := by rw [bne_iff_ne]; exact g
    clear g
    replace hl := Lib.hid hl
    go_enter Tryd.func16, Tryd.ntmps16
    go_wp2_with fail
    refine (hv.out _).mono ?_
    rintro e w1 ⟨rfl, hb1⟩
    have hfin := Lib.hid (below_of (hbx.out _) (hbx.out _).size hb1)
    clear hb1
    go_wp2
    go_ret3
    exact ⟨rfl, hfin.out⟩
  have vl := Lib.hid (validE_vld g)
  have E := decR_ok (l := l) g
  rw [E]
  clear E
  have G := Lib.hid g
  have hx : (validE t != 0) = false := by rw [bne_eq_false_iff_eq]; exact g
  clear g
  replace hl := Lib.hid hl
  go_enter Tryd.func16, Tryd.ntmps16
  go_wp2_with fail
  refine (hv.out _).mono ?_
  rintro e w1 ⟨rfl, hb1⟩
  have hB := Lib.hid ((TBox.new (q := ⟨qa, qc, qb, qd⟩)).to hb1)
  have hb2 := Lib.hid (below_of (hbx.out _) (hbx.out _).size hb1)
  clear hb1
  go_wp2
  go_loopw [8, 19] (fun f i wr => ∃ k : Nat, k ≤ l.length ∧ i = .int .i64 k ∧ f = .int .i64 (failsTo l k) ∧ (∀ j, j < k → decAt t l j = 0) ∧ decF t l 0 l.length = decF t l k (l.length - k) ∧ Below w1.heap.size w1 wr) (fun _ i _ => l.length - (intOf i).toNat)
  case atStart => exact ⟨0, Nat.zero_le _, rfl, rfl, fun j hj => by omega, rfl, Below.refl _ _⟩
  case round =>
    obtain ⟨k, hk, rfl, rfl, hall, hdec, hbw⟩ := hrel
    have hlt0 : k < t.acc.length := decAt_lt vl.out hall
    have n1 := vl.out.n1
    have fb := failsTo_bd l k
    replace hall := Lib.hid hall
    replace hdec := Lib.hid hdec
    obtain ⟨z, y0, y1⟩ := hB.out.to hbw
    have hbww := Lib.hid (hb2.out.trans (hbw.mono hb2.out.size))
    dsimp only at y0 y1
    by_cases hlt : k < l.length
    · obtain ⟨bl, ol, rfl, hbl, hcl⟩ := hl.out (by omega)
      have dl := (hbww.out.cell (p := ⟨bl, ol + k, none⟩) hbl).trans (hcl k hlt)
      unfold bv at dl
      clear hcl
      have hat : Hid (Calls Tryd.prog 32 #[tstV t ⟨qa, qc, qb, qd⟩, .int .i64 (k + 1 : Nat), .int .i64 (failsTo l (k + 1))] wr fun e w' => e = .returned (.int .i64 (decAt t l k)) ∧ Below wr.heap.size wr w') :=
        Lib.hid (at_any t ⟨qa, qc, qb, qd⟩ (k + 1) _ wr (h.out.to hbww.out) hbd (by omega) (by omega) (by have := vl.out.len; omega))
      have FS : failsTo l (k + 1) = failsTo l k + bi (gb l k) := rfl
      cases hg : gb l k
      case true =>
        rw [hg] at FS dl
        rw [bi_t] at FS
        rw [FS] at hat
        replace FS := Lib.hid FS
        replace hg := Lib.hid hg
        go_wp2_with fail
        refine hat.out.mono ?_
        rintro e w2 ⟨rfl, hb3⟩
        have hb4 := Lib.hid (below_of hbw hbw.size hb3)
        have hb5 := Lib.hid (below_of hbww.out hbww.out.size hb3)
        clear hb3
        by_cases c : decAt t l k = 0
        · have c' : (decAt t l k != 0) = false := by rw [bne_eq_false_iff_eq]; exact c
          have E := Lib.hid (hdec.out.trans (decF_next hlt c))
          replace c := Lib.hid c
          go_wp2
          go_roundw
          case rel => exact ⟨k + 1, by omega, by go_num, val_i FS.out.symm, fun j hj => by (rcases Nat.lt_succ_iff_lt_or_eq.1 hj with h | h; exact hall.out j h; rw [h]; exact c.out), E.out, hb4.out⟩
          case measure => simp [intOf]; omega
        · have c' : (decAt t l k != 0) = true := by rw [bne_iff_ne]; exact c
          have E := Lib.hid (hdec.out.trans (decF_stop hlt c))
          clear c
          go_wp2
          go_ret3
          rw [E.out, G.out]
          exact ⟨rfl, hb5.out⟩
      case false =>
        rw [hg] at FS dl
        rw [bi_f, Int.add_zero] at FS
        rw [FS] at hat
        replace FS := Lib.hid FS
        replace hg := Lib.hid hg
        go_wp2_with fail
        refine hat.out.mono ?_
        rintro e w2 ⟨rfl, hb3⟩
        have hb4 := Lib.hid (below_of hbw hbw.size hb3)
        have hb5 := Lib.hid (below_of hbww.out hbww.out.size hb3)
        clear hb3
        by_cases c : decAt t l k = 0
        · have c' : (decAt t l k != 0) = false := by rw [bne_eq_false_iff_eq]; exact c
          have E := Lib.hid (hdec.out.trans (decF_next hlt c))
          replace c := Lib.hid c
          go_wp2
          go_roundw
          case rel => exact ⟨k + 1, by omega, by go_num, val_i FS.out.symm, fun j hj => by (rcases Nat.lt_succ_iff_lt_or_eq.1 hj with h | h; exact hall.out j h; rw [h]; exact c.out), E.out, hb4.out⟩
          case measure => simp [intOf]; omega
        · have c' : (decAt t l k != 0) = true := by rw [bne_iff_ne]; exact c
          have E := Lib.hid (hdec.out.trans (decF_stop hlt c))
          clear c
          go_wp2
          go_ret3
          rw [E.out, G.out]
          exact ⟨rfl, hb5.out⟩
    · obtain rfl : k = l.length := by omega
      have E := Lib.hid (hdec.out.trans decF_end)
      go_wp2
      go_ret3
      rw [E.out, G.out]
      exact ⟨rfl, hbww.out⟩

set_option maxHeartbeats 1000000 in
theorem rdecide_any (t : Tst) (q : TstP) (A : Option Addr) (l : List Bool) (c : Nat) (w : World) (h : RTst w w.heap.size t q) (hbd : TBd t) (hl : Arr w w.heap.size A l.length (bv l)) (hn : l.length ≤ 9223372036854775807) :
    Calls Tryd.prog 28 #[tstV t q, .slice A l.length c] w fun e w' => e = .returned (.tuple #[.int .i64 (decR t l).1, .int .i64 (decR t l).2, .int .i64 (validE t)]) ∧ Below w.heap.size w w' := by
  obtain ⟨qa, qc, qb, qd⟩ := q
  have hbx : Hid (∀ o : Obj, Below w.heap.size w (w.alloc o)) := Lib.hid fun o => (Below.refl _ _).alloc (Nat.le_refl _) o
  have hv : Hid (∀ o : Obj, Calls Tryd.prog 21 #[tstV t ⟨qa, qc, qb, qd⟩] (w.alloc o) fun e w' => e = .returned (.int .i64 (validE t)) ∧ Below (w.alloc o).heap.size (w.alloc o) w') :=
    Lib.hid fun o => rvalid_any t ⟨qa, qc, qb, qd⟩ _ (h.to (hbx.out o)) hbd
  replace h := Lib.hid h
  have b0 := hbd.b0
  by_cases g : validE t = 0
  case neg =>
    have E := decR_no (l := l) g
    rw [E]
    clear E
    have hx : (validE t != 0) = true := by rw [bne_iff_ne]; exact g
    clear g
    replace hl := Lib.hid hl
    go_enter Tryd.func28, Tryd.ntmps28
    go_wp2_with fail
    refine (hv.out _).mono ?_
    rintro e w1 ⟨rfl, hb1⟩
    have hfin := Lib.hid (below_of (hbx.out _) (hbx.out _).size hb1)
    clear hb1
    go_wp2
    go_ret3
    exact ⟨rfl, hfin.out⟩
  have vl := Lib.hid (validE_vld g)
  have E := decR_ok (l := l) g
  rw [E]
  clear E
  have G := Lib.hid g
  have hx : (validE t != 0) = false := by rw [bne_eq_false_iff_eq]; exact g
  clear g
  replace hl := Lib.hid hl
  go_enter Tryd.func28, Tryd.ntmps28
  go_wp2_with fail
  refine (hv.out _).mono ?_
  rintro e w1 ⟨rfl, hb1⟩
  have hB := Lib.hid ((TBox.new (q := ⟨qa, qc, qb, qd⟩)).to hb1)
  have hb2 := Lib.hid (below_of (hbx.out _) (hbx.out _).size hb1)
  clear hb1
  go_wp2
  go_loopw [8, 9] (fun f i wr => ∃ k : Nat, k ≤ l.length ∧ i = .int .i64 k ∧ f = .int .i64 (failsTo l k) ∧ (∀ j, j < k → decAt t l j = 0) ∧ decF t l 0 l.length = decF t l k (l.length - k) ∧ Below w1.heap.size w1 wr) (fun _ i _ => l.length - (intOf i).toNat)
  case atStart => exact ⟨0, Nat.zero_le _, rfl, rfl, fun j hj => by omega, rfl, Below.refl _ _⟩
  case round =>
    obtain ⟨k, hk, rfl, rfl, hall, hdec, hbw⟩ := hrel
    have hlt0 : k < t.acc.length := decAt_lt vl.out hall
    have n1 := vl.out.n1
    have fb := failsTo_bd l k
    replace hall := Lib.hid hall
    replace hdec := Lib.hid hdec
    obtain ⟨z, y0, y1⟩ := hB.out.to hbw
    have hbww := Lib.hid (hb2.out.trans (hbw.mono hb2.out.size))
    dsimp only at y0 y1
    by_cases hlt : k < l.length
    · obtain ⟨bl, ol, rfl, hbl, hcl⟩ := hl.out (by omega)
      have dl := (hbww.out.cell (p := ⟨bl, ol + k, none⟩) hbl).trans (hcl k hlt)
      unfold bv at dl
      clear hcl
      have hat : Hid (Calls Tryd.prog 36 #[tstV t ⟨qa, qc, qb, qd⟩, .int .i64 (k + 1 : Nat), .int .i64 (failsTo l (k + 1))] wr fun e w' => e = .returned (.int .i64 (decAt t l k)) ∧ Below wr.heap.size wr w') :=
        Lib.hid (rat_any t ⟨qa, qc, qb, qd⟩ (k + 1) _ wr (h.out.to hbww.out) hbd (by omega) (by omega) (by have := vl.out.len; omega))
      have FS : failsTo l (k + 1) = failsTo l k + bi (gb l k) := rfl
      cases hg : gb l k
      case true =>
        rw [hg] at FS dl
        rw [bi_t] at FS
        rw [FS] at hat
        replace FS := Lib.hid FS
        replace hg := Lib.hid hg
        go_wp2_with fail
        refine hat.out.mono ?_
        rintro e w2 ⟨rfl, hb3⟩
        have hb4 := Lib.hid (below_of hbw hbw.size hb3)
        have hb5 := Lib.hid (below_of hbww.out hbww.out.size hb3)
        clear hb3
        by_cases c : decAt t l k = 0
        · have c' : (decAt t l k != 0) = false := by rw [bne_eq_false_iff_eq]; exact c
          have E := Lib.hid (hdec.out.trans (decF_next hlt c))
          replace c := Lib.hid c
          go_wp2
          go_roundw
          case rel => exact ⟨k + 1, by omega, by go_num, val_i FS.out.symm, fun j hj => by (rcases Nat.lt_succ_iff_lt_or_eq.1 hj with h | h; exact hall.out j h; rw [h]; exact c.out), E.out, hb4.out⟩
          case measure => simp [intOf]; omega
        · have c' : (decAt t l k != 0) = true := by rw [bne_iff_ne]; exact c
          have E := Lib.hid (hdec.out.trans (decF_stop hlt c))
          clear c
          go_wp2
          go_ret3
          rw [E.out, G.out]
          exact ⟨rfl, hb5.out⟩
      case false =>
        rw [hg] at FS dl
        rw [bi_f, Int.add_zero] at FS
        rw [FS] at hat
        replace FS := Lib.hid FS
        replace hg := Lib.hid hg
        go_wp2_with fail
        refine hat.out.mono ?_
        rintro e w2 ⟨rfl, hb3⟩
        have hb4 := Lib.hid (below_of hbw hbw.size hb3)
        have hb5 := Lib.hid (below_of hbww.out hbww.out.size hb3)
        clear hb3
        by_cases c : decAt t l k = 0
        · have c' : (decAt t l k != 0) = false := by rw [bne_eq_false_iff_eq]; exact c
          have E := Lib.hid (hdec.out.trans (decF_next hlt c))
          replace c := Lib.hid c
          go_wp2
          go_roundw
          case rel => exact ⟨k + 1, by omega, by go_num, val_i FS.out.symm, fun j hj => by (rcases Nat.lt_succ_iff_lt_or_eq.1 hj with h | h; exact hall.out j h; rw [h]; exact c.out), E.out, hb4.out⟩
          case measure => simp [intOf]; omega
        · have c' : (decAt t l k != 0) = true := by rw [bne_iff_ne]; exact c
          have E := Lib.hid (hdec.out.trans (decF_stop hlt c))
          clear c
          go_wp2
          go_ret3
          rw [E.out, G.out]
          exact ⟨rfl, hb5.out⟩
    · obtain rfl : k = l.length := by omega
      have E := Lib.hid (hdec.out.trans decF_end)
      go_wp2
      go_ret3
      rw [E.out, G.out]
      exact ⟨rfl, hbww.out⟩

end Go.Proofs.YtbpgpjmihbmcbaaDoor
