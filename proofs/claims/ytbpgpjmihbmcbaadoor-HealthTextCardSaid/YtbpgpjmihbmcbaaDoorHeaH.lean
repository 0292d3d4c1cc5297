/-
  CONTRACTS of boundaries and certain.
  Conditions: those that each theorem names.
-/
import Derived.Test.YtbpgpjmihbmcbaaDoorHeaB
import Derived.Test.YtbpgpjmihbmcbaaDoorHeaQ
import Derived.Deep.RegionHeld3
namespace Go.Proofs.YtbpgpjmihbmcbaaDoor
open Go.RowKit Go.Sv

theorem boundaries_any (A : Option Addr) (l : List Int) (c : Nat) (w : World) (h : Arr w w.heap.size A l.length (iv l)) (hn : l.length ≤ 1000) :
    Calls Tryd.prog 34 #[.slice A l.length c] w fun e w' => e = .returned (.tuple #[.int .i64 (bndA l l.length), .int .i64 (bndR l l.length)]) ∧ w = w' := by
  replace h := Lib.hid h
  go_enter Tryd.func34, Tryd.ntmps34
  go_wp2
  go_loop [4, 5, 12] (fun a r i => ∃ k : Nat, k ≤ l.length ∧ i = .int .i64 k ∧ a = .int .i64 (bndA l k) ∧ r = .int .i64 (bndR l k)) (fun _ _ i => l.length - (intOf i).toNat)
  case atStart => exact ⟨0, Nat.zero_le _, rfl, rfl, rfl⟩
  case round =>
    obtain ⟨k, hk, rfl, rfl, rfl⟩ := hrel
    by_cases hlt : k < l.length
    · obtain ⟨b, o, rfl, hb, hc⟩ := h.out (by omega)
      have d := hc k hlt
      unfold iv at d
      clear hc
      by_cases c1 : gi l k = 1
      · have e1 : (gi l k == 1) = true := by rw [beq_iff_eq]; exact c1
        have e2 : (gi l k == 2) = false := by rw [beq_eq_false_iff_ne]; omega
        have E1 := Lib.hid (bndA_1 c1)
        have E2 : Hid (bndR l (k + 1) = bndR l k) := Lib.hid (bndR_n (by omega))
        clear c1
        go_wp2
        go_round
        case rel => exact ⟨k + 1, by omega, by go_num, val_i E1.out.symm, val_i E2.out.symm⟩
        case measure => simp [intOf]; omega
      have e1 : (gi l k == 1) = false := by rw [beq_eq_false_iff_ne]; exact c1
      have E1 := Lib.hid (bndA_n c1)
      by_cases c2 : gi l k = 2
      · have e2 : (gi l k == 2) = true := by rw [beq_iff_eq]; exact c2
        by_cases c3 : bndR l k = l.length
        · have e3 : (bndR l k == (l.length : Int)) = true := by rw [beq_iff_eq]; exact c3
          have E2 := Lib.hid (bndR_2 c2 c3)
          clear c1 c2 c3
          go_wp2
          go_round
          case rel => exact ⟨k + 1, by omega, by go_num, val_i E1.out.symm, val_i E2.out.symm⟩
          case measure => simp [intOf]; omega
        · have e3 : (bndR l k == (l.length : Int)) = false := by rw [beq_eq_false_iff_ne]; exact c3
          have E2 : Hid (bndR l (k + 1) = bndR l k) := Lib.hid (bndR_n (fun h => c3 h.2))
          clear c1 c2 c3
          go_wp2
          go_round
          case rel => exact ⟨k + 1, by omega, by go_num, val_i E1.out.symm, val_i E2.out.symm⟩
          case measure => simp [intOf]; omega
      · have e2 : (gi l k == 2) = false := by rw [beq_eq_false_iff_ne]; exact c2
        have E2 : Hid (bndR l (k + 1) = bndR l k) := Lib.hid (bndR_n (fun h => c2 h.1))
        clear c1 c2
        go_wp2
        go_round
        case rel => exact ⟨k + 1, by omega, by go_num, val_i E1.out.symm, val_i E2.out.symm⟩
        case measure => simp [intOf]; omega
    · obtain rfl : k = l.length := by omega
      go_wp2
      go_ret2
      exact ⟨rfl, rfl⟩

theorem certain_any (t : Tst) (q : TstP) (hbd : TBd t) (vl : Vld t) : ∀ (d n : Nat) (f : Int) (w : World), t.acc.length - n = d → 0 < n → n ≤ t.acc.length → 0 ≤ f → f ≤ n → RTst w w.heap.size t q →
    Calls Tryd.prog 35 #[tstV t q, .int .i64 n, .int .i64 f] w fun e w' => e = .returned (.int .i64 (cert t n f)) ∧ Below w.heap.size w w' := by
  intro d
  obtain ⟨qa, qc, qb, qd⟩ := q
  induction d with
  | zero =>
    intro n f w hd h0 h1 f0 f1 h
    have hbx : Hid (∀ o : Obj, Below w.heap.size w (w.alloc o)) := Lib.hid fun o => (Below.refl _ _).alloc (Nat.le_refl _) o
    obtain rfl : n = t.acc.length := by omega
    have hat : Hid (∀ o : Obj, Calls Tryd.prog 36 #[tstV t ⟨qa, qc, qb, qd⟩, .int .i64 (t.acc.length : Nat), .int .i64 f] (w.alloc o) fun e w' => e = .returned (.int .i64 (atV t t.acc.length f)) ∧ Below (w.alloc o).heap.size (w.alloc o) w') :=
      Lib.hid fun o => rat_any t ⟨qa, qc, qb, qd⟩ t.acc.length f _ (h.to (hbx.out o)) hbd h0 h1 (by have := vl.len; omega)
    have E := Lib.hid (cert_last t f)
    have hx : (atV t t.acc.length f != 0) = true := by rw [bne_iff_ne]; exact atV_last vl f
    replace h := Lib.hid h
    clear hd
    replace vl := Lib.hid vl
    go_enter Tryd.func35, Tryd.ntmps35
    go_wp2_with fail
    refine (hat.out _).mono ?_
    rintro e w1 ⟨rfl, hb1⟩
    have hfin := Lib.hid (below_of (hbx.out _) (hbx.out _).size hb1)
    clear hb1
    go_wp2
    go_ret
    exact ⟨ret_i E.out.symm, hfin.out⟩
  | succ d ih =>
    intro n f w hd h0 h1 f0 f1 h
    have n1 := vl.n1
    have hbx : Hid (∀ o : Obj, Below w.heap.size w (w.alloc o)) := Lib.hid fun o => (Below.refl _ _).alloc (Nat.le_refl _) o
    have hat : Hid (∀ o : Obj, Calls Tryd.prog 36 #[tstV t ⟨qa, qc, qb, qd⟩, .int .i64 n, .int .i64 f] (w.alloc o) fun e w' => e = .returned (.int .i64 (atV t n f)) ∧ Below (w.alloc o).heap.size (w.alloc o) w') :=
      Lib.hid fun o => rat_any t ⟨qa, qc, qb, qd⟩ n f _ (h.to (hbx.out o)) hbd h0 h1 (by have := vl.len; omega)
    have hI := Lib.hid (fun (f : Int) (w : World) (f0 : 0 ≤ f) (f1 : f ≤ ((n + 1 : Nat) : Int)) (h : RTst w w.heap.size t ⟨qa, qc, qb, qd⟩) => ih (n + 1) f w (by omega) (by omega) (by omega) f0 f1 h)
    have hcast : ((n + 1 : Nat) : Int) = (n : Int) + 1 := by omega
    rw [hcast] at hI
    clear ih hcast
    replace h := Lib.hid h
    have hnl : n < t.acc.length := by omega
    by_cases c : atV t n f = 0
    case neg =>
      have E := Lib.hid (cert_at c)
      have hx : (atV t n f != 0) = true := by rw [bne_iff_ne]; exact c
      clear c hd
      replace vl := Lib.hid vl
      go_enter Tryd.func35, Tryd.ntmps35
      go_wp2_with fail
      refine (hat.out _).mono ?_
      rintro e w1 ⟨rfl, hb1⟩
      have hfin := Lib.hid (below_of (hbx.out _) (hbx.out _).size hb1)
      clear hb1
      go_wp2
      go_ret
      exact ⟨ret_i E.out.symm, hfin.out⟩
    have E := Lib.hid (cert_step hnl c)
    have hx : (atV t n f != 0) = false := by rw [bne_eq_false_iff_eq]; exact c
    clear c hd
    replace vl := Lib.hid vl
    have b2 : f + 1 ≤ (n : Int) + 1 := by omega
    have b3 : f ≤ (n : Int) + 1 := by omega
    have b4 : (0 : Int) ≤ f + 1 := by omega
    go_enter Tryd.func35, Tryd.ntmps35
    go_wp2_with fail
    refine (hat.out _).mono ?_
    rintro e w1 ⟨rfl, hb1⟩
    have hB := Lib.hid ((TBox.new (q := ⟨qa, qc, qb, qd⟩)).to hb1)
    have hb2 := Lib.hid (below_of (hbx.out _) (hbx.out _).size hb1)
    clear hb1
    obtain ⟨z, y0, y1⟩ := hB.out
    dsimp only at y0 y1
    have wr1 : IntKind.i64.wrap ((n : Int) + 1) = (n : Int) + 1 := IntWalk.i64_in _ (by omega)
    have wr2 : IntKind.i64.wrap (f + 1) = f + 1 := IntWalk.i64_in _ (by omega)
    go_wp2_with fail
    go_region_held3 (fun w' => w'.cell? ⟨w.heap.size, 0, none⟩ = some (.slice qa t.acc.length qc) ∧ w'.cell? ⟨w.heap.size, 1, none⟩ = some (.slice qb t.rej.length qd)) (go_keep)
      (first
        | ((with_reducible refine (hI.out f w1.drew f0 b3 (h.out.to hb2.out.drew)).mono ?_)
           rintro e w2 ⟨rfl, hb3⟩
           have hb3' : Below w1.heap.size w1 w2 := (Below.refl _ _).drew.trans hb3
           clear z y0 y1
           obtain ⟨z, y0, y1⟩ := hB.out.to hb3'
           dsimp only at y0 y1
           have hb4 := Lib.hid (below_of hb2.out hb2.out.size hb3'))
        | ((with_reducible refine (hI.out (f + 1) w2 b4 b2 (h.out.to hb4.out)).mono ?_)
           rintro e w3 ⟨rfl, hb5⟩
           have hb5' := below_of hb3' hb3'.size hb5
           clear z y0 y1
           obtain ⟨z, y0, y1⟩ := hB.out.to hb5'
           dsimp only at y0 y1
           have hfin := Lib.hid (below_of hb2.out hb2.out.size hb5')))
    clear wr1 wr2
    by_cases c : cert t (n + 1) f = cert t (n + 1) (f + 1)
    · have e1 : (cert t (n + 1) f == cert t (n + 1) (f + 1)) = true := by rw [beq_iff_eq]; exact c
      have E' := Lib.hid (E.out.trans (if_pos c))
      clear c
      go_wp2
      go_ret
      exact ⟨ret_i E'.out.symm, hfin.out⟩
    · have e1 : (cert t (n + 1) f == cert t (n + 1) (f + 1)) = false := by rw [beq_eq_false_iff_ne]; exact c
      have E' := Lib.hid (E.out.trans (if_neg c))
      clear c
      go_wp2
      go_ret
      exact ⟨ret_i E'.out.symm, hfin.out⟩
end Go.Proofs.YtbpgpjmihbmcbaaDoor
