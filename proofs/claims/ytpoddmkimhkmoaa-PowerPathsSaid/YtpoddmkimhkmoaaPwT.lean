/-
  CONTRACT of sheaveref46.Same at equal tables.
  Conditions: those that each theorem names.
-/
import Derived.Test.YtpoddmkimhkmoaaPwS
namespace Go.Proofs.Ytpoddmkimhkmoaa
open Go.RowKit Go.Sv Go.Pw
theorem NRow.at {w : World} {lo hi n b o : Nat} {A : Option Addr} {L : Nat → List Int} {Q : Nat → LmP} (h : NRow w lo hi A n L Q) (hA : A = some ⟨b, o, none⟩) {k : Nat} (hk : k < n) : w.cell? ⟨b, o + k, none⟩ = some (.slice (Q k).a (L k).length (Q k).c) := by
  obtain ⟨b2, o2, e, _, _, hc⟩ := h.arr (by omega)
  rw [hA] at e
  injection e with e
  injection e with e1 e2
  have := hc k hk
  rw [← e1, ← e2] at this
  exact this
theorem NTab.to {w w' : World} {n : Nat} {A : Option Addr} {L : Nat → Nat → List Int} {R : Nat → Option Addr} {K : Nat → Nat} {Q : Nat → Nat → LmP} (h : NTab w 0 w.heap.size A n L R K Q) (hb : Below w.heap.size w w') : NTab w' 0 w'.heap.size A n L R K Q :=
  (h.keep fun _ hp => hb.cell hp.2).wide (Nat.le_refl _) hb.size
set_option maxHeartbeats 2000000 in
set_option maxRecDepth 100000 in
theorem sameT_any (w : World) (n ba oa c bb ob d : Nat) (L : Nat → Nat → List Int) (R R' : Nat → Option Addr) (K K' : Nat → Nat) (Q Q' : Nat → Nat → LmP) (h : NTab w 0 w.heap.size (some ⟨ba, oa, none⟩) n L R K Q) (h' : NTab w 0 w.heap.size (some ⟨bb, ob, none⟩) n L R' K' Q') (hn : n ≤ 1000) :
    Calls Try.prog 11 #[.slice (some ⟨ba, oa, none⟩) n c, .slice (some ⟨bb, ob, none⟩) n d] w (fun e w' => e = .returned (.bool true) ∧ Below w.heap.size w w') := by
  replace h := Lib.hid h
  replace h' := Lib.hid h'
  have HS := Lib.hid (fun (i k : Nat) q r w' (h1 : RLm w' w'.heap.size (L i k) q) (h2 : RLm w' w'.heap.size (L i k) r) => by
    have := same_any (L i k) (L i k) q r w' h1 h2
    rw [decide_eq_true rfl] at this
    exact this)
  go_enter Try.func11, Try.ntmps11
  go_wp2
  go_loopw [5] (fun i wr => ∃ m : Nat, m ≤ n ∧ i = .int .i64 (m : Int) ∧ Hid (Below w.heap.size w wr)) (fun i _ => n - (intOf i).toNat)
  case atStart => exact ⟨0, Nat.zero_le _, rfl, Lib.hid (Below.refl _ _)⟩
  case round =>
    obtain ⟨m, hm, rfl, hb⟩ := hrel
    by_cases hlt : m < n
    · have hd : decide ((m : Int) < (n : Int)) = true := decide_eq_true (by omega)
      have hi : (m : Int) < (n : Int) := by omega
      have t1 := h.out.to hb.out
      have t2 := h'.out.to hb.out
      obtain ⟨b1, o1, e1, -, -, -⟩ := (t1.row m hlt).arr (by omega)
      obtain ⟨b2, o2, e2, -, -, -⟩ := (t2.row m hlt).arr (by omega)
      have y1 := t1.outer hlt
      have y2 := t2.outer hlt
      rw [e1] at y1
      rw [e2] at y2
      replace e1 := Lib.hid e1
      replace e2 := Lib.hid e2
      clear t1 t2
      go_wp2_with fail
      go_big_quiet (fail)
      go_wp2_with fail
      clear y1 y2
      rename World => wo
      go_loopw [6] (fun i wr => ∃ k : Nat, k ≤ m + 1 ∧ i = .int .i64 (k : Int) ∧ Hid (Below w.heap.size w wr)) (fun i _ => m + 1 - (intOf i).toNat)
      case atStart => exact ⟨0, Nat.zero_le _, rfl, Lib.hid (hb.out.trans ((Drawn.of _).below.mono hb.out.size))⟩
      case round =>
        clear hb
        obtain ⟨k, hk, rfl, hb⟩ := hrel
        have t1 := h.out.to hb.out
        have t2 := h'.out.to hb.out
        have y1 := t1.outer hlt
        have y2 := t2.outer hlt
        rw [e1.out] at y1
        rw [e2.out] at y2
        by_cases hlk : k < m + 1
        · have hd2 : decide ((k : Int) < (m : Int) + 1) = true := decide_eq_true (by omega)
          have hi2 : (k : Int) < (m : Int) + 1 := by omega
          have x1 := (t1.row m hlt).at e1.out hlk
          have x2 := (t2.row m hlt).at e2.out hlk
          have n1 := Lib.hid ((t1.row m hlt).num k hlk)
          have n2 := Lib.hid ((t2.row m hlt).num k hlk)
          have hX := Lib.hid (fun x : GrowX wr => calm_b (HS.out m k (Q m k) (Q' m k) _ (n1.out.to (grow_is wr x)) (n2.out.to (grow_is wr x))))
          obtain ⟨qa, hqa⟩ : ∃ q, Q m k = q := ⟨_, rfl⟩
          obtain ⟨qb, hqb⟩ : ∃ q, Q' m k = q := ⟨_, rfl⟩
          obtain ⟨Lv, hL⟩ : ∃ q, L m k = q := ⟨_, rfl⟩
          rw [hqa, hL] at x1
          rw [hqb, hL] at x2
          rw [hqa, hqb, hL] at hX
          have z1 : ba < wr.heap.size := World.block_lt_of_cell? _ _ y1
          have z2 : bb < wr.heap.size := World.block_lt_of_cell? _ _ y2
          have z3 : b1 < wr.heap.size := World.block_lt_of_cell? _ _ x1
          have z4 : b2 < wr.heap.size := World.block_lt_of_cell? _ _ x2
          clear t1 t2 n1 n2 hqa hqb hL
          go_wp2_with fail
          refine wp_region_calm (by kernel_rfl) (by kernel_rfl) ?_
          repeat (go_big_quiet_step (first | (go_at_call 31; with_reducible exact hX.out _)))
          refine wpQuiet_nil ?_
          intro w4 hw4
          have hb4 := Lib.hid (hb.out.trans ((grow_below hw4).mono hb.out.size))
          clear hw4 hX x1 x2 y1 y2 hb
          go_wp2
          go_roundw
          case rel => exact ⟨k + 1, by omega, by go_num, hb4⟩
          case measure => simp [intOf]; omega
        · have hd2 : decide ((k : Int) < (m : Int) + 1) = false := by rw [decide_eq_false_iff_not]; omega
          obtain rfl : k = m + 1 := by omega
          clear t1 t2
          go_wp2
          go_roundw
          case rel => exact ⟨m + 1, by omega, by go_num, hb⟩
          case measure => simp [intOf]; omega
    · have hd : decide ((m : Int) < (n : Int)) = false := by rw [decide_eq_false_iff_not]; omega
      go_wp2
      go_ret
      exact ⟨rfl, hb.out⟩
end Go.Proofs.Ytpoddmkimhkmoaa
