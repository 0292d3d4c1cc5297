/-
  CONTRACTS of Of, Stragglers and Versions, the program's and the reference's, and of slices.Equal at int.
  Conditions: those that each theorem names.
-/
import Derived.Test.YtcjnfciemangkaaRepA
namespace Go.Proofs.Ytcjnfciemangkaa
open Go.RowKit Go.Sv

theorem elInt : ElemT Try.prog 22 3 (.int .i64 0) 1 8 := ⟨Try.underlying22, by kernel_rfl, by kernel_rfl, by omega⟩

/-- those of the first k that are chosen -/
def selTo (f : Nat → Bool) : Nat → List Int
  | 0 => []
  | k + 1 => if f k then selTo f k ++ [(k : Int)] else selTo f k
theorem selTo_len (f : Nat → Bool) (k : Nat) : (selTo f k).length ≤ k := by
  induction k with
  | zero => simp [selTo]
  | succ k ih =>
    simp only [selTo]
    split
    · simp; omega
    · omega
def iRow (l : List Int) : List Value := l.map (Value.int .i64)
theorem iRow_snoc (l : List Int) (x : Int) : iRow (l ++ [x]) = iRow l ++ [.int .i64 x] := by simp [iRow]
theorem iRow_get {l : List Int} {k : Nat} (h : k < l.length) : (iRow l)[k]? = some (iv l k) := by simp [iRow, iv, gi, h]
/-- a list of integers, of the call's own -/
def RInts (w : World) (l : List Int) (v : Value) (w' : World) : Prop := RArr w l.length (iv l) v w'
theorem own_ints {w w' : World} {base : Nat} {e : TypeId} {v : Value} {l : List Int} (h : w'.ownsRow base e 1 v l.length (iRow l)) (hb : Below w.heap.size w w') : RInts w l v w' := own_RArr h (fun _ hk => iRow_get hk) hb
def ofSel (l : List Rep) (s : Int) (k : Nat) : Bool := (rp l k).sv == s
def strSel (l : List Rep) (s v : Int) (k : Nat) : Bool := ((rp l k).sv == s) && ((rp l k).ver != v)

set_option maxHeartbeats 2000000 in
theorem of_any (A : Option Addr) (c : Nat) (l : List Rep) (s : Int) (w : World) (ha : RReps w w.heap.size A l) (hn : l.length ≤ 1000000) :
    Calls Try.prog 27 #[.slice A l.length c, .int .i64 s] w (Ret (RInts w (selTo (ofSel l s) l.length))) := by
  go_enter Try.func27, Try.ntmps27
  go_wp2
  go_loopw [5, 6, 10] (fun v0 _ i wr => ∃ k : Nat, k ≤ l.length ∧ i = .int .i64 k ∧ wr.ownsRow w.heap.size 3 1 v0 (selTo (ofSel l s) k).length (iRow (selTo (ofSel l s) k)) ∧ Below w.heap.size w wr) (fun _ _ i _ => l.length - (intOf i).toNat)
  case atStart => exact ⟨0, Nat.zero_le _, rfl, World.ownsRow_nil _ _ _ _, Below.refl _ _⟩
  case round =>
    obtain ⟨k, hk, rfl, hown, hbel⟩ := hrel
    have hsz := hbel.size
    by_cases hlt : k < l.length
    · obtain ⟨b, off, rfl, hb, hc⟩ := id (ha (by omega))
      obtain ⟨c0, c1, c2, c3⟩ := rp_cells (w := wr) (fun i hi => (hbel.cell (p := ⟨b, off + k * 4 + i, none⟩) hb).trans (hc k hlt i hi))
      clear hc
      replace ha := Lib.hid ha
      have hsl := selTo_len (ofSel l s) k
      replace hown := Lib.hid hown
      by_cases h1 : ((rp l k).sv == s) = true
      · have h1' := h1
        have HS : Hid (selTo (ofSel l s) (k + 1) = selTo (ofSel l s) k ++ [(k : Int)]) := Lib.hid (by simp [selTo, ofSel, h1'])
        go_wp2_with (at_builtin; refine push_own' elInt rfl _ _ rfl w.heap.size _ (selTo (ofSel l s) k).length (iRow (selTo (ofSel l s) k)) (by exact hown.out.alloc _) rfl _ [.int .i64 k] rfl (by simp) rfl rfl (by omega) (by omega) (by first | omega | (simp; omega)) ?_)
        intro v' w3 hown3 _ hb3 hs3 _
        have R : Hid (w3.ownsRow w.heap.size 3 1 v' (selTo (ofSel l s) (k + 1)).length (iRow (selTo (ofSel l s) (k + 1)))) := Lib.hid (by rw [HS.out, List.length_append, iRow_snoc]; exact hown3)
        have hb4 := Lib.hid ((hbel.alloc (by omega) _).trans hb3)
        clear hown3 hb3 hs3
        go_wp2
        go_roundw
        case rel => exact ⟨k + 1, by omega, by go_num, R.out, hb4.out⟩
        case measure => simp [intOf]; omega
      · have h1' : ((rp l k).sv == s) = false := by simpa using h1
        clear h1
        have HS : Hid (selTo (ofSel l s) (k + 1) = selTo (ofSel l s) k) := Lib.hid (by simp [selTo, ofSel, h1'])
        go_wp2
        go_roundw
        case rel => exact ⟨k + 1, by omega, by go_num, by rw [HS.out]; exact hown.out.alloc _, hbel.alloc (by omega) _⟩
        case measure => simp [intOf]; omega
    · obtain rfl : k = l.length := by omega
      have R := Lib.hid (own_ints (w := w) hown hbel)
      clear hown
      replace ha := Lib.hid ha
      go_wp2
      go_ret
      exact Ret.mk R.out

set_option maxHeartbeats 2000000 in
theorem rof_any (A : Option Addr) (c : Nat) (l : List Rep) (s : Int) (w : World) (ha : RReps w w.heap.size A l) (hn : l.length ≤ 1000000) :
    Calls Try.prog 28 #[.slice A l.length c, .int .i64 s] w (Ret (RInts w (selTo (ofSel l s) l.length))) := by
  go_enter Try.func28, Try.ntmps28
  go_wp2
  go_loopw [5, 6] (fun v0 i wr => ∃ k : Nat, k ≤ l.length ∧ i = .int .i64 k ∧ wr.ownsRow w.heap.size 3 1 v0 (selTo (ofSel l s) k).length (iRow (selTo (ofSel l s) k)) ∧ Below w.heap.size w wr) (fun _ i _ => l.length - (intOf i).toNat)
  case atStart => exact ⟨0, Nat.zero_le _, rfl, World.ownsRow_nil _ _ _ _, Below.refl _ _⟩
  case round =>
    obtain ⟨k, hk, rfl, hown, hbel⟩ := hrel
    have hsz := hbel.size
    by_cases hlt : k < l.length
    · obtain ⟨b, off, rfl, hb, hc⟩ := id (ha (by omega))
      obtain ⟨c0, c1, c2, c3⟩ := rp_cells (w := wr) (fun i hi => (hbel.cell (p := ⟨b, off + k * 4 + i, none⟩) hb).trans (hc k hlt i hi))
      clear hc
      replace ha := Lib.hid ha
      have hsl := selTo_len (ofSel l s) k
      replace hown := Lib.hid hown
      by_cases h1 : ((rp l k).sv == s) = true
      · have h1' := h1
        have HS : Hid (selTo (ofSel l s) (k + 1) = selTo (ofSel l s) k ++ [(k : Int)]) := Lib.hid (by simp [selTo, ofSel, h1'])
        go_wp2_with (at_builtin; refine push_own' elInt rfl _ _ rfl w.heap.size _ (selTo (ofSel l s) k).length (iRow (selTo (ofSel l s) k)) (by exact hown.out) rfl _ [.int .i64 k] rfl (by simp) rfl rfl (by omega) (by omega) (by first | omega | (simp; omega)) ?_)
        intro v' w3 hown3 _ hb3 hs3 _
        have R : Hid (w3.ownsRow w.heap.size 3 1 v' (selTo (ofSel l s) (k + 1)).length (iRow (selTo (ofSel l s) (k + 1)))) := Lib.hid (by rw [HS.out, List.length_append, iRow_snoc]; exact hown3)
        have hb4 := Lib.hid ((hbel).trans hb3)
        clear hown3 hb3 hs3
        go_wp2
        go_roundw
        case rel => exact ⟨k + 1, by omega, by go_num, R.out, hb4.out⟩
        case measure => simp [intOf]; omega
      · have h1' : ((rp l k).sv == s) = false := by simpa using h1
        clear h1
        have HS : Hid (selTo (ofSel l s) (k + 1) = selTo (ofSel l s) k) := Lib.hid (by simp [selTo, ofSel, h1'])
        go_wp2
        go_roundw
        case rel => exact ⟨k + 1, by omega, by go_num, by rw [HS.out]; exact hown.out, hbel⟩
        case measure => simp [intOf]; omega
    · obtain rfl : k = l.length := by omega
      have R := Lib.hid (own_ints (w := w) hown hbel)
      clear hown
      replace ha := Lib.hid ha
      go_wp2
      go_ret
      exact Ret.mk R.out

set_option maxHeartbeats 2000000 in
theorem str_any (A : Option Addr) (c : Nat) (l : List Rep) (s v : Int) (w : World) (ha : RReps w w.heap.size A l) (hn : l.length ≤ 1000000) :
    Calls Try.prog 29 #[.slice A l.length c, .int .i64 s, .int .i64 v] w (Ret (RInts w (selTo (strSel l s v) l.length))) := by
  go_enter Try.func29, Try.ntmps29
  go_wp2
  go_loopw [7, 8, 12] (fun v0 _ i wr => ∃ k : Nat, k ≤ l.length ∧ i = .int .i64 k ∧ wr.ownsRow w.heap.size 3 1 v0 (selTo (strSel l s v) k).length (iRow (selTo (strSel l s v) k)) ∧ Below w.heap.size w wr) (fun _ _ i _ => l.length - (intOf i).toNat)
  case atStart => exact ⟨0, Nat.zero_le _, rfl, World.ownsRow_nil _ _ _ _, Below.refl _ _⟩
  case round =>
    obtain ⟨k, hk, rfl, hown, hbel⟩ := hrel
    have hsz := hbel.size
    by_cases hlt : k < l.length
    · obtain ⟨b, off, rfl, hb, hc⟩ := id (ha (by omega))
      obtain ⟨c0, c1, c2, c3⟩ := rp_cells (w := wr) (fun i hi => (hbel.cell (p := ⟨b, off + k * 4 + i, none⟩) hb).trans (hc k hlt i hi))
      clear hc
      replace ha := Lib.hid ha
      have hsl := selTo_len (strSel l s v) k
      replace hown := Lib.hid hown
      by_cases h1 : ((rp l k).sv == s) = true
      · by_cases h2 : ((rp l k).ver != v) = true
        · have h1' := h1
          have HS : Hid (selTo (strSel l s v) (k + 1) = selTo (strSel l s v) k ++ [(k : Int)]) := Lib.hid (by simp [selTo, strSel, h1', h2])
          go_wp2_with (at_builtin; refine push_own' elInt rfl _ _ rfl w.heap.size _ (selTo (strSel l s v) k).length (iRow (selTo (strSel l s v) k)) (by exact hown.out.alloc _) rfl _ [.int .i64 k] rfl (by simp) rfl rfl (by omega) (by omega) (by first | omega | (simp; omega)) ?_)
          intro v' w3 hown3 _ hb3 hs3 _
          have R : Hid (w3.ownsRow w.heap.size 3 1 v' (selTo (strSel l s v) (k + 1)).length (iRow (selTo (strSel l s v) (k + 1)))) := Lib.hid (by rw [HS.out, List.length_append, iRow_snoc]; exact hown3)
          have hb4 := Lib.hid ((hbel.alloc (by omega) _).trans hb3)
          clear hown3 hb3 hs3
          go_wp2
          go_roundw
          case rel => exact ⟨k + 1, by omega, by go_num, R.out, hb4.out⟩
          case measure => simp [intOf]; omega
        · have h2' : ((rp l k).ver != v) = false := by simpa using h2
          clear h2
          have HS : Hid (selTo (strSel l s v) (k + 1) = selTo (strSel l s v) k) := Lib.hid (by simp [selTo, strSel, h1, h2'])
          go_wp2
          go_roundw
          case rel => exact ⟨k + 1, by omega, by go_num, by rw [HS.out]; exact hown.out.alloc _, hbel.alloc (by omega) _⟩
          case measure => simp [intOf]; omega
      · have h1' : ((rp l k).sv == s) = false := by simpa using h1
        clear h1
        have HS : Hid (selTo (strSel l s v) (k + 1) = selTo (strSel l s v) k) := Lib.hid (by simp [selTo, strSel, h1'])
        go_wp2
        go_roundw
        case rel => exact ⟨k + 1, by omega, by go_num, by rw [HS.out]; exact hown.out.alloc _, hbel.alloc (by omega) _⟩
        case measure => simp [intOf]; omega
    · obtain rfl : k = l.length := by omega
      have R := Lib.hid (own_ints (w := w) hown hbel)
      clear hown
      replace ha := Lib.hid ha
      go_wp2
      go_ret
      exact Ret.mk R.out

set_option maxHeartbeats 2000000 in
theorem rstr_any (A : Option Addr) (c : Nat) (l : List Rep) (s v : Int) (w : World) (ha : RReps w w.heap.size A l) (hn : l.length ≤ 1000000) :
    Calls Try.prog 30 #[.slice A l.length c, .int .i64 s, .int .i64 v] w (Ret (RInts w (selTo (strSel l s v) l.length))) := by
  go_enter Try.func30, Try.ntmps30
  go_wp2
  go_loopw [7, 8] (fun v0 i wr => ∃ k : Nat, k ≤ l.length ∧ i = .int .i64 k ∧ wr.ownsRow w.heap.size 3 1 v0 (selTo (strSel l s v) k).length (iRow (selTo (strSel l s v) k)) ∧ Below w.heap.size w wr) (fun _ i _ => l.length - (intOf i).toNat)
  case atStart => exact ⟨0, Nat.zero_le _, rfl, World.ownsRow_nil _ _ _ _, Below.refl _ _⟩
  case round =>
    obtain ⟨k, hk, rfl, hown, hbel⟩ := hrel
    have hsz := hbel.size
    by_cases hlt : k < l.length
    · obtain ⟨b, off, rfl, hb, hc⟩ := id (ha (by omega))
      obtain ⟨c0, c1, c2, c3⟩ := rp_cells (w := wr) (fun i hi => (hbel.cell (p := ⟨b, off + k * 4 + i, none⟩) hb).trans (hc k hlt i hi))
      clear hc
      replace ha := Lib.hid ha
      have hsl := selTo_len (strSel l s v) k
      replace hown := Lib.hid hown
      by_cases h1 : ((rp l k).sv == s) = true
      · by_cases h2 : ((rp l k).ver != v) = true
        · have h1' := h1
          have HS : Hid (selTo (strSel l s v) (k + 1) = selTo (strSel l s v) k ++ [(k : Int)]) := Lib.hid (by simp [selTo, strSel, h1', h2])
          go_wp2_with (at_builtin; refine push_own' elInt rfl _ _ rfl w.heap.size _ (selTo (strSel l s v) k).length (iRow (selTo (strSel l s v) k)) (by exact hown.out) rfl _ [.int .i64 k] rfl (by simp) rfl rfl (by omega) (by omega) (by first | omega | (simp; omega)) ?_)
          intro v' w3 hown3 _ hb3 hs3 _
          have R : Hid (w3.ownsRow w.heap.size 3 1 v' (selTo (strSel l s v) (k + 1)).length (iRow (selTo (strSel l s v) (k + 1)))) := Lib.hid (by rw [HS.out, List.length_append, iRow_snoc]; exact hown3)
          have hb4 := Lib.hid ((hbel).trans hb3)
          clear hown3 hb3 hs3
          go_wp2
          go_roundw
          case rel => exact ⟨k + 1, by omega, by go_num, R.out, hb4.out⟩
          case measure => simp [intOf]; omega
        · have h2' : ((rp l k).ver != v) = false := by simpa using h2
          clear h2
          have HS : Hid (selTo (strSel l s v) (k + 1) = selTo (strSel l s v) k) := Lib.hid (by simp [selTo, strSel, h1, h2'])
          go_wp2
          go_roundw
          case rel => exact ⟨k + 1, by omega, by go_num, by rw [HS.out]; exact hown.out, hbel⟩
          case measure => simp [intOf]; omega
      · have h1' : ((rp l k).sv == s) = false := by simpa using h1
        clear h1
        have HS : Hid (selTo (strSel l s v) (k + 1) = selTo (strSel l s v) k) := Lib.hid (by simp [selTo, strSel, h1'])
        go_wp2
        go_roundw
        case rel => exact ⟨k + 1, by omega, by go_num, by rw [HS.out]; exact hown.out, hbel⟩
        case measure => simp [intOf]; omega
    · obtain rfl : k = l.length := by omega
      have R := Lib.hid (own_ints (w := w) hown hbel)
      clear hown
      replace ha := Lib.hid ha
      go_wp2
      go_ret
      exact Ret.mk R.out

set_option maxHeartbeats 1000000 in
theorem equalI_any (A C : Option Addr) (c d : Nat) (l m : List Int) (w : World) (B : Nat) (ha : Arr w B A l.length (iv l)) (hc : Arr w B C m.length (iv m)) (h1 : l.length ≤ 1000000) (h2 : m.length ≤ 1000000) :
    Calls Try.prog 26 #[.slice A l.length c, .slice C m.length d] w fun e w' => e = .returned (.bool (decide (l = m))) ∧ Drawn w w' := by
  by_cases hlen : l.length = m.length
  · have z1 : ((l.length : Int) != (m.length : Int)) = false := by rw [bne_eq_false_iff_eq]; omega
    replace hlen := Lib.hid hlen
    go_enter Try.func26, Try.ntmps26
    go_wp2
    go_loopw [5, 13] (fun _ i wr => ∃ k : Nat, k ≤ l.length ∧ i = .int .i64 k ∧ (∀ j, j < k → gi l j = gi m j) ∧ Drawn w wr) (fun _ i _ => l.length - (intOf i).toNat)
    case atStart => exact ⟨0, Nat.zero_le _, rfl, fun j hj => by omega, Drawn.refl _⟩
    case round =>
      obtain ⟨k, hk, rfl, hall, hdr⟩ := hrel
      replace hall := Lib.hid hall
      by_cases hlt : k < l.length
      · have hkm : k < m.length := by have := hlen.out; omega
        obtain ⟨b, off, rfl, hb, hcl⟩ := ha (by omega)
        obtain ⟨b2, off2, rfl, hb2, hcm⟩ := hc (by omega)
        have c1 := (hdr.cell _).trans (hcl k hlt)
        have c2 := (hdr.cell _).trans (hcm k hkm)
        unfold iv at c1 c2
        replace hdr := Lib.hid hdr
        replace ha := Lib.hid ha
        replace hc := Lib.hid hc
        clear hcl hcm
        have j1 : (k : Int) < (l.length : Int) := by omega
        have j2 : (k : Int) < (m.length : Int) := by omega
        by_cases hg : gi l k = gi m k
        · have hx : (gi l k != gi m k) = false := by rw [bne_eq_false_iff_eq]; exact hg
          replace hg := Lib.hid hg
          go_wp2
          go_quiet (fail)
          go_wp2
          go_roundw
          case rel => exact ⟨k + 1, by omega, by go_num, fun j hj => by (rcases Nat.lt_succ_iff_lt_or_eq.1 hj with h | h; exact hall.out j h; rw [h]; exact hg.out), hdr.out.drewN _⟩
          case measure => simp [intOf]; omega
        · have hx : (gi l k != gi m k) = true := by rw [bne_iff_ne]; exact hg
          have hne : Hid (decide (l = m) = false) := Lib.hid (by rw [decide_eq_false_iff_not]; intro h; exact hg (by rw [h]))
          clear hg
          go_wp2
          go_quiet (fail)
          go_wp2
          go_ret
          exact ⟨ret_b hne.out.symm, hdr.out.drewN _⟩
      · have heq : Hid (decide (l = m) = true) := Lib.hid (decide_eq_true (gi_ext hlen.out (fun j hj => hall.out j (by omega))))
        obtain rfl : k = l.length := by omega
        replace ha := Lib.hid ha
        replace hc := Lib.hid hc
        go_wp2
        go_ret
        exact ⟨ret_b heq.out.symm, hdr⟩
  · have z1 : ((l.length : Int) != (m.length : Int)) = true := by rw [bne_iff_ne]; omega
    have hne : Hid (decide (l = m) = false) := Lib.hid (by rw [decide_eq_false_iff_not]; intro h; exact hlen (by rw [h]))
    clear hlen
    go_enter Try.func26, Try.ntmps26
    go_wp2
    go_ret
    exact ⟨ret_b hne.out.symm, Drawn.refl _⟩
end Go.Proofs.Ytcjnfciemangkaa
