/-
  CONTRACTS: the library's Split, Cut, Atoi at the texts that a test's text brings; the reference's digits.
  Conditions: those that each theorem names.
-/
import Derived.Test.YtbpgpjmihbmcbaaDoorHeaG
import Derived.Test.YtbpgpjmihbmcbaaDoorHeT0
import Derived.Test.YtbpgpjmihbmcbaaDoorFm
import Derived.Lib.Split
import Derived.Lib.SplitLaws
namespace Go.Lx
open Go
theorem splitB_spl (c : UInt8) (l : Bs) : Lib.splitB ⟨#[c]⟩ 0 (Lib.countB (bS l) ⟨#[c]⟩) (bS l) = (spl c l).map bS := by
  have h := Lib.splitB_data ⟨#[c]⟩ 0 (Lib.countB (bS l) ⟨#[c]⟩) (bS l)
  have e : Lib.splitK [c] 0 (Lib.countB (bS l) ⟨#[c]⟩) l = spl c l := split_spl c l
  have h2 : (Lib.splitB ⟨#[c]⟩ 0 (Lib.countB (bS l) ⟨#[c]⟩) (bS l)).map (·.data.toList) = spl c l := h.trans e
  rw [← h2, List.map_map]
  conv => lhs; rw [← List.map_id (Lib.splitB ⟨#[c]⟩ 0 (Lib.countB (bS l) ⟨#[c]⟩) (bS l))]
  apply List.map_congr_left
  intro x _
  exact bS_of x
theorem count_spl (c : UInt8) (l : Bs) : Lib.countB (bS l) ⟨#[c]⟩ + 1 = (spl c l).length := by
  have h := Lib.splitB_all ⟨#[c]⟩ (Nat.le_refl 1) 0 _ (bS l) rfl
  rw [splitB_spl, List.length_map] at h
  exact h.symm
end Go.Lx
namespace Go.Proofs.YtbpgpjmihbmcbaaDoor
open Go.RowKit Go.Sv Go.Lx
theorem fm_boxE {w W : World} {bs : List Bx} {rs : List Rd} (h : Fm w W bs rs) (t : TypeId) (cs : List Value) : ∃ W2, W.alloc (.cells cs.toArray t) = W2 ∧ Fm w W2 (⟨W.heap.size, t, cs⟩ :: bs) rs ∧ Below W.heap.size W W2 :=
  ⟨_, rfl, h.box t cs, (Below.refl _ _).alloc (Nat.le_refl _) _⟩
theorem lt_of_cell {w : World} {p : Addr} {v : Value} (h : w.cell? p = some v) : p.block < w.heap.size := by
  rcases Nat.lt_or_ge p.block w.heap.size with c | c
  · exact c
  · simp [World.cell?, Array.getElem?_eq_none c] at h
/-- the library's variable that the search reads holds some number -/
def MaxL (w : World) : Prop := ∃ m : Int, w.cell? ⟨0, 0, none⟩ = some (.int .i64 m)
theorem MaxL.to {w w' : World} (h : MaxL w) (hb : Below w.heap.size w w') : MaxL w' := by
  obtain ⟨m, hm⟩ := h
  exact ⟨m, (hb.cell (p := ⟨0, 0, none⟩) (lt_of_cell hm)).trans hm⟩
theorem split_any (l : Bs) (w : World) (hn : l.length ≤ 1000000) (ht : MaxL w) :
    Calls Tryd.prog 40 #[.string (bS l), .string ⟨#[32]⟩] w fun e w' => e = .returned (.slice (some ⟨w.heap.size, 0, none⟩) (spl 32 l).length (spl 32 l).length) ∧ w' = w.alloc (.cells ((spl 32 l).map fun x => Value.string (bS x)).toArray 9) := by
  obtain ⟨m, hm⟩ := ht
  have hsz := bS_size l
  refine (Tryd.strings_Split (bS l) ⟨#[32]⟩ m w (by omega) hm (Nat.le_refl 1)).mono ?_
  rintro e w' ⟨he, hw⟩
  rw [splitB_spl, List.map_map] at hw
  rw [count_spl] at he
  exact ⟨he, hw⟩
theorem cutw_any (a r : Int) (w : World) (hs : (wordT a r).length ≤ 100000) (hm : MaxL w) :
    Calls Tryd.prog 41 #[.string (bS (wordT a r)), .string ⟨#[47]⟩] w fun e w' => e = .returned (.tuple #[.string (bS (Lib.itoa a)), .string (bS (Lib.itoa r)), .bool true]) ∧ Drawn w w' := by
  obtain ⟨m, hm⟩ := hm
  have h := Tryd.strings_Cut (bS (wordT a r)) ⟨#[47]⟩ m w (by rw [bS_size]; omega) hm
  rw [show (bS (wordT a r)).data.toList = wordT a r from rfl, show (⟨#[47]⟩ : ByteArray).data.toList = [47] from rfl, cut_word] at h
  exact h.mono fun e w' ⟨he, n, hn⟩ => ⟨he, by rw [hn]; exact Drawn.of n⟩
theorem belowS_bytes (w : World) (t : ByteArray) : Below w.heap.size w (Lib.bytesWorld w 5 t) :=
  ⟨rfl, rfl, rfl, by rw [Lib.bytesWorld_size]; omega, fun k hk => Lib.bytesWorld_at_old w _ _ k hk⟩
theorem atoi_any (v : Int) (h1 : -1 ≤ v) (h2 : v ≤ 99) (w : World) : Calls Tryd.prog 51 #[.string (bS (Lib.itoa v))] w fun e w' => e = .returned (.tuple #[.int .i64 v, .nilIface]) ∧ Below w.heap.size w w' := by
  have hsz := bS_size (Lib.itoa v)
  have hl := itoa_short h1 h2
  refine (Tryd.strconv_Atoi_ok (bS (Lib.itoa v)) (by omega) v (atoi_itoa (by omega) (by omega)) w).mono ?_
  rintro e w' ⟨he, hw⟩
  refine ⟨he, ?_⟩
  rcases hw with rfl | ⟨u, rfl⟩
  · exact Below.refl _ _
  · exact belowS_bytes _ _
theorem enc_digit (d : Nat) (h : d < 10) : Utf8.encode (48 + (d : Int)) = bS [UInt8.ofNat (48 + d)] := by
  match d, h with
  | 0, _ => rfl
  | 1, _ => rfl
  | 2, _ => rfl
  | 3, _ => rfl
  | 4, _ => rfl
  | 5, _ => rfl
  | 6, _ => rfl
  | 7, _ => rfl
  | 8, _ => rfl
  | 9, _ => rfl
set_option maxHeartbeats 2000000 in
set_option maxRecDepth 100000 in
theorem digits_any (v : Int) (h1 : -1 ≤ v) (h2 : v ≤ 99) (w : World) : Calls Tryd.prog 39 #[.int .i64 v] w fun e w' => e = .returned (.string (bS (Lib.itoa v))) ∧ w = w' := by
  have hd := digH_itoa h1 h2
  unfold digH at hd
  by_cases h : v < 0
  · rw [if_pos h] at hd
    rw [← hd]
    clear hd
    go_enter Tryd.func39, Tryd.ntmps39
    go_wp2
    go_ret
    exact ⟨rfl, rfl⟩
  · rw [if_neg h] at hd
    by_cases c : 9 < v
    · rw [if_pos c] at hd
      obtain ⟨a, ha⟩ : ∃ a : Nat, v / 10 = (a : Int) := ⟨(v / 10).toNat, by omega⟩
      obtain ⟨b, hb⟩ : ∃ b : Nat, v % 10 = (b : Int) := ⟨(v % 10).toNat, by omega⟩
      have h3 : v.tdiv 10 = (a : Int) := by rw [Int.tdiv_eq_ediv_of_nonneg (by omega)]; exact ha
      have h4 : v.tmod 10 = (b : Int) := by rw [Int.tmod_eq_emod_of_nonneg (by omega)]; exact hb
      have a10 : a < 10 := by omega
      have b10 : b < 10 := by omega
      have e1 := enc_digit a a10
      have e2 := enc_digit b b10
      rw [ha, hb, Int.toNat_natCast, Int.toNat_natCast] at hd
      obtain ⟨x, hx⟩ : ∃ x, UInt8.ofNat (48 + a) = x := ⟨_, rfl⟩
      obtain ⟨y, hy⟩ : ∃ y, UInt8.ofNat (48 + b) = y := ⟨_, rfl⟩
      rw [hx] at e1 hd
      rw [hy] at e2 hd
      have hd2 := Lib.hid hd
      replace ha := Lib.hid ha
      replace hb := Lib.hid hb
      clear hx hy hd
      go_enter Tryd.func39, Tryd.ntmps39
      go_wp2
      refine bodyPost_ret (v := .string (bS [x] ++ bS [y])) (by simp [results, Tryd.results39, go_sem]) rfl ?_
      exact ⟨by rw [← hd2.out, bS_app]; rfl, rfl⟩
    · rw [if_neg c] at hd
      obtain ⟨a, rfl⟩ : ∃ a : Nat, v = (a : Int) := ⟨v.toNat, by omega⟩
      have a10 : a < 10 := by omega
      have e1 := enc_digit a a10
      rw [Int.toNat_natCast] at hd
      obtain ⟨x, hx⟩ : ∃ x, UInt8.ofNat (48 + a) = x := ⟨_, rfl⟩
      rw [hx] at e1 hd
      have hd2 := Lib.hid hd
      clear hx hd
      go_enter Tryd.func39, Tryd.ntmps39
      go_wp2
      refine bodyPost_ret (v := .string (bS [x])) (by simp [results, Tryd.results39, go_sem]) rfl ?_
      exact ⟨by rw [← hd2.out], rfl⟩
end Go.Proofs.YtbpgpjmihbmcbaaDoor
