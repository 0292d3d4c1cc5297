/-
  CONTRACTS of Versions, the program's and the reference's.
  Conditions: those that each theorem names.
-/
import Derived.Test.YtcjnfciemangkaaRepF
namespace Go.Proofs.Ytcjnfciemangkaa
open Go.RowKit Go.Sv

/-- a set of versions with one more -/
def verStep (x v : Int) : Int := bits BinOp.or IntKind.u8 x (2 ^ v.toNat % 256)
def verTo (l : List Rep) (s : Int) : Nat → Int
  | 0 => 0
  | k + 1 => if ((rp l k).sv == s) = true ∧ 0 ≤ (rp l k).ver ∧ (rp l k).ver < 8 then verStep (verTo l s k) (rp l k).ver else verTo l s k

set_option maxHeartbeats 2000000 in
theorem vers_any (A : Option Addr) (c : Nat) (l : List Rep) (s : Int) (w : World) (ha : RReps w w.heap.size A l) (hn : l.length ≤ 1000000) :
    Calls Try.prog 31 #[.slice A l.length c, .int .i64 s] w fun e w' => e = .returned (.int .u8 (verTo l s l.length)) ∧ Below w.heap.size w w' := by
  go_enter Try.func31, Try.ntmps31
  go_wp2
  go_loopw [5, 10] (fun v0 i wr => ∃ k : Nat, k ≤ l.length ∧ i = .int .i64 k ∧ v0 = .int .u8 (verTo l s k) ∧ Below w.heap.size w wr) (fun _ i _ => l.length - (intOf i).toNat)
  case atStart => exact ⟨0, Nat.zero_le _, rfl, rfl, Below.refl _ _⟩
  case round =>
    obtain ⟨k, hk, rfl, rfl, hbel⟩ := hrel
    have hsz := hbel.size
    by_cases hlt : k < l.length
    · obtain ⟨b, off, rfl, hb, hc⟩ := id (ha (by omega))
      obtain ⟨c0, c1, c2, c3⟩ := rp_cells (w := wr) (fun i hi => (hbel.cell (p := ⟨b, off + k * 4 + i, none⟩) hb).trans (hc k hlt i hi))
      clear hc
      replace ha := Lib.hid ha
      by_cases h1 : ((rp l k).sv == s) = true
      · by_cases h2 : 0 ≤ (rp l k).ver
        · by_cases h3 : (rp l k).ver < 8
          · have HS : Hid (verTo l s (k + 1) = verStep (verTo l s k) (rp l k).ver) := Lib.hid (by rw [verTo, if_pos ⟨h1, h2, h3⟩])
            go_wp2
            go_roundw
            case rel => exact ⟨k + 1, by omega, by go_num, by rw [HS.out]; rfl, hbel.alloc (by omega) _⟩
            case measure => simp [intOf]; omega
          · have HS : Hid (verTo l s (k + 1) = verTo l s k) := Lib.hid (by rw [verTo, if_neg (fun h => h3 h.2.2)])
            go_wp2
            go_roundw
            case rel => exact ⟨k + 1, by omega, by go_num, by rw [HS.out], hbel.alloc (by omega) _⟩
            case measure => simp [intOf]; omega
        · have HS : Hid (verTo l s (k + 1) = verTo l s k) := Lib.hid (by rw [verTo, if_neg (fun h => h2 h.2.1)])
          go_wp2
          go_roundw
          case rel => exact ⟨k + 1, by omega, by go_num, by rw [HS.out], hbel.alloc (by omega) _⟩
          case measure => simp [intOf]; omega
      · have h1' : ((rp l k).sv == s) = false := by simpa using h1
        have HS : Hid (verTo l s (k + 1) = verTo l s k) := Lib.hid (by rw [verTo, if_neg (fun h => h1 h.1)])
        clear h1
        go_wp2
        go_roundw
        case rel => exact ⟨k + 1, by omega, by go_num, by rw [HS.out], hbel.alloc (by omega) _⟩
        case measure => simp [intOf]; omega
    · obtain rfl : k = l.length := by omega
      replace ha := Lib.hid ha
      go_wp2
      go_ret
      exact ⟨rfl, hbel⟩

set_option maxHeartbeats 2000000 in
theorem rvers_any (A : Option Addr) (c : Nat) (l : List Rep) (s : Int) (w : World) (ha : RReps w w.heap.size A l) (hn : l.length ≤ 1000000) :
    Calls Try.prog 32 #[.slice A l.length c, .int .i64 s] w fun e w' => e = .returned (.int .u8 (verTo l s l.length)) ∧ Below w.heap.size w w' := by
  go_enter Try.func32, Try.ntmps32
  go_wp2
  go_loopw [5, 6] (fun v0 i wr => ∃ k : Nat, k ≤ l.length ∧ i = .int .i64 k ∧ v0 = .int .u8 (verTo l s k) ∧ Below w.heap.size w wr) (fun _ i _ => l.length - (intOf i).toNat)
  case atStart => exact ⟨0, Nat.zero_le _, rfl, rfl, Below.refl _ _⟩
  case round =>
    obtain ⟨k, hk, rfl, rfl, hbel⟩ := hrel
    have hsz := hbel.size
    by_cases hlt : k < l.length
    · obtain ⟨b, off, rfl, hb, hc⟩ := id (ha (by omega))
      obtain ⟨c0, c1, c2, c3⟩ := rp_cells (w := wr) (fun i hi => (hbel.cell (p := ⟨b, off + k * 4 + i, none⟩) hb).trans (hc k hlt i hi))
      clear hc
      replace ha := Lib.hid ha
      by_cases h1 : ((rp l k).sv == s) = true
      · by_cases h2 : 0 ≤ (rp l k).ver
        · by_cases h3 : (rp l k).ver < 8
          · have HS : Hid (verTo l s (k + 1) = verStep (verTo l s k) (rp l k).ver) := Lib.hid (by rw [verTo, if_pos ⟨h1, h2, h3⟩])
            go_wp2
            go_roundw
            case rel => exact ⟨k + 1, by omega, by go_num, by rw [HS.out]; rfl, hbel⟩
            case measure => simp [intOf]; omega
          · have HS : Hid (verTo l s (k + 1) = verTo l s k) := Lib.hid (by rw [verTo, if_neg (fun h => h3 h.2.2)])
            go_wp2
            go_roundw
            case rel => exact ⟨k + 1, by omega, by go_num, by rw [HS.out], hbel⟩
            case measure => simp [intOf]; omega
        · have HS : Hid (verTo l s (k + 1) = verTo l s k) := Lib.hid (by rw [verTo, if_neg (fun h => h2 h.2.1)])
          go_wp2
          go_roundw
          case rel => exact ⟨k + 1, by omega, by go_num, by rw [HS.out], hbel⟩
          case measure => simp [intOf]; omega
      · have h1' : ((rp l k).sv == s) = false := by simpa using h1
        have HS : Hid (verTo l s (k + 1) = verTo l s k) := Lib.hid (by rw [verTo, if_neg (fun h => h1 h.1)])
        clear h1
        go_wp2
        go_roundw
        case rel => exact ⟨k + 1, by omega, by go_num, by rw [HS.out], hbel⟩
        case measure => simp [intOf]; omega
    · obtain rfl : k = l.length := by omega
      replace ha := Lib.hid ha
      go_wp2
      go_ret
      exact ⟨rfl, hbel⟩
end Go.Proofs.Ytcjnfciemangkaa
