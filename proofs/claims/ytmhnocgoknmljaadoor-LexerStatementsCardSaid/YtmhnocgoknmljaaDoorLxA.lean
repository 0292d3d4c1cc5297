/-
  CONTRACTS of the letters, the digits and the names of both texts.
  Conditions: none.
-/
import Derived.Test.YtmhnocgoknmljaaDoorLexR
import Derived.Test.YtmhnocgoknmljaaDoorSl
import Derived.Test.YtmhnocgoknmljaaDoorProg
import Derived.WalkSpells
namespace Go.Proofs.YtmhnocgoknmljaaDoor
open Go.RowKit Go.Sv Go.Lx
theorem isL_int {b : UInt8} {c : Int} (h : (b.toNat : Int) = c) : isL b = ((c == 95) || (decide (97 ≤ c) && decide (c ≤ 122)) || (decide (65 ≤ c) && decide (c ≤ 90))) := by
  subst h
  unfold isL
  rw [Bool.eq_iff_iff]
  simp only [Bool.or_eq_true, Bool.and_eq_true, beq_iff_eq, decide_eq_true_eq]
  omega
theorem isD_int {b : UInt8} {c : Int} (h : (b.toNat : Int) = c) : isD b = (decide (48 ≤ c) && decide (c ≤ 57)) := by
  subst h
  unfold isD
  rw [Bool.eq_iff_iff]
  simp only [Bool.and_eq_true, decide_eq_true_eq]
  omega
theorem isLetter_any (b : UInt8) (w : World) :
    Calls Tryd.prog 33 #[.int .u8 (b.toNat : Int)] w fun e w' => e = .returned (.bool (isL b)) ∧ w = w' := by
  obtain ⟨c, hc⟩ : ∃ c : Int, (b.toNat : Int) = c := ⟨_, rfl⟩
  rw [isL_int hc, hc]
  clear hc
  cases t1 : (c == 95)
  · cases t2 : decide (97 ≤ c)
    · cases t4 : decide (65 ≤ c)
      · go_enter Tryd.func33, Tryd.ntmps33
        go_wp2
        go_ret
        exact ⟨rfl, rfl⟩
      · go_enter Tryd.func33, Tryd.ntmps33
        go_wp2
        go_ret
        exact ⟨rfl, rfl⟩
    · cases t3 : decide (c ≤ 122)
      · cases t4 : decide (65 ≤ c)
        · go_enter Tryd.func33, Tryd.ntmps33
          go_wp2
          go_ret
          exact ⟨rfl, rfl⟩
        · go_enter Tryd.func33, Tryd.ntmps33
          go_wp2
          go_ret
          exact ⟨rfl, rfl⟩
      · go_enter Tryd.func33, Tryd.ntmps33
        go_wp2
        go_ret
        exact ⟨rfl, rfl⟩
  · go_enter Tryd.func33, Tryd.ntmps33
    go_wp2
    go_ret
    exact ⟨rfl, rfl⟩
theorem isDigit_any (b : UInt8) (w : World) :
    Calls Tryd.prog 34 #[.int .u8 (b.toNat : Int)] w fun e w' => e = .returned (.bool (isD b)) ∧ w = w' := by
  obtain ⟨c, hc⟩ : ∃ c : Int, (b.toNat : Int) = c := ⟨_, rfl⟩
  rw [isD_int hc, hc]
  clear hc
  cases t1 : decide (48 ≤ c)
  · go_enter Tryd.func34, Tryd.ntmps34
    go_wp2
    go_ret
    exact ⟨rfl, rfl⟩
  · go_enter Tryd.func34, Tryd.ntmps34
    go_wp2
    go_ret
    exact ⟨rfl, rfl⟩
end Go.Proofs.YtmhnocgoknmljaaDoor
