/-
  PLAIN: what strconv.Atoi hands back beside its error; strings.Join at one byte.
  Conditions: those that each theorem names.
-/
import Derived.Test.YtbpgpjmihbmcbaaDoorTxtH
import Derived.Lib.ParseIntBTie
import Derived.Lib.AtoiAllCases
import Derived.Lib.Join
namespace Go.Lx
open Go
def atV (l : Bs) : Int := match Lib.atoiAll l with | .ok v => v | .range => Lib.atoiSat l | .syntax => 0
theorem atV_le (l : Bs) : atV l ≤ 9223372036854775807 := by
  unfold atV
  split
  · rename_i h; exact (Lib.atoiAll_bounds h).2
  · unfold Lib.atoiSat
    split <;> decide
  · decide
theorem atoi_itoa {v : Int} (h1 : -9223372036854775808 ≤ v) (h2 : v ≤ 9223372036854775807) : Lib.atoiAll (Lib.itoa v) = .ok v := by
  rw [← Lib.parseIntB_64]
  exact parse_itoa h1 h2
theorem atV_dec (n : Nat) (h : n ≤ 9223372036854775807) : atV (Lib.decDigits n) = n := by
  have := atoi_itoa (v := n) (by omega) (by omega)
  rw [itoa_pos (by omega), Int.toNat_natCast] at this
  unfold atV
  rw [this]
theorem joinS_join (c : UInt8) : ∀ ws : List Bs, joinS c ws = Lib.join ws [c]
  | [] => rfl
  | [w] => by rw [Lib.join_one]; rfl
  | w :: x :: ws => by
    rw [joinS, joinS_join c (x :: ws), Lib.join_cons, Lib.join_cons]
    simp [Lib.joinTail]
end Go.Lx
