/-
  PLAIN: the lexer: the examples of the chapter.
  Conditions: none.
-/
import Derived.Test.YtmhnocgoknmljaaDoorLexS
namespace Go.Lx
open Go
instance : DecidableEq (Except Int (List Tok)) := fun a b => match a, b with
  | .ok x, .ok y => decidable_of_iff (x = y) (by simp)
  | .error x, .error y => decidable_of_iff (x = y) (by simp)
  | .ok _, .error _ => isFalse (by simp)
  | .error _, .ok _ => isFalse (by simp)
theorem ex1 : toks [105, 110, 116, 40, 45, 49, 48, 46, 46, 49, 48, 41] = .ok [⟨1, [105, 110, 116], 0, [], 1⟩, ⟨4, [40], 0, [], 1⟩, ⟨2, [], -10, [], 1⟩, ⟨4, [46, 46], 0, [], 1⟩, ⟨2, [], 10, [], 1⟩, ⟨4, [41], 0, [], 1⟩] := by
  decide +kernel
theorem ex2 : toks [97, 10, 48, 49] = .error 2 := by decide +kernel
theorem ex3 : toks [97, 32, 49, 32, 45, 49, 32, 46, 32, 46, 46, 32, 59] = .ok [⟨1, [97], 0, [], 1⟩, ⟨2, [], 1, [], 1⟩, ⟨2, [], -1, [], 1⟩, ⟨4, [46], 0, [], 1⟩, ⟨4, [46, 46], 0, [], 1⟩, ⟨4, [59], 0, [], 1⟩] := by decide +kernel
theorem ex4 : qform [10, 200] = [34, 92, 110, 92, 120, 99, 56, 34] := by decide +kernel
theorem ex5 : word ⟨1, [97], 0, [], 1⟩ ++ joinV ⟨1, [97], 0, [], 1⟩ [⟨2, [], 1, [], 1⟩, ⟨2, [], -1, [], 1⟩, ⟨4, [46], 0, [], 1⟩, ⟨4, [46, 46], 0, [], 1⟩, ⟨4, [59], 0, [], 1⟩] = [97, 32, 49, 45, 49, 46, 32, 46, 46, 59] := by decide +kernel
end Go.Lx
