/-
  DERIVED: THE SHELF's CONTRACTS AT THIS DUMP, IN PLAIN WORDS (tools/lay-plain.mjs out of 'TrydShelf.lean', which tools/lay-shelf.mjs wrote): THE SAME DECLARATIONS UNDER THE SAME NAMES: 'import', 'namespace', 'open', 'def', 'theorem' AND NOTHING ELSE: no command of the shelf's: FOR A HAND-IN. Each laying: the table of numbers ('.._ren') and one theorem, a field a fact of the dump's own or the kernel's comparison; each contract: ONE APPLICATION.
-/
import Derived.Shelf.Small.Wraps
import Derived.Shelf.Utf8.RuneCount
import Derived.Shelf.Strconv.Itoa0
import Derived.Shelf.Strconv.Itoa1
import Derived.Shelf.LaysM
import Derived.Shelf.Strconv.Itoa2
import Derived.Shelf.Strconv.Itoa3
import Derived.Test.YtfcimilimojfoaaDoorProg
namespace Go.Proofs
open Go.Shelf
def Tryd.lays171_ren : Go.Shelf.Ren := ⟨fun | 171 => 64 | 243 => 87 | 246 => 99 | 283 => 113 | 284 => 114 | 285 => 115 | 286 => 116 | 129 => 127 | 317 => 126 | 318 => 128 | 319 => 129 | 320 => 130 | 337 => 139 | 338 => 140 | n => n, fun | 3 => 3 | 9 => 9 | 2 => 2 | 4 => 4 | 171 => 151 | 0 => 0 | 53 => 152 | 37 => 22 | 5 => 5 | 173 => 155 | 212 => 172 | 51 => 173 | 20 => 20 | 213 => 174 | 46 => 163 | 232 => 189 | 233 => 190 | n => n, fun | 17 => 2 | 18 => 6 | 19 => 7 | n => n⟩
theorem Tryd.lays171 : Go.Proofs.Lays.n171 Tryd.prog Tryd.lays171_ren := {
  mixed := by kernel_rfl
  f129 := Tryd.func127.trans (congrArg some (by kernel_rfl))
  f171 := Tryd.func64.trans (congrArg some (by kernel_rfl))
  f243 := Tryd.func87.trans (congrArg some (by kernel_rfl))
  f246 := Tryd.func99.trans (congrArg some (by kernel_rfl))
  f283 := Tryd.func113.trans (congrArg some (by kernel_rfl))
  f284 := Tryd.func114.trans (congrArg some (by kernel_rfl))
  f285 := Tryd.func115.trans (congrArg some (by kernel_rfl))
  f286 := Tryd.func116.trans (congrArg some (by kernel_rfl))
  f317 := Tryd.func126.trans (congrArg some (by kernel_rfl))
  f318 := Tryd.func128.trans (congrArg some (by kernel_rfl))
  f319 := Tryd.func129.trans (congrArg some (by kernel_rfl))
  f320 := Tryd.func130.trans (congrArg some (by kernel_rfl))
  f337 := Tryd.func139.trans (congrArg some (by kernel_rfl))
  f338 := Tryd.func140.trans (congrArg some (by kernel_rfl))
  t0 := Tryd.underlying0
  a0 := Tryd.isAgg0
  z0 := Tryd.sizeOf0
  v0 := Tryd.zeroValue0
  t2 := Tryd.underlying2
  a2 := Tryd.isAgg2
  z2 := Tryd.sizeOf2
  v2 := Tryd.zeroValue2
  t3 := Tryd.underlying3
  a3 := Tryd.isAgg3
  z3 := Tryd.sizeOf3
  v3 := Tryd.zeroValue3
  t4 := Tryd.underlying4
  a4 := Tryd.isAgg4
  z4 := Tryd.sizeOf4
  v4 := Tryd.zeroValue4
  t5 := Tryd.underlying5
  a5 := Tryd.isAgg5
  z5 := Tryd.sizeOf5
  v5 := Tryd.zeroValue5
  t9 := Tryd.underlying9
  a9 := Tryd.isAgg9
  z9 := Tryd.sizeOf9
  v9 := Tryd.zeroValue9
  t20 := Tryd.underlying20
  a20 := Tryd.isAgg20
  z20 := Tryd.sizeOf20
  v20 := Tryd.zeroValue20
  t37 := Tryd.underlying22
  a37 := Tryd.isAgg22
  z37 := Tryd.sizeOf22
  v37 := Tryd.zeroValue22
  t46 := Tryd.underlying163
  a46 := Tryd.isAgg163
  z46 := Tryd.sizeOf163
  v46 := Tryd.zeroValue163
  t51 := Tryd.underlying173
  a51 := Tryd.isAgg173
  z51 := Tryd.sizeOf173
  v51 := Tryd.zeroValue173
  t53 := Tryd.underlying152
  a53 := Tryd.isAgg152
  z53 := Tryd.sizeOf152
  v53 := Tryd.zeroValue152
  t171 := Tryd.underlying151
  a171 := Tryd.isAgg151
  z171 := Tryd.sizeOf151
  v171 := Tryd.zeroValue151
  t173 := Tryd.underlying155
  a173 := Tryd.isAgg155
  z173 := Tryd.sizeOf155
  v173 := Tryd.zeroValue155
  t212 := Tryd.underlying172
  a212 := Tryd.isAgg172
  z212 := Tryd.sizeOf172
  v212 := Tryd.zeroValue172
  t213 := Tryd.underlying174
  a213 := Tryd.isAgg174
  z213 := Tryd.sizeOf174
  t232 := Tryd.underlying189
  a232 := Tryd.isAgg189
  z232 := Tryd.sizeOf189
  v232 := Tryd.zeroValue189
  t233 := Tryd.underlying190
  a233 := Tryd.isAgg190
  z233 := Tryd.sizeOf190
  v233 := Tryd.zeroValue190
  g17 := by kernel_rfl
  g18 := by kernel_rfl
  g19 := by kernel_rfl }
open Go.RowKit Go.Sort Go.Lib in
theorem Tryd.strconv_Itoa_small (i : Nat) (hi : i < 100) (w : World) :
    Calls Tryd.prog 64 #[.int .i64 i] w fun e w' => e = .returned (.string ⟨(Lib.decDigits i).toArray⟩) ∧ w' = w := Any.strconv_Itoa_small Tryd.lays171 i hi w
end Go.Proofs
