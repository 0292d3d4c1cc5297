/-
  DERIVED: THE SHELF's CONTRACTS AT THIS DUMP, IN PLAIN WORDS (tools/lay-plain.mjs out of 'TrydShelf.lean', which tools/lay-shelf.mjs wrote): THE SAME DECLARATIONS UNDER THE SAME NAMES: 'import', 'namespace', 'open', 'def', 'theorem' AND NOTHING ELSE: no command of the shelf's: FOR A HAND-IN. Each laying: the table of numbers ('.._ren') and one theorem, a field a fact of the dump's own or the kernel's comparison; each contract: ONE APPLICATION.
-/
import Derived.Shelf.Strings.Builder1
import Derived.Shelf.Strings.Builder2
import Derived.Shelf.Strings.OnBuilder
import Derived.Shelf.Strings.BuilderF
import Derived.Shelf.Strings.BuilderK
import Derived.Shelf.Utf8.RuneCount
import Derived.Shelf.Strings.Builder2Cap
import Derived.Shelf.Strconv.Atoi
import Derived.Shelf.Strconv.Itoa0
import Derived.Shelf.Strconv.Itoa1
import Derived.Shelf.LaysM
import Derived.Shelf.Strconv.Itoa2
import Derived.Shelf.Strconv.Itoa3
import Derived.Shelf.Strconv.AtoiErrFast
import Derived.Shelf.Strconv.ParseIntEmpty
import Derived.Shelf.Strconv.AtoiFail
import Derived.Shelf.Strconv.Clone
import Derived.Shelf.Strconv.SyntaxError
import Derived.Shelf.LaysC
import Derived.Shelf.Strconv.ToError
import Derived.Shelf.Strconv.Lower
import Derived.Shelf.Strconv.ParseUint10
import Derived.Shelf.Strconv.ParseUint10Empty
import Derived.Shelf.Strconv.ParseUint10Any
import Derived.Shelf.Strconv.ParseInt10
import Derived.Shelf.Strconv.AtoiLong
import Derived.Shelf.Strconv.AtoiInnerAll
import Derived.Shelf.Strconv.RangeError
import Derived.Shelf.Strconv.ToErrorRange
import Derived.Shelf.Strconv.AtoiAll
import Derived.Shelf.Strconv.ErrVarAll
import Derived.Shelf.Strconv.ParseUintEmpty
import Derived.Shelf.Strconv.ParseUint10b64
import Derived.Shelf.Strconv.ParseUint10b32
import Derived.Shelf.Strconv.ParseUint10b16
import Derived.Shelf.Strconv.ParseUint10b8
import Derived.Shelf.Strconv.ParseUint10At
import Derived.Shelf.Strconv.ParseInt10At64
import Derived.Shelf.Strconv.ParseInt10At32
import Derived.Shelf.Strconv.ParseInt10At16
import Derived.Shelf.Strconv.ParseInt10At8
import Derived.Shelf.Strconv.ParseInt10All
import Derived.Shelf.Strings.Search1
import Derived.Shelf.Strings.Search2
import Derived.Shelf.Strings.Search3
import Derived.Shelf.Strings.Cut
import Derived.Shelf.Strings.Count
import Derived.Shelf.Strings.Shaped
import Derived.Shelf.GgClosure.StringsIndexFunc
import Derived.Ground.GgwProg
import Derived.Shelf.GgClosure.StringsIndexFuncTop
import Derived.Shelf.GgClosure.StringsRunes
import Derived.Shelf.Strings.Split
import Derived.Shelf.Strings.SplitShaped
import Derived.Shelf.Unicode.Decode
import Derived.Shelf.Strings.RuneCount
import Derived.Shelf.Strings.Explode
import Derived.Shelf.Unicode.DecodeSlow
import Derived.Shelf.Unicode.DecodeAny
import Derived.Shelf.Strings.FuncGrows
import Derived.Shelf.Strings.BuilderCap
import Derived.Ground.SlgnProg
import Derived.Shelf.SlicesE.Clone
import Derived.Test.YtbpgpjmihbmcbaaDoorProg
namespace Go.Proofs
open Go.Shelf
def Tryd.lays156_ren : Go.Shelf.Ren := ⟨fun | 156 => 38 | 165 => 44 | 166 => 45 | 169 => 46 | 240 => 53 | 241 => 54 | 276 => 66 | 277 => 67 | n => n, fun | 31 => 58 | 9 => 9 | 3 => 3 | 4 => 4 | 0 => 0 | 20 => 20 | 72 => 68 | 76 => 72 | 70 => 66 | 37 => 42 | 75 => 71 | 127 => 79 | 164 => 90 | 5 => 5 | 80 => 74 | n => n, fun | n => n⟩
theorem Tryd.lays156 : Go.Proofs.Lays.n156 Tryd.prog Tryd.lays156_ren := {
  mixed := by kernel_rfl
  f156 := Tryd.func38.trans (congrArg some (by kernel_rfl))
  f165 := Tryd.func44.trans (congrArg some (by kernel_rfl))
  f166 := Tryd.func45.trans (congrArg some (by kernel_rfl))
  f169 := Tryd.func46.trans (congrArg some (by kernel_rfl))
  f240 := Tryd.func53.trans (congrArg some (by kernel_rfl))
  f241 := Tryd.func54.trans (congrArg some (by kernel_rfl))
  f276 := Tryd.func66.trans (congrArg some (by kernel_rfl))
  f277 := Tryd.func67.trans (congrArg some (by kernel_rfl))
  t0 := Tryd.underlying0
  a0 := Tryd.isAgg0
  z0 := Tryd.sizeOf0
  v0 := Tryd.zeroValue0
  t3 := Tryd.underlying3
  a3 := Tryd.isAgg3
  z3 := Tryd.sizeOf3
  v3 := Tryd.zeroValue3
  t4 := Tryd.underlying4
  a4 := Tryd.isAgg4
  z4 := Tryd.sizeOf4
  v4 := Tryd.zeroValue4
  t9 := Tryd.underlying9
  a9 := Tryd.isAgg9
  z9 := Tryd.sizeOf9
  v9 := Tryd.zeroValue9
  t20 := Tryd.underlying20
  a20 := Tryd.isAgg20
  z20 := Tryd.sizeOf20
  v20 := Tryd.zeroValue20
  t31 := Tryd.underlying58
  a31 := Tryd.isAgg58
  z31 := Tryd.sizeOf58
  v31 := Tryd.zeroValue58
  t37 := Tryd.underlying42
  a37 := Tryd.isAgg42
  z37 := Tryd.sizeOf42
  v37 := Tryd.zeroValue42
  t70 := Tryd.underlying66
  a70 := Tryd.isAgg66
  z70 := Tryd.sizeOf66
  v70 := Tryd.zeroValue66
  t72 := Tryd.underlying68
  a72 := Tryd.isAgg68
  z72 := Tryd.sizeOf68
  v72 := Tryd.zeroValue68
  t75 := Tryd.underlying71
  a75 := Tryd.isAgg71
  z75 := Tryd.sizeOf71
  v75 := Tryd.zeroValue71
  t76 := Tryd.underlying72
  a76 := Tryd.isAgg72
  z76 := Tryd.sizeOf72
  v76 := Tryd.zeroValue72
  t127 := Tryd.underlying79
  a127 := Tryd.isAgg79
  z127 := Tryd.sizeOf79
  v127 := Tryd.zeroValue79
  t164 := Tryd.underlying90
  a164 := Tryd.isAgg90
  z164 := Tryd.sizeOf90
  v164 := Tryd.zeroValue90 }
theorem Tryd.Builder_Extra_156 : Builder.Extra Tryd.prog Tryd.lays156_ren := {
  sizeBuilder := by kernel_rfl
  liesBuilder := by kernel_rfl
  t5 := Tryd.underlying5
  a5 := Tryd.isAgg5
  z5 := Tryd.sizeOf5
  v5 := Tryd.zeroValue5
  infoByte := by kernel_rfl
  cellsByte := by kernel_rfl
  sizeByte := by kernel_rfl
  neB5 := by decide }
open Go.RowKit in
theorem Tryd.strings_Join (bk o c : Nat) (xs : List ByteArray) (sep : ByteArray) (w : World) (hcells : ∀ (j : Nat) x, xs[j]? = some x → w.cell? ⟨bk, o + j, none⟩ = some (.string x)) (hbk : bk < w.heap.size) (hN : xs.length ≤ 140737488355328) (hcap : xs.length ≤ c) (hlen : (Lib.join (xs.map (·.data.toList)) sep.data.toList).length ≤ 140737488355328) :
    Calls Tryd.prog 38 #[.slice (some ⟨bk, o, none⟩) xs.length c, .string sep] w fun e w' => e = .returned (.string ⟨(Lib.join (xs.map (·.data.toList)) sep.data.toList).toArray⟩) ∧ Below w.heap.size w w' := Any.strings_Join Tryd.lays156 Tryd.Builder_Extra_156 bk o c xs sep w hcells hbk hN hcap hlen
def Tryd.laysM171_ren : Go.Shelf.Ren := ⟨fun | 171 => 37 | 243 => 43 | 246 => 52 | 283 => 62 | 284 => 63 | 285 => 64 | 286 => 65 | 129 => 82 | 317 => 81 | 318 => 83 | 319 => 84 | 320 => 85 | 337 => 92 | 338 => 93 | n => n, fun | 3 => 3 | 9 => 9 | 2 => 2 | 4 => 4 | 171 => 84 | 0 => 0 | 53 => 85 | 37 => 42 | 5 => 5 | 173 => 88 | 212 => 107 | 51 => 108 | 20 => 20 | 213 => 109 | 46 => 98 | 232 => 130 | 233 => 131 | n => n, fun | 17 => 1 | 18 => 6 | 19 => 7 | n => n⟩
theorem Tryd.laysM171 : Go.Proofs.LaysM.n171 Tryd.prog Tryd.laysM171_ren := {
  mixed := by kernel_rfl
  f129 := Tryd.func82.trans (congrArg some (by kernel_rfl))
  f171 := Tryd.func37.trans (congrArg some (by kernel_rfl))
  f243 := Tryd.func43.trans (congrArg some (by kernel_rfl))
  f246 := Tryd.func52.trans (congrArg some (by kernel_rfl))
  f283 := Tryd.func62.trans (congrArg some (by kernel_rfl))
  f284 := Tryd.func63.trans (congrArg some (by kernel_rfl))
  f285 := Tryd.func64.trans (congrArg some (by kernel_rfl))
  f286 := Tryd.func65.trans (congrArg some (by kernel_rfl))
  f317 := Tryd.func81.trans (congrArg some (by kernel_rfl))
  f318 := Tryd.func83.trans (congrArg some (by kernel_rfl))
  f319 := Tryd.func84.trans (congrArg some (by kernel_rfl))
  f320 := Tryd.func85.trans (congrArg some (by kernel_rfl))
  f337 := Tryd.func92.trans (congrArg some (by kernel_rfl))
  f338 := Tryd.func93.trans (congrArg some (by kernel_rfl))
  t0 := Tryd.underlying0
  a0 := Tryd.isAgg0
  z0 := Tryd.sizeOf0
  v0 := Tryd.zeroValue0
  t2 := Tryd.underlying2
  a2 := Tryd.isAgg2
  z2 := Tryd.sizeOf2
  v2 := Tryd.zeroValue2
  t3 := Tryd.underlying3
  a3 := Tryd.isAgg3
  z3 := Tryd.sizeOf3
  v3 := Tryd.zeroValue3
  t4 := Tryd.underlying4
  a4 := Tryd.isAgg4
  z4 := Tryd.sizeOf4
  v4 := Tryd.zeroValue4
  t5 := Tryd.underlying5
  a5 := Tryd.isAgg5
  z5 := Tryd.sizeOf5
  v5 := Tryd.zeroValue5
  t9 := Tryd.underlying9
  a9 := Tryd.isAgg9
  z9 := Tryd.sizeOf9
  v9 := Tryd.zeroValue9
  t20 := Tryd.underlying20
  a20 := Tryd.isAgg20
  z20 := Tryd.sizeOf20
  v20 := Tryd.zeroValue20
  t37 := Tryd.underlying42
  a37 := Tryd.isAgg42
  z37 := Tryd.sizeOf42
  v37 := Tryd.zeroValue42
  t46 := Tryd.underlying98
  a46 := Tryd.isAgg98
  z46 := Tryd.sizeOf98
  v46 := Tryd.zeroValue98
  t51 := Tryd.underlying108
  a51 := Tryd.isAgg108
  z51 := Tryd.sizeOf108
  v51 := Tryd.zeroValue108
  t53 := Tryd.underlying85
  a53 := Tryd.isAgg85
  z53 := Tryd.sizeOf85
  v53 := Tryd.zeroValue85
  t171 := Tryd.underlying84
  a171 := Tryd.isAgg84
  z171 := Tryd.sizeOf84
  v171 := Tryd.zeroValue84
  t173 := Tryd.underlying88
  a173 := Tryd.isAgg88
  z173 := Tryd.sizeOf88
  v173 := Tryd.zeroValue88
  t212 := Tryd.underlying107
  a212 := Tryd.isAgg107
  z212 := Tryd.sizeOf107
  v212 := Tryd.zeroValue107
  t213 := Tryd.underlying109
  a213 := Tryd.isAgg109
  z213 := Tryd.sizeOf109
  t232 := Tryd.underlying130
  a232 := Tryd.isAgg130
  z232 := Tryd.sizeOf130
  v232 := Tryd.zeroValue130
  t233 := Tryd.underlying131
  a233 := Tryd.isAgg131
  z233 := Tryd.sizeOf131
  v233 := Tryd.zeroValue131
  g17 := by kernel_rfl
  g18 := by kernel_rfl
  g19 := by kernel_rfl
  i0 := by kernel_rfl
  i2 := by kernel_rfl
  i3 := by kernel_rfl
  i4 := by kernel_rfl
  i5 := by kernel_rfl
  i9 := by kernel_rfl
  i20 := by kernel_rfl
  i37 := by kernel_rfl
  i46 := by kernel_rfl
  i51 := by kernel_rfl
  i53 := by kernel_rfl
  i171 := by kernel_rfl
  i173 := by kernel_rfl
  i212 := by kernel_rfl
  i232 := by kernel_rfl
  i233 := by kernel_rfl
  m17 := by kernel_rfl
  m18 := by kernel_rfl
  m19 := by kernel_rfl }
open Go.RowKit Go.Sort Go.Lib in
theorem Tryd.strconv_Itoa (n : Int) (h0 : -9223372036854775808 ≤ n) (h1 : n ≤ 9223372036854775807) (w : World) (htab : Lib.TabIs Tryd.prog w "internal/strconv.uint64pow10" .u64 Lib.pow10Tab) :
    Calls Tryd.prog 37 #[.int .i64 n] w fun e w' => e = .returned (.string ⟨(Lib.itoa n).toArray⟩) ∧ ∃ k os, w' = grow (w.drewN k) os := Any.strconv_Itoa Tryd.laysM171 n h0 h1 w htab
def Tryd.laysC172_ren : Go.Shelf.Ren := ⟨fun | 172 => 51 | 244 => 60 | 245 => 61 | 247 => 76 | 279 => 77 | 280 => 78 | 281 => 79 | 282 => 80 | 287 => 89 | 316 => 90 | 171 => 37 | 205 => 91 | 321 => 94 | 322 => 95 | 243 => 43 | 246 => 52 | 283 => 62 | 284 => 63 | 285 => 64 | 286 => 65 | 129 => 82 | 317 => 81 | 318 => 83 | 319 => 84 | 320 => 85 | 337 => 92 | 338 => 93 | n => n, fun | 9 => 9 | 3 => 3 | 75 => 71 | 76 => 72 | 4 => 4 | 5 => 5 | 167 => 100 | 37 => 42 | 0 => 0 | 85 => 101 | 2 => 2 | 168 => 103 | 53 => 85 | 175 => 114 | 46 => 98 | 210 => 118 | 127 => 79 | 145 => 129 | 143 => 127 | 21 => 21 | 171 => 84 | 173 => 88 | 212 => 107 | 51 => 108 | 20 => 20 | 213 => 109 | 232 => 130 | 233 => 131 | 80 => 74 | n => n, fun | 15 => 2 | 16 => 3 | 17 => 1 | 18 => 6 | 19 => 7 | n => n⟩
theorem Tryd.laysC172 : Go.Proofs.LaysC.n172 Tryd.prog Tryd.laysC172_ren := {
  mixed := by kernel_rfl
  f129 := Tryd.func82.trans (congrArg some (by kernel_rfl))
  f171 := Tryd.func37.trans (congrArg some (by kernel_rfl))
  f172 := Tryd.func51.trans (congrArg some (by kernel_rfl))
  f205 := Tryd.func91.trans (congrArg some (by kernel_rfl))
  f243 := Tryd.func43.trans (congrArg some (by kernel_rfl))
  f244 := Tryd.func60.trans (congrArg some (by kernel_rfl))
  f245 := Tryd.func61.trans (congrArg some (by kernel_rfl))
  f246 := Tryd.func52.trans (congrArg some (by kernel_rfl))
  f247 := Tryd.func76.trans (congrArg some (by kernel_rfl))
  f279 := Tryd.func77.trans (congrArg some (by kernel_rfl))
  f280 := Tryd.func78.trans (congrArg some (by kernel_rfl))
  f281 := Tryd.func79.trans (congrArg some (by kernel_rfl))
  f282 := Tryd.func80.trans (congrArg some (by kernel_rfl))
  f283 := Tryd.func62.trans (congrArg some (by kernel_rfl))
  f284 := Tryd.func63.trans (congrArg some (by kernel_rfl))
  f285 := Tryd.func64.trans (congrArg some (by kernel_rfl))
  f286 := Tryd.func65.trans (congrArg some (by kernel_rfl))
  f287 := Tryd.func89.trans (congrArg some (by kernel_rfl))
  f316 := Tryd.func90.trans (congrArg some (by kernel_rfl))
  f317 := Tryd.func81.trans (congrArg some (by kernel_rfl))
  f318 := Tryd.func83.trans (congrArg some (by kernel_rfl))
  f319 := Tryd.func84.trans (congrArg some (by kernel_rfl))
  f320 := Tryd.func85.trans (congrArg some (by kernel_rfl))
  f321 := Tryd.func94.trans (congrArg some (by kernel_rfl))
  f322 := Tryd.func95.trans (congrArg some (by kernel_rfl))
  f337 := Tryd.func92.trans (congrArg some (by kernel_rfl))
  f338 := Tryd.func93.trans (congrArg some (by kernel_rfl))
  t0 := Tryd.underlying0
  a0 := Tryd.isAgg0
  z0 := Tryd.sizeOf0
  v0 := Tryd.zeroValue0
  t2 := Tryd.underlying2
  a2 := Tryd.isAgg2
  z2 := Tryd.sizeOf2
  v2 := Tryd.zeroValue2
  t3 := Tryd.underlying3
  a3 := Tryd.isAgg3
  z3 := Tryd.sizeOf3
  v3 := Tryd.zeroValue3
  t4 := Tryd.underlying4
  a4 := Tryd.isAgg4
  z4 := Tryd.sizeOf4
  v4 := Tryd.zeroValue4
  t5 := Tryd.underlying5
  a5 := Tryd.isAgg5
  z5 := Tryd.sizeOf5
  v5 := Tryd.zeroValue5
  t9 := Tryd.underlying9
  a9 := Tryd.isAgg9
  z9 := Tryd.sizeOf9
  v9 := Tryd.zeroValue9
  t20 := Tryd.underlying20
  a20 := Tryd.isAgg20
  z20 := Tryd.sizeOf20
  v20 := Tryd.zeroValue20
  t21 := Tryd.underlying21
  a21 := Tryd.isAgg21
  z21 := Tryd.sizeOf21
  v21 := Tryd.zeroValue21
  t37 := Tryd.underlying42
  a37 := Tryd.isAgg42
  z37 := Tryd.sizeOf42
  v37 := Tryd.zeroValue42
  t46 := Tryd.underlying98
  a46 := Tryd.isAgg98
  z46 := Tryd.sizeOf98
  v46 := Tryd.zeroValue98
  t51 := Tryd.underlying108
  a51 := Tryd.isAgg108
  z51 := Tryd.sizeOf108
  v51 := Tryd.zeroValue108
  t53 := Tryd.underlying85
  a53 := Tryd.isAgg85
  z53 := Tryd.sizeOf85
  v53 := Tryd.zeroValue85
  t75 := Tryd.underlying71
  a75 := Tryd.isAgg71
  z75 := Tryd.sizeOf71
  v75 := Tryd.zeroValue71
  t76 := Tryd.underlying72
  a76 := Tryd.isAgg72
  z76 := Tryd.sizeOf72
  v76 := Tryd.zeroValue72
  t85 := Tryd.underlying101
  a85 := Tryd.isAgg101
  z85 := Tryd.sizeOf101
  v85 := Tryd.zeroValue101
  t127 := Tryd.underlying79
  a127 := Tryd.isAgg79
  z127 := Tryd.sizeOf79
  v127 := Tryd.zeroValue79
  t143 := Tryd.underlying127
  a143 := Tryd.isAgg127
  z143 := Tryd.sizeOf127
  v143 := Tryd.zeroValue127
  t145 := Tryd.underlying129
  a145 := Tryd.isAgg129
  z145 := Tryd.sizeOf129
  v145 := Tryd.zeroValue129
  t167 := Tryd.underlying100
  a167 := Tryd.isAgg100
  z167 := Tryd.sizeOf100
  v167 := Tryd.zeroValue100
  t168 := Tryd.underlying103
  a168 := Tryd.isAgg103
  z168 := Tryd.sizeOf103
  v168 := Tryd.zeroValue103
  t171 := Tryd.underlying84
  a171 := Tryd.isAgg84
  z171 := Tryd.sizeOf84
  v171 := Tryd.zeroValue84
  t173 := Tryd.underlying88
  a173 := Tryd.isAgg88
  z173 := Tryd.sizeOf88
  v173 := Tryd.zeroValue88
  t175 := Tryd.underlying114
  a175 := Tryd.isAgg114
  z175 := Tryd.sizeOf114
  v175 := Tryd.zeroValue114
  t210 := Tryd.underlying118
  a210 := Tryd.isAgg118
  z210 := Tryd.sizeOf118
  v210 := Tryd.zeroValue118
  t212 := Tryd.underlying107
  a212 := Tryd.isAgg107
  z212 := Tryd.sizeOf107
  v212 := Tryd.zeroValue107
  t213 := Tryd.underlying109
  a213 := Tryd.isAgg109
  z213 := Tryd.sizeOf109
  t232 := Tryd.underlying130
  a232 := Tryd.isAgg130
  z232 := Tryd.sizeOf130
  v232 := Tryd.zeroValue130
  t233 := Tryd.underlying131
  a233 := Tryd.isAgg131
  z233 := Tryd.sizeOf131
  v233 := Tryd.zeroValue131
  g15 := by kernel_rfl
  g16 := by kernel_rfl
  g17 := by kernel_rfl
  g18 := by kernel_rfl
  g19 := by kernel_rfl
  t80 := Tryd.underlying74
  a80 := Tryd.isAgg74
  z80 := Tryd.sizeOf74
  v80 := Tryd.zeroValue74
  i0 := by kernel_rfl
  i2 := by kernel_rfl
  i3 := by kernel_rfl
  i4 := by kernel_rfl
  i5 := by kernel_rfl
  i9 := by kernel_rfl
  i20 := by kernel_rfl
  i21 := by kernel_rfl
  i37 := by kernel_rfl
  i46 := by kernel_rfl
  i51 := by kernel_rfl
  i53 := by kernel_rfl
  i75 := by kernel_rfl
  i76 := by kernel_rfl
  i80 := by kernel_rfl
  i85 := by kernel_rfl
  i127 := by kernel_rfl
  i143 := by kernel_rfl
  i145 := by kernel_rfl
  i167 := by kernel_rfl
  i168 := by kernel_rfl
  i171 := by kernel_rfl
  i173 := by kernel_rfl
  i175 := by kernel_rfl
  i210 := by kernel_rfl
  i212 := by kernel_rfl
  i232 := by kernel_rfl
  i233 := by kernel_rfl
  m15 := by kernel_rfl
  m16 := by kernel_rfl
  m17 := by kernel_rfl
  m18 := by kernel_rfl
  m19 := by kernel_rfl
  c0 := by kernel_rfl
  c2 := by kernel_rfl
  c3 := by kernel_rfl
  c4 := by kernel_rfl
  c5 := by kernel_rfl
  c9 := by kernel_rfl
  c20 := by kernel_rfl
  c21 := by kernel_rfl
  c37 := by kernel_rfl
  c46 := by kernel_rfl
  c51 := by kernel_rfl
  c53 := by kernel_rfl
  c75 := by kernel_rfl
  c76 := by kernel_rfl
  c80 := by kernel_rfl
  c85 := by kernel_rfl
  c127 := by kernel_rfl
  c143 := by kernel_rfl
  c145 := by kernel_rfl
  c167 := by kernel_rfl
  c168 := by kernel_rfl
  c171 := by kernel_rfl
  c173 := by kernel_rfl
  c175 := by kernel_rfl
  c210 := by kernel_rfl
  c212 := by kernel_rfl
  c213 := by kernel_rfl
  c232 := by kernel_rfl
  c233 := by kernel_rfl }
open Go.RowKit in
theorem Tryd.strconv_Atoi_ok (s : ByteArray) (hmax : s.size ≤ 9223372036854775806) (v : Int) (h : Lib.atoiAll s.data.toList = .ok v) (w : World) :
    Calls Tryd.prog 51 #[.string s] w fun e w' => e = .returned (.tuple #[.int .i64 v, .nilIface]) ∧ (w' = w ∨ ∃ t, w' = Lib.bytesWorld w 5 t) := Any.strconv_Atoi_ok Tryd.laysC172 s hmax v h w
def Tryd.lays145_ren : Go.Shelf.Ren := ⟨fun | 145 => 41 | 220 => 48 | 219 => 58 | 217 => 71 | 225 => 72 | 224 => 73 | 267 => 74 | 266 => 87 | 314 => 88 | n => n, fun | 9 => 9 | 4 => 4 | 59 => 62 | 3 => 3 | 5 => 5 | 46 => 98 | 146 => 112 | 51 => 108 | n => n, fun | 1 => 0 | n => n⟩
theorem Tryd.lays145 : Go.Proofs.Lays.n145 Tryd.prog Tryd.lays145_ren := {
  mixed := by kernel_rfl
  f145 := Tryd.func41.trans (congrArg some (by kernel_rfl))
  f217 := Tryd.func71.trans (congrArg some (by kernel_rfl))
  f219 := Tryd.func58.trans (congrArg some (by kernel_rfl))
  f220 := Tryd.func48.trans (congrArg some (by kernel_rfl))
  f224 := Tryd.func73.trans (congrArg some (by kernel_rfl))
  f225 := Tryd.func72.trans (congrArg some (by kernel_rfl))
  f266 := Tryd.func87.trans (congrArg some (by kernel_rfl))
  f267 := Tryd.func74.trans (congrArg some (by kernel_rfl))
  f314 := Tryd.func88.trans (congrArg some (by kernel_rfl))
  t3 := Tryd.underlying3
  a3 := Tryd.isAgg3
  z3 := Tryd.sizeOf3
  v3 := Tryd.zeroValue3
  t4 := Tryd.underlying4
  a4 := Tryd.isAgg4
  z4 := Tryd.sizeOf4
  v4 := Tryd.zeroValue4
  t5 := Tryd.underlying5
  a5 := Tryd.isAgg5
  z5 := Tryd.sizeOf5
  v5 := Tryd.zeroValue5
  t9 := Tryd.underlying9
  a9 := Tryd.isAgg9
  z9 := Tryd.sizeOf9
  v9 := Tryd.zeroValue9
  t46 := Tryd.underlying98
  a46 := Tryd.isAgg98
  z46 := Tryd.sizeOf98
  v46 := Tryd.zeroValue98
  t51 := Tryd.underlying108
  a51 := Tryd.isAgg108
  z51 := Tryd.sizeOf108
  v51 := Tryd.zeroValue108
  t59 := Tryd.underlying62
  a59 := Tryd.isAgg62
  z59 := Tryd.sizeOf62
  v59 := Tryd.zeroValue62
  t146 := Tryd.underlying112
  a146 := Tryd.isAgg112
  z146 := Tryd.sizeOf112
  v146 := Tryd.zeroValue112
  g1 := by kernel_rfl }
open Go.RowKit Go.Lib in
theorem Tryd.strings_Cut (s sep : ByteArray) (m : Int) (w : World) (hs : s.size < 4294967281) (hm : w.cell? ⟨0, 0, none⟩ = some (.int .i64 m)) :
    Calls Tryd.prog 41 #[.string s, .string sep] w fun e w' => e = .returned (.tuple #[.string ⟨(Lib.cut s.data.toList sep.data.toList).1.toArray⟩, .string ⟨(Lib.cut s.data.toList sep.data.toList).2.1.toArray⟩, .bool (Lib.cut s.data.toList sep.data.toList).2.2]) ∧ ∃ n, w' = w.drewN n := Any.strings_Cut Tryd.lays145 s sep m w hs hm
def Tryd.lays146_ren : Go.Shelf.Ren := ⟨fun | 146 => 40 | 221 => 47 | 268 => 55 | 138 => 56 | 143 => 57 | 195 => 68 | 197 => 69 | 218 => 70 | 219 => 58 | 260 => 86 | 217 => 71 | 225 => 72 | 224 => 73 | 267 => 74 | 266 => 87 | 314 => 88 | n => n, fun | 9 => 9 | 31 => 58 | 3 => 3 | 4 => 4 | 0 => 0 | 105 => 94 | 21 => 21 | 5 => 5 | 46 => 98 | 119 => 121 | 139 => 124 | 138 => 123 | 146 => 112 | 51 => 108 | n => n, fun | 1 => 0 | 3 => 4 | 4 => 5 | n => n⟩
theorem Tryd.lays146 : Go.Proofs.Lays.n146 Tryd.prog Tryd.lays146_ren := {
  mixed := by kernel_rfl
  f138 := Tryd.func56.trans (congrArg some (by kernel_rfl))
  f143 := Tryd.func57.trans (congrArg some (by kernel_rfl))
  f146 := Tryd.func40.trans (congrArg some (by kernel_rfl))
  f195 := Tryd.func68.trans (congrArg some (by kernel_rfl))
  f197 := Tryd.func69.trans (congrArg some (by kernel_rfl))
  f217 := Tryd.func71.trans (congrArg some (by kernel_rfl))
  f218 := Tryd.func70.trans (congrArg some (by kernel_rfl))
  f219 := Tryd.func58.trans (congrArg some (by kernel_rfl))
  f221 := Tryd.func47.trans (congrArg some (by kernel_rfl))
  f224 := Tryd.func73.trans (congrArg some (by kernel_rfl))
  f225 := Tryd.func72.trans (congrArg some (by kernel_rfl))
  f260 := Tryd.func86.trans (congrArg some (by kernel_rfl))
  f266 := Tryd.func87.trans (congrArg some (by kernel_rfl))
  f267 := Tryd.func74.trans (congrArg some (by kernel_rfl))
  f268 := Tryd.func55.trans (congrArg some (by kernel_rfl))
  f314 := Tryd.func88.trans (congrArg some (by kernel_rfl))
  t0 := Tryd.underlying0
  a0 := Tryd.isAgg0
  z0 := Tryd.sizeOf0
  v0 := Tryd.zeroValue0
  t3 := Tryd.underlying3
  a3 := Tryd.isAgg3
  z3 := Tryd.sizeOf3
  v3 := Tryd.zeroValue3
  t4 := Tryd.underlying4
  a4 := Tryd.isAgg4
  z4 := Tryd.sizeOf4
  v4 := Tryd.zeroValue4
  t5 := Tryd.underlying5
  a5 := Tryd.isAgg5
  z5 := Tryd.sizeOf5
  v5 := Tryd.zeroValue5
  t9 := Tryd.underlying9
  a9 := Tryd.isAgg9
  z9 := Tryd.sizeOf9
  v9 := Tryd.zeroValue9
  t21 := Tryd.underlying21
  a21 := Tryd.isAgg21
  z21 := Tryd.sizeOf21
  v21 := Tryd.zeroValue21
  t31 := Tryd.underlying58
  a31 := Tryd.isAgg58
  z31 := Tryd.sizeOf58
  v31 := Tryd.zeroValue58
  t46 := Tryd.underlying98
  a46 := Tryd.isAgg98
  z46 := Tryd.sizeOf98
  v46 := Tryd.zeroValue98
  t51 := Tryd.underlying108
  a51 := Tryd.isAgg108
  z51 := Tryd.sizeOf108
  v51 := Tryd.zeroValue108
  t105 := Tryd.underlying94
  a105 := Tryd.isAgg94
  z105 := Tryd.sizeOf94
  v105 := Tryd.zeroValue94
  t119 := Tryd.underlying121
  a119 := Tryd.isAgg121
  z119 := Tryd.sizeOf121
  t138 := Tryd.underlying123
  a138 := Tryd.isAgg123
  z138 := Tryd.sizeOf123
  v138 := Tryd.zeroValue123
  t139 := Tryd.underlying124
  a139 := Tryd.isAgg124
  z139 := Tryd.sizeOf124
  v139 := Tryd.zeroValue124
  t146 := Tryd.underlying112
  a146 := Tryd.isAgg112
  z146 := Tryd.sizeOf112
  v146 := Tryd.zeroValue112
  g1 := by kernel_rfl
  g3 := by kernel_rfl
  g4 := by kernel_rfl }
open Go.RowKit Go.Lib in
theorem Tryd.strings_Split (s sep : ByteArray) (m : Int) (w : World) (hs : s.size < 4294967281) (hm : w.cell? ⟨0, 0, none⟩ = some (.int .i64 m)) (h1 : 1 ≤ sep.size) :
    Calls Tryd.prog 40 #[.string s, .string sep] w fun e w' =>
      e = .returned (.slice (some ⟨w.heap.size, 0, none⟩) (Lib.countB s sep + 1) (Lib.countB s sep + 1)) ∧ w' = w.alloc (.cells ((Lib.splitB sep 0 (Lib.countB s sep) s).map Value.string).toArray 9) := Any.strings_Split Tryd.lays146 (by kernel_rfl) s sep m w hs hm h1
end Go.Proofs
