/-
  DERIVED: THE SHELF's CONTRACTS AT THIS DUMP, IN PLAIN WORDS (tools/lay-plain.mjs out of 'TryzShelf.lean', which tools/lay-shelf.mjs wrote): THE SAME DECLARATIONS UNDER THE SAME NAMES: 'import', 'namespace', 'open', 'def', 'theorem' AND NOTHING ELSE: no command of the shelf's: FOR A HAND-IN. Each laying: the table of numbers ('.._ren') and one theorem, a field a fact of the dump's own or the kernel's comparison; each contract: ONE APPLICATION.
-/
import Derived.Shelf.Strings.Builder1
import Derived.Shelf.Strings.Builder2
import Derived.Shelf.Strings.OnBuilder
import Derived.Shelf.Strings.Trim
import Derived.Shelf.Small.Utf8
import Derived.Shelf.Small.Strs
import Derived.Shelf.Strings.BuilderF
import Derived.Shelf.Strings.BuilderK
import Derived.Shelf.Utf8.RuneCount
import Derived.Shelf.Strings.Builder2Cap
import Derived.Shelf.Strconv.Atoi
import Derived.Shelf.Strconv.Itoa0
import Derived.Shelf.Strconv.Itoa1
import Derived.Shelf.LaysM
import Derived.Shelf.Strconv.Itoa2
import Derived.Shelf.Strconv.Itoa3
import Derived.Shelf.Strconv.AtoiErrFast
import Derived.Shelf.Strconv.ParseIntEmpty
import Derived.Shelf.Strconv.AtoiFail
import Derived.Shelf.Strconv.Clone
import Derived.Shelf.Strconv.SyntaxError
import Derived.Shelf.LaysC
import Derived.Shelf.Strconv.ToError
import Derived.Shelf.Strconv.Lower
import Derived.Shelf.Strconv.ParseUint10
import Derived.Shelf.Strconv.ParseUint10Empty
import Derived.Shelf.Strconv.ParseUint10Any
import Derived.Shelf.Strconv.ParseInt10
import Derived.Shelf.Strconv.AtoiLong
import Derived.Shelf.Strconv.AtoiInnerAll
import Derived.Shelf.Strconv.RangeError
import Derived.Shelf.Strconv.ToErrorRange
import Derived.Shelf.Strconv.AtoiAll
import Derived.Shelf.Strconv.ErrVarAll
import Derived.Shelf.Strconv.ParseUintEmpty
import Derived.Shelf.Strconv.ParseUint10b64
import Derived.Shelf.Strconv.ParseUint10b32
import Derived.Shelf.Strconv.ParseUint10b16
import Derived.Shelf.Strconv.ParseUint10b8
import Derived.Shelf.Strings.Search1
import Derived.Shelf.Strings.Search2
import Derived.Shelf.Strings.Search3
import Derived.Shelf.Strings.Cut
import Derived.Shelf.Strings.Count
import Derived.Shelf.Strings.Shaped
import Derived.Shelf.Strings.Prefix
import Derived.Shelf.Strings.Split
import Derived.Shelf.Unicode.Decode
import Derived.Shelf.Strings.Runes
import Derived.Shelf.Strings.RuneCount
import Derived.Shelf.Strings.AsciiSet
import Derived.Shelf.Unicode.DecodeSlow
import Derived.Shelf.Unicode.DecodeAny
import Derived.Shelf.Unicode.DecodeLast
import Derived.Shelf.Slices.Turned
import Derived.Test.YtiklkhbfilbpeaaGreatDoorProg
namespace Go.Proofs
open Go.Shelf
def Tryz.lays156_ren : Go.Shelf.Ren := ⟨fun | 156 => 56 | 165 => 73 | 166 => 60 | 169 => 16 | 240 => 74 | 241 => 98 | 276 => 99 | 277 => 114 | n => n, fun | 31 => 33 | 9 => 9 | 3 => 3 | 4 => 4 | 0 => 0 | 20 => 20 | 72 => 51 | 76 => 91 | 70 => 48 | 37 => 49 | 75 => 90 | 127 => 78 | 164 => 117 | 5 => 5 | 80 => 56 | n => n, fun | n => n⟩
theorem Tryz.lays156 : Go.Proofs.Lays.n156 Tryz.prog Tryz.lays156_ren := {
  mixed := by kernel_rfl
  f156 := Tryz.func56.trans (congrArg some (by kernel_rfl))
  f165 := Tryz.func73.trans (congrArg some (by kernel_rfl))
  f166 := Tryz.func60.trans (congrArg some (by kernel_rfl))
  f169 := Tryz.func16.trans (congrArg some (by kernel_rfl))
  f240 := Tryz.func74.trans (congrArg some (by kernel_rfl))
  f241 := Tryz.func98.trans (congrArg some (by kernel_rfl))
  f276 := Tryz.func99.trans (congrArg some (by kernel_rfl))
  f277 := Tryz.func114.trans (congrArg some (by kernel_rfl))
  t0 := Tryz.underlying0
  a0 := Tryz.isAgg0
  z0 := Tryz.sizeOf0
  v0 := Tryz.zeroValue0
  t3 := Tryz.underlying3
  a3 := Tryz.isAgg3
  z3 := Tryz.sizeOf3
  v3 := Tryz.zeroValue3
  t4 := Tryz.underlying4
  a4 := Tryz.isAgg4
  z4 := Tryz.sizeOf4
  v4 := Tryz.zeroValue4
  t9 := Tryz.underlying9
  a9 := Tryz.isAgg9
  z9 := Tryz.sizeOf9
  v9 := Tryz.zeroValue9
  t20 := Tryz.underlying20
  a20 := Tryz.isAgg20
  z20 := Tryz.sizeOf20
  v20 := Tryz.zeroValue20
  t31 := Tryz.underlying33
  a31 := Tryz.isAgg33
  z31 := Tryz.sizeOf33
  v31 := Tryz.zeroValue33
  t37 := Tryz.underlying49
  a37 := Tryz.isAgg49
  z37 := Tryz.sizeOf49
  v37 := Tryz.zeroValue49
  t70 := Tryz.underlying48
  a70 := Tryz.isAgg48
  z70 := Tryz.sizeOf48
  v70 := Tryz.zeroValue48
  t72 := Tryz.underlying51
  a72 := Tryz.isAgg51
  z72 := Tryz.sizeOf51
  v72 := Tryz.zeroValue51
  t75 := Tryz.underlying90
  a75 := Tryz.isAgg90
  z75 := Tryz.sizeOf90
  v75 := Tryz.zeroValue90
  t76 := Tryz.underlying91
  a76 := Tryz.isAgg91
  z76 := Tryz.sizeOf91
  v76 := Tryz.zeroValue91
  t127 := Tryz.underlying78
  a127 := Tryz.isAgg78
  z127 := Tryz.sizeOf78
  v127 := Tryz.zeroValue78
  t164 := Tryz.underlying117
  a164 := Tryz.isAgg117
  z164 := Tryz.sizeOf117
  v164 := Tryz.zeroValue117 }
theorem Tryz.Builder_Extra_156 : Builder.Extra Tryz.prog Tryz.lays156_ren := {
  sizeBuilder := by kernel_rfl
  liesBuilder := by kernel_rfl
  t5 := Tryz.underlying5
  a5 := Tryz.isAgg5
  z5 := Tryz.sizeOf5
  v5 := Tryz.zeroValue5
  infoByte := by kernel_rfl
  cellsByte := by kernel_rfl
  sizeByte := by kernel_rfl
  neB5 := by decide }
open Go.RowKit in
/-- No element: the empty string; the world is as it was. (Whatever the slice's address and capacity: a nil slice too.) (LAID: no walk: one application.) -/
theorem Tryz.strings_Join_none (a : Option Addr) (c : Nat) (sep : ByteArray) (w : World) :
    Calls Tryz.prog 56 #[.slice a 0 c, .string sep] w fun e w' => e = .returned (.string ⟨#[]⟩) ∧ w' = w := Any.strings_Join_none Tryz.lays156 Tryz.Builder_Extra_156 a c sep w
open Go.RowKit in
/-- strings.Join: "Join concatenates the elements of its first argument to create a single string. The separator string sep is placed between elements in the resulting string.": HOWEVER MANY ELEMENTS. Below the heap's end the world is as it was. (LAID: no walk: one application.) -/
theorem Tryz.strings_Join (bk o c : Nat) (xs : List ByteArray) (sep : ByteArray) (w : World) (hcells : ∀ (j : Nat) x, xs[j]? = some x → w.cell? ⟨bk, o + j, none⟩ = some (.string x)) (hbk : bk < w.heap.size) (hN : xs.length ≤ 140737488355328) (hcap : xs.length ≤ c) (hlen : (Lib.join (xs.map (·.data.toList)) sep.data.toList).length ≤ 140737488355328) :
    Calls Tryz.prog 56 #[.slice (some ⟨bk, o, none⟩) xs.length c, .string sep] w fun e w' => e = .returned (.string ⟨(Lib.join (xs.map (·.data.toList)) sep.data.toList).toArray⟩) ∧ Below w.heap.size w w' := Any.strings_Join Tryz.lays156 Tryz.Builder_Extra_156 bk o c xs sep w hcells hbk hN hcap hlen
def Tryz.lays160_ren : Go.Shelf.Ren := ⟨fun | 160 => 70 | 232 => 89 | 231 => 88 | 227 => 90 | 234 => 92 | 233 => 91 | 236 => 94 | 235 => 93 | 228 => 106 | 271 => 109 | 151 => 108 | 197 => 107 | 120 => 124 | 152 => 123 | 260 => 122 | 137 => 149 | 119 => 150 | 224 => 80 | 225 => 79 | 217 => 78 | 266 => 103 | n => n, fun | 9 => 9 | 4 => 4 | 3 => 3 | 5 => 5 | 117 => 111 | 116 => 110 | 0 => 0 | 124 => 114 | 21 => 21 | 105 => 140 | 46 => 105 | 119 => 173 | 139 => 182 | 138 => 181 | n => n, fun | 3 => 4 | 4 => 5 | n => n⟩
theorem Tryz.lays160 : Go.Proofs.Lays.n160 Tryz.prog Tryz.lays160_ren := {
  mixed := by kernel_rfl
  f119 := Tryz.func150.trans (congrArg some (by kernel_rfl))
  f120 := Tryz.func124.trans (congrArg some (by kernel_rfl))
  f137 := Tryz.func149.trans (congrArg some (by kernel_rfl))
  f151 := Tryz.func108.trans (congrArg some (by kernel_rfl))
  f152 := Tryz.func123.trans (congrArg some (by kernel_rfl))
  f160 := Tryz.func70.trans (congrArg some (by kernel_rfl))
  f197 := Tryz.func107.trans (congrArg some (by kernel_rfl))
  f217 := Tryz.func78.trans (congrArg some (by kernel_rfl))
  f224 := Tryz.func80.trans (congrArg some (by kernel_rfl))
  f225 := Tryz.func79.trans (congrArg some (by kernel_rfl))
  f227 := Tryz.func90.trans (congrArg some (by kernel_rfl))
  f228 := Tryz.func106.trans (congrArg some (by kernel_rfl))
  f231 := Tryz.func88.trans (congrArg some (by kernel_rfl))
  f232 := Tryz.func89.trans (congrArg some (by kernel_rfl))
  f233 := Tryz.func91.trans (congrArg some (by kernel_rfl))
  f234 := Tryz.func92.trans (congrArg some (by kernel_rfl))
  f235 := Tryz.func93.trans (congrArg some (by kernel_rfl))
  f236 := Tryz.func94.trans (congrArg some (by kernel_rfl))
  f260 := Tryz.func122.trans (congrArg some (by kernel_rfl))
  f266 := Tryz.func103.trans (congrArg some (by kernel_rfl))
  f271 := Tryz.func109.trans (congrArg some (by kernel_rfl))
  t0 := Tryz.underlying0
  a0 := Tryz.isAgg0
  z0 := Tryz.sizeOf0
  v0 := Tryz.zeroValue0
  t3 := Tryz.underlying3
  a3 := Tryz.isAgg3
  z3 := Tryz.sizeOf3
  v3 := Tryz.zeroValue3
  t4 := Tryz.underlying4
  a4 := Tryz.isAgg4
  z4 := Tryz.sizeOf4
  v4 := Tryz.zeroValue4
  t5 := Tryz.underlying5
  a5 := Tryz.isAgg5
  z5 := Tryz.sizeOf5
  v5 := Tryz.zeroValue5
  t9 := Tryz.underlying9
  a9 := Tryz.isAgg9
  z9 := Tryz.sizeOf9
  v9 := Tryz.zeroValue9
  t21 := Tryz.underlying21
  a21 := Tryz.isAgg21
  z21 := Tryz.sizeOf21
  v21 := Tryz.zeroValue21
  t46 := Tryz.underlying105
  a46 := Tryz.isAgg105
  z46 := Tryz.sizeOf105
  v46 := Tryz.zeroValue105
  t105 := Tryz.underlying140
  a105 := Tryz.isAgg140
  z105 := Tryz.sizeOf140
  v105 := Tryz.zeroValue140
  t116 := Tryz.underlying110
  a116 := Tryz.isAgg110
  z116 := Tryz.sizeOf110
  t117 := Tryz.underlying111
  a117 := Tryz.isAgg111
  z117 := Tryz.sizeOf111
  v117 := Tryz.zeroValue111
  t119 := Tryz.underlying173
  a119 := Tryz.isAgg173
  z119 := Tryz.sizeOf173
  t124 := Tryz.underlying114
  a124 := Tryz.isAgg114
  z124 := Tryz.sizeOf114
  v124 := Tryz.zeroValue114
  t138 := Tryz.underlying181
  a138 := Tryz.isAgg181
  z138 := Tryz.sizeOf181
  v138 := Tryz.zeroValue181
  t139 := Tryz.underlying182
  a139 := Tryz.isAgg182
  z139 := Tryz.sizeOf182
  v139 := Tryz.zeroValue182
  g3 := by kernel_rfl
  g4 := by kernel_rfl }
open Go.RowKit in
/-- strings.Trim: "Trim returns a slice of the string s with all leading and trailing Unicode code points contained in cutset removed.": AT A cutset OF ONE ASCII BYTE. THE WORLD BEHIND IT: as it was, or (where s is not empty) with ONE DRAW MORE off the tape: the statement 'return trimLeftByte(trimRightByte(s, c), c)' draws its order of evaluation. (LAID: no walk: one application.) -/
theorem Tryz.strings_Trim_one (s : ByteArray) (c : UInt8) (hc : c.toNat < 128) (w : World) (hs : s.size ≤ 9223372036854775807) :
    Calls Tryz.prog 70 #[.string s, .string ⟨#[c]⟩] w fun e w' => e = .returned (.string ⟨(Lib.trimB s.data.toList c).toArray⟩) ∧ (w' = w ∨ w' = w.drew) := Any.strings_Trim_one Tryz.lays160 s c hc w hs
def Tryz.lays171_ren : Go.Shelf.Ren := ⟨fun | 171 => 61 | 243 => 75 | 246 => 100 | 283 => 115 | 284 => 116 | 285 => 117 | 286 => 118 | 129 => 139 | 317 => 138 | 318 => 140 | 319 => 141 | 320 => 142 | 337 => 156 | 338 => 157 | n => n, fun | 3 => 3 | 9 => 9 | 2 => 2 | 4 => 4 | 171 => 147 | 0 => 0 | 53 => 148 | 37 => 49 | 5 => 5 | 173 => 151 | 212 => 161 | 51 => 123 | 20 => 20 | 213 => 162 | 46 => 105 | 232 => 202 | 233 => 203 | n => n, fun | 17 => 3 | 18 => 6 | 19 => 7 | n => n⟩
theorem Tryz.lays171 : Go.Proofs.Lays.n171 Tryz.prog Tryz.lays171_ren := {
  mixed := by kernel_rfl
  f129 := Tryz.func139.trans (congrArg some (by kernel_rfl))
  f171 := Tryz.func61.trans (congrArg some (by kernel_rfl))
  f243 := Tryz.func75.trans (congrArg some (by kernel_rfl))
  f246 := Tryz.func100.trans (congrArg some (by kernel_rfl))
  f283 := Tryz.func115.trans (congrArg some (by kernel_rfl))
  f284 := Tryz.func116.trans (congrArg some (by kernel_rfl))
  f285 := Tryz.func117.trans (congrArg some (by kernel_rfl))
  f286 := Tryz.func118.trans (congrArg some (by kernel_rfl))
  f317 := Tryz.func138.trans (congrArg some (by kernel_rfl))
  f318 := Tryz.func140.trans (congrArg some (by kernel_rfl))
  f319 := Tryz.func141.trans (congrArg some (by kernel_rfl))
  f320 := Tryz.func142.trans (congrArg some (by kernel_rfl))
  f337 := Tryz.func156.trans (congrArg some (by kernel_rfl))
  f338 := Tryz.func157.trans (congrArg some (by kernel_rfl))
  t0 := Tryz.underlying0
  a0 := Tryz.isAgg0
  z0 := Tryz.sizeOf0
  v0 := Tryz.zeroValue0
  t2 := Tryz.underlying2
  a2 := Tryz.isAgg2
  z2 := Tryz.sizeOf2
  v2 := Tryz.zeroValue2
  t3 := Tryz.underlying3
  a3 := Tryz.isAgg3
  z3 := Tryz.sizeOf3
  v3 := Tryz.zeroValue3
  t4 := Tryz.underlying4
  a4 := Tryz.isAgg4
  z4 := Tryz.sizeOf4
  v4 := Tryz.zeroValue4
  t5 := Tryz.underlying5
  a5 := Tryz.isAgg5
  z5 := Tryz.sizeOf5
  v5 := Tryz.zeroValue5
  t9 := Tryz.underlying9
  a9 := Tryz.isAgg9
  z9 := Tryz.sizeOf9
  v9 := Tryz.zeroValue9
  t20 := Tryz.underlying20
  a20 := Tryz.isAgg20
  z20 := Tryz.sizeOf20
  v20 := Tryz.zeroValue20
  t37 := Tryz.underlying49
  a37 := Tryz.isAgg49
  z37 := Tryz.sizeOf49
  v37 := Tryz.zeroValue49
  t46 := Tryz.underlying105
  a46 := Tryz.isAgg105
  z46 := Tryz.sizeOf105
  v46 := Tryz.zeroValue105
  t51 := Tryz.underlying123
  a51 := Tryz.isAgg123
  z51 := Tryz.sizeOf123
  v51 := Tryz.zeroValue123
  t53 := Tryz.underlying148
  a53 := Tryz.isAgg148
  z53 := Tryz.sizeOf148
  v53 := Tryz.zeroValue148
  t171 := Tryz.underlying147
  a171 := Tryz.isAgg147
  z171 := Tryz.sizeOf147
  v171 := Tryz.zeroValue147
  t173 := Tryz.underlying151
  a173 := Tryz.isAgg151
  z173 := Tryz.sizeOf151
  v173 := Tryz.zeroValue151
  t212 := Tryz.underlying161
  a212 := Tryz.isAgg161
  z212 := Tryz.sizeOf161
  v212 := Tryz.zeroValue161
  t213 := Tryz.underlying162
  a213 := Tryz.isAgg162
  z213 := Tryz.sizeOf162
  t232 := Tryz.underlying202
  a232 := Tryz.isAgg202
  z232 := Tryz.sizeOf202
  v232 := Tryz.zeroValue202
  t233 := Tryz.underlying203
  a233 := Tryz.isAgg203
  z233 := Tryz.sizeOf203
  v233 := Tryz.zeroValue203
  g17 := by kernel_rfl
  g18 := by kernel_rfl
  g19 := by kernel_rfl }
open Go.RowKit Go.Sort Go.Lib in
/-- THE ROAD WITHOUT THE TABLE: 0 <= i < 100: NO PREMISE ON THE WORLD, AND THE WORLD IS AS IT WAS: a row that keeps its argument in that range need list no table ('laid = []'). (LAID: no walk: one application.) -/
theorem Tryz.strconv_Itoa_small (i : Nat) (hi : i < 100) (w : World) :
    Calls Tryz.prog 61 #[.int .i64 i] w fun e w' => e = .returned (.string ⟨(Lib.decDigits i).toArray⟩) ∧ w' = w := Any.strconv_Itoa_small Tryz.lays171 i hi w
def Tryz.laysC172_ren : Go.Shelf.Ren := ⟨fun | 172 => 155 | 244 => 164 | 245 => 165 | 247 => 175 | 279 => 176 | 280 => 177 | 281 => 178 | 282 => 179 | 287 => 187 | 316 => 188 | 171 => 61 | 205 => 189 | 321 => 190 | 322 => 191 | 243 => 75 | 246 => 100 | 283 => 115 | 284 => 116 | 285 => 117 | 286 => 118 | 129 => 139 | 317 => 138 | 318 => 140 | 319 => 141 | 320 => 142 | 337 => 156 | 338 => 157 | n => n, fun | 9 => 9 | 3 => 3 | 75 => 90 | 76 => 91 | 4 => 4 | 5 => 5 | 167 => 213 | 37 => 49 | 0 => 0 | 85 => 214 | 2 => 2 | 168 => 216 | 53 => 148 | 175 => 222 | 46 => 105 | 210 => 225 | 127 => 78 | 145 => 230 | 143 => 228 | 21 => 21 | 171 => 147 | 173 => 151 | 212 => 161 | 51 => 123 | 20 => 20 | 213 => 162 | 232 => 202 | 233 => 203 | 80 => 56 | n => n, fun | 15 => 8 | 16 => 9 | 17 => 3 | 18 => 6 | 19 => 7 | n => n⟩
theorem Tryz.laysC172 : Go.Proofs.LaysC.n172 Tryz.prog Tryz.laysC172_ren := {
  mixed := by kernel_rfl
  f129 := Tryz.func139.trans (congrArg some (by kernel_rfl))
  f171 := Tryz.func61.trans (congrArg some (by kernel_rfl))
  f172 := Tryz.func155.trans (congrArg some (by kernel_rfl))
  f205 := Tryz.func189.trans (congrArg some (by kernel_rfl))
  f243 := Tryz.func75.trans (congrArg some (by kernel_rfl))
  f244 := Tryz.func164.trans (congrArg some (by kernel_rfl))
  f245 := Tryz.func165.trans (congrArg some (by kernel_rfl))
  f246 := Tryz.func100.trans (congrArg some (by kernel_rfl))
  f247 := Tryz.func175.trans (congrArg some (by kernel_rfl))
  f279 := Tryz.func176.trans (congrArg some (by kernel_rfl))
  f280 := Tryz.func177.trans (congrArg some (by kernel_rfl))
  f281 := Tryz.func178.trans (congrArg some (by kernel_rfl))
  f282 := Tryz.func179.trans (congrArg some (by kernel_rfl))
  f283 := Tryz.func115.trans (congrArg some (by kernel_rfl))
  f284 := Tryz.func116.trans (congrArg some (by kernel_rfl))
  f285 := Tryz.func117.trans (congrArg some (by kernel_rfl))
  f286 := Tryz.func118.trans (congrArg some (by kernel_rfl))
  f287 := Tryz.func187.trans (congrArg some (by kernel_rfl))
  f316 := Tryz.func188.trans (congrArg some (by kernel_rfl))
  f317 := Tryz.func138.trans (congrArg some (by kernel_rfl))
  f318 := Tryz.func140.trans (congrArg some (by kernel_rfl))
  f319 := Tryz.func141.trans (congrArg some (by kernel_rfl))
  f320 := Tryz.func142.trans (congrArg some (by kernel_rfl))
  f321 := Tryz.func190.trans (congrArg some (by kernel_rfl))
  f322 := Tryz.func191.trans (congrArg some (by kernel_rfl))
  f337 := Tryz.func156.trans (congrArg some (by kernel_rfl))
  f338 := Tryz.func157.trans (congrArg some (by kernel_rfl))
  t0 := Tryz.underlying0
  a0 := Tryz.isAgg0
  z0 := Tryz.sizeOf0
  v0 := Tryz.zeroValue0
  t2 := Tryz.underlying2
  a2 := Tryz.isAgg2
  z2 := Tryz.sizeOf2
  v2 := Tryz.zeroValue2
  t3 := Tryz.underlying3
  a3 := Tryz.isAgg3
  z3 := Tryz.sizeOf3
  v3 := Tryz.zeroValue3
  t4 := Tryz.underlying4
  a4 := Tryz.isAgg4
  z4 := Tryz.sizeOf4
  v4 := Tryz.zeroValue4
  t5 := Tryz.underlying5
  a5 := Tryz.isAgg5
  z5 := Tryz.sizeOf5
  v5 := Tryz.zeroValue5
  t9 := Tryz.underlying9
  a9 := Tryz.isAgg9
  z9 := Tryz.sizeOf9
  v9 := Tryz.zeroValue9
  t20 := Tryz.underlying20
  a20 := Tryz.isAgg20
  z20 := Tryz.sizeOf20
  v20 := Tryz.zeroValue20
  t21 := Tryz.underlying21
  a21 := Tryz.isAgg21
  z21 := Tryz.sizeOf21
  v21 := Tryz.zeroValue21
  t37 := Tryz.underlying49
  a37 := Tryz.isAgg49
  z37 := Tryz.sizeOf49
  v37 := Tryz.zeroValue49
  t46 := Tryz.underlying105
  a46 := Tryz.isAgg105
  z46 := Tryz.sizeOf105
  v46 := Tryz.zeroValue105
  t51 := Tryz.underlying123
  a51 := Tryz.isAgg123
  z51 := Tryz.sizeOf123
  v51 := Tryz.zeroValue123
  t53 := Tryz.underlying148
  a53 := Tryz.isAgg148
  z53 := Tryz.sizeOf148
  v53 := Tryz.zeroValue148
  t75 := Tryz.underlying90
  a75 := Tryz.isAgg90
  z75 := Tryz.sizeOf90
  v75 := Tryz.zeroValue90
  t76 := Tryz.underlying91
  a76 := Tryz.isAgg91
  z76 := Tryz.sizeOf91
  v76 := Tryz.zeroValue91
  t85 := Tryz.underlying214
  a85 := Tryz.isAgg214
  z85 := Tryz.sizeOf214
  v85 := Tryz.zeroValue214
  t127 := Tryz.underlying78
  a127 := Tryz.isAgg78
  z127 := Tryz.sizeOf78
  v127 := Tryz.zeroValue78
  t143 := Tryz.underlying228
  a143 := Tryz.isAgg228
  z143 := Tryz.sizeOf228
  v143 := Tryz.zeroValue228
  t145 := Tryz.underlying230
  a145 := Tryz.isAgg230
  z145 := Tryz.sizeOf230
  v145 := Tryz.zeroValue230
  t167 := Tryz.underlying213
  a167 := Tryz.isAgg213
  z167 := Tryz.sizeOf213
  v167 := Tryz.zeroValue213
  t168 := Tryz.underlying216
  a168 := Tryz.isAgg216
  z168 := Tryz.sizeOf216
  v168 := Tryz.zeroValue216
  t171 := Tryz.underlying147
  a171 := Tryz.isAgg147
  z171 := Tryz.sizeOf147
  v171 := Tryz.zeroValue147
  t173 := Tryz.underlying151
  a173 := Tryz.isAgg151
  z173 := Tryz.sizeOf151
  v173 := Tryz.zeroValue151
  t175 := Tryz.underlying222
  a175 := Tryz.isAgg222
  z175 := Tryz.sizeOf222
  v175 := Tryz.zeroValue222
  t210 := Tryz.underlying225
  a210 := Tryz.isAgg225
  z210 := Tryz.sizeOf225
  v210 := Tryz.zeroValue225
  t212 := Tryz.underlying161
  a212 := Tryz.isAgg161
  z212 := Tryz.sizeOf161
  v212 := Tryz.zeroValue161
  t213 := Tryz.underlying162
  a213 := Tryz.isAgg162
  z213 := Tryz.sizeOf162
  t232 := Tryz.underlying202
  a232 := Tryz.isAgg202
  z232 := Tryz.sizeOf202
  v232 := Tryz.zeroValue202
  t233 := Tryz.underlying203
  a233 := Tryz.isAgg203
  z233 := Tryz.sizeOf203
  v233 := Tryz.zeroValue203
  g15 := by kernel_rfl
  g16 := by kernel_rfl
  g17 := by kernel_rfl
  g18 := by kernel_rfl
  g19 := by kernel_rfl
  t80 := Tryz.underlying56
  a80 := Tryz.isAgg56
  z80 := Tryz.sizeOf56
  v80 := Tryz.zeroValue56
  i0 := by kernel_rfl
  i2 := by kernel_rfl
  i3 := by kernel_rfl
  i4 := by kernel_rfl
  i5 := by kernel_rfl
  i9 := by kernel_rfl
  i20 := by kernel_rfl
  i21 := by kernel_rfl
  i37 := by kernel_rfl
  i46 := by kernel_rfl
  i51 := by kernel_rfl
  i53 := by kernel_rfl
  i75 := by kernel_rfl
  i76 := by kernel_rfl
  i80 := by kernel_rfl
  i85 := by kernel_rfl
  i127 := by kernel_rfl
  i143 := by kernel_rfl
  i145 := by kernel_rfl
  i167 := by kernel_rfl
  i168 := by kernel_rfl
  i171 := by kernel_rfl
  i173 := by kernel_rfl
  i175 := by kernel_rfl
  i210 := by kernel_rfl
  i212 := by kernel_rfl
  i232 := by kernel_rfl
  i233 := by kernel_rfl
  m15 := by kernel_rfl
  m16 := by kernel_rfl
  m17 := by kernel_rfl
  m18 := by kernel_rfl
  m19 := by kernel_rfl
  c0 := by kernel_rfl
  c2 := by kernel_rfl
  c3 := by kernel_rfl
  c4 := by kernel_rfl
  c5 := by kernel_rfl
  c9 := by kernel_rfl
  c20 := by kernel_rfl
  c21 := by kernel_rfl
  c37 := by kernel_rfl
  c46 := by kernel_rfl
  c51 := by kernel_rfl
  c53 := by kernel_rfl
  c75 := by kernel_rfl
  c76 := by kernel_rfl
  c80 := by kernel_rfl
  c85 := by kernel_rfl
  c127 := by kernel_rfl
  c143 := by kernel_rfl
  c145 := by kernel_rfl
  c167 := by kernel_rfl
  c168 := by kernel_rfl
  c171 := by kernel_rfl
  c173 := by kernel_rfl
  c175 := by kernel_rfl
  c210 := by kernel_rfl
  c212 := by kernel_rfl
  c213 := by kernel_rfl
  c232 := by kernel_rfl
  c233 := by kernel_rfl }
open Go.RowKit in
/-- strconv.Atoi, AT EVERY STRING THAT SPELLS AN int ('Lib.atoiAll .. = .ok v'; of whatever length: leading zeros count): v, AND NO ERROR. The world: as it was, or with the one new row that '[]byte(..)' lays. (LAID: no walk: one application.) -/
theorem Tryz.strconv_Atoi_ok (s : ByteArray) (hmax : s.size ≤ 9223372036854775806) (v : Int) (h : Lib.atoiAll s.data.toList = .ok v) (w : World) :
    Calls Tryz.prog 155 #[.string s] w fun e w' => e = .returned (.tuple #[.int .i64 v, .nilIface]) ∧ (w' = w ∨ ∃ t, w' = Lib.bytesWorld w 5 t) := Any.strconv_Atoi_ok Tryz.laysC172 s hmax v h w
open Go.RowKit in
theorem Tryz.strconv_Atoi_range_var (s : ByteArray) (hlim : s.size ≤ 281474976710656) (h : Lib.atoiAll s.data.toList = .range) (tp : TypeId) (p : Value) (w : World) (hvar : w.var? Tryz.prog "strconv.ErrRange" = some #[.iface tp p]) :
    Calls Tryz.prog 155 #[.string s] w fun e w' => ∃ N, e = .returned (.tuple #[.int .i64 (Lib.atoiSat s.data.toList), .iface 216 (.pointer (some ⟨N, 0, none⟩))]) ∧ w.heap.size ≤ N ∧ w'.heap[N]? = some (.cells #[.string ⟨#[65, 116, 111, 105]⟩, .string s, .iface tp p] 225 (0, 0)) ∧ Below w.heap.size w w' := Any.strconv_Atoi_range_var Tryz.laysC172 s hlim h tp p w hvar
def Tryz.lays219_ren : Go.Shelf.Ren := ⟨fun | 219 => 63 | 217 => 78 | 225 => 79 | 224 => 80 | 267 => 81 | 266 => 103 | 314 => 104 | n => n, fun | 9 => 9 | 3 => 3 | 4 => 4 | 5 => 5 | 46 => 105 | 146 => 137 | 51 => 123 | n => n, fun | 1 => 2 | n => n⟩
theorem Tryz.lays219 : Go.Proofs.Lays.n219 Tryz.prog Tryz.lays219_ren := {
  mixed := by kernel_rfl
  f217 := Tryz.func78.trans (congrArg some (by kernel_rfl))
  f219 := Tryz.func63.trans (congrArg some (by kernel_rfl))
  f224 := Tryz.func80.trans (congrArg some (by kernel_rfl))
  f225 := Tryz.func79.trans (congrArg some (by kernel_rfl))
  f266 := Tryz.func103.trans (congrArg some (by kernel_rfl))
  f267 := Tryz.func81.trans (congrArg some (by kernel_rfl))
  f314 := Tryz.func104.trans (congrArg some (by kernel_rfl))
  t3 := Tryz.underlying3
  a3 := Tryz.isAgg3
  z3 := Tryz.sizeOf3
  v3 := Tryz.zeroValue3
  t4 := Tryz.underlying4
  a4 := Tryz.isAgg4
  z4 := Tryz.sizeOf4
  v4 := Tryz.zeroValue4
  t5 := Tryz.underlying5
  a5 := Tryz.isAgg5
  z5 := Tryz.sizeOf5
  v5 := Tryz.zeroValue5
  t9 := Tryz.underlying9
  a9 := Tryz.isAgg9
  z9 := Tryz.sizeOf9
  v9 := Tryz.zeroValue9
  t46 := Tryz.underlying105
  a46 := Tryz.isAgg105
  z46 := Tryz.sizeOf105
  v46 := Tryz.zeroValue105
  t51 := Tryz.underlying123
  a51 := Tryz.isAgg123
  z51 := Tryz.sizeOf123
  v51 := Tryz.zeroValue123
  t146 := Tryz.underlying137
  a146 := Tryz.isAgg137
  z146 := Tryz.sizeOf137
  v146 := Tryz.zeroValue137
  g1 := by kernel_rfl }
open Go.RowKit Go.Lib in
/-- internal/stringslite.Index (what strings.Index calls) AT A substr OF ONE BYTE c: IT RETURNS 'Lib.indexByte s c'; the world is as it was. (LAID: no walk: one application.) -/
theorem Tryz.stringslite_Index_one (s : ByteArray) (c : UInt8) (w : World) :
    Calls Tryz.prog 63 #[.string s, .string ⟨#[c]⟩] w fun e w' => e = .returned (.int .i64 (Lib.indexByte s.data.toList c)) ∧ w' = w := Any.stringslite_Index_one Tryz.lays219 s c w
def Tryz.lays143_ren : Go.Shelf.Ren := ⟨fun | 143 => 67 | 219 => 63 | 217 => 78 | 225 => 79 | 224 => 80 | 267 => 81 | 266 => 103 | 314 => 104 | n => n, fun | 9 => 9 | 3 => 3 | 4 => 4 | 5 => 5 | 46 => 105 | 146 => 137 | 51 => 123 | n => n, fun | 1 => 2 | n => n⟩
theorem Tryz.lays143 : Go.Proofs.Lays.n143 Tryz.prog Tryz.lays143_ren := {
  mixed := by kernel_rfl
  f143 := Tryz.func67.trans (congrArg some (by kernel_rfl))
  f217 := Tryz.func78.trans (congrArg some (by kernel_rfl))
  f219 := Tryz.func63.trans (congrArg some (by kernel_rfl))
  f224 := Tryz.func80.trans (congrArg some (by kernel_rfl))
  f225 := Tryz.func79.trans (congrArg some (by kernel_rfl))
  f266 := Tryz.func103.trans (congrArg some (by kernel_rfl))
  f267 := Tryz.func81.trans (congrArg some (by kernel_rfl))
  f314 := Tryz.func104.trans (congrArg some (by kernel_rfl))
  t3 := Tryz.underlying3
  a3 := Tryz.isAgg3
  z3 := Tryz.sizeOf3
  v3 := Tryz.zeroValue3
  t4 := Tryz.underlying4
  a4 := Tryz.isAgg4
  z4 := Tryz.sizeOf4
  v4 := Tryz.zeroValue4
  t5 := Tryz.underlying5
  a5 := Tryz.isAgg5
  z5 := Tryz.sizeOf5
  v5 := Tryz.zeroValue5
  t9 := Tryz.underlying9
  a9 := Tryz.isAgg9
  z9 := Tryz.sizeOf9
  v9 := Tryz.zeroValue9
  t46 := Tryz.underlying105
  a46 := Tryz.isAgg105
  z46 := Tryz.sizeOf105
  v46 := Tryz.zeroValue105
  t51 := Tryz.underlying123
  a51 := Tryz.isAgg123
  z51 := Tryz.sizeOf123
  v51 := Tryz.zeroValue123
  t146 := Tryz.underlying137
  a146 := Tryz.isAgg137
  z146 := Tryz.sizeOf137
  v146 := Tryz.zeroValue137
  g1 := by kernel_rfl }
open Go.RowKit Go.Lib in
/-- strings.Index: "Index returns the index of the first instance of substr in s, or -1 if substr is not present in s.": AT A substr OF ONE BYTE c: IT RETURNS 'Lib.indexByte s c'; the world is as it was. (LAID: no walk: one application.) -/
theorem Tryz.strings_Index_one (s : ByteArray) (c : UInt8) (w : World) :
    Calls Tryz.prog 67 #[.string s, .string ⟨#[c]⟩] w fun e w' => e = .returned (.int .i64 (Lib.indexByte s.data.toList c)) ∧ w' = w := Any.strings_Index_one Tryz.lays143 s c w
def Tryz.lays144_ren : Go.Shelf.Ren := ⟨fun | 144 => 47 | 143 => 67 | 219 => 63 | 217 => 78 | 225 => 79 | 224 => 80 | 267 => 81 | 266 => 103 | 314 => 104 | n => n, fun | 9 => 9 | 4 => 4 | 3 => 3 | 5 => 5 | 46 => 105 | 146 => 137 | 51 => 123 | n => n, fun | 1 => 2 | n => n⟩
theorem Tryz.lays144 : Go.Proofs.Lays.n144 Tryz.prog Tryz.lays144_ren := {
  mixed := by kernel_rfl
  f143 := Tryz.func67.trans (congrArg some (by kernel_rfl))
  f144 := Tryz.func47.trans (congrArg some (by kernel_rfl))
  f217 := Tryz.func78.trans (congrArg some (by kernel_rfl))
  f219 := Tryz.func63.trans (congrArg some (by kernel_rfl))
  f224 := Tryz.func80.trans (congrArg some (by kernel_rfl))
  f225 := Tryz.func79.trans (congrArg some (by kernel_rfl))
  f266 := Tryz.func103.trans (congrArg some (by kernel_rfl))
  f267 := Tryz.func81.trans (congrArg some (by kernel_rfl))
  f314 := Tryz.func104.trans (congrArg some (by kernel_rfl))
  t3 := Tryz.underlying3
  a3 := Tryz.isAgg3
  z3 := Tryz.sizeOf3
  v3 := Tryz.zeroValue3
  t4 := Tryz.underlying4
  a4 := Tryz.isAgg4
  z4 := Tryz.sizeOf4
  v4 := Tryz.zeroValue4
  t5 := Tryz.underlying5
  a5 := Tryz.isAgg5
  z5 := Tryz.sizeOf5
  v5 := Tryz.zeroValue5
  t9 := Tryz.underlying9
  a9 := Tryz.isAgg9
  z9 := Tryz.sizeOf9
  v9 := Tryz.zeroValue9
  t46 := Tryz.underlying105
  a46 := Tryz.isAgg105
  z46 := Tryz.sizeOf105
  v46 := Tryz.zeroValue105
  t51 := Tryz.underlying123
  a51 := Tryz.isAgg123
  z51 := Tryz.sizeOf123
  v51 := Tryz.zeroValue123
  t146 := Tryz.underlying137
  a146 := Tryz.isAgg137
  z146 := Tryz.sizeOf137
  v146 := Tryz.zeroValue137
  g1 := by kernel_rfl }
open Go.RowKit Go.Lib in
/-- strings.Contains: "Contains reports whether substr is within s.": AT A substr OF ONE BYTE c: IT RETURNS 'decide (0 ≤ Lib.indexByte s c)'; the world is as it was. (LAID: no walk: one application.) -/
theorem Tryz.strings_Contains_one (s : ByteArray) (c : UInt8) (w : World) :
    Calls Tryz.prog 47 #[.string s, .string ⟨#[c]⟩] w fun e w' => e = .returned (.bool (decide (0 ≤ Lib.indexByte s.data.toList c))) ∧ w' = w := Any.strings_Contains_one Tryz.lays144 s c w
def Tryz.lays138_ren : Go.Shelf.Ren := ⟨fun | 138 => 66 | 195 => 83 | 218 => 84 | 143 => 67 | 219 => 63 | 217 => 78 | 225 => 79 | 224 => 80 | 267 => 81 | 266 => 103 | 314 => 104 | n => n, fun | 9 => 9 | 3 => 3 | 4 => 4 | 5 => 5 | 0 => 0 | 46 => 105 | 146 => 137 | 51 => 123 | n => n, fun | 1 => 2 | n => n⟩
theorem Tryz.lays138 : Go.Proofs.Lays.n138 Tryz.prog Tryz.lays138_ren := {
  mixed := by kernel_rfl
  f138 := Tryz.func66.trans (congrArg some (by kernel_rfl))
  f143 := Tryz.func67.trans (congrArg some (by kernel_rfl))
  f195 := Tryz.func83.trans (congrArg some (by kernel_rfl))
  f217 := Tryz.func78.trans (congrArg some (by kernel_rfl))
  f218 := Tryz.func84.trans (congrArg some (by kernel_rfl))
  f219 := Tryz.func63.trans (congrArg some (by kernel_rfl))
  f224 := Tryz.func80.trans (congrArg some (by kernel_rfl))
  f225 := Tryz.func79.trans (congrArg some (by kernel_rfl))
  f266 := Tryz.func103.trans (congrArg some (by kernel_rfl))
  f267 := Tryz.func81.trans (congrArg some (by kernel_rfl))
  f314 := Tryz.func104.trans (congrArg some (by kernel_rfl))
  t0 := Tryz.underlying0
  a0 := Tryz.isAgg0
  z0 := Tryz.sizeOf0
  v0 := Tryz.zeroValue0
  t3 := Tryz.underlying3
  a3 := Tryz.isAgg3
  z3 := Tryz.sizeOf3
  v3 := Tryz.zeroValue3
  t4 := Tryz.underlying4
  a4 := Tryz.isAgg4
  z4 := Tryz.sizeOf4
  v4 := Tryz.zeroValue4
  t5 := Tryz.underlying5
  a5 := Tryz.isAgg5
  z5 := Tryz.sizeOf5
  v5 := Tryz.zeroValue5
  t9 := Tryz.underlying9
  a9 := Tryz.isAgg9
  z9 := Tryz.sizeOf9
  v9 := Tryz.zeroValue9
  t46 := Tryz.underlying105
  a46 := Tryz.isAgg105
  z46 := Tryz.sizeOf105
  v46 := Tryz.zeroValue105
  t51 := Tryz.underlying123
  a51 := Tryz.isAgg123
  z51 := Tryz.sizeOf123
  v51 := Tryz.zeroValue123
  t146 := Tryz.underlying137
  a146 := Tryz.isAgg137
  z146 := Tryz.sizeOf137
  v146 := Tryz.zeroValue137
  g1 := by kernel_rfl }
open Go.RowKit Go.Lib in
/-- strings.Count AT A substr OF ONE BYTE ('hp'): "Count counts the number of non-overlapping instances of substr in s.": IT RETURNS 'Lib.countByte s (that byte)'; the world is as it was. ✋ NO CONTRACT HERE YET at an empty substr (utf8.RuneCountInString) or at a longer one (a loop over strings.Index). (LAID: no walk: one application.) -/
theorem Tryz.strings_Count_one (s : ByteArray) (c : UInt8) (w : World) :
    Calls Tryz.prog 66 #[.string s, .string ⟨#[c]⟩] w fun e w' => e = .returned (.int .i64 (Lib.countByte s.data.toList c)) ∧ w' = w := Any.strings_Count_one Tryz.lays138 s c w
def Tryz.lays99_ren : Go.Shelf.Ren := ⟨fun | 99 => 65 | 206 => 82 | n => n, fun | 9 => 9 | 4 => 4 | 3 => 3 | n => n, fun | n => n⟩
theorem Tryz.lays99 : Go.Proofs.Lays.n99 Tryz.prog Tryz.lays99_ren := {
  mixed := by kernel_rfl
  f99 := Tryz.func65.trans (congrArg some (by kernel_rfl))
  f206 := Tryz.func82.trans (congrArg some (by kernel_rfl))
  t3 := Tryz.underlying3
  a3 := Tryz.isAgg3
  z3 := Tryz.sizeOf3
  v3 := Tryz.zeroValue3
  t4 := Tryz.underlying4
  a4 := Tryz.isAgg4
  z4 := Tryz.sizeOf4
  v4 := Tryz.zeroValue4
  t9 := Tryz.underlying9
  a9 := Tryz.isAgg9
  z9 := Tryz.sizeOf9
  v9 := Tryz.zeroValue9 }
open Go.RowKit Go.Lib in
/-- strings.HasPrefix: "HasPrefix reports whether the string s begins with prefix.": IT RETURNS 'Lib.hasPrefix s prefix'; the world is as it was. (LAID: no walk: one application.) -/
theorem Tryz.strings_HasPrefix (s p : ByteArray) (w : World) :
    Calls Tryz.prog 65 #[.string s, .string p] w fun e w' => e = .returned (.bool (Lib.hasPrefix s.data.toList p.data.toList)) ∧ w' = w := Any.strings_HasPrefix Tryz.lays99 s p w
end Go.Proofs
