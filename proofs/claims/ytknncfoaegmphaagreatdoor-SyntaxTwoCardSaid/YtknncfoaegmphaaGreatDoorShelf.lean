/-
  DERIVED: THE SHELF's CONTRACTS AT THIS DUMP, IN PLAIN WORDS (tools/lay-plain.mjs out of 'TryzShelf.lean', which tools/lay-shelf.mjs wrote): THE SAME DECLARATIONS UNDER THE SAME NAMES: 'import', 'namespace', 'open', 'def', 'theorem' AND NOTHING ELSE: no command of the shelf's: FOR A HAND-IN. Each laying: the table of numbers ('.._ren') and one theorem, a field a fact of the dump's own or the kernel's comparison; each contract: ONE APPLICATION.
-/
import Derived.Shelf.Strings.Trim
import Derived.Shelf.Small.Utf8
import Derived.Shelf.Small.Strs
import Derived.Shelf.Strconv.Atoi
import Derived.Shelf.Strconv.AtoiErrFast
import Derived.Shelf.Strconv.ParseIntEmpty
import Derived.Shelf.Strconv.AtoiFail
import Derived.Shelf.LaysM
import Derived.Shelf.Strconv.Clone
import Derived.Shelf.Strconv.SyntaxError
import Derived.Shelf.LaysC
import Derived.Shelf.Strconv.ToError
import Derived.Shelf.Strconv.Lower
import Derived.Shelf.Strconv.ParseUint10
import Derived.Shelf.Strconv.ParseUint10Empty
import Derived.Shelf.Strconv.ParseUint10Any
import Derived.Shelf.Strconv.ParseInt10
import Derived.Shelf.Strconv.AtoiLong
import Derived.Shelf.Strconv.AtoiInnerAll
import Derived.Shelf.Strconv.RangeError
import Derived.Shelf.Strconv.ToErrorRange
import Derived.Shelf.Strconv.AtoiAll
import Derived.Shelf.Strconv.ErrVarAll
import Derived.Shelf.Strings.Search1
import Derived.Shelf.Strings.Search2
import Derived.Shelf.Strings.Search3
import Derived.Shelf.Strings.Cut
import Derived.Shelf.Strings.Count
import Derived.Shelf.Strings.Shaped
import Derived.Shelf.Strings.Prefix
import Derived.Shelf.Strings.Runes
import Derived.Shelf.Strings.AsciiSet
import Derived.Shelf.Unicode.DecodeSlow
import Derived.Test.YtknncfoaegmphaaGreatDoorProg
namespace Go.Proofs
open Go.Shelf
def Tryz.lays160_ren : Go.Shelf.Ren := ⟨fun | 160 => 45 | 232 => 58 | 231 => 57 | 227 => 59 | 234 => 61 | 233 => 60 | 236 => 63 | 235 => 62 | 228 => 74 | 271 => 77 | 151 => 76 | 197 => 75 | 120 => 88 | 152 => 87 | 260 => 86 | 137 => 105 | 119 => 106 | 224 => 71 | 225 => 70 | 217 => 69 | 266 => 84 | n => n, fun | 9 => 9 | 4 => 4 | 3 => 3 | 5 => 5 | 117 => 85 | 116 => 84 | 0 => 0 | 124 => 88 | 21 => 21 | 105 => 98 | 46 => 95 | 119 => 131 | 139 => 134 | 138 => 133 | n => n, fun | 3 => 3 | 4 => 4 | n => n⟩
theorem Tryz.lays160 : Go.Proofs.Lays.n160 Tryz.prog Tryz.lays160_ren := {
  mixed := by kernel_rfl
  f119 := Tryz.func106.trans (congrArg some (by kernel_rfl))
  f120 := Tryz.func88.trans (congrArg some (by kernel_rfl))
  f137 := Tryz.func105.trans (congrArg some (by kernel_rfl))
  f151 := Tryz.func76.trans (congrArg some (by kernel_rfl))
  f152 := Tryz.func87.trans (congrArg some (by kernel_rfl))
  f160 := Tryz.func45.trans (congrArg some (by kernel_rfl))
  f197 := Tryz.func75.trans (congrArg some (by kernel_rfl))
  f217 := Tryz.func69.trans (congrArg some (by kernel_rfl))
  f224 := Tryz.func71.trans (congrArg some (by kernel_rfl))
  f225 := Tryz.func70.trans (congrArg some (by kernel_rfl))
  f227 := Tryz.func59.trans (congrArg some (by kernel_rfl))
  f228 := Tryz.func74.trans (congrArg some (by kernel_rfl))
  f231 := Tryz.func57.trans (congrArg some (by kernel_rfl))
  f232 := Tryz.func58.trans (congrArg some (by kernel_rfl))
  f233 := Tryz.func60.trans (congrArg some (by kernel_rfl))
  f234 := Tryz.func61.trans (congrArg some (by kernel_rfl))
  f235 := Tryz.func62.trans (congrArg some (by kernel_rfl))
  f236 := Tryz.func63.trans (congrArg some (by kernel_rfl))
  f260 := Tryz.func86.trans (congrArg some (by kernel_rfl))
  f266 := Tryz.func84.trans (congrArg some (by kernel_rfl))
  f271 := Tryz.func77.trans (congrArg some (by kernel_rfl))
  t0 := Tryz.underlying0
  a0 := Tryz.isAgg0
  z0 := Tryz.sizeOf0
  v0 := Tryz.zeroValue0
  t3 := Tryz.underlying3
  a3 := Tryz.isAgg3
  z3 := Tryz.sizeOf3
  v3 := Tryz.zeroValue3
  t4 := Tryz.underlying4
  a4 := Tryz.isAgg4
  z4 := Tryz.sizeOf4
  v4 := Tryz.zeroValue4
  t5 := Tryz.underlying5
  a5 := Tryz.isAgg5
  z5 := Tryz.sizeOf5
  v5 := Tryz.zeroValue5
  t9 := Tryz.underlying9
  a9 := Tryz.isAgg9
  z9 := Tryz.sizeOf9
  v9 := Tryz.zeroValue9
  t21 := Tryz.underlying21
  a21 := Tryz.isAgg21
  z21 := Tryz.sizeOf21
  v21 := Tryz.zeroValue21
  t46 := Tryz.underlying95
  a46 := Tryz.isAgg95
  z46 := Tryz.sizeOf95
  v46 := Tryz.zeroValue95
  t105 := Tryz.underlying98
  a105 := Tryz.isAgg98
  z105 := Tryz.sizeOf98
  v105 := Tryz.zeroValue98
  t116 := Tryz.underlying84
  a116 := Tryz.isAgg84
  z116 := Tryz.sizeOf84
  t117 := Tryz.underlying85
  a117 := Tryz.isAgg85
  z117 := Tryz.sizeOf85
  v117 := Tryz.zeroValue85
  t119 := Tryz.underlying131
  a119 := Tryz.isAgg131
  z119 := Tryz.sizeOf131
  t124 := Tryz.underlying88
  a124 := Tryz.isAgg88
  z124 := Tryz.sizeOf88
  v124 := Tryz.zeroValue88
  t138 := Tryz.underlying133
  a138 := Tryz.isAgg133
  z138 := Tryz.sizeOf133
  v138 := Tryz.zeroValue133
  t139 := Tryz.underlying134
  a139 := Tryz.isAgg134
  z139 := Tryz.sizeOf134
  v139 := Tryz.zeroValue134
  g3 := by kernel_rfl
  g4 := by kernel_rfl }
open Go.RowKit in
/-- strings.Trim: "Trim returns a slice of the string s with all leading and trailing Unicode code points contained in cutset removed.": AT A cutset OF ONE ASCII BYTE. THE WORLD BEHIND IT: as it was, or (where s is not empty) with ONE DRAW MORE off the tape: the statement 'return trimLeftByte(trimRightByte(s, c), c)' draws its order of evaluation. (LAID: no walk: one application.) -/
theorem Tryz.strings_Trim_one (s : ByteArray) (c : UInt8) (hc : c.toNat < 128) (w : World) (hs : s.size ≤ 9223372036854775807) :
    Calls Tryz.prog 45 #[.string s, .string ⟨#[c]⟩] w fun e w' => e = .returned (.string ⟨(Lib.trimB s.data.toList c).toArray⟩) ∧ (w' = w ∨ w' = w.drew) := Any.strings_Trim_one Tryz.lays160 s c hc w hs
def Tryz.laysC172_ren : Go.Shelf.Ren := ⟨fun | 172 => 111 | 244 => 118 | 245 => 119 | 247 => 126 | 279 => 127 | 280 => 128 | 281 => 129 | 282 => 130 | 287 => 140 | 316 => 141 | 171 => 143 | 205 => 142 | 321 => 151 | 322 => 152 | 243 => 153 | 246 => 154 | 283 => 155 | 284 => 156 | 285 => 157 | 286 => 158 | 129 => 160 | 317 => 159 | 318 => 161 | 319 => 162 | 320 => 163 | 337 => 164 | 338 => 165 | n => n, fun | 9 => 9 | 3 => 3 | 75 => 138 | 76 => 139 | 4 => 4 | 5 => 5 | 167 => 171 | 37 => 151 | 0 => 0 | 85 => 172 | 2 => 2 | 168 => 174 | 53 => 187 | 175 => 188 | 46 => 95 | 210 => 191 | 127 => 198 | 145 => 201 | 143 => 199 | 21 => 21 | 171 => 203 | 173 => 206 | 212 => 208 | 51 => 107 | 20 => 20 | 213 => 209 | 232 => 212 | 233 => 213 | 80 => 96 | n => n, fun | 15 => 5 | 16 => 6 | 17 => 7 | 18 => 8 | 19 => 9 | n => n⟩
theorem Tryz.laysC172 : Go.Proofs.LaysC.n172 Tryz.prog Tryz.laysC172_ren := {
  mixed := by kernel_rfl
  f129 := Tryz.func160.trans (congrArg some (by kernel_rfl))
  f171 := Tryz.func143.trans (congrArg some (by kernel_rfl))
  f172 := Tryz.func111.trans (congrArg some (by kernel_rfl))
  f205 := Tryz.func142.trans (congrArg some (by kernel_rfl))
  f243 := Tryz.func153.trans (congrArg some (by kernel_rfl))
  f244 := Tryz.func118.trans (congrArg some (by kernel_rfl))
  f245 := Tryz.func119.trans (congrArg some (by kernel_rfl))
  f246 := Tryz.func154.trans (congrArg some (by kernel_rfl))
  f247 := Tryz.func126.trans (congrArg some (by kernel_rfl))
  f279 := Tryz.func127.trans (congrArg some (by kernel_rfl))
  f280 := Tryz.func128.trans (congrArg some (by kernel_rfl))
  f281 := Tryz.func129.trans (congrArg some (by kernel_rfl))
  f282 := Tryz.func130.trans (congrArg some (by kernel_rfl))
  f283 := Tryz.func155.trans (congrArg some (by kernel_rfl))
  f284 := Tryz.func156.trans (congrArg some (by kernel_rfl))
  f285 := Tryz.func157.trans (congrArg some (by kernel_rfl))
  f286 := Tryz.func158.trans (congrArg some (by kernel_rfl))
  f287 := Tryz.func140.trans (congrArg some (by kernel_rfl))
  f316 := Tryz.func141.trans (congrArg some (by kernel_rfl))
  f317 := Tryz.func159.trans (congrArg some (by kernel_rfl))
  f318 := Tryz.func161.trans (congrArg some (by kernel_rfl))
  f319 := Tryz.func162.trans (congrArg some (by kernel_rfl))
  f320 := Tryz.func163.trans (congrArg some (by kernel_rfl))
  f321 := Tryz.func151.trans (congrArg some (by kernel_rfl))
  f322 := Tryz.func152.trans (congrArg some (by kernel_rfl))
  f337 := Tryz.func164.trans (congrArg some (by kernel_rfl))
  f338 := Tryz.func165.trans (congrArg some (by kernel_rfl))
  t0 := Tryz.underlying0
  a0 := Tryz.isAgg0
  z0 := Tryz.sizeOf0
  v0 := Tryz.zeroValue0
  t2 := Tryz.underlying2
  a2 := Tryz.isAgg2
  z2 := Tryz.sizeOf2
  v2 := Tryz.zeroValue2
  t3 := Tryz.underlying3
  a3 := Tryz.isAgg3
  z3 := Tryz.sizeOf3
  v3 := Tryz.zeroValue3
  t4 := Tryz.underlying4
  a4 := Tryz.isAgg4
  z4 := Tryz.sizeOf4
  v4 := Tryz.zeroValue4
  t5 := Tryz.underlying5
  a5 := Tryz.isAgg5
  z5 := Tryz.sizeOf5
  v5 := Tryz.zeroValue5
  t9 := Tryz.underlying9
  a9 := Tryz.isAgg9
  z9 := Tryz.sizeOf9
  v9 := Tryz.zeroValue9
  t20 := Tryz.underlying20
  a20 := Tryz.isAgg20
  z20 := Tryz.sizeOf20
  v20 := Tryz.zeroValue20
  t21 := Tryz.underlying21
  a21 := Tryz.isAgg21
  z21 := Tryz.sizeOf21
  v21 := Tryz.zeroValue21
  t37 := Tryz.underlying151
  a37 := Tryz.isAgg151
  z37 := Tryz.sizeOf151
  v37 := Tryz.zeroValue151
  t46 := Tryz.underlying95
  a46 := Tryz.isAgg95
  z46 := Tryz.sizeOf95
  v46 := Tryz.zeroValue95
  t51 := Tryz.underlying107
  a51 := Tryz.isAgg107
  z51 := Tryz.sizeOf107
  v51 := Tryz.zeroValue107
  t53 := Tryz.underlying187
  a53 := Tryz.isAgg187
  z53 := Tryz.sizeOf187
  v53 := Tryz.zeroValue187
  t75 := Tryz.underlying138
  a75 := Tryz.isAgg138
  z75 := Tryz.sizeOf138
  v75 := Tryz.zeroValue138
  t76 := Tryz.underlying139
  a76 := Tryz.isAgg139
  z76 := Tryz.sizeOf139
  v76 := Tryz.zeroValue139
  t85 := Tryz.underlying172
  a85 := Tryz.isAgg172
  z85 := Tryz.sizeOf172
  v85 := Tryz.zeroValue172
  t127 := Tryz.underlying198
  a127 := Tryz.isAgg198
  z127 := Tryz.sizeOf198
  v127 := Tryz.zeroValue198
  t143 := Tryz.underlying199
  a143 := Tryz.isAgg199
  z143 := Tryz.sizeOf199
  v143 := Tryz.zeroValue199
  t145 := Tryz.underlying201
  a145 := Tryz.isAgg201
  z145 := Tryz.sizeOf201
  v145 := Tryz.zeroValue201
  t167 := Tryz.underlying171
  a167 := Tryz.isAgg171
  z167 := Tryz.sizeOf171
  v167 := Tryz.zeroValue171
  t168 := Tryz.underlying174
  a168 := Tryz.isAgg174
  z168 := Tryz.sizeOf174
  v168 := Tryz.zeroValue174
  t171 := Tryz.underlying203
  a171 := Tryz.isAgg203
  z171 := Tryz.sizeOf203
  v171 := Tryz.zeroValue203
  t173 := Tryz.underlying206
  a173 := Tryz.isAgg206
  z173 := Tryz.sizeOf206
  v173 := Tryz.zeroValue206
  t175 := Tryz.underlying188
  a175 := Tryz.isAgg188
  z175 := Tryz.sizeOf188
  v175 := Tryz.zeroValue188
  t210 := Tryz.underlying191
  a210 := Tryz.isAgg191
  z210 := Tryz.sizeOf191
  v210 := Tryz.zeroValue191
  t212 := Tryz.underlying208
  a212 := Tryz.isAgg208
  z212 := Tryz.sizeOf208
  v212 := Tryz.zeroValue208
  t213 := Tryz.underlying209
  a213 := Tryz.isAgg209
  z213 := Tryz.sizeOf209
  t232 := Tryz.underlying212
  a232 := Tryz.isAgg212
  z232 := Tryz.sizeOf212
  v232 := Tryz.zeroValue212
  t233 := Tryz.underlying213
  a233 := Tryz.isAgg213
  z233 := Tryz.sizeOf213
  v233 := Tryz.zeroValue213
  g15 := by kernel_rfl
  g16 := by kernel_rfl
  g17 := by kernel_rfl
  g18 := by kernel_rfl
  g19 := by kernel_rfl
  t80 := Tryz.underlying96
  a80 := Tryz.isAgg96
  z80 := Tryz.sizeOf96
  v80 := Tryz.zeroValue96
  i0 := by kernel_rfl
  i2 := by kernel_rfl
  i3 := by kernel_rfl
  i4 := by kernel_rfl
  i5 := by kernel_rfl
  i9 := by kernel_rfl
  i20 := by kernel_rfl
  i21 := by kernel_rfl
  i37 := by kernel_rfl
  i46 := by kernel_rfl
  i51 := by kernel_rfl
  i53 := by kernel_rfl
  i75 := by kernel_rfl
  i76 := by kernel_rfl
  i80 := by kernel_rfl
  i85 := by kernel_rfl
  i127 := by kernel_rfl
  i143 := by kernel_rfl
  i145 := by kernel_rfl
  i167 := by kernel_rfl
  i168 := by kernel_rfl
  i171 := by kernel_rfl
  i173 := by kernel_rfl
  i175 := by kernel_rfl
  i210 := by kernel_rfl
  i212 := by kernel_rfl
  i232 := by kernel_rfl
  i233 := by kernel_rfl
  m15 := by kernel_rfl
  m16 := by kernel_rfl
  m17 := by kernel_rfl
  m18 := by kernel_rfl
  m19 := by kernel_rfl
  c0 := by kernel_rfl
  c2 := by kernel_rfl
  c3 := by kernel_rfl
  c4 := by kernel_rfl
  c5 := by kernel_rfl
  c9 := by kernel_rfl
  c20 := by kernel_rfl
  c21 := by kernel_rfl
  c37 := by kernel_rfl
  c46 := by kernel_rfl
  c51 := by kernel_rfl
  c53 := by kernel_rfl
  c75 := by kernel_rfl
  c76 := by kernel_rfl
  c80 := by kernel_rfl
  c85 := by kernel_rfl
  c127 := by kernel_rfl
  c143 := by kernel_rfl
  c145 := by kernel_rfl
  c167 := by kernel_rfl
  c168 := by kernel_rfl
  c171 := by kernel_rfl
  c173 := by kernel_rfl
  c175 := by kernel_rfl
  c210 := by kernel_rfl
  c212 := by kernel_rfl
  c213 := by kernel_rfl
  c232 := by kernel_rfl
  c233 := by kernel_rfl }
open Go.RowKit in
/-- strconv.Atoi, AT EVERY STRING THAT SPELLS AN int ('Lib.atoiAll .. = .ok v'; of whatever length: leading zeros count): v, AND NO ERROR. The world: as it was, or with the one new row that '[]byte(..)' lays. (LAID: no walk: one application.) -/
theorem Tryz.strconv_Atoi_ok (s : ByteArray) (hmax : s.size ≤ 9223372036854775806) (v : Int) (h : Lib.atoiAll s.data.toList = .ok v) (w : World) :
    Calls Tryz.prog 111 #[.string s] w fun e w' => e = .returned (.tuple #[.int .i64 v, .nilIface]) ∧ (w' = w ∨ ∃ t, w' = Lib.bytesWorld w 5 t) := Any.strconv_Atoi_ok Tryz.laysC172 s hmax v h w
open Go.RowKit in
theorem Tryz.strconv_Atoi_range_var (s : ByteArray) (hlim : s.size ≤ 281474976710656) (h : Lib.atoiAll s.data.toList = .range) (tp : TypeId) (p : Value) (w : World) (hvar : w.var? Tryz.prog "strconv.ErrRange" = some #[.iface tp p]) :
    Calls Tryz.prog 111 #[.string s] w fun e w' => ∃ N, e = .returned (.tuple #[.int .i64 (Lib.atoiSat s.data.toList), .iface 174 (.pointer (some ⟨N, 0, none⟩))]) ∧ w.heap.size ≤ N ∧ w'.heap[N]? = some (.cells #[.string ⟨#[65, 116, 111, 105]⟩, .string s, .iface tp p] 191 (0, 0)) ∧ Below w.heap.size w w' := Any.strconv_Atoi_range_var Tryz.laysC172 s hlim h tp p w hvar
def Tryz.lays219_ren : Go.Shelf.Ren := ⟨fun | 219 => 53 | 217 => 69 | 225 => 70 | 224 => 71 | 267 => 72 | 266 => 84 | 314 => 85 | n => n, fun | 9 => 9 | 3 => 3 | 4 => 4 | 5 => 5 | 46 => 95 | 146 => 121 | 51 => 107 | n => n, fun | 1 => 2 | n => n⟩
theorem Tryz.lays219 : Go.Proofs.Lays.n219 Tryz.prog Tryz.lays219_ren := {
  mixed := by kernel_rfl
  f217 := Tryz.func69.trans (congrArg some (by kernel_rfl))
  f219 := Tryz.func53.trans (congrArg some (by kernel_rfl))
  f224 := Tryz.func71.trans (congrArg some (by kernel_rfl))
  f225 := Tryz.func70.trans (congrArg some (by kernel_rfl))
  f266 := Tryz.func84.trans (congrArg some (by kernel_rfl))
  f267 := Tryz.func72.trans (congrArg some (by kernel_rfl))
  f314 := Tryz.func85.trans (congrArg some (by kernel_rfl))
  t3 := Tryz.underlying3
  a3 := Tryz.isAgg3
  z3 := Tryz.sizeOf3
  v3 := Tryz.zeroValue3
  t4 := Tryz.underlying4
  a4 := Tryz.isAgg4
  z4 := Tryz.sizeOf4
  v4 := Tryz.zeroValue4
  t5 := Tryz.underlying5
  a5 := Tryz.isAgg5
  z5 := Tryz.sizeOf5
  v5 := Tryz.zeroValue5
  t9 := Tryz.underlying9
  a9 := Tryz.isAgg9
  z9 := Tryz.sizeOf9
  v9 := Tryz.zeroValue9
  t46 := Tryz.underlying95
  a46 := Tryz.isAgg95
  z46 := Tryz.sizeOf95
  v46 := Tryz.zeroValue95
  t51 := Tryz.underlying107
  a51 := Tryz.isAgg107
  z51 := Tryz.sizeOf107
  v51 := Tryz.zeroValue107
  t146 := Tryz.underlying121
  a146 := Tryz.isAgg121
  z146 := Tryz.sizeOf121
  v146 := Tryz.zeroValue121
  g1 := by kernel_rfl }
open Go.RowKit Go.Lib in
/-- internal/stringslite.Index (what strings.Index calls) AT A substr OF ONE BYTE c: IT RETURNS 'Lib.indexByte s c'; the world is as it was. (LAID: no walk: one application.) -/
theorem Tryz.stringslite_Index_one (s : ByteArray) (c : UInt8) (w : World) :
    Calls Tryz.prog 53 #[.string s, .string ⟨#[c]⟩] w fun e w' => e = .returned (.int .i64 (Lib.indexByte s.data.toList c)) ∧ w' = w := Any.stringslite_Index_one Tryz.lays219 s c w
def Tryz.lays143_ren : Go.Shelf.Ren := ⟨fun | 143 => 42 | 219 => 53 | 217 => 69 | 225 => 70 | 224 => 71 | 267 => 72 | 266 => 84 | 314 => 85 | n => n, fun | 9 => 9 | 3 => 3 | 4 => 4 | 5 => 5 | 46 => 95 | 146 => 121 | 51 => 107 | n => n, fun | 1 => 2 | n => n⟩
theorem Tryz.lays143 : Go.Proofs.Lays.n143 Tryz.prog Tryz.lays143_ren := {
  mixed := by kernel_rfl
  f143 := Tryz.func42.trans (congrArg some (by kernel_rfl))
  f217 := Tryz.func69.trans (congrArg some (by kernel_rfl))
  f219 := Tryz.func53.trans (congrArg some (by kernel_rfl))
  f224 := Tryz.func71.trans (congrArg some (by kernel_rfl))
  f225 := Tryz.func70.trans (congrArg some (by kernel_rfl))
  f266 := Tryz.func84.trans (congrArg some (by kernel_rfl))
  f267 := Tryz.func72.trans (congrArg some (by kernel_rfl))
  f314 := Tryz.func85.trans (congrArg some (by kernel_rfl))
  t3 := Tryz.underlying3
  a3 := Tryz.isAgg3
  z3 := Tryz.sizeOf3
  v3 := Tryz.zeroValue3
  t4 := Tryz.underlying4
  a4 := Tryz.isAgg4
  z4 := Tryz.sizeOf4
  v4 := Tryz.zeroValue4
  t5 := Tryz.underlying5
  a5 := Tryz.isAgg5
  z5 := Tryz.sizeOf5
  v5 := Tryz.zeroValue5
  t9 := Tryz.underlying9
  a9 := Tryz.isAgg9
  z9 := Tryz.sizeOf9
  v9 := Tryz.zeroValue9
  t46 := Tryz.underlying95
  a46 := Tryz.isAgg95
  z46 := Tryz.sizeOf95
  v46 := Tryz.zeroValue95
  t51 := Tryz.underlying107
  a51 := Tryz.isAgg107
  z51 := Tryz.sizeOf107
  v51 := Tryz.zeroValue107
  t146 := Tryz.underlying121
  a146 := Tryz.isAgg121
  z146 := Tryz.sizeOf121
  v146 := Tryz.zeroValue121
  g1 := by kernel_rfl }
open Go.RowKit Go.Lib in
/-- strings.Index: "Index returns the index of the first instance of substr in s, or -1 if substr is not present in s.": AT A substr OF ONE BYTE c: IT RETURNS 'Lib.indexByte s c'; the world is as it was. (LAID: no walk: one application.) -/
theorem Tryz.strings_Index_one (s : ByteArray) (c : UInt8) (w : World) :
    Calls Tryz.prog 42 #[.string s, .string ⟨#[c]⟩] w fun e w' => e = .returned (.int .i64 (Lib.indexByte s.data.toList c)) ∧ w' = w := Any.strings_Index_one Tryz.lays143 s c w
def Tryz.lays144_ren : Go.Shelf.Ren := ⟨fun | 144 => 29 | 143 => 42 | 219 => 53 | 217 => 69 | 225 => 70 | 224 => 71 | 267 => 72 | 266 => 84 | 314 => 85 | n => n, fun | 9 => 9 | 4 => 4 | 3 => 3 | 5 => 5 | 46 => 95 | 146 => 121 | 51 => 107 | n => n, fun | 1 => 2 | n => n⟩
theorem Tryz.lays144 : Go.Proofs.Lays.n144 Tryz.prog Tryz.lays144_ren := {
  mixed := by kernel_rfl
  f143 := Tryz.func42.trans (congrArg some (by kernel_rfl))
  f144 := Tryz.func29.trans (congrArg some (by kernel_rfl))
  f217 := Tryz.func69.trans (congrArg some (by kernel_rfl))
  f219 := Tryz.func53.trans (congrArg some (by kernel_rfl))
  f224 := Tryz.func71.trans (congrArg some (by kernel_rfl))
  f225 := Tryz.func70.trans (congrArg some (by kernel_rfl))
  f266 := Tryz.func84.trans (congrArg some (by kernel_rfl))
  f267 := Tryz.func72.trans (congrArg some (by kernel_rfl))
  f314 := Tryz.func85.trans (congrArg some (by kernel_rfl))
  t3 := Tryz.underlying3
  a3 := Tryz.isAgg3
  z3 := Tryz.sizeOf3
  v3 := Tryz.zeroValue3
  t4 := Tryz.underlying4
  a4 := Tryz.isAgg4
  z4 := Tryz.sizeOf4
  v4 := Tryz.zeroValue4
  t5 := Tryz.underlying5
  a5 := Tryz.isAgg5
  z5 := Tryz.sizeOf5
  v5 := Tryz.zeroValue5
  t9 := Tryz.underlying9
  a9 := Tryz.isAgg9
  z9 := Tryz.sizeOf9
  v9 := Tryz.zeroValue9
  t46 := Tryz.underlying95
  a46 := Tryz.isAgg95
  z46 := Tryz.sizeOf95
  v46 := Tryz.zeroValue95
  t51 := Tryz.underlying107
  a51 := Tryz.isAgg107
  z51 := Tryz.sizeOf107
  v51 := Tryz.zeroValue107
  t146 := Tryz.underlying121
  a146 := Tryz.isAgg121
  z146 := Tryz.sizeOf121
  v146 := Tryz.zeroValue121
  g1 := by kernel_rfl }
open Go.RowKit Go.Lib in
/-- strings.Contains: "Contains reports whether substr is within s.": AT A substr OF ONE BYTE c: IT RETURNS 'decide (0 ≤ Lib.indexByte s c)'; the world is as it was. (LAID: no walk: one application.) -/
theorem Tryz.strings_Contains_one (s : ByteArray) (c : UInt8) (w : World) :
    Calls Tryz.prog 29 #[.string s, .string ⟨#[c]⟩] w fun e w' => e = .returned (.bool (decide (0 ≤ Lib.indexByte s.data.toList c))) ∧ w' = w := Any.strings_Contains_one Tryz.lays144 s c w
def Tryz.lays138_ren : Go.Shelf.Ren := ⟨fun | 138 => 41 | 195 => 51 | 218 => 52 | 143 => 42 | 219 => 53 | 217 => 69 | 225 => 70 | 224 => 71 | 267 => 72 | 266 => 84 | 314 => 85 | n => n, fun | 9 => 9 | 3 => 3 | 4 => 4 | 5 => 5 | 0 => 0 | 46 => 95 | 146 => 121 | 51 => 107 | n => n, fun | 1 => 2 | n => n⟩
theorem Tryz.lays138 : Go.Proofs.Lays.n138 Tryz.prog Tryz.lays138_ren := {
  mixed := by kernel_rfl
  f138 := Tryz.func41.trans (congrArg some (by kernel_rfl))
  f143 := Tryz.func42.trans (congrArg some (by kernel_rfl))
  f195 := Tryz.func51.trans (congrArg some (by kernel_rfl))
  f217 := Tryz.func69.trans (congrArg some (by kernel_rfl))
  f218 := Tryz.func52.trans (congrArg some (by kernel_rfl))
  f219 := Tryz.func53.trans (congrArg some (by kernel_rfl))
  f224 := Tryz.func71.trans (congrArg some (by kernel_rfl))
  f225 := Tryz.func70.trans (congrArg some (by kernel_rfl))
  f266 := Tryz.func84.trans (congrArg some (by kernel_rfl))
  f267 := Tryz.func72.trans (congrArg some (by kernel_rfl))
  f314 := Tryz.func85.trans (congrArg some (by kernel_rfl))
  t0 := Tryz.underlying0
  a0 := Tryz.isAgg0
  z0 := Tryz.sizeOf0
  v0 := Tryz.zeroValue0
  t3 := Tryz.underlying3
  a3 := Tryz.isAgg3
  z3 := Tryz.sizeOf3
  v3 := Tryz.zeroValue3
  t4 := Tryz.underlying4
  a4 := Tryz.isAgg4
  z4 := Tryz.sizeOf4
  v4 := Tryz.zeroValue4
  t5 := Tryz.underlying5
  a5 := Tryz.isAgg5
  z5 := Tryz.sizeOf5
  v5 := Tryz.zeroValue5
  t9 := Tryz.underlying9
  a9 := Tryz.isAgg9
  z9 := Tryz.sizeOf9
  v9 := Tryz.zeroValue9
  t46 := Tryz.underlying95
  a46 := Tryz.isAgg95
  z46 := Tryz.sizeOf95
  v46 := Tryz.zeroValue95
  t51 := Tryz.underlying107
  a51 := Tryz.isAgg107
  z51 := Tryz.sizeOf107
  v51 := Tryz.zeroValue107
  t146 := Tryz.underlying121
  a146 := Tryz.isAgg121
  z146 := Tryz.sizeOf121
  v146 := Tryz.zeroValue121
  g1 := by kernel_rfl }
open Go.RowKit Go.Lib in
/-- strings.Count AT A substr OF ONE BYTE ('hp'): "Count counts the number of non-overlapping instances of substr in s.": IT RETURNS 'Lib.countByte s (that byte)'; the world is as it was. ✋ NO CONTRACT HERE YET at an empty substr (utf8.RuneCountInString) or at a longer one (a loop over strings.Index). (LAID: no walk: one application.) -/
theorem Tryz.strings_Count_one (s : ByteArray) (c : UInt8) (w : World) :
    Calls Tryz.prog 41 #[.string s, .string ⟨#[c]⟩] w fun e w' => e = .returned (.int .i64 (Lib.countByte s.data.toList c)) ∧ w' = w := Any.strings_Count_one Tryz.lays138 s c w
def Tryz.lays99_ren : Go.Shelf.Ren := ⟨fun | 99 => 40 | 206 => 50 | n => n, fun | 9 => 9 | 4 => 4 | 3 => 3 | n => n, fun | n => n⟩
theorem Tryz.lays99 : Go.Proofs.Lays.n99 Tryz.prog Tryz.lays99_ren := {
  mixed := by kernel_rfl
  f99 := Tryz.func40.trans (congrArg some (by kernel_rfl))
  f206 := Tryz.func50.trans (congrArg some (by kernel_rfl))
  t3 := Tryz.underlying3
  a3 := Tryz.isAgg3
  z3 := Tryz.sizeOf3
  v3 := Tryz.zeroValue3
  t4 := Tryz.underlying4
  a4 := Tryz.isAgg4
  z4 := Tryz.sizeOf4
  v4 := Tryz.zeroValue4
  t9 := Tryz.underlying9
  a9 := Tryz.isAgg9
  z9 := Tryz.sizeOf9
  v9 := Tryz.zeroValue9 }
open Go.RowKit Go.Lib in
/-- strings.HasPrefix: "HasPrefix reports whether the string s begins with prefix.": IT RETURNS 'Lib.hasPrefix s prefix'; the world is as it was. (LAID: no walk: one application.) -/
theorem Tryz.strings_HasPrefix (s p : ByteArray) (w : World) :
    Calls Tryz.prog 40 #[.string s, .string p] w fun e w' => e = .returned (.bool (Lib.hasPrefix s.data.toList p.data.toList)) ∧ w' = w := Any.strings_HasPrefix Tryz.lays99 s p w
end Go.Proofs
