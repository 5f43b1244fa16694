/-
  DERIVED: THE SHELF's CONTRACTS AT THIS DUMP, IN PLAIN WORDS (tools/lay-plain.mjs out of 'TryShelf.lean', which tools/lay-shelf.mjs wrote): THE SAME DECLARATIONS UNDER THE SAME NAMES: 'import', 'namespace', 'open', 'def', 'theorem' AND NOTHING ELSE: no command of the shelf's: FOR A HAND-IN. Each laying: the table of numbers ('.._ren') and one theorem, a field a fact of the dump's own or the kernel's comparison; each contract: ONE APPLICATION.
-/
import Derived.Shelf.Strings.Builder1
import Derived.Shelf.Strings.Builder2
import Derived.Shelf.Small.Strs
import Derived.Shelf.Strings.BuilderF
import Derived.Shelf.Strings.BuilderK
import Derived.Shelf.Strings.Builder2Cap
import Derived.Shelf.Strings.Search1
import Derived.Shelf.Strings.Prefix
import Derived.Shelf.Bits.Mul64
import Derived.Shelf.Strings.Repeat
import Derived.Shelf.Strings.BuilderCap
import Derived.Test.YtiemlgfcmldnoaaProg
namespace Go.Proofs
open Go.Shelf
def Try.lays137_ren : Go.Shelf.Ren := ⟨fun | 137 => 19 | 217 => 27 | 266 => 34 | n => n, fun | 9 => 9 | 5 => 5 | 3 => 3 | n => n, fun | n => n⟩
theorem Try.lays137 : Go.Proofs.Lays.n137 Try.prog Try.lays137_ren := {
  mixed := by kernel_rfl
  f137 := Try.func19.trans (congrArg some (by kernel_rfl))
  f217 := Try.func27.trans (congrArg some (by kernel_rfl))
  f266 := Try.func34.trans (congrArg some (by kernel_rfl))
  t3 := Try.underlying3
  a3 := Try.isAgg3
  z3 := Try.sizeOf3
  v3 := Try.zeroValue3
  t5 := Try.underlying5
  a5 := Try.isAgg5
  z5 := Try.sizeOf5
  v5 := Try.zeroValue5
  t9 := Try.underlying9
  a9 := Try.isAgg9
  z9 := Try.sizeOf9
  v9 := Try.zeroValue9 }
open Go.RowKit in
/-- strings.IndexByte: "IndexByte returns the index of the first instance of c in s, or -1 if c is not present in s.": IT RETURNS 'Lib.indexByte s c'; the world is as it was. (LAID: no walk: one application.) -/
theorem Try.strings_IndexByte (s : ByteArray) (c : Int) (w : World) :
    Calls Try.prog 19 #[.string s, .int .u8 c] w fun e w' => e = .returned (.int .i64 (Lib.indexByte s.data.toList c.toNat.toUInt8)) ∧ w' = w := Any.strings_IndexByte Try.lays137 s c w
def Try.lays105_ren : Go.Shelf.Ren := ⟨fun | 105 => 25 | 212 => 28 | 99 => 29 | 165 => 30 | 166 => 31 | 170 => 32 | 169 => 33 | 263 => 35 | 264 => 36 | 206 => 37 | 240 => 38 | 241 => 39 | 276 => 40 | 277 => 41 | n => n, fun | 9 => 9 | 3 => 3 | 4 => 4 | 20 => 20 | 0 => 0 | 46 => 57 | 109 => 58 | 5 => 5 | 72 => 63 | 76 => 67 | 51 => 71 | 146 => 72 | 53 => 74 | 148 => 75 | 70 => 61 | 37 => 54 | 75 => 66 | 127 => 77 | 164 => 78 | 80 => 70 | n => n, fun | n => n⟩
theorem Try.lays105 : Go.Proofs.Lays.n105 Try.prog Try.lays105_ren := {
  mixed := by kernel_rfl
  f99 := Try.func29.trans (congrArg some (by kernel_rfl))
  f105 := Try.func25.trans (congrArg some (by kernel_rfl))
  f165 := Try.func30.trans (congrArg some (by kernel_rfl))
  f166 := Try.func31.trans (congrArg some (by kernel_rfl))
  f169 := Try.func33.trans (congrArg some (by kernel_rfl))
  f170 := Try.func32.trans (congrArg some (by kernel_rfl))
  f206 := Try.func37.trans (congrArg some (by kernel_rfl))
  f212 := Try.func28.trans (congrArg some (by kernel_rfl))
  f240 := Try.func38.trans (congrArg some (by kernel_rfl))
  f241 := Try.func39.trans (congrArg some (by kernel_rfl))
  f263 := Try.func35.trans (congrArg some (by kernel_rfl))
  f264 := Try.func36.trans (congrArg some (by kernel_rfl))
  f276 := Try.func40.trans (congrArg some (by kernel_rfl))
  f277 := Try.func41.trans (congrArg some (by kernel_rfl))
  t0 := Try.underlying0
  a0 := Try.isAgg0
  z0 := Try.sizeOf0
  v0 := Try.zeroValue0
  t3 := Try.underlying3
  a3 := Try.isAgg3
  z3 := Try.sizeOf3
  v3 := Try.zeroValue3
  t4 := Try.underlying4
  a4 := Try.isAgg4
  z4 := Try.sizeOf4
  v4 := Try.zeroValue4
  t5 := Try.underlying5
  a5 := Try.isAgg5
  z5 := Try.sizeOf5
  v5 := Try.zeroValue5
  t9 := Try.underlying9
  a9 := Try.isAgg9
  z9 := Try.sizeOf9
  v9 := Try.zeroValue9
  t20 := Try.underlying20
  a20 := Try.isAgg20
  z20 := Try.sizeOf20
  v20 := Try.zeroValue20
  t37 := Try.underlying54
  a37 := Try.isAgg54
  z37 := Try.sizeOf54
  v37 := Try.zeroValue54
  t46 := Try.underlying57
  a46 := Try.isAgg57
  z46 := Try.sizeOf57
  v46 := Try.zeroValue57
  t51 := Try.underlying71
  a51 := Try.isAgg71
  z51 := Try.sizeOf71
  v51 := Try.zeroValue71
  t53 := Try.underlying74
  a53 := Try.isAgg74
  z53 := Try.sizeOf74
  v53 := Try.zeroValue74
  t70 := Try.underlying61
  a70 := Try.isAgg61
  z70 := Try.sizeOf61
  v70 := Try.zeroValue61
  t72 := Try.underlying63
  a72 := Try.isAgg63
  z72 := Try.sizeOf63
  v72 := Try.zeroValue63
  t75 := Try.underlying66
  a75 := Try.isAgg66
  z75 := Try.sizeOf66
  v75 := Try.zeroValue66
  t76 := Try.underlying67
  a76 := Try.isAgg67
  z76 := Try.sizeOf67
  v76 := Try.zeroValue67
  t109 := Try.underlying58
  a109 := Try.isAgg58
  z109 := Try.sizeOf58
  v109 := Try.zeroValue58
  t127 := Try.underlying77
  a127 := Try.isAgg77
  z127 := Try.sizeOf77
  v127 := Try.zeroValue77
  t146 := Try.underlying72
  a146 := Try.isAgg72
  z146 := Try.sizeOf72
  v146 := Try.zeroValue72
  t148 := Try.underlying75
  a148 := Try.isAgg75
  z148 := Try.sizeOf75
  v148 := Try.zeroValue75
  t164 := Try.underlying78
  a164 := Try.isAgg78
  z164 := Try.sizeOf78
  v164 := Try.zeroValue78 }
theorem Try.Builder_Extra_105 : Builder.Extra Try.prog Try.lays105_ren := {
  sizeBuilder := by kernel_rfl
  liesBuilder := by kernel_rfl
  t5 := Try.underlying5
  a5 := Try.isAgg5
  z5 := Try.sizeOf5
  v5 := Try.zeroValue5
  infoByte := by kernel_rfl
  cellsByte := by kernel_rfl
  sizeByte := by kernel_rfl
  neB5 := by decide }
open Go.RowKit Go.Lib in
/-- **strings.Repeat: count ≥ 0, the result within one allocation: count copies of s.** (LAID: no walk: one application.) -/
theorem Try.strings_Repeat (s : ByteArray) (c : Nat) (w : World) (hc : c ≤ 9223372036854775807) (hlen : s.size * c ≤ 140737488355328) :
    Calls Try.prog 25 #[.string s, .int .i64 c] w fun e w' => e = .returned (.string ⟨(Lib.repeatL s.data.toList c).toArray⟩) ∧ Below w.heap.size w w' := Any.strings_Repeat Try.lays105 Try.Builder_Extra_105 s c w hc hlen

end Go.Proofs
