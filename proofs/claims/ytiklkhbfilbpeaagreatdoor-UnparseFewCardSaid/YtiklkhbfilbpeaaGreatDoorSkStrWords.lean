/-
  Pieces of texts, sums and differences, as operations of a region. Conditions: as each law says.
-/
import Derived.Test.YtiklkhbfilbpeaaGreatDoorSkRegion
import Derived.Test.YtiklkhbfilbpeaaGreatDoorSkRegionS
import Derived.Test.YtiklkhbfilbpeaaGreatDoorSkWords
set_option linter.unusedVariables false
namespace Go.Proofs.YtiklkhbfilbpeaaGreatDoor.Sw
open Go.RowKit Base
theorem str_sub (l : List UInt8) (lo hi : Nat) : (str l).extract lo hi = str ((l.take hi).drop lo) := by
  apply ba_ext
  rw [str_data, ByteArray.data_extract]
  simp only [Array.toList_extract, List.extract_eq_take_drop]
  rw [str_data, List.drop_take]
theorem run_sub_h {P : Program} {w : World} {t : TypeId} (ht : P.underlying t = some .string) (l : List UInt8) (k : IntKind) (hi : Nat) (h : hi ≤ l.length) :
    (Instr.sliceAt t (.string (str l)) none (some (.int k (hi : Int))) none).run P w = .ok (.string (str (l.take hi))) w := by
  rw [run_sliceAt_string w t _ _ _ _ ht, run_slice_string_h w t (str l) ht k hi (by omega) (by rw [str_size]; omega)]
  rw [Int.toNat_natCast, str_sub, List.drop_zero]
theorem run_sub_l {P : Program} {w : World} {t : TypeId} (ht : P.underlying t = some .string) (l : List UInt8) (k : IntKind) (lo : Nat) (h : lo ≤ l.length) :
    (Instr.sliceAt t (.string (str l)) (some (.int k (lo : Int))) none none).run P w = .ok (.string (str (l.drop lo))) w := by
  rw [run_sliceAt_string w t _ _ _ _ ht, run_slice_string_l w t (str l) ht k lo (by omega) (by rw [str_size]; omega)]
  rw [Int.toNat_natCast, str_sub, List.take_of_length_le (by rw [str_size]; omega)]
theorem run_minus {P : Program} {w : World} {t : TypeId} {a b : Int} (h1 : -9223372036854775808 ≤ a - b) (h2 : a - b ≤ 9223372036854775807) : (binOp .sub t (.int .i64 a) (.int .i64 b)).run P w = .ok (.int .i64 (a - b)) w := by
  rw [binOp_sub]
  simp [Op.intArith, IntKind.wrap_i64]
  omega
theorem run_add {P : Program} {w : World} {t : TypeId} {a b : Int} (h1 : -9223372036854775808 ≤ a + b) (h2 : a + b ≤ 9223372036854775807) : (binOp .add t (.int .i64 a) (.int .i64 b)).run P w = .ok (.int .i64 (a + b)) w := by
  rw [binOp_add]
  simp [Op.intArith, IntKind.wrap_i64]
  omega
theorem run_at {P : Program} {w : World} {t : TypeId} (ht : P.underlying t = some .string) (l : List UInt8) (k : IntKind) (i : Nat) (h : i < l.length) :
    (Instr.index t (.string (str l)) (.int k (i : Int))).run P w = .ok (.int .u8 ((l[i]).toNat : Int)) w := by
  have h2 : i < (str l).size := h
  rw [run_index_string w t (str l) k i ht]
  simp [h2]
  rfl
theorem does_idx {P : Program} {a : Act} {w : World} {post : Value → World → Prop} {dst : Option Tmp} {x y : Operand} {t : TypeId} {ty : TypeId} {pos : String} {after : Array Edge} {guard : Option (Nat × Bool)} (v i u : Value)
    (hx : a.eval x = v) (hy : a.eval y = i) (hr : (Instr.index t v i).run P w = .ok u w) (hp : post u w) : Rg.does P { dst, op := .index t x y, type := ty, pos, after, guard } a w post := by
  refine Rg.does_value (v := u) ?_ hp
  simp [execOp, hx, hy, hr, Result.andThen]
theorem does_bin_str {P : Program} {a : Act} {w : World} {post : Value → World → Prop} {dst : Option Tmp} {op : BinOp} {x y : Operand} {t u : TypeId} {ty : TypeId} {pos : String} {after : Array Edge} {guard : Option (Nat × Bool)} (m n : ByteArray) (v : Value)
    (hx : a.eval x = .string m) (hy : a.eval y = .string n) (hr : (binOp op t (.string m) (.string n)).run P w = .ok v w) (hp : post v w) : Rg.does P { dst, op := .binOp op t x y u, type := ty, pos, after, guard } a w post := by
  refine Rg.does_value (v := v) ?_ hp
  simp [execOp, hx, hy, eqGuard_at_string, hr, Result.andThen]
end Go.Proofs.YtiklkhbfilbpeaaGreatDoor.Sw
