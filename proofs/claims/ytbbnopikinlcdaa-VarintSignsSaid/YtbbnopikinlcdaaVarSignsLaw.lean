/-
  The walk of the statement VarintSigns: any number with a sign, as one without, and back, is the document's: true; nothing that was there turns. Conditions: the numbers are of 64 bits.
-/
import Derived.Test.YtbbnopikinlcdaaVarAwake
set_option linter.unusedVariables false
namespace Go.Proofs.Ytbbnopikinlcdaa
open Go.RowKit Base

theorem zig_bounds (x : Int) (h1 : -9223372036854775808 ≤ x) (h2 : x ≤ 9223372036854775807) : (VarPlain.zig x : Int) ≤ 18446744073709551615 := by
  unfold VarPlain.zig; split <;> omega
theorem zag_bounds (y : Nat) (h : y < 18446744073709551616) : -9223372036854775808 ≤ VarPlain.zag y ∧ VarPlain.zag y ≤ 9223372036854775807 := by
  unfold VarPlain.zag; split <;> omega

set_option maxHeartbeats 400000 in
set_option maxRecDepth 100000 in
theorem var_signs_law (w : World) (x : Int) (y : Nat) (h1 : -9223372036854775808 ≤ x) (h2 : x ≤ 9223372036854775807) (hy : Lt64 y) :
    Calls Try.prog 8 #[.int .i64 x, .int .u64 (y : Int)] w fun e w' => e = .returned (.bool true) ∧ Below w.heap.size w w' := by
  have Hzb := Lib.hid (zig_bounds x h1 h2)
  have Hyb := Lib.hid (zag_bounds y hy)
  have Hzz := Lib.hid (VarPlain.zag_zig x)
  have Hyy := Lib.hid (VarPlain.zig_zag y)
  have H1 := Lib.hid h1; clear h1
  have H2 := Lib.hid h2; clear h2
  go_enter Try.func8, Try.ntmps8
  go_wp2_with fail
  refine (var_awake_calls _).mono ?_
  rintro e w1 ⟨rfl, hb1⟩
  have HB := Lib.hid hb1; clear hb1
  go_wp2_with fail
  refine (var_zig_calls w1 x H1.out H2.out).mono ?_
  rintro e w2 ⟨rfl, rfl⟩
  go_wp2_with fail
  refine (var_ref_zig_calls w1 x H1.out H2.out).mono ?_
  rintro e w2 ⟨rfl, rfl⟩
  go_wp2_with fail
  refine (var_zig_calls w1 x H1.out H2.out).mono ?_
  rintro e w2 ⟨rfl, rfl⟩
  go_wp2_with fail
  refine (var_zag_calls w1 (VarPlain.zig x : Int) (by omega) Hzb.out).mono ?_
  rintro e w2 ⟨rfl, rfl⟩
  rw [Int.toNat_natCast, Hzz.out]
  go_wp2_with fail
  refine (var_zag_calls w1 (y : Int) (by omega) (by unfold Lt64 at hy; omega)).mono ?_
  rintro e w2 ⟨rfl, rfl⟩
  rw [Int.toNat_natCast]
  go_wp2_with fail
  refine (var_ref_zig_calls w1 _ Hyb.out.1 Hyb.out.2).mono ?_
  rintro e w2 ⟨rfl, rfl⟩
  rw [Hyy.out]
  go_wp2_with fail
  go_ret
  exact ⟨rfl, HB.out⟩

end Go.Proofs.Ytbbnopikinlcdaa
