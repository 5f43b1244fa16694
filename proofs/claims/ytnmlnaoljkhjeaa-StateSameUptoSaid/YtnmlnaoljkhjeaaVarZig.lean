/-
  Zig, Zag and the reference's Zig and Num: each computes what the plain mathematics says. Conditions: the numbers are of 64 bits.
-/
import Derived.Test.YtnmlnaoljkhjeaaVarWalks
set_option linter.unusedVariables false
namespace Go.Proofs.Ytnmlnaoljkhjeaa
open Go.RowKit Base

theorem bits64_xor (x y : BitVec 64) : bits .xor .u64 (x.toNat : Int) (y.toNat : Int) = ((x ^^^ y).toNat : Int) := by
  rw [u64_xor_nat _ _ x.isLt y.isLt, BitVec.toNat_xor]
theorem bits64_and (x y : BitVec 64) : bits .and .u64 (x.toNat : Int) (y.toNat : Int) = ((x &&& y).toNat : Int) := by
  rw [u64_and_nat _ _ x.isLt y.isLt, BitVec.toNat_and]
theorem xor64_ones (a : Nat) (h : a < 18446744073709551616) : bits .xor .u64 (a : Int) 18446744073709551615 = ((18446744073709551615 - a : Nat) : Int) := by
  have e1 : a = (BitVec.ofNat 64 a).toNat := by rw [BitVec.toNat_ofNat, Nat.mod_eq_of_lt h]
  have e2 : (18446744073709551615 : Int) = (((BitVec.allOnes 64).toNat : Nat) : Int) := by decide
  rw [e2]
  conv => lhs; rw [e1]
  rw [bits64_xor, BitVec.xor_allOnes, BitVec.toNat_not, ← e1]
theorem xor64_zero (a : Nat) (h : a < 18446744073709551616) : bits .xor .u64 (a : Int) 0 = (a : Int) := by
  have := u64_xor_nat a 0 h (by decide)
  rw [Nat.xor_zero] at this
  exact this
theorem and64_one (a : Nat) (h : a < 18446744073709551616) : bits .and .u64 (a : Int) 1 = ((a % 2 : Nat) : Int) := by
  have := u64_and_nat a 1 h (by decide)
  rw [Nat.and_one_is_mod] at this
  exact this
theorem zig_raw (x : Int) (h1 : -9223372036854775808 ≤ x) (h2 : x ≤ 9223372036854775807) : bits BinOp.xor IntKind.u64 (IntKind.u64.wrap (IntKind.u64.wrap x * 2)) (IntKind.u64.wrap (x / 9223372036854775808)) = (VarPlain.zig x : Int) := by
  rw [IntKind.wrap_u64, IntKind.wrap_u64, IntKind.wrap_u64]
  by_cases h : 0 ≤ x
  · have e1 : x % 18446744073709551616 * 2 % 18446744073709551616 = (((2 * x).toNat : Nat) : Int) := by omega
    have e2 : x / 9223372036854775808 % 18446744073709551616 = 0 := by omega
    rw [e1, e2, xor64_zero _ (by omega), VarPlain.zig, if_pos h]
  · have e1 : x % 18446744073709551616 * 2 % 18446744073709551616 = (((2 * x + 18446744073709551616).toNat : Nat) : Int) := by omega
    have e2 : x / 9223372036854775808 % 18446744073709551616 = 18446744073709551615 := by omega
    rw [e1, e2, xor64_ones _ (by omega), VarPlain.zig, if_neg h]
    omega
theorem zag_raw (x : Int) (h1 : 0 ≤ x) (h2 : x ≤ 18446744073709551615) : bits BinOp.xor IntKind.i64 (x / 2) (wrap64 (-wrap64 (bits BinOp.and IntKind.u64 x 1))) = VarPlain.zag x.toNat := by
  have e0 : x = ((x.toNat : Nat) : Int) := by omega
  have e1 : bits BinOp.and IntKind.u64 x 1 = ((x.toNat % 2 : Nat) : Int) := by
    conv => lhs; rw [e0]
    exact and64_one _ (by omega)
  rw [e1]
  unfold VarPlain.zag
  rcases (by omega : x.toNat % 2 = 0 ∨ x.toNat % 2 = 1) with h | h
  · rw [h, if_pos rfl]
    have e2 : wrap64 (-wrap64 ((0 : Nat) : Int)) = 0 := by unfold wrap64; omega
    rw [e2]
    unfold bits
    have e3 : (BitVec.ofInt 64 (x / 2) ^^^ BitVec.ofInt 64 0) = BitVec.ofNat 64 (x.toNat / 2) := by
      have : (x / 2) = ((x.toNat / 2 : Nat) : Int) := by omega
      rw [this, BitVec.ofInt_natCast, show BitVec.ofInt 64 0 = 0#64 from by decide, BitVec.xor_zero]
    show IntKind.i64.wrap ((BitVec.ofInt 64 (x / 2) ^^^ BitVec.ofInt 64 0).toNat : Int) = _
    rw [e3, IntKind.wrap_i64, BitVec.toNat_ofNat]
    omega
  · rw [h, if_neg (by decide)]
    have e2 : wrap64 (-wrap64 ((1 : Nat) : Int)) = -1 := by unfold wrap64; omega
    rw [e2]
    unfold bits
    have e3 : (BitVec.ofInt 64 (x / 2) ^^^ BitVec.ofInt 64 (-1)) = ~~~ (BitVec.ofNat 64 (x.toNat / 2)) := by
      have : (x / 2) = ((x.toNat / 2 : Nat) : Int) := by omega
      rw [this, BitVec.ofInt_natCast, show BitVec.ofInt 64 (-1) = BitVec.allOnes 64 from by decide, BitVec.xor_allOnes]
    show IntKind.i64.wrap ((BitVec.ofInt 64 (x / 2) ^^^ BitVec.ofInt 64 (-1)).toNat : Int) = _
    rw [e3, IntKind.wrap_i64, BitVec.toNat_not, BitVec.toNat_ofNat]
    omega

set_option maxRecDepth 100000 in
theorem var_zig_calls (w : World) (x : Int) (h1 : -9223372036854775808 ≤ x) (h2 : x ≤ 9223372036854775807) :
    Calls Try.prog 59 #[.int .i64 x] w fun e w' => e = .returned (.int .u64 (VarPlain.zig x : Int)) ∧ w = w' := by
  have hz := zig_raw x h1 h2
  have Hz := Lib.hid hz; clear hz
  go_enter Try.func59, Try.ntmps59
  go_wp2
  go_ret
  exact ⟨by rw [← Hz.out]; rfl, rfl⟩
set_option maxRecDepth 100000 in
theorem var_zag_calls (w : World) (x : Int) (h1 : 0 ≤ x) (h2 : x ≤ 18446744073709551615) :
    Calls Try.prog 66 #[.int .u64 x] w fun e w' => e = .returned (.int .i64 (VarPlain.zag x.toNat)) ∧ w = w' := by
  have hz := zag_raw x h1 h2
  have Hz := Lib.hid hz; clear hz
  go_enter Try.func66, Try.ntmps66
  go_wp2
  go_ret
  exact ⟨by rw [← Hz.out]; rfl, rfl⟩
set_option maxRecDepth 100000 in
theorem var_ref_zig_calls (w : World) (x : Int) (h1 : -9223372036854775808 ≤ x) (h2 : x ≤ 9223372036854775807) :
    Calls Try.prog 45 #[.int .i64 x] w fun e w' => e = .returned (.int .u64 (VarPlain.zig x : Int)) ∧ w = w' := by
  have Hz : Hid (∀ x : Int, 0 ≤ x → (VarPlain.zig x : Int) = 2 * x) := fun x h => by unfold VarPlain.zig; rw [if_pos h]; omega
  have Hn : Hid (∀ x : Int, ¬ 0 ≤ x → (VarPlain.zig x : Int) = 2 * -(x + 1) + 1) := fun x h => by unfold VarPlain.zig; rw [if_neg h]; omega
  by_cases h : 0 ≤ x
  · go_enter Try.func45, Try.ntmps45
    go_wp2
    go_ret
    exact ⟨by rw [Hz.out x h]; rfl, rfl⟩
  · go_enter Try.func45, Try.ntmps45
    go_wp2
    go_ret
    exact ⟨by rw [Hn.out x h]; rfl, rfl⟩

set_option maxHeartbeats 1000000 in
set_option maxRecDepth 100000 in
theorem var_ref_num_calls (w : World) (x : Nat) (hx : Lt64 x) :
    Calls Try.prog 44 #[.int .u64 (x : Int)] w fun e w' => e = .returned (.string (str (VarPlain.num x))) ∧ Below w.heap.size w w' := by
  have hnl := num_len x hx
  generalize hB : w.heap.size = B
  have HB := Lib.hid hB; clear hB
  have hbb : B ≤ w.heap.size := by rw [HB.out]; exact Nat.le_refl _
  have H0 : Hid (([] : List UInt8) ++ VarPlain.num x = VarPlain.num x) := List.nil_append _
  go_enter Try.func44, Try.ntmps44
  go_wp2_with fail
  go_loopw [0, 3] (fun y s wr => ∃ (z : Nat) (dn : List UInt8), Lt64 z ∧ y = .int .u64 z ∧ dn ++ VarPlain.num z = VarPlain.num x ∧ s = .string (str dn) ∧ Below B w wr ∧ B ≤ wr.heap.size) (fun y _ _ => (intOf y).toNat)
  case atStart => exact ⟨x, [], hx, rfl, H0.out, rfl, Below.refl _ _, hbb⟩
  case round =>
    obtain ⟨z, dn, hz64, rfl, hdn, rfl, hbel, hBs⟩ := hrel
    have Hdn := Lib.hid hdn
    have hlen := congrArg List.length hdn
    rw [List.length_append] at hlen
    have hnp := num_pos z
    have hsz1 : (str dn).size ≤ 10 := by rw [str_size]; omega
    clear hdn hlen
    by_cases hbig : 128 ≤ z
    · have Hz := Lib.hid (VarPlain.num_big hbig)
      have hd1 := str_bytes (bytes_one wr (((UInt8.ofNat (128 + z % 128)).toNat : Nat) : Int) _ rfl 5)
      have hcv : (128 + (z : Int) % 128) = (((UInt8.ofNat (128 + z % 128)).toNat : Nat) : Int) := by simp; omega
      generalize UInt8.ofNat (128 + z % 128) = c at *
      have hsz2 : (str [c]).size ≤ 1 := Nat.le_refl _
      have hw : IntKind.u64.wrap ((z : Int) / 128) = (z : Int) / 128 := by
        rw [IntKind.wrap_u64]; unfold Lt64 at hz64; omega
      have Hd2 : Hid ((dn ++ [c]) ++ VarPlain.num (z / 128) = VarPlain.num x) := by
        show _ = _
        rw [← Hdn.out, Hz.out]; simp
      go_wp2_with fail
      go_roundw
      case rel => exact ⟨z / 128, _, lt64_div hz64, by go_num, Hd2.out, by rw [str_append], hbel.alloc hBs _, by simp; omega⟩
      case measure => simp [intOf]; omega
    · have hzs : z < 128 := by omega
      have Hz := Lib.hid (VarPlain.num_small hzs)
      have hd1 := str_bytes (bytes_one wr (((UInt8.ofNat z).toNat : Nat) : Int) _ rfl 5)
      have hcv : (z : Int) = (((UInt8.ofNat z).toNat : Nat) : Int) := by simp; omega
      have Hcv := Lib.hid hcv; clear hcv
      rw [← Hcv.out] at hd1
      have hsz2 : (str [UInt8.ofNat z]).size ≤ 1 := Nat.le_refl _
      have Hfin : Hid (str dn ++ str [UInt8.ofNat z] = str (VarPlain.num x)) := by
        show _ = _
        rw [str_append, ← Hdn.out, Hz.out]
      go_wp2_with fail
      go_ret
      exact ⟨by rw [← Hfin.out]; rfl, hbel.alloc hBs _⟩

end Go.Proofs.Ytnmlnaoljkhjeaa
