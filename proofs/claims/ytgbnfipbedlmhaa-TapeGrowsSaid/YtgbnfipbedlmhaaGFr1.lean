/-
  slices.Equal of bytes: whether two rows of bytes are the same. Conditions: both can be read.
  The walks of package crc: each function computes what the plain mathematics says. Conditions: the arguments can be read.
  frame.one: a row's frame. Conditions: the row can be read; it is not longer than 100000 bytes.
  frame.Take: the row that bytes begin with. Conditions: the bytes can be read; they are not too many.
-/
import Derived.Test.YtgbnfipbedlmhaaGVar
import Derived.Deep.QuietTactic
import Derived.BigQuiet
import Derived.Test.YtgbnfipbedlmhaaGPlain
import Derived.Test.YtgbnfipbedlmhaaGEv1
import Derived.Test.YtgbnfipbedlmhaaGReg
import Derived.Deep.Cut
/-! FrWalks1 -/
set_option linter.unusedVariables false
namespace Go.Proofs.Ytgbnfipbedlmhaa
open Go.RowKit Base

theorem belowF {B : Nat} {w wr : World} (h : Below B w wr) (n : Nat) : Below B w (wr.drewN n) := h.trans ⟨rfl, rfl, rfl, Nat.le_refl _, fun _ _ => rfl⟩
set_option maxHeartbeats 800000 in
set_option maxRecDepth 100000 in
theorem equal_bytes_calls (w : World) (a b : Option Addr) (n m ca cb : Nat) (la lb : List UInt8) (ha : Bytes w a n ca la) (hb : Bytes w b m cb lb) :
    Calls Try.prog 66 #[.slice a n ca, .slice b m cb] w fun e w' => e = .returned (.bool (decide (la = lb))) ∧ Below w.heap.size w w' := by
  have hca := ha.2.2.1
  have hna := ha.2.1
  have hcb := hb.2.2.1
  have hnb := hb.2.1
  unfold maxLen at hca hcb
  have Hn := Lib.hid ha.1
  have Hm := Lib.hid hb.1
  have Ha := Lib.hid ha; clear ha
  have Hb := Lib.hid hb; clear hb
  by_cases hnm : n = m
  · subst hnm
    go_enter Try.func66, Try.ntmps66
    go_wp2_with fail
    generalize hB : w.heap.size = B
    have HB := Lib.hid hB; clear hB
    have HBel : Hid (∀ wx, Below B w wx → Below w.heap.size w wx) := fun wx hx => by rw [HB.out]; exact hx
    have hbb : B ≤ w.heap.size := by rw [HB.out]; exact Nat.le_refl _
    go_loopw [13] (fun i wr => ∃ k : Nat, k ≤ n ∧ i = .int .i64 k ∧ (∀ j, j < k → la[j]? = lb[j]?) ∧ Below B w wr) (fun i _ => n - (intOf i).toNat)
    case atStart => exact ⟨0, Nat.zero_le _, rfl, fun j hj => absurd hj (by omega), Below.refl _ _⟩
    case round =>
      obtain ⟨k, hk, rfl, hall, hbel⟩ := hrel
      have HA := Lib.hid hall; clear hall
      by_cases hlt : k < n
      · have hka : k < la.length := by rw [← Hn.out]; exact hlt
        have hkb : k < lb.length := by rw [← Hm.out]; exact hlt
        obtain ⟨b1, o1, hrow1, hidx1⟩ := at_bytes (Ha.out.below stable_byteAt (HBel.out _ hbel))
        obtain ⟨b2, o2, hrow2, hidx2⟩ := at_bytes (Hb.out.below stable_byteAt (HBel.out _ hbel))
        have hc1 := hrow1 k hka
        have hc2 := hrow2 k hkb
        have hi1 := fun w' => hidx1 .i64 k w' hlt
        have hi2 := fun w' => hidx2 .i64 k w' hlt
        have e1 : la[k]? = some la[k] := List.getElem?_eq_getElem hka
        have e2 : lb[k]? = some lb[k] := List.getElem?_eq_getElem hkb
        have E1 := Lib.hid e1; clear e1
        have E2 := Lib.hid e2; clear e2
        clear hrow1 hidx1 hrow2 hidx2
        generalize la[k]'hka = x at *
        generalize lb[k]'hkb = y at *
        by_cases hxy : x = y
        · subst hxy
          have Hnext : Hid (∀ j, j < k + 1 → la[j]? = lb[j]?) := fun j hj => by
            rcases (by omega : j < k ∨ j = k) with h | h
            · exact HA.out j h
            · subst h; rw [E1.out, E2.out]
          go_wp2_with fail
          go_quiet (fail)
          go_wp2_with fail
          go_roundw
          case rel => exact ⟨k + 1, by omega, by go_num, Hnext.out, belowF hbel _⟩
          case measure => simp [intOf]; omega
        · have t1 : ((x.toNat : Int) == (y.toNat : Int)) = false := by rw [beq_eq_false_iff_ne]; intro h; exact hxy (UInt8.toNat_inj.1 (by omega))
          have t2 : ((x.toNat : Int) != (y.toNat : Int)) = true := by rw [bne_iff_ne]; intro h; exact hxy (UInt8.toNat_inj.1 (by omega))
          have H : Hid (decide (la = lb) = false) := by
            show _ = _
            rw [decide_eq_false_iff_not]
            intro hc
            subst hc
            have := E1.out.symm.trans E2.out
            exact hxy (Option.some.inj this)
          clear hxy
          go_wp2_with fail
          go_quiet (fail)
          go_wp2_with fail
          go_ret
          exact ⟨by rw [H.out]; rfl, HBel.out _ (belowF hbel _)⟩
      · obtain rfl : n = k := by omega
        have H : Hid (decide (la = lb) = true) := by
          show _ = _
          rw [decide_eq_true_iff]
          apply List.ext_getElem?
          intro j
          by_cases hj : j < n
          · exact HA.out j hj
          · rw [List.getElem?_eq_none (by rw [← Hn.out]; omega), List.getElem?_eq_none (by rw [← Hm.out]; omega)]
        go_wp2_with fail
        go_ret
        exact ⟨by rw [H.out]; rfl, HBel.out _ hbel⟩
  · have t1 : ((n : Int) == (m : Int)) = false := by rw [beq_eq_false_iff_ne]; omega
    have t2 : ((n : Int) != (m : Int)) = true := by rw [bne_iff_ne]; omega
    have H : Hid (decide (la = lb) = false) := by
      show _ = _
      rw [decide_eq_false_iff_not]
      intro hc
      subst hc
      exact hnm (Hn.out.trans Hm.out.symm)
    clear hnm
    go_enter Try.func66, Try.ntmps66
    go_wp2_with fail
    go_ret
    exact ⟨by rw [H.out]; rfl, Below.refl _ _⟩


end Go.Proofs.Ytgbnfipbedlmhaa

/-! CrcWalks -/
set_option linter.unusedVariables false
namespace Go.Proofs.Ytgbnfipbedlmhaa
open Go.RowKit Base

theorem crc_in (z : BitVec 32) (c : UInt8) : bits BinOp.xor IntKind.u32 (z.toNat : Int) ((c.toNat : Int) % 4294967296) = ((z ^^^ c.toBitVec.zeroExtend 32).toNat : Int) := by
  have e : (c.toNat : Int) % 4294967296 = (((c.toBitVec.zeroExtend 32).toNat : Nat) : Int) := by
    have := c.toNat_lt
    simp
    omega
  rw [e, bits32_xor]

theorem crc_step (x : BitVec 32) : bits BinOp.xor IntKind.u32 ((x.toNat : Int) / 2) (bits BinOp.and IntKind.u32 3988292384 (-bits BinOp.and IntKind.u32 (x.toNat : Int) 1 % 4294967296)) = ((CrcPlain.step x).toNat : Int) := by
  have e1 : bits BinOp.and IntKind.u32 (x.toNat : Int) 1 = (((x &&& 1#32).toNat : Nat) : Int) := bits32_and x 1#32
  have e2 : (x.toNat : Int) / (2 : Int) = (((x >>> 1).toNat : Nat) : Int) := by
    rw [BitVec.toNat_ushiftRight, Nat.shiftRight_eq_div_pow]; simp
  have e3 : (-(((x &&& 1#32).toNat : Nat) : Int)) % 4294967296 = (((-(x &&& 1#32)).toNat : Nat) : Int) := by
    have h := (x &&& 1#32).isLt
    rw [BitVec.toNat_neg]
    omega
  have e4 : (3988292384 : Int) = (((0xEDB88320#32).toNat : Nat) : Int) := by decide
  rw [e1, e2, e3, e4, bits32_and, bits32_xor]
  congr 2
  unfold CrcPlain.step
  congr 1
  have hx : x &&& 1#32 = if x.getLsbD 0 then 1#32 else 0#32 := by
    ext i hi
    by_cases h0 : i = 0
    · subst h0
      by_cases hx0 : x[0] = true
      · simp [BitVec.getLsbD_eq_getElem, hx0]
      · simp [BitVec.getLsbD_eq_getElem, hx0]
    · have : (1#32)[i] = false := by rw [← BitVec.getLsbD_eq_getElem hi, BitVec.getLsbD_one]; simp [h0]
      rw [BitVec.getElem_and, this]
      split <;> simp [this]
  rw [hx]
  split <;> decide

theorem u32ext {a b : BitVec 32} (h : a = b) : Value.int .u32 (a.toNat : Int) = .int .u32 (b.toNat : Int) := by rw [h]

theorem take_flat {α : Type} (ls : List (List α)) (k : Nat) (h : k < ls.length) : (ls.take (k + 1)).flatten = (ls.take k).flatten ++ ls[k] := by
  rw [List.take_succ_eq_append_getElem h, List.flatten_append]; simp

set_option maxHeartbeats 1000000 in
set_option maxRecDepth 100000 in
theorem crc_add_calls (s : BitVec 32) (w : World) (a : Option Addr) (n cap : Nat) (ls : List (List UInt8)) (h : ByteRows w a n cap ls) :
    Calls Try.prog 45 #[.int .u32 (s.toNat : Int), .slice a n cap] w fun e w' => e = .returned (.int .u32 ((CrcPlain.add s ls.flatten).toNat : Int)) ∧ w = w' := by
  obtain ⟨b, off, hrow, hidx⟩ := at_rows h
  obtain ⟨hn, hnc, hm, _⟩ := h
  have Hidx := Lib.hid hidx; clear hidx
  have Hrow := Lib.hid hrow; clear hrow
  have Hn := Lib.hid hn; clear hn
  unfold maxLen at hm
  go_enter Try.func45, Try.ntmps45
  go_wp2
  go_loop [5, 14] (fun x i => ∃ k : Nat, k ≤ n ∧ i = .int .i64 k ∧ x = .int .u32 (CrcPlain.run (~~~s) (ls.take k).flatten).toNat) (fun _ i => n - (intOf i).toNat)
  case atStart => exact ⟨0, Nat.zero_le _, rfl, by rw [bits32_not]; rfl⟩
  case round =>
    obtain ⟨k, hk, rfl, rfl⟩ := hrel
    by_cases hlt : k < n
    · have hkl : k < ls.length := by rw [← Hn.out]; exact hlt
      obtain ⟨a', c', hc, hb⟩ := Hrow.out k hkl
      have Hstep := Lib.hid (take_flat ls k hkl)
      generalize hy : CrcPlain.run (~~~s) (ls.take k).flatten = y
      have Hy := Lib.hid hy; clear hy
      generalize hl : ls[k]'hkl = l at *
      have hi := Hidx.out .i64 k w hlt
      obtain ⟨b2, off2, hcell2, hidx2⟩ := at_bytes hb
      have Hcell2 := Lib.hid hcell2; clear hcell2
      have Hidx2 := Lib.hid hidx2; clear hidx2
      have hlen2 := hb.2.1
      have hlen3 := hb.2.2.1
      clear hb hl
      unfold maxLen at hlen3
      go_wp2
      go_loop [5, 20] (fun x i => ∃ j : Nat, j ≤ l.length ∧ i = .int .i64 j ∧ x = .int .u32 (CrcPlain.run y (l.take j)).toNat) (fun _ i => l.length - (intOf i).toNat)
      case atStart => exact ⟨0, Nat.zero_le _, rfl, rfl⟩
      case round =>
        obtain ⟨j, hj, rfl, rfl⟩ := hrel
        by_cases hjl : j < l.length
        · have hi2 := Hidx2.out .i64 j w hjl
          have hc2 := Hcell2.out j hjl
          have Hs2 := Lib.hid (List.take_succ_eq_append_getElem hjl)
          clear hc
          generalize hz : CrcPlain.run y (l.take j) = z
          have Hz := Lib.hid hz; clear hz
          generalize hcc : l[j] = c at *
          clear hcc
          go_wp2
          go_loop [5, 28] (fun x i => ∃ q : Nat, q ≤ 8 ∧ i = .int .i64 q ∧ x = .int .u32 (CrcPlain.steps q (z ^^^ c.toBitVec.zeroExtend 32)).toNat) (fun _ i => 8 - (intOf i).toNat)
          case atStart => exact ⟨0, Nat.zero_le _, rfl, by rw [crc_in]; rfl⟩
          case round =>
            obtain ⟨q, hq, rfl, rfl⟩ := hrel
            have hst : CrcPlain.steps (q + 1) (z ^^^ c.toBitVec.zeroExtend 32) = CrcPlain.step (CrcPlain.steps q (z ^^^ c.toBitVec.zeroExtend 32)) := by
              rw [CrcPlain.steps_add q 1]; rfl
            have Hst := Lib.hid hst; clear hst
            by_cases hq8 : q < 8
            · generalize CrcPlain.steps q (z ^^^ c.toBitVec.zeroExtend 32) = x at *
              have hxl := x.isLt
              go_wp2
              go_round
              case rel => exact ⟨q + 1, by omega, by go_num, by rw [Hst.out, crc_step]⟩
              case measure => simp [intOf]; omega
            · obtain rfl : q = 8 := by omega
              go_wp2
              go_round
              case rel =>
                refine ⟨j + 1, by omega, by go_num, u32ext ?_⟩
                rw [Hs2.out, CrcPlain.run_append, Hz.out]
                rfl
              case measure => simp [intOf]; omega
        · obtain rfl : j = l.length := by omega
          go_wp2
          go_round
          case rel =>
            refine ⟨k + 1, by omega, by go_num, u32ext ?_⟩
            rw [Hstep.out, CrcPlain.run_append, Hy.out, List.take_length]
          case measure => simp [intOf]; omega
    · obtain rfl : k = n := by omega
      have ht : ls.take k = ls := List.take_of_length_le (by rw [← Hn.out]; exact Nat.le_refl _)
      have Ht := Lib.hid ht; clear ht
      go_wp2
      go_ret
      exact ⟨by rw [Ht.out]; simp only [CrcPlain.add]; rw [bits32_not]; rfl, rfl⟩

set_option maxRecDepth 100000 in
theorem crc_new_calls (w : World) : Calls Try.prog 44 #[] w fun e w' => e = .returned (.int .u32 0) ∧ w = w' := by
  go_enter Try.func44, Try.ntmps44
  go_wp2
  go_ret
  exact ⟨rfl, rfl⟩

theorem row_one {w : World} {a : Option Addr} {n cap : Nat} {l : List UInt8} (h : Bytes w a n cap l) (e : TypeId) : ByteRows (w.alloc (.cells #[.slice a n cap] e)) (some ⟨w.heap.size, 0, none⟩) 1 1 [l] := by
  have hn : n = l.length := h.1
  subst hn
  have hb : Below w.heap.size w (w.alloc (.cells #[.slice a l.length cap] e)) := (Below.refl _ _).alloc (Nat.le_refl _) _
  refine ⟨rfl, Nat.le_refl _, by decide, w.heap.size, 0, .inr rfl, fun k hk => ?_⟩
  simp at hk
  subst hk
  refine ⟨a, cap, ?_, ?_⟩
  · have hh : (w.alloc (.cells #[.slice a l.length cap] e)).heap[w.heap.size]? = some (.cells #[.slice a l.length cap] e) := heap_alloc_new w _
    unfold World.cell?
    simp only [hh]
    rfl
  · exact h.below stable_byteAt hb

theorem ref_odd (x : BitVec 32) (h : ((x.toNat : Int) % 2 == 1) = true) : bits BinOp.xor IntKind.u32 ((x.toNat : Int) / 2) 3988292384 = ((CrcPlain.step x).toNat : Int) := by
  have e2 : (x.toNat : Int) / (2 : Int) = (((x >>> 1).toNat : Nat) : Int) := by
    rw [BitVec.toNat_ushiftRight, Nat.shiftRight_eq_div_pow]; simp
  have e4 : (3988292384 : Int) = (((0xEDB88320#32).toNat : Nat) : Int) := by decide
  have hb : x.getLsbD 0 = true := by
    have : (x.toNat : Int) % 2 = 1 := by simpa using h
    rw [BitVec.getLsbD, Nat.testBit_zero]
    simp; omega
  rw [e2, e4, bits32_xor, CrcPlain.step, hb]
  rfl
theorem ref_even (x : BitVec 32) (h : ((x.toNat : Int) % 2 == 1) = false) : (x.toNat : Int) / 2 = ((CrcPlain.step x).toNat : Int) := by
  have e2 : (x.toNat : Int) / (2 : Int) = (((x >>> 1).toNat : Nat) : Int) := by
    rw [BitVec.toNat_ushiftRight, Nat.shiftRight_eq_div_pow]; simp
  have hb : x.getLsbD 0 = false := by
    have : ¬ (x.toNat : Int) % 2 = 1 := by simpa using h
    rw [BitVec.getLsbD, Nat.testBit_zero]
    simp; omega
  rw [e2, CrcPlain.step, hb]
  simp

theorem ref_last (y : BitVec 32) : (4294967295 : Int) - (y.toNat : Int) = ((~~~y).toNat : Int) := by
  have h := y.isLt
  rw [BitVec.toNat_not]
  omega

set_option maxHeartbeats 1000000 in
set_option maxRecDepth 100000 in
theorem crc_ref_of_calls (w : World) (s : ByteArray) (hs : s.size ≤ maxLen) :
    Calls Try.prog 26 #[.string s] w fun e w' => e = .returned (.int .u32 ((CrcPlain.of s.data.toList).toNat : Int)) ∧ w = w' := by
  unfold maxLen at hs
  go_enter Try.func26, Try.ntmps26
  go_wp2
  go_loop [3, 4] (fun x i => ∃ k : Nat, k ≤ s.size ∧ i = .int .i64 k ∧ x = .int .u32 (CrcPlain.run (~~~0#32) (s.data.toList.take k)).toNat) (fun _ i => s.size - (intOf i).toNat)
  case atStart => exact ⟨0, Nat.zero_le _, rfl, rfl⟩
  case round =>
    obtain ⟨k, hk, rfl, rfl⟩ := hrel
    by_cases hlt : k < s.size
    · have hkl : k < s.data.toList.length := by simpa using hlt
      have Hs := Lib.hid (List.take_succ_eq_append_getElem hkl)
      have hsk : s.data.toList[k] = s[k] := rfl
      have Hsk := Lib.hid hsk; clear hsk
      generalize hz : CrcPlain.run (~~~0#32) (s.data.toList.take k) = z
      have Hz := Lib.hid hz; clear hz
      go_wp2
      go_loop [3, 5] (fun x i => ∃ q : Nat, q ≤ 8 ∧ i = .int .i64 q ∧ x = .int .u32 (CrcPlain.steps q (z ^^^ s[k].toBitVec.zeroExtend 32)).toNat) (fun _ i => 8 - (intOf i).toNat)
      case atStart => exact ⟨0, Nat.zero_le _, rfl, by rw [crc_in]; rfl⟩
      case round =>
        obtain ⟨q, hq, rfl, rfl⟩ := hrel
        have hst : CrcPlain.steps (q + 1) (z ^^^ s[k].toBitVec.zeroExtend 32) = CrcPlain.step (CrcPlain.steps q (z ^^^ s[k].toBitVec.zeroExtend 32)) := by
          rw [CrcPlain.steps_add q 1]; rfl
        have Hst := Lib.hid hst; clear hst
        by_cases hq8 : q < 8
        · generalize CrcPlain.steps q (z ^^^ s[k].toBitVec.zeroExtend 32) = x at *
          have hxl := x.isLt
          cases hodd : ((x.toNat : Int) % 2 == 1) with
          | true =>
            have Ho := Lib.hid (ref_odd x hodd)
            go_wp2
            go_round
            case rel => exact ⟨q + 1, by omega, by go_num, by rw [Hst.out, ← Ho.out]⟩
            case measure => simp [intOf]; omega
          | false =>
            have Ho := Lib.hid (ref_even x hodd)
            go_wp2
            go_round
            case rel => exact ⟨q + 1, by omega, by go_num, by rw [Hst.out, ← Ho.out]⟩
            case measure => simp [intOf]; omega
        · obtain rfl : q = 8 := by omega
          go_wp2
          go_round
          case rel =>
            refine ⟨k + 1, by omega, by go_num, u32ext ?_⟩
            rw [Hs.out, CrcPlain.run_append, Hz.out, Hsk.out]
            rfl
          case measure => simp [intOf]; omega
    · obtain rfl : k = s.size := by omega
      have ht : s.data.toList.take s.size = s.data.toList := List.take_of_length_le (by simp)
      have Ht := Lib.hid ht; clear ht
      have hb := (CrcPlain.run (~~~0#32) s.data.toList).isLt
      go_wp2
      go_ret
      refine ⟨?_, rfl⟩
      rw [Ht.out, ref_last]
      rfl

theorem crc_tail_byte (x : BitVec 32) (k : Nat) (h : k < 4) : (x.toNat : Int) / 2 ^ (8 * k) % 256 = (((CrcPlain.tail x)[k]'h).toNat : Int) := by
  have hx : ∀ j : Nat, (UInt8.ofBitVec (x.extractLsb' j 8)).toNat = x.toNat / 2 ^ j % 256 := fun j => by
    show (x.extractLsb' j 8).toNat = _
    rw [BitVec.extractLsb'_toNat, Nat.shiftRight_eq_div_pow]
  rcases (by omega : k = 0 ∨ k = 1 ∨ k = 2 ∨ k = 3) with rfl | rfl | rfl | rfl
  · have := hx 0; show _ = (((UInt8.ofBitVec (x.extractLsb' 0 8)).toNat : Nat) : Int); rw [this]; simp
  · have := hx 8; show _ = (((UInt8.ofBitVec (x.extractLsb' 8 8)).toNat : Nat) : Int); rw [this]; simp
  · have := hx 16; show _ = (((UInt8.ofBitVec (x.extractLsb' 16 8)).toNat : Nat) : Int); rw [this]; simp
  · have := hx 24; show _ = (((UInt8.ofBitVec (x.extractLsb' 24 8)).toNat : Nat) : Int); rw [this]; simp

set_option maxHeartbeats 400000 in
set_option maxRecDepth 100000 in
theorem crc_tail_calls (w : World) (x : BitVec 32) :
    Calls Try.prog 46 #[.int .u32 (x.toNat : Int)] w fun e w' => ∃ v, e = .returned v ∧ w'.ownsRow w.heap.size 5 1 v 4 ((CrcPlain.tail x).map bv) ∧ Below w.heap.size w w' := by
  obtain ⟨i0, hi, hz0, hz1, hz2⟩ := info_parts info_u8
  have hxl := x.isLt
  generalize hB : w.heap.size = B
  have HB := Lib.hid hB; clear hB
  go_enter Try.func46, Try.ntmps46
  go_wp2
  go_loopw [3, 5] (fun v i wr => ∃ k : Nat, k ≤ 4 ∧ i = .int .i64 k ∧ wr.ownsRow B 5 1 v k (((CrcPlain.tail x).take k).map bv) ∧ Below B w wr) (fun _ i _ => 4 - (intOf i).toNat)
  case atStart => exact ⟨0, by omega, rfl, World.ownsRow_nil _ _ _ _, Below.refl _ _⟩
  case round =>
    obtain ⟨k, hk, rfl, hown, hbel⟩ := hrel
    by_cases hk4 : k < 4
    · have hv := crc_tail_byte x k hk4
      have Hv := Lib.hid hv; clear hv
      have hBs := hbel.size
      rw [HB.out] at hBs
      go_wp2_with (at_builtin; refine wpList_append_src rfl (.tmp 8) (.tmp 14) 28 28 rfl B 5 i0 (.int .u8 0) 1 1 Try.underlying28 (append_side Try.underlying28) hi hz0 hz1 hz2 rfl (by decide) (by decide) _ k _ rfl (hown.alloc _) _ 1 _ rfl (src_new wr [_] 5 1 1 rfl (by intro u hu; simp at hu; subst hu; rfl) 1) ?_ ?_ ?_ ?_)
      case _ => unfold maxLen; omega
      case _ => omega
      case _ => simp; omega
      intro v' w1 hown1 hg1 _
      have hb1 : Below B w w1 := (hbel.alloc (by omega) _).grown hg1 (by simp; omega) (fun j hj => (hown.lt j hj).1)
      have hown2 : w1.ownsRow B 5 1 v' (k + 1) (((CrcPlain.tail x).take (k + 1)).map bv) := by
        rw [List.take_succ_eq_append_getElem (show k < (CrcPlain.tail x).length from hk4), List.map_append]
        rw [Hv.out] at hown1
        simp only [List.map_take, List.map_cons, List.map_nil] at hown1 ⊢
        exact hown1
      clear hown1 hg1 hown
      go_wp2
      go_roundw
      case rel => exact ⟨k + 1, by omega, by go_num, hown2, hb1⟩
      case measure => simp [intOf]; omega
    · obtain rfl : k = 4 := by omega
      go_wp2
      go_ret
      exact ⟨_, rfl, hown, hbel⟩


set_option maxHeartbeats 400000 in
set_option maxRecDepth 100000 in
theorem crc_ref_tail_calls (w : World) (x : BitVec 32) :
    Calls Try.prog 25 #[.int .u32 (x.toNat : Int)] w fun e w' => e = .returned (.string (str (CrcPlain.tail x))) ∧ Below w.heap.size w w' := by
  have hxl := x.isLt
  have hbw : w.heap.size ≤ w.heap.size := Nat.le_refl _
  generalize hB : w.heap.size = B at hbw ⊢
  have hbw2 : B ≤ w.heap.size := by omega
  clear hB
  go_enter Try.func25, Try.ntmps25
  go_wp2
  go_loopw [0, 3, 4] (fun y s i wr => ∃ k : Nat, k ≤ 4 ∧ i = .int .i64 k ∧ y = .int .u32 ((x.toNat / 2 ^ (8 * k) : Nat) : Int) ∧ s = .string (str ((CrcPlain.tail x).take k)) ∧ Below B w wr ∧ B ≤ wr.heap.size) (fun _ _ i _ => 4 - (intOf i).toNat)
  case atStart => exact ⟨0, by omega, rfl, by simp, rfl, Below.refl _ _, hbw2⟩
  case round =>
    obtain ⟨k, hk, rfl, rfl, rfl, hbel, hBs⟩ := hrel
    by_cases hk4 : k < 4
    · have hv := crc_tail_byte x k hk4
      have Hv := Lib.hid hv; clear hv
      generalize hy : x.toNat / 2 ^ (8 * k) = y
      have hyl : y < 2 ^ 32 := by rw [← hy]; exact Nat.lt_of_le_of_lt (Nat.div_le_self _ _) hxl
      have Hy := Lib.hid hy; clear hy
      have hd := fun (n : Int) (c : UInt8) (h : n = (c.toNat : Int)) => str_bytes (bytes_one wr n c h 5)
      have hc : ((y : Int) % 256 = (((CrcPlain.tail x)[k]'hk4).toNat : Int)) := by
        rw [← Hv.out, ← Hy.out]
        simp
      have hd1 := hd _ _ hc
      have Ht := Lib.hid (List.take_succ_eq_append_getElem (show k < (CrcPlain.tail x).length from hk4))
      have Hnext : Hid (x.toNat / 2 ^ (8 * (k + 1)) = y / 256) := by
        show x.toNat / 2 ^ (8 * (k + 1)) = y / 256
        rw [← Hy.out, show 8 * (k + 1) = 8 * k + 8 by omega, Nat.pow_add, Nat.div_div_eq_div_mul]
      clear hd hc
      have hz1 : (str ((CrcPlain.tail x).take k)).size ≤ 4 := by rw [str_size, List.length_take]; omega
      have hz2 : (str [(CrcPlain.tail x)[k]'hk4]).size ≤ 1 := Nat.le_refl _
      go_wp2
      go_roundw
      case rel =>
        refine ⟨k + 1, by omega, by go_num, ?_, ?_, hbel.alloc hBs _, by simp; omega⟩
        · rw [Hnext.out]; rfl
        · rw [Ht.out, str_append]; rfl
      case measure => simp [intOf]; omega
    · obtain rfl : k = 4 := by omega
      go_wp2
      go_ret
      exact ⟨rfl, hbel⟩

end Go.Proofs.Ytgbnfipbedlmhaa

/-! FrWalks2 -/
set_option linter.unusedVariables false
namespace Go.Proofs.Ytgbnfipbedlmhaa
open Go.RowKit Base

theorem one_flat (l : List UInt8) : [VarPlain.num l.length, l].flatten = headed l := by simp [headed]
theorem one_flat3 (l : List UInt8) : [VarPlain.num l.length, l, CrcPlain.tail (CrcPlain.of (headed l))].flatten = oneF l := by simp [oneF, headed]
theorem two_rows {w : World} {a b : Option Addr} {n m ca cb : Nat} {l k : List UInt8} (h1 : Bytes w a n ca l) (h2 : Bytes w b m cb k) (e : TypeId) :
    ByteRows (w.alloc (.cells #[.slice a n ca, .slice b m cb] e)) (some ⟨w.heap.size, 0, none⟩) 2 2 [l, k] := by
  obtain rfl : n = l.length := h1.1
  obtain rfl : m = k.length := h2.1
  exact rows_lit w [.slice a l.length ca, .slice b k.length cb] [l, k] e (by simp [maxLen]) ⟨⟨_, _, rfl, h1⟩, ⟨_, _, rfl, h2⟩, trivial⟩
theorem three_rows {w : World} {a b c : Option Addr} {n m p ca cb cc : Nat} {l k j : List UInt8} (h1 : Bytes w a n ca l) (h2 : Bytes w b m cb k) (h3 : Bytes w c p cc j) (e : TypeId) :
    ByteRows (w.alloc (.cells #[.slice a n ca, .slice b m cb, .slice c p cc] e)) (some ⟨w.heap.size, 0, none⟩) 3 3 [l, k, j] := by
  obtain rfl : n = l.length := h1.1
  obtain rfl : m = k.length := h2.1
  obtain rfl : p = j.length := h3.1
  exact rows_lit w [.slice a l.length ca, .slice b k.length cb, .slice c j.length cc] [l, k, j] e (by simp [maxLen]) ⟨⟨_, _, rfl, h1⟩, ⟨_, _, rfl, h2⟩, ⟨_, _, rfl, h3⟩, trivial⟩

set_option maxHeartbeats 2000000 in
set_option maxRecDepth 100000 in
theorem frame_one_calls (w : World) (a : Option Addr) (n cap : Nat) (l : List UInt8) (h : Bytes w a n cap l) (hs : n ≤ 100000) :
    Calls Try.prog 30 #[.slice a n cap] w fun e w' => ∃ v, e = .returned v ∧ w'.ownsRow w.heap.size 5 1 v (oneF l).length ((oneF l).map bv) ∧ Below w.heap.size w w' := by
  obtain rfl : n = l.length := h.1
  have hcap := h.2.2.1
  have hnc := h.2.1
  unfold maxLen at hcap
  have hL : Lt64 l.length := by unfold Lt64; omega
  have hnl := num_len l.length hL
  have H0 := Lib.hid h; clear h
  have F2 : Hid (CrcPlain.add 0#32 [VarPlain.num l.length, l].flatten = CrcPlain.of (headed l)) := by show _ = _; rw [one_flat]; rfl
  have F3 := Lib.hid (one_flat3 l)
  have FL : Hid ((oneF l).length ≤ 1000000000) := by show _ ≤ _; rw [oneF_len]; omega
  have Hput := Lib.hid (var_put_calls (w.alloc (.cells #[.int .u64 ((l.length : Nat) : Int)] 62)) (some ⟨w.heap.size, 0, none⟩) 1 1 [l.length] (u64_one w l.length 62) (by intro x hx; simp at hx; subst hx; exact hL) (by decide))
  have HBA := Lib.hid ((Below.refl w.heap.size w).alloc (Nat.le_refl _) (.cells #[.int .u64 ((l.length : Nat) : Int)] 62))
  rw [nums_one] at Hput
  have hl64 : ((l.length : Nat) : Int) ≤ 100000 := by omega
  generalize VarPlain.num l.length = nb at *
  generalize CrcPlain.of (headed l) = s at *
  generalize oneF l = fr at *
  have hslt := s.isLt
  go_enter Try.func30, Try.ntmps30
  go_wp2_with fail
  refine Hput.out.mono ?_
  rintro e w1 ⟨v1, rfl, hown1, hb1⟩
  have HB1 : Hid (Below w.heap.size w w1) := HBA.out.trans (hb1.mono HBA.out.size)
  obtain ⟨a1, c1, rfl, hrow1⟩ := ownsRow_bytes hown1
  have hc1 := hrow1.2.2.1
  have hn1 := hrow1.2.1
  unfold maxLen at hc1
  have H1 := Lib.hid (H0.out.below stable_byteAt HB1.out)
  have HR := Lib.hid (two_rows hrow1 H1.out 28)
  have hba := (Below.refl w1.heap.size w1).alloc (Nat.le_refl _) (.cells #[.slice a1 nb.length c1, .slice a l.length cap] 28)
  have HB2 : Hid (Below w.heap.size w (w1.alloc (.cells #[.slice a1 nb.length c1, .slice a l.length cap] 28))) := HB1.out.trans (hba.mono HB1.out.size)
  have Hr2 := Lib.hid (hrow1.below stable_byteAt hba)
  have H2 := Lib.hid (H1.out.below stable_byteAt hba)
  clear hown1 hb1 hrow1 HBA Hput H1 HB1 hba
  go_wp2_with fail
  refine (crc_new_calls _).mono ?_
  rintro e w' ⟨rfl, rfl⟩
  go_wp2_with fail
  refine (crc_add_calls 0#32 _ _ _ _ [nb, l] HR.out).mono ?_
  rintro e w' ⟨rfl, rfl⟩
  rw [F2.out]
  clear HR
  generalize hX : w1.alloc (.cells #[.slice a1 nb.length c1, .slice a l.length cap] 28) = w2 at *
  clear hX
  go_wp2_with fail
  refine (crc_tail_calls _ s).mono ?_
  rintro e w3 ⟨v3, rfl, hown3, hb3⟩
  obtain ⟨a3, c3, rfl, hrow3⟩ := ownsRow_bytes hown3
  have HB3 : Hid (Below w.heap.size w w3) := HB2.out.trans (hb3.mono HB2.out.size)
  have HR3 := Lib.hid (three_rows (Hr2.out.below stable_byteAt hb3) (H2.out.below stable_byteAt hb3) hrow3 28)
  have hba := (Below.refl w3.heap.size w3).alloc (Nat.le_refl _) (.cells #[.slice a1 nb.length c1, .slice a l.length cap, .slice a3 4 c3] 28)
  have HB4 : Hid (Below w.heap.size w (w3.alloc (.cells #[.slice a1 nb.length c1, .slice a l.length cap, .slice a3 4 c3] 28))) := HB3.out.trans (hba.mono HB3.out.size)
  clear hown3 hb3 hrow3 Hr2 H2 HB2 HB3 hba
  go_wp2_with fail
  refine (concat_calls _ _ _ _ [nb, l, CrcPlain.tail s] HR3.out (by rw [F3.out]; exact FL.out)).mono ?_
  rintro e w5 ⟨v5, rfl, hown5, hb5⟩
  rw [F3.out] at hown5
  go_wp2_with fail
  go_ret
  exact ⟨_, rfl, ownsRow_mono hown5 HB4.out.size, HB4.out.trans (hb5.mono HB4.out.size)⟩

end Go.Proofs.Ytgbnfipbedlmhaa

/-! FrWalks3 -/
set_option linter.unusedVariables false
namespace Go.Proofs.Ytgbnfipbedlmhaa
open Go.RowKit Base

theorem does_notF {P : Program} {a : Act} {w : World} {post : Value → World → Prop} {dst : Option Tmp} {x : Operand} {t : TypeId} {ty : TypeId} {pos : String} {after : Array Edge} {guard : Option (Nat × Bool)} (b : Bool)
    (hx : a.eval x = .bool b) (hp : post (.bool (!b)) w) : Rg.does P { dst, op := .unOp .not t x, type := ty, pos, after, guard } a w post := by
  refine Rg.does_value (v := .bool (!b)) ?_ hp
  simp [execOp, hx, Op.unary]

set_option maxHeartbeats 2000000 in
set_option maxRecDepth 100000 in
theorem frame_take_calls (w : World) (a0 : Option Addr) (n cap : Nat) (l : List UInt8) (h : Bytes w a0 n cap l) (hs : n ≤ 100000000) :
    Calls Try.prog 48 #[.slice a0 n cap] w fun r w' => ∃ v, r = .returned (.tuple #[v, .int .i64 ((takeF l).2.1 : Int), .int .i64 (takeF l).2.2]) ∧ w'.ownsRow w.heap.size 5 1 v (takeF l).1.length ((takeF l).1.map bv) ∧ Below w.heap.size w w' := by
  obtain rfl : n = l.length := h.1
  have hcap := h.2.2.1
  have hnc := h.2.1
  unfold maxLen at hcap
  have HT := Lib.hid (var_take_calls w a0 l.length cap l h)
  have H0 := Lib.hid h; clear h
  have hxl := VarPlain.take_lt l
  have hkl := VarPlain.take_le l
  have HK : Hid ((VarPlain.take l).2.2 = 0 → VarPlain.num (VarPlain.take l).1 = l.take (VarPlain.take l).2.1) := fun h => (take_ok h).1
  have HF : Hid (takeF l = if (VarPlain.take l).2.2 ≠ 0 then ([], 0, (VarPlain.take l).2.2)
      else if 65536 < (VarPlain.take l).1 then ([], 0, 13)
      else if l.length - (VarPlain.take l).2.1 < (VarPlain.take l).1 + 4 then ([], 0, 10)
      else if oneF ((l.drop (VarPlain.take l).2.1).take (VarPlain.take l).1) ≠ l.take ((VarPlain.take l).2.1 + (VarPlain.take l).1 + 4) then ([], 0, 12)
      else ((l.drop (VarPlain.take l).2.1).take (VarPlain.take l).1, (VarPlain.take l).2.1 + (VarPlain.take l).1 + 4, 0)) := rfl
  unfold takeV at HT
  generalize VarPlain.take l = t at *
  obtain ⟨x, k, e⟩ := t
  simp only [] at HT hxl hkl HK HF
  by_cases he : e = 0
  case neg =>
    have HV : Hid (takeF l = ([], 0, e)) := by show _ = _; rw [HF.out, if_pos he]
    have t1 : (e == 0) = false := by rw [beq_eq_false_iff_ne]; exact he
    have t2 : (e != 0) = true := by rw [bne_iff_ne]; exact he
    clear he HF HK
    go_enter Try.func48, Try.ntmps48
    go_wp2_with fail
    refine HT.out.mono ?_
    rintro r w' ⟨rfl, rfl⟩
    go_wp2_with fail
    refine bodyPost_ret (v := .tuple #[.slice none 0 0, .int .i64 0, .int .i64 e]) (by simp [results, Try.results48, go_sem]) rfl ?_
    exact ⟨_, by rw [HV.out]; rfl, by rw [HV.out]; exact World.ownsRow_nil _ _ _ _, Below.refl _ _⟩
  subst he
  by_cases hbig : 65536 < x
  · have HV : Hid (takeF l = ([], 0, 13)) := by show _ = _; rw [HF.out, if_neg (by simp), if_pos hbig]
    have t1 : decide ((65536 : Int) < (x : Int)) = true := by simp; omega
    have t2 : (65536 : Int) < (x : Int) := by omega
    clear HF HK hbig
    go_enter Try.func48, Try.ntmps48
    go_wp2_with fail
    refine HT.out.mono ?_
    rintro r w' ⟨rfl, rfl⟩
    go_wp2_with fail
    refine bodyPost_ret (v := .tuple #[.slice none 0 0, .int .i64 0, .int .i64 13]) (by simp [results, Try.results48, go_sem]) rfl ?_
    exact ⟨_, by rw [HV.out]; rfl, by rw [HV.out]; exact World.ownsRow_nil _ _ _ _, Below.refl _ _⟩
  have HF : Hid (takeF l = if l.length - k < x + 4 then ([], 0, 10) else if oneF ((l.drop k).take x) ≠ l.take (k + x + 4) then ([], 0, 12) else ((l.drop k).take x, k + x + 4, 0)) := by
    show _ = _
    rw [HF.out, if_neg (by simp), if_neg hbig]
  have t1 : decide ((65536 : Int) < (x : Int)) = false := by simp; omega
  have t2 : ¬ (65536 : Int) < (x : Int) := by omega
  have hx6 : x ≤ 65536 := by omega
  clear hbig
  by_cases hsh : l.length - k < x + 4
  · have HV : Hid (takeF l = ([], 0, 10)) := by show _ = _; rw [HF.out, if_pos hsh]
    have d1 : decide ((l.length : Int) - (k : Int) < (x : Int) + 4) = true := by simp; omega
    have d2 : (l.length : Int) - (k : Int) < (x : Int) + 4 := by omega
    clear HF HK hsh
    go_enter Try.func48, Try.ntmps48
    go_wp2_with fail
    refine HT.out.mono ?_
    rintro r w' ⟨rfl, rfl⟩
    go_wp2_with fail
    refine bodyPost_ret (v := .tuple #[.slice none 0 0, .int .i64 0, .int .i64 10]) (by simp [results, Try.results48, go_sem]) rfl ?_
    exact ⟨_, by rw [HV.out]; rfl, by rw [HV.out]; exact World.ownsRow_nil _ _ _ _, Below.refl _ _⟩
  have HF : Hid (takeF l = if oneF ((l.drop k).take x) ≠ l.take (k + x + 4) then ([], 0, 12) else ((l.drop k).take x, k + x + 4, 0)) := by
    show _ = _
    rw [HF.out, if_neg hsh]
  have d1 : decide ((l.length : Int) - (k : Int) < (x : Int) + 4) = false := by simp; omega
  have d2 : ¬ (l.length : Int) - (k : Int) < (x : Int) + 4 := by omega
  have hall : k + x + 4 ≤ l.length := by omega
  clear hsh
  obtain ⟨a1, hB1, hS1⟩ := sub_bytes H0.out k (k + x) (by omega) (by omega)
  have hs1 : ∀ w', (Instr.slice 28 (.slice a0 l.length cap) (some (.int .i64 (k : Int))) (some (.int .i64 ((k : Int) + (x : Int)))) none).run Try.prog w' = .ok (.slice a1 x (cap - k)) w' := by
    intro w'
    have := (hS1 w').1 .i64 .i64
    rw [show ((k + x : Nat) : Int) = (k : Int) + (x : Int) from by simp, show k + x - k = x from by omega] at this
    exact this
  rw [show k + x - k = x from by omega] at hB1
  have hrw : (l.take (k + x)).drop k = (l.drop k).take x := by rw [List.drop_take, show k + x - k = x from by omega]
  rw [hrw] at hB1
  obtain ⟨a2, hB2, hS2⟩ := sub_bytes H0.out 0 (k + x + 4) (by omega) hall
  have HS2 : Hid (∀ w', (Instr.slice 28 (.slice a0 l.length cap) none (some (.int .i64 ((k : Int) + (x : Int) + 4))) none).run Try.prog w' = .ok (.slice a2 (k + x + 4) cap) w') := by
    intro w'
    have := (hS2 w').2.1 rfl .i64
    rw [show ((k + x + 4 : Nat) : Int) = (k : Int) + (x : Int) + 4 from by simp] at this
    exact this
  rw [List.drop_zero] at hB2
  have HB1 := Lib.hid hB1
  have HB2 : Hid (Bytes w a2 (k + x + 4) cap (l.take (k + x + 4))) := hB2
  clear hB1 hS1 hB2 hS2 hrw
  have hrl : ((l.drop k).take x).length = x := by rw [List.length_take, List.length_drop]; omega
  have HRL := Lib.hid hrl; clear hrl
  generalize (l.drop k).take x = row at *
  generalize l.take (k + x + 4) = fr at *
  go_enter Try.func48, Try.ntmps48
  go_wp2_with fail
  refine HT.out.mono ?_
  rintro r w' ⟨rfl, rfl⟩
  go_wp2_with fail
  refine Rg.wp_region_rgl [] [Rg.Is (.slice a1 x (cap - k)), (fun v w => ∃ a c, v = .slice a (oneF row).length c ∧ Bytes w a (oneF row).length c (oneF row)), Rg.Is (.slice a0 l.length cap), Rg.Is (.int .i64 ((k : Int) + (x : Int) + 4)), Rg.Is (.slice a2 (k + x + 4) cap), Rg.Is (.bool (decide (oneF row = fr))), Rg.Is (.bool (!(decide (oneF row = fr))))] (by kernel_rfl) (by kernel_rfl) (by kernel_rfl) ⟨Rg.st_is _, fun v w w' h hb => by obtain ⟨a, c, hv, hr⟩ := h; exact ⟨a, c, hv, hr.below stable_byteAt hb⟩, Rg.st_is _, Rg.st_is _, Rg.st_is _, Rg.st_is _, Rg.st_is _, trivial⟩ ⟨rfl, rfl, rfl, rfl, rfl, rfl, rfl, trivial⟩ ⟨?_, ?_, ?_, ?_, ?_, ?_, ?_, trivial⟩ ?_
  · intro _ a wx hb hk
    have h8 : a.eval (.tmp 8) = .slice a1 x (cap - k) := Eq.mp (by kernel_rfl) (hk 8 (by decide))
    exact Rg.does_move ⟨Below.refl _ _, h8⟩
  · intro _ a wx hb hk
    have h44 : a.eval (.tmp 44) = .slice a1 x (cap - k) := Eq.mp (by kernel_rfl) (hk 44 (by decide))
    refine Rg.does_func #[.slice a1 x (cap - k)] Try.func30 (by kernel_rfl) (by kernel_rfl) (by simp [h44]) (frame_one_calls wx a1 x (cap - k) row (HB1.out.below stable_byteAt hb) (by omega)) ?_
    rintro e' w' ⟨v, rfl, hown, hb'⟩
    obtain ⟨a', c', rfl, hr⟩ := ownsRow_bytes hown
    exact ⟨_, rfl, hb', _, _, rfl, hr⟩
  · intro _ a wx hb hk
    have h0 : a.eval (.tmp 0) = .slice a0 l.length cap := Eq.mp (by kernel_rfl) (hk 0 (by decide))
    exact Rg.does_move ⟨Below.refl _ _, h0⟩
  · intro _ a wx hb hk
    have h9 : a.eval (.tmp 9) = .int .i64 ((k : Int) + (x : Int) + 4) := Eq.mp (by kernel_rfl) (hk 9 (by decide))
    exact Rg.does_move ⟨Below.refl _ _, h9⟩
  · intro _ a wx hb hk
    have h46 : a.eval (.tmp 46) = .slice a0 l.length cap := Eq.mp (by kernel_rfl) (hk 46 (by decide))
    have h47 : a.eval (.tmp 47) = .int .i64 ((k : Int) + (x : Int) + 4) := Eq.mp (by kernel_rfl) (hk 47 (by decide))
    exact Rg.does_sub _ Try.underlying28 (by rw [h46]; simp only [Option.map, h47]; exact HS2.out wx) ⟨Below.refl _ _, rfl⟩
  · intro _ a wx hb hk
    have h45 : (fun v w => ∃ a c, v = .slice a (oneF row).length c ∧ Bytes w a (oneF row).length c (oneF row)) (a.eval (.tmp 45)) wx := Eq.mp (by kernel_rfl) (hk 45 (by decide))
    have h48 : a.eval (.tmp 48) = .slice a2 (k + x + 4) cap := Eq.mp (by kernel_rfl) (hk 48 (by decide))
    obtain ⟨a', c', hv, hr⟩ := h45
    refine Rg.does_func #[.slice a' (oneF row).length c', .slice a2 (k + x + 4) cap] Try.func66 (by kernel_rfl) (by kernel_rfl) (by simp [hv, h48]) (equal_bytes_calls wx a' a2 _ _ c' cap _ _ hr (HB2.out.below stable_byteAt hb)) ?_
    rintro e' w' ⟨rfl, hb'⟩
    exact ⟨_, rfl, hb', rfl⟩
  · intro _ a wx hb hk
    have h49 : a.eval (.tmp 49) = .bool (decide (oneF row = fr)) := Eq.mp (by kernel_rfl) (hk 49 (by decide))
    exact does_notF _ h49 ⟨Below.refl _ _, rfl⟩
  intro vals wD hbD hL
  obtain ⟨g0, g1, g2, g3, g4, g5, g6, _⟩ := hL
  have g6' : vals 6 = .bool (!(decide (oneF row = fr))) := g6
  have HBD := Lib.hid hbD
  have HBr := Lib.hid (HB1.out.below stable_byteAt hbD)
  clear g0 g1 g2 g3 g4 g5 g6 hbD HB1 HB2 HS2 hs1
  simp only [Rg.putAll, List.setIfInBounds_toArray, List.set_cons_succ, List.set_cons_zero, g6']
  clear g6'
  by_cases heq : oneF row = fr
  · have HV : Hid (takeF l = (row, k + x + 4, 0)) := by show _ = _; rw [HF.out, if_neg (by simpa using heq)]
    have e1 : (!(decide (oneF row = fr))) = false := by simp [heq]
    rw [e1]
    clear e1 heq HF
    go_wp2_with fail
    refine (clone_calls _ a1 x (cap - k) row HBr.out (by omega)).mono ?_
    rintro r w2 ⟨v, rfl, hown, hb2⟩
    obtain ⟨av, cv, rfl, _, _, _, _⟩ := ownsRow_slice hown
    go_wp2_with fail
    refine bodyPost_ret (v := .tuple #[.slice av x cv, .int .i64 ((k : Int) + (x : Int) + 4), .int .i64 0]) (by simp [results, Try.results48, go_sem]) rfl ?_
    refine ⟨.slice av x cv, by rw [HV.out]; simp, ?_, HBD.out.trans (hb2.mono HBD.out.size)⟩
    rw [HV.out]
    show World.ownsRow _ _ _ _ _ row.length _
    rw [HRL.out]
    exact ownsRow_mono hown HBD.out.size
  · have HV : Hid (takeF l = ([], 0, 12)) := by show _ = _; rw [HF.out, if_pos heq]
    have e1 : (!(decide (oneF row = fr))) = true := by simp [heq]
    rw [e1]
    clear e1 heq HF
    go_wp2_with fail
    refine bodyPost_ret (v := .tuple #[.slice none 0 0, .int .i64 0, .int .i64 12]) (by simp [results, Try.results48, go_sem]) rfl ?_
    exact ⟨_, by rw [HV.out]; rfl, by rw [HV.out]; exact World.ownsRow_nil _ _ _ _, HBD.out⟩

end Go.Proofs.Ytgbnfipbedlmhaa
