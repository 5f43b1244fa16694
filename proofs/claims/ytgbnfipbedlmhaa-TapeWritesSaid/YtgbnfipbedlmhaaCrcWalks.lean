/-
  The walks of package crc: each function computes what the plain mathematics says. Conditions: the arguments can be read.
-/
import Derived.Test.YtgbnfipbedlmhaaWords
import Derived.Test.YtgbnfipbedlmhaaCrcPlain
set_option linter.unusedVariables false
namespace Go.Proofs.Ytgbnfipbedlmhaa
open Go.RowKit Base

theorem crc_in (z : BitVec 32) (c : UInt8) : bits BinOp.xor IntKind.u32 (z.toNat : Int) ((c.toNat : Int) % 4294967296) = ((z ^^^ c.toBitVec.zeroExtend 32).toNat : Int) := by
  have e : (c.toNat : Int) % 4294967296 = (((c.toBitVec.zeroExtend 32).toNat : Nat) : Int) := by
    have := c.toNat_lt
    simp
    omega
  rw [e, bits32_xor]

theorem crc_step (x : BitVec 32) : bits BinOp.xor IntKind.u32 ((x.toNat : Int) / 2) (bits BinOp.and IntKind.u32 3988292384 (-bits BinOp.and IntKind.u32 (x.toNat : Int) 1 % 4294967296)) = ((CrcPlain.step x).toNat : Int) := by
  have e1 : bits BinOp.and IntKind.u32 (x.toNat : Int) 1 = (((x &&& 1#32).toNat : Nat) : Int) := bits32_and x 1#32
  have e2 : (x.toNat : Int) / (2 : Int) = (((x >>> 1).toNat : Nat) : Int) := by
    rw [BitVec.toNat_ushiftRight, Nat.shiftRight_eq_div_pow]; simp
  have e3 : (-(((x &&& 1#32).toNat : Nat) : Int)) % 4294967296 = (((-(x &&& 1#32)).toNat : Nat) : Int) := by
    have h := (x &&& 1#32).isLt
    rw [BitVec.toNat_neg]
    omega
  have e4 : (3988292384 : Int) = (((0xEDB88320#32).toNat : Nat) : Int) := by decide
  rw [e1, e2, e3, e4, bits32_and, bits32_xor]
  congr 2
  unfold CrcPlain.step
  congr 1
  have hx : x &&& 1#32 = if x.getLsbD 0 then 1#32 else 0#32 := by
    ext i hi
    by_cases h0 : i = 0
    · subst h0
      by_cases hx0 : x[0] = true
      · simp [BitVec.getLsbD_eq_getElem, hx0]
      · simp [BitVec.getLsbD_eq_getElem, hx0]
    · have : (1#32)[i] = false := by rw [← BitVec.getLsbD_eq_getElem hi, BitVec.getLsbD_one]; simp [h0]
      rw [BitVec.getElem_and, this]
      split <;> simp [this]
  rw [hx]
  split <;> decide

theorem u32ext {a b : BitVec 32} (h : a = b) : Value.int .u32 (a.toNat : Int) = .int .u32 (b.toNat : Int) := by rw [h]

theorem take_flat {α : Type} (ls : List (List α)) (k : Nat) (h : k < ls.length) : (ls.take (k + 1)).flatten = (ls.take k).flatten ++ ls[k] := by
  rw [List.take_succ_eq_append_getElem h, List.flatten_append]; simp

set_option maxHeartbeats 1000000 in
set_option maxRecDepth 100000 in
theorem crc_add_calls (s : BitVec 32) (w : World) (a : Option Addr) (n cap : Nat) (ls : List (List UInt8)) (h : ByteRows w a n cap ls) :
    Calls Try.prog 45 #[.int .u32 (s.toNat : Int), .slice a n cap] w fun e w' => e = .returned (.int .u32 ((CrcPlain.add s ls.flatten).toNat : Int)) ∧ w = w' := by
  obtain ⟨b, off, hrow, hidx⟩ := at_rows h
  obtain ⟨hn, hnc, hm, _⟩ := h
  have Hidx := Lib.hid hidx; clear hidx
  have Hrow := Lib.hid hrow; clear hrow
  have Hn := Lib.hid hn; clear hn
  unfold maxLen at hm
  go_enter Try.func45, Try.ntmps45
  go_wp2
  go_loop [5, 14] (fun x i => ∃ k : Nat, k ≤ n ∧ i = .int .i64 k ∧ x = .int .u32 (CrcPlain.run (~~~s) (ls.take k).flatten).toNat) (fun _ i => n - (intOf i).toNat)
  case atStart => exact ⟨0, Nat.zero_le _, rfl, by rw [bits32_not]; rfl⟩
  case round =>
    obtain ⟨k, hk, rfl, rfl⟩ := hrel
    by_cases hlt : k < n
    · have hkl : k < ls.length := by rw [← Hn.out]; exact hlt
      obtain ⟨a', c', hc, hb⟩ := Hrow.out k hkl
      have Hstep := Lib.hid (take_flat ls k hkl)
      generalize hy : CrcPlain.run (~~~s) (ls.take k).flatten = y
      have Hy := Lib.hid hy; clear hy
      generalize hl : ls[k]'hkl = l at *
      have hi := Hidx.out .i64 k w hlt
      obtain ⟨b2, off2, hcell2, hidx2⟩ := at_bytes hb
      have Hcell2 := Lib.hid hcell2; clear hcell2
      have Hidx2 := Lib.hid hidx2; clear hidx2
      have hlen2 := hb.2.1
      have hlen3 := hb.2.2.1
      clear hb hl
      unfold maxLen at hlen3
      go_wp2
      go_loop [5, 20] (fun x i => ∃ j : Nat, j ≤ l.length ∧ i = .int .i64 j ∧ x = .int .u32 (CrcPlain.run y (l.take j)).toNat) (fun _ i => l.length - (intOf i).toNat)
      case atStart => exact ⟨0, Nat.zero_le _, rfl, rfl⟩
      case round =>
        obtain ⟨j, hj, rfl, rfl⟩ := hrel
        by_cases hjl : j < l.length
        · have hi2 := Hidx2.out .i64 j w hjl
          have hc2 := Hcell2.out j hjl
          have Hs2 := Lib.hid (List.take_succ_eq_append_getElem hjl)
          clear hc
          generalize hz : CrcPlain.run y (l.take j) = z
          have Hz := Lib.hid hz; clear hz
          generalize hcc : l[j] = c at *
          clear hcc
          go_wp2
          go_loop [5, 28] (fun x i => ∃ q : Nat, q ≤ 8 ∧ i = .int .i64 q ∧ x = .int .u32 (CrcPlain.steps q (z ^^^ c.toBitVec.zeroExtend 32)).toNat) (fun _ i => 8 - (intOf i).toNat)
          case atStart => exact ⟨0, Nat.zero_le _, rfl, by rw [crc_in]; rfl⟩
          case round =>
            obtain ⟨q, hq, rfl, rfl⟩ := hrel
            have hst : CrcPlain.steps (q + 1) (z ^^^ c.toBitVec.zeroExtend 32) = CrcPlain.step (CrcPlain.steps q (z ^^^ c.toBitVec.zeroExtend 32)) := by
              rw [CrcPlain.steps_add q 1]; rfl
            have Hst := Lib.hid hst; clear hst
            by_cases hq8 : q < 8
            · generalize CrcPlain.steps q (z ^^^ c.toBitVec.zeroExtend 32) = x at *
              have hxl := x.isLt
              go_wp2
              go_round
              case rel => exact ⟨q + 1, by omega, by go_num, by rw [Hst.out, crc_step]⟩
              case measure => simp [intOf]; omega
            · obtain rfl : q = 8 := by omega
              go_wp2
              go_round
              case rel =>
                refine ⟨j + 1, by omega, by go_num, u32ext ?_⟩
                rw [Hs2.out, CrcPlain.run_append, Hz.out]
                rfl
              case measure => simp [intOf]; omega
        · obtain rfl : j = l.length := by omega
          go_wp2
          go_round
          case rel =>
            refine ⟨k + 1, by omega, by go_num, u32ext ?_⟩
            rw [Hstep.out, CrcPlain.run_append, Hy.out, List.take_length]
          case measure => simp [intOf]; omega
    · obtain rfl : k = n := by omega
      have ht : ls.take k = ls := List.take_of_length_le (by rw [← Hn.out]; exact Nat.le_refl _)
      have Ht := Lib.hid ht; clear ht
      go_wp2
      go_ret
      exact ⟨by rw [Ht.out]; simp only [CrcPlain.add]; rw [bits32_not]; rfl, rfl⟩

set_option maxRecDepth 100000 in
theorem crc_new_calls (w : World) : Calls Try.prog 44 #[] w fun e w' => e = .returned (.int .u32 0) ∧ w = w' := by
  go_enter Try.func44, Try.ntmps44
  go_wp2
  go_ret
  exact ⟨rfl, rfl⟩

theorem row_one {w : World} {a : Option Addr} {n cap : Nat} {l : List UInt8} (h : Bytes w a n cap l) (e : TypeId) : ByteRows (w.alloc (.cells #[.slice a n cap] e)) (some ⟨w.heap.size, 0, none⟩) 1 1 [l] := by
  have hn : n = l.length := h.1
  subst hn
  have hb : Below w.heap.size w (w.alloc (.cells #[.slice a l.length cap] e)) := (Below.refl _ _).alloc (Nat.le_refl _) _
  refine ⟨rfl, Nat.le_refl _, by decide, w.heap.size, 0, .inr rfl, fun k hk => ?_⟩
  simp at hk
  subst hk
  refine ⟨a, cap, ?_, ?_⟩
  · have hh : (w.alloc (.cells #[.slice a l.length cap] e)).heap[w.heap.size]? = some (.cells #[.slice a l.length cap] e) := heap_alloc_new w _
    unfold World.cell?
    simp only [hh]
    rfl
  · exact h.below stable_byteAt hb

theorem ref_odd (x : BitVec 32) (h : ((x.toNat : Int) % 2 == 1) = true) : bits BinOp.xor IntKind.u32 ((x.toNat : Int) / 2) 3988292384 = ((CrcPlain.step x).toNat : Int) := by
  have e2 : (x.toNat : Int) / (2 : Int) = (((x >>> 1).toNat : Nat) : Int) := by
    rw [BitVec.toNat_ushiftRight, Nat.shiftRight_eq_div_pow]; simp
  have e4 : (3988292384 : Int) = (((0xEDB88320#32).toNat : Nat) : Int) := by decide
  have hb : x.getLsbD 0 = true := by
    have : (x.toNat : Int) % 2 = 1 := by simpa using h
    rw [BitVec.getLsbD, Nat.testBit_zero]
    simp; omega
  rw [e2, e4, bits32_xor, CrcPlain.step, hb]
  rfl
theorem ref_even (x : BitVec 32) (h : ((x.toNat : Int) % 2 == 1) = false) : (x.toNat : Int) / 2 = ((CrcPlain.step x).toNat : Int) := by
  have e2 : (x.toNat : Int) / (2 : Int) = (((x >>> 1).toNat : Nat) : Int) := by
    rw [BitVec.toNat_ushiftRight, Nat.shiftRight_eq_div_pow]; simp
  have hb : x.getLsbD 0 = false := by
    have : ¬ (x.toNat : Int) % 2 = 1 := by simpa using h
    rw [BitVec.getLsbD, Nat.testBit_zero]
    simp; omega
  rw [e2, CrcPlain.step, hb]
  simp

theorem ref_last (y : BitVec 32) : (4294967295 : Int) - (y.toNat : Int) = ((~~~y).toNat : Int) := by
  have h := y.isLt
  rw [BitVec.toNat_not]
  omega

set_option maxHeartbeats 1000000 in
set_option maxRecDepth 100000 in
theorem crc_ref_of_calls (w : World) (s : ByteArray) (hs : s.size ≤ maxLen) :
    Calls Try.prog 26 #[.string s] w fun e w' => e = .returned (.int .u32 ((CrcPlain.of s.data.toList).toNat : Int)) ∧ w = w' := by
  unfold maxLen at hs
  go_enter Try.func26, Try.ntmps26
  go_wp2
  go_loop [3, 4] (fun x i => ∃ k : Nat, k ≤ s.size ∧ i = .int .i64 k ∧ x = .int .u32 (CrcPlain.run (~~~0#32) (s.data.toList.take k)).toNat) (fun _ i => s.size - (intOf i).toNat)
  case atStart => exact ⟨0, Nat.zero_le _, rfl, rfl⟩
  case round =>
    obtain ⟨k, hk, rfl, rfl⟩ := hrel
    by_cases hlt : k < s.size
    · have hkl : k < s.data.toList.length := by simpa using hlt
      have Hs := Lib.hid (List.take_succ_eq_append_getElem hkl)
      have hsk : s.data.toList[k] = s[k] := rfl
      have Hsk := Lib.hid hsk; clear hsk
      generalize hz : CrcPlain.run (~~~0#32) (s.data.toList.take k) = z
      have Hz := Lib.hid hz; clear hz
      go_wp2
      go_loop [3, 5] (fun x i => ∃ q : Nat, q ≤ 8 ∧ i = .int .i64 q ∧ x = .int .u32 (CrcPlain.steps q (z ^^^ s[k].toBitVec.zeroExtend 32)).toNat) (fun _ i => 8 - (intOf i).toNat)
      case atStart => exact ⟨0, Nat.zero_le _, rfl, by rw [crc_in]; rfl⟩
      case round =>
        obtain ⟨q, hq, rfl, rfl⟩ := hrel
        have hst : CrcPlain.steps (q + 1) (z ^^^ s[k].toBitVec.zeroExtend 32) = CrcPlain.step (CrcPlain.steps q (z ^^^ s[k].toBitVec.zeroExtend 32)) := by
          rw [CrcPlain.steps_add q 1]; rfl
        have Hst := Lib.hid hst; clear hst
        by_cases hq8 : q < 8
        · generalize CrcPlain.steps q (z ^^^ s[k].toBitVec.zeroExtend 32) = x at *
          have hxl := x.isLt
          cases hodd : ((x.toNat : Int) % 2 == 1) with
          | true =>
            have Ho := Lib.hid (ref_odd x hodd)
            go_wp2
            go_round
            case rel => exact ⟨q + 1, by omega, by go_num, by rw [Hst.out, ← Ho.out]⟩
            case measure => simp [intOf]; omega
          | false =>
            have Ho := Lib.hid (ref_even x hodd)
            go_wp2
            go_round
            case rel => exact ⟨q + 1, by omega, by go_num, by rw [Hst.out, ← Ho.out]⟩
            case measure => simp [intOf]; omega
        · obtain rfl : q = 8 := by omega
          go_wp2
          go_round
          case rel =>
            refine ⟨k + 1, by omega, by go_num, u32ext ?_⟩
            rw [Hs.out, CrcPlain.run_append, Hz.out, Hsk.out]
            rfl
          case measure => simp [intOf]; omega
    · obtain rfl : k = s.size := by omega
      have ht : s.data.toList.take s.size = s.data.toList := List.take_of_length_le (by simp)
      have Ht := Lib.hid ht; clear ht
      have hb := (CrcPlain.run (~~~0#32) s.data.toList).isLt
      go_wp2
      go_ret
      refine ⟨?_, rfl⟩
      rw [Ht.out, ref_last]
      rfl

theorem crc_tail_byte (x : BitVec 32) (k : Nat) (h : k < 4) : (x.toNat : Int) / 2 ^ (8 * k) % 256 = (((CrcPlain.tail x)[k]'h).toNat : Int) := by
  have hx : ∀ j : Nat, (UInt8.ofBitVec (x.extractLsb' j 8)).toNat = x.toNat / 2 ^ j % 256 := fun j => by
    show (x.extractLsb' j 8).toNat = _
    rw [BitVec.extractLsb'_toNat, Nat.shiftRight_eq_div_pow]
  rcases (by omega : k = 0 ∨ k = 1 ∨ k = 2 ∨ k = 3) with rfl | rfl | rfl | rfl
  · have := hx 0; show _ = (((UInt8.ofBitVec (x.extractLsb' 0 8)).toNat : Nat) : Int); rw [this]; simp
  · have := hx 8; show _ = (((UInt8.ofBitVec (x.extractLsb' 8 8)).toNat : Nat) : Int); rw [this]; simp
  · have := hx 16; show _ = (((UInt8.ofBitVec (x.extractLsb' 16 8)).toNat : Nat) : Int); rw [this]; simp
  · have := hx 24; show _ = (((UInt8.ofBitVec (x.extractLsb' 24 8)).toNat : Nat) : Int); rw [this]; simp

set_option maxHeartbeats 400000 in
set_option maxRecDepth 100000 in
theorem crc_tail_calls (w : World) (x : BitVec 32) :
    Calls Try.prog 46 #[.int .u32 (x.toNat : Int)] w fun e w' => ∃ v, e = .returned v ∧ w'.ownsRow w.heap.size 5 1 v 4 ((CrcPlain.tail x).map bv) ∧ Below w.heap.size w w' := by
  obtain ⟨i0, hi, hz0, hz1, hz2⟩ := info_parts info_u8
  have hxl := x.isLt
  generalize hB : w.heap.size = B
  have HB := Lib.hid hB; clear hB
  go_enter Try.func46, Try.ntmps46
  go_wp2
  go_loopw [3, 5] (fun v i wr => ∃ k : Nat, k ≤ 4 ∧ i = .int .i64 k ∧ wr.ownsRow B 5 1 v k (((CrcPlain.tail x).take k).map bv) ∧ Below B w wr) (fun _ i _ => 4 - (intOf i).toNat)
  case atStart => exact ⟨0, by omega, rfl, World.ownsRow_nil _ _ _ _, Below.refl _ _⟩
  case round =>
    obtain ⟨k, hk, rfl, hown, hbel⟩ := hrel
    by_cases hk4 : k < 4
    · have hv := crc_tail_byte x k hk4
      have Hv := Lib.hid hv; clear hv
      have hBs := hbel.size
      rw [HB.out] at hBs
      go_wp2_with (at_builtin; refine wpList_append_src rfl (.tmp 8) (.tmp 14) 28 28 rfl B 5 i0 (.int .u8 0) 1 1 Try.underlying28 (append_side Try.underlying28) hi hz0 hz1 hz2 rfl (by decide) (by decide) _ k _ rfl (hown.alloc _) _ 1 _ rfl (src_new wr [_] 5 1 1 rfl (by intro u hu; simp at hu; subst hu; rfl) 1) ?_ ?_ ?_ ?_)
      case _ => unfold maxLen; omega
      case _ => omega
      case _ => simp; omega
      intro v' w1 hown1 hg1 _
      have hb1 : Below B w w1 := (hbel.alloc (by omega) _).grown hg1 (by simp; omega) (fun j hj => (hown.lt j hj).1)
      have hown2 : w1.ownsRow B 5 1 v' (k + 1) (((CrcPlain.tail x).take (k + 1)).map bv) := by
        rw [List.take_succ_eq_append_getElem (show k < (CrcPlain.tail x).length from hk4), List.map_append]
        rw [Hv.out] at hown1
        simp only [List.map_take, List.map_cons, List.map_nil] at hown1 ⊢
        exact hown1
      clear hown1 hg1 hown
      go_wp2
      go_roundw
      case rel => exact ⟨k + 1, by omega, by go_num, hown2, hb1⟩
      case measure => simp [intOf]; omega
    · obtain rfl : k = 4 := by omega
      go_wp2
      go_ret
      exact ⟨_, rfl, hown, hbel⟩


set_option maxHeartbeats 400000 in
set_option maxRecDepth 100000 in
theorem crc_ref_tail_calls (w : World) (x : BitVec 32) :
    Calls Try.prog 25 #[.int .u32 (x.toNat : Int)] w fun e w' => e = .returned (.string (str (CrcPlain.tail x))) ∧ Below w.heap.size w w' := by
  have hxl := x.isLt
  have hbw : w.heap.size ≤ w.heap.size := Nat.le_refl _
  generalize hB : w.heap.size = B at hbw ⊢
  have hbw2 : B ≤ w.heap.size := by omega
  clear hB
  go_enter Try.func25, Try.ntmps25
  go_wp2
  go_loopw [0, 3, 4] (fun y s i wr => ∃ k : Nat, k ≤ 4 ∧ i = .int .i64 k ∧ y = .int .u32 ((x.toNat / 2 ^ (8 * k) : Nat) : Int) ∧ s = .string (str ((CrcPlain.tail x).take k)) ∧ Below B w wr ∧ B ≤ wr.heap.size) (fun _ _ i _ => 4 - (intOf i).toNat)
  case atStart => exact ⟨0, by omega, rfl, by simp, rfl, Below.refl _ _, hbw2⟩
  case round =>
    obtain ⟨k, hk, rfl, rfl, rfl, hbel, hBs⟩ := hrel
    by_cases hk4 : k < 4
    · have hv := crc_tail_byte x k hk4
      have Hv := Lib.hid hv; clear hv
      generalize hy : x.toNat / 2 ^ (8 * k) = y
      have hyl : y < 2 ^ 32 := by rw [← hy]; exact Nat.lt_of_le_of_lt (Nat.div_le_self _ _) hxl
      have Hy := Lib.hid hy; clear hy
      have hd := fun (n : Int) (c : UInt8) (h : n = (c.toNat : Int)) => str_bytes (bytes_one wr n c h 5)
      have hc : ((y : Int) % 256 = (((CrcPlain.tail x)[k]'hk4).toNat : Int)) := by
        rw [← Hv.out, ← Hy.out]
        simp
      have hd1 := hd _ _ hc
      have Ht := Lib.hid (List.take_succ_eq_append_getElem (show k < (CrcPlain.tail x).length from hk4))
      have Hnext : Hid (x.toNat / 2 ^ (8 * (k + 1)) = y / 256) := by
        show x.toNat / 2 ^ (8 * (k + 1)) = y / 256
        rw [← Hy.out, show 8 * (k + 1) = 8 * k + 8 by omega, Nat.pow_add, Nat.div_div_eq_div_mul]
      clear hd hc
      have hz1 : (str ((CrcPlain.tail x).take k)).size ≤ 4 := by rw [str_size, List.length_take]; omega
      have hz2 : (str [(CrcPlain.tail x)[k]'hk4]).size ≤ 1 := Nat.le_refl _
      go_wp2
      go_roundw
      case rel =>
        refine ⟨k + 1, by omega, by go_num, ?_, ?_, hbel.alloc hBs _, by simp; omega⟩
        · rw [Hnext.out]; rfl
        · rw [Ht.out, str_append]; rfl
      case measure => simp [intOf]; omega
    · obtain rfl : k = 4 := by omega
      go_wp2
      go_ret
      exact ⟨rfl, hbel⟩

end Go.Proofs.Ytgbnfipbedlmhaa
