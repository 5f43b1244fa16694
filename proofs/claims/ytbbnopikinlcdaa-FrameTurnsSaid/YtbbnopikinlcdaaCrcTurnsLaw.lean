/-
  The walk of the statement CrcTurns: bytes and their tail, of which up to 32 bits on end are others, aren't bytes and their tail: true; nothing that was there turns. Conditions: the arguments can be read.
-/
import Derived.Test.YtbbnopikinlcdaaCrcTailsLaw
import Derived.Test.YtbbnopikinlcdaaCrcXorsLaw
set_option linter.unusedVariables false
namespace Go.Proofs.Ytbbnopikinlcdaa
open Go.RowKit Base

theorem bit_of (t : BitVec 32) (i : Nat) : t.getLsbD i = decide (t.toNat / 2 ^ i % 2 = 1) := by
  rw [BitVec.getLsbD, Nat.testBit_eq_decide_div_mod_eq]
theorem pow_u8 (q : Nat) (h : q < 8) : (UInt8.ofNat (2 ^ q)).toNat = 2 ^ q := by
  rcases (by omega : q = 0 ∨ q = 1 ∨ q = 2 ∨ q = 3 ∨ q = 4 ∨ q = 5 ∨ q = 6 ∨ q = 7) with rfl | rfl | rfl | rfl | rfl | rfl | rfl | rfl <;> rfl
theorem pow_le (k : Nat) (h : k < 7) : 2 ^ k ≤ 64 := by
  rcases (by omega : k = 0 ∨ k = 1 ∨ k = 2 ∨ k = 3 ∨ k = 4 ∨ k = 5 ∨ k = 6) with rfl | rfl | rfl | rfl | rfl | rfl | rfl <;> decide
theorem idx_own {g n c : Nat} (k : Nat) (hk : k < n) : ∀ (kd : IntKind) (w' : World), (Instr.indexAt 22 (.slice (some ⟨g, 0, none⟩) n c) (.int kd (k : Int))).run Try.prog w' = .ok (.pointer (some ⟨g, k, none⟩)) w' := by
  obtain ⟨i, hi', _, hs, _⟩ := info_parts info_u8
  intro kd w'
  rw [run_indexAt_slice w' 22 _ n c kd k (by simp [Program.elem, Try.underlying22]), if_pos ⟨by omega, by omega⟩]
  simp [Program.elem, Try.underlying22, sizeOf, typeInfo, hi', hs, Result.andThen, Addr.add_lit]
theorem crc_turned_str (l : List UInt8) (bit : Nat) (t : BitVec 32) (ht : t ≠ 0#32) (hb : bit + 32 ≤ 8 * (l.length + 4)) (lt : List UInt8) (h : lt = CrcPlain.turned (l ++ CrcPlain.tail (CrcPlain.of l)) bit t 32) :
    ((str (CrcPlain.tail (CrcPlain.of (lt.take l.length)))).toList == (str (lt.drop l.length)).toList) = false := by
  have := CrcPlain.turned_ne l bit t ht hb
  rw [← h] at this
  rw [beq_eq_false_iff_ne]
  intro hc
  rw [ByteArray.toList_eq, ByteArray.toList_eq] at hc
  exact this hc

set_option maxHeartbeats 4000000 in
set_option maxRecDepth 100000 in
theorem crc_turns_law (w : World) (a0 : Option Addr) (n cap : Nat) (l : List UInt8) (h0 : Bytes w a0 n cap l) (at0 : Int) (hat : 0 ≤ at0 ∧ at0 ≤ 65535) (t : BitVec 32) :
    Calls Try.prog 4 #[.slice a0 n cap, .int .u16 at0, .int .u32 (t.toNat : Int)] w fun e w' => e = .returned (.bool true) ∧ Below w.heap.size w w' := by
  obtain ⟨i0, hi, hz0, hz1, hz2⟩ := info_parts info_u8
  have hn := h0.1
  have hc0 := h0.2.2.1
  have hn0 := h0.2.1
  unfold maxLen at hc0
  have htl := t.isLt
  have Hn := Lib.hid hn; clear hn
  by_cases hbig : 1000 < n
  · have hbig' : decide ((1000 : Int) < (n : Int)) = true := by simp; omega
    go_enter Try.func4, Try.ntmps4
    go_wp2_with fail
    refine (crc_awake_calls _).mono ?_
    rintro e w1 ⟨rfl, hb1⟩
    go_wp2_with fail
    go_ret
    exact ⟨rfl, hb1⟩
  have hbig0 : decide ((1000 : Int) < (n : Int)) = false := by simp; omega
  by_cases hz : t = 0#32
  · have hz' : ((t.toNat : Int) == 0) = true := by rw [hz]; rfl
    clear hz
    go_enter Try.func4, Try.ntmps4
    go_wp2_with fail
    refine (crc_awake_calls _).mono ?_
    rintro e w1 ⟨rfl, hb1⟩
    go_wp2_with fail
    go_ret
    exact ⟨rfl, hb1⟩
  have hz' : ((t.toNat : Int) == 0) = false := by
    rw [beq_eq_false_iff_ne]
    intro hc
    apply hz
    apply BitVec.eq_of_toNat_eq
    simp
    omega
  have HZ := Lib.hid hz; clear hz
  obtain ⟨bit, hbit, hbl⟩ : ∃ bit : Nat, at0 % (8 * ((n : Int) + 4) - 31) = (bit : Int) ∧ bit + 32 ≤ 8 * (n + 4) := by
    have h1 := Int.emod_nonneg at0 (show (8 * ((n : Int) + 4) - 31) ≠ 0 by omega)
    have h2 := Int.emod_lt_of_pos at0 (show 0 < (8 * ((n : Int) + 4) - 31) by omega)
    exact ⟨(at0 % (8 * ((n : Int) + 4) - 31)).toNat, by omega, by omega⟩
  have H0 := Lib.hid h0; clear h0
  have HNE0 := Lib.hid (crc_turned_str l bit t HZ.out (by rw [← Hn.out]; exact hbl))
  have Htl : Hid ((CrcPlain.tail (CrcPlain.of l)).length = 4) := rfl
  generalize hB : w.heap.size = B
  have HB := Lib.hid hB; clear hB
  go_enter Try.func4, Try.ntmps4
  go_wp2_with fail
  refine (crc_awake_calls _).mono ?_
  rintro e w1 ⟨rfl, hb1⟩
  rw [HB.out] at hb1
  have hs1 : B ≤ w1.heap.size := by have := hb1.size; rw [HB.out] at this; exact this
  have below : ∀ wx, Below B w wx → Below w.heap.size w wx := fun wx hx => by rw [HB.out]; exact hx
  have HBel := Lib.hid below; clear below
  go_wp2_with (at_builtin; refine wpList_append_src rfl (.tmp 24) (.tmp 25) 22 22 rfl B 5 i0 (.int .u8 0) 1 1 Try.underlying22 (append_side Try.underlying22) hi hz0 hz1 hz2 rfl (by decide) (by decide) _ 0 _ rfl (own_nil w1 _ _) _ n _ rfl (src_bytes (H0.out.below stable_byteAt (HBel.out _ hb1))) ?_ ?_ ?_ ?_)
  case _ => unfold maxLen; omega
  case _ => omega
  case _ => omega
  intro v2 w2 hown2 hg2 _
  have hb2 : Below B w w2 := hb1.grown hg2 (by omega) (fun j hj => by simp [Value.ownBlock] at hj)
  have hs2 : B ≤ w2.heap.size := Nat.le_trans hs1 hg2.size
  clear hg2 hb1 hs1
  obtain ⟨av2, cv2, rfl, _, _, _, _⟩ := ownsRow_slice hown2
  go_wp2_with fail
  refine (crc_of_calls _ _ n _ l (H0.out.below stable_byteAt (HBel.out _ hb2))).mono ?_
  rintro e w3 ⟨rfl, hb3⟩
  have hown3 := ownsRow_below hown2 hb3
  have hb3' := hb2.trans (hb3.mono hs2)
  have hs3 : B ≤ w3.heap.size := Nat.le_trans hs2 hb3.size
  clear hown2 hb3 hb2 hs2
  go_wp2_with fail
  refine (crc_tail_calls _ _).mono ?_
  rintro e w4 ⟨v4, rfl, hown4, hb4⟩
  obtain ⟨av4, cv4, rfl, hrow4⟩ := ownsRow_bytes hown4
  have hown5 := ownsRow_below hown3 hb4
  have hb4' := hb3'.trans (hb4.mono hs3)
  have hs4 : B ≤ w4.heap.size := Nat.le_trans hs3 hb4.size
  clear hown3 hb4 hb3' hs3 hown4
  go_wp2_with (at_builtin; refine wpList_append_src rfl (.tmp 27) (.tmp 30) 22 22 rfl B 5 i0 (.int .u8 0) 1 1 Try.underlying22 (append_side Try.underlying22) hi hz0 hz1 hz2 rfl (by decide) (by decide) _ n _ rfl hown5 _ 4 _ rfl (src_bytes hrow4) ?_ ?_ ?_ ?_)
  case _ => unfold maxLen; omega
  case _ => omega
  case _ => omega
  intro v5 w5 hown6 hg5 _
  have hb5 : Below B w w5 := hb4'.grown hg5 (by omega) (fun j hj => (hown5.lt j hj).1)
  have hs5 : B ≤ w5.heap.size := Nat.le_trans hs4 hg5.size
  have hown7 : w5.ownsRow B 5 1 v5 (n + 4) ((l ++ CrcPlain.tail (CrcPlain.of l)).map bv) := by
    rw [List.map_append]; simpa using hown6
  clear hown6 hg5 hown5 hb4' hs4 hrow4
  obtain ⟨g, cv, rfl, hgB, hcvn, hcvm⟩ : ∃ g cv, v5 = .slice (some ⟨g, 0, none⟩) (n + 4) cv ∧ B ≤ g ∧ n + 4 ≤ cv ∧ cv ≤ maxLen := by
    rcases hown7.2 with ⟨_, h⟩ | ⟨g, cp, cur, rfl, hb, hg, hnc, hcm, _⟩
    · omega
    · exact ⟨g, cp, rfl, hb, hnc, hcm⟩
  unfold maxLen at hcvm
  go_wp2_with fail
  generalize hlt0 : l ++ CrcPlain.tail (CrcPlain.of l) = ls at *
  have Hls : Hid (ls.length = n + 4) := by show ls.length = n + 4; rw [← hlt0, List.length_append, ← Hn.out]; rfl
  clear hlt0
  go_loopw [2, 10] (fun y i wr => ∃ k : Nat, k ≤ 32 ∧ i = .int .i64 k ∧ y = .int .u32 ((t.toNat / 2 ^ k : Nat) : Int) ∧ wr.ownsRow B 5 1 (.slice (some ⟨g, 0, none⟩) (n + 4) cv) (n + 4) ((CrcPlain.turned ls bit t k).map bv) ∧ Below B w wr ∧ B ≤ wr.heap.size) (fun _ i _ => 32 - (intOf i).toNat)
  case atStart => exact ⟨0, by omega, rfl, by simp, hown7, hb5, hs5⟩
  case round =>
    obtain ⟨k, hk, rfl, rfl, hown, hbel, hBs⟩ := hrel
    clear hown7 hb5 hs5
    by_cases hk32 : k < 32
    · have Hnext : Hid (t.toNat / 2 ^ (k + 1) = t.toNat / 2 ^ k / 2) := by
        show _ = _
        rw [Nat.pow_succ, Nat.div_div_eq_div_mul]
      have Hbit := Lib.hid (bit_of t k)
      have hyl : t.toNat / 2 ^ k < 2 ^ 32 := Nat.lt_of_le_of_lt (Nat.div_le_self _ _) htl
      generalize t.toNat / 2 ^ k = y at *
      by_cases hodd : y % 2 = 1
      · have hodd' : (((y : Int) % 2) == 1) = true := by rw [beq_iff_eq]; omega
        have Hb : Hid (CrcPlain.turned ls bit t (k + 1) = CrcPlain.flip (CrcPlain.turned ls bit t k) (bit + k)) := by
          show _ = _
          rw [CrcPlain.turned, Hbit.out, if_pos (by simpa using hodd)]
        clear hodd
        generalize hq : (bit + k) % 8 = q
        generalize hj : (bit + k) / 8 = j
        have hq8 : q < 8 := by omega
        have hjn : j < n + 4 := by omega
        have hqi : ((bit : Int) + (k : Int)) % 8 = (q : Int) := by omega
        have hji : ((bit : Int) + (k : Int)) / 8 = (j : Int) := by omega
        have Hq := Lib.hid hq; clear hq
        have Hj := Lib.hid hj; clear hj
        go_wp2_with fail
        go_loopw [11, 12] (fun o i wx => ∃ p : Nat, p ≤ q ∧ i = .int .i64 p ∧ o = .int .u8 ((2 ^ p : Nat) : Int) ∧ wx = wr) (fun _ i _ => q - (intOf i).toNat)
        case atStart => exact ⟨0, by omega, by first | trivial | rfl, by first | trivial | rfl, by first | trivial | rfl⟩
        case round =>
          obtain ⟨p, hp, rfl, rfl, rfl⟩ := hrel
          by_cases hpq : p < q
          · have hpl := pow_le p (by omega)
            have Hpn : Hid (2 ^ (p + 1) = 2 ^ p * 2) := by show _ = _; rw [Nat.pow_succ]
            generalize 2 ^ p = z at *
            go_wp2_with fail
            go_roundw
            case rel => exact ⟨p + 1, by omega, by go_num, by rw [Hpn.out]; rfl, by trivial⟩
            case measure => simp [intOf]; omega
          · obtain rfl : p = q := by omega
            have hlen : j < ((CrcPlain.turned ls bit t k).map bv).length := by rw [hown.1]; omega
            have hlen2 : j < (CrcPlain.turned ls bit t k).length := by simpa using hlen
            have hcell : wr.cell? ⟨g, j, none⟩ = some (.int .u8 (((CrcPlain.turned ls bit t k)[j]'hlen2).toNat : Int)) := by
              rw [hown.cellAt j (by omega), List.getElem?_eq_getElem hlen, List.getElem_map]; rfl
            have hfro := hown.frozenAt j
            have hst := hown.stored j (bv ((CrcPlain.turned ls bit t k)[j]'hlen2 ^^^ UInt8.ofNat (2 ^ p)))
            have Hset : Hid ((CrcPlain.turned ls bit t k).set j ((CrcPlain.turned ls bit t k)[j]'hlen2 ^^^ UInt8.ofNat (2 ^ p)) = CrcPlain.turned ls bit t (k + 1)) := by
              show _ = _
              rw [Hb.out, CrcPlain.flip, Hj.out, Hq.out]
              simp [List.getD, List.getElem?_eq_getElem hlen2]
            have hidx := idx_own (g := g) (n := n + 4) (c := cv) j hjn
            have hown' : (wr.setCell ⟨g, j, none⟩ (bv ((CrcPlain.turned ls bit t k)[j]'hlen2 ^^^ UInt8.ofNat (2 ^ p)))).ownsRow B 5 1 (.slice (some ⟨g, 0, none⟩) (n + 4) cv) (n + 4) ((CrcPlain.turned ls bit t (k + 1)).map bv) := by
              have := hst.1
              rw [← List.map_set, Hset.out] at this
              exact this
            have hbel' : Below B w (wr.setCell ⟨g, j, none⟩ (bv ((CrcPlain.turned ls bit t k)[j]'hlen2 ^^^ UInt8.ofNat (2 ^ p)))) := hbel.setCell (p := ⟨g, j, none⟩) hgB _
            have hx : bits .xor .u8 (((CrcPlain.turned ls bit t k)[j]'hlen2).toNat : Int) ((2 ^ p : Nat) : Int) = (((CrcPlain.turned ls bit t k)[j]'hlen2 ^^^ UInt8.ofNat (2 ^ p)).toNat : Int) := by
              have h1 := xor_u8 ((CrcPlain.turned ls bit t k)[j]'hlen2) (UInt8.ofNat (2 ^ p))
              rw [pow_u8 p hq8] at h1
              exact h1
            clear hst Hset hown hbel
            generalize (CrcPlain.turned ls bit t k)[j]'hlen2 = c at *
            generalize hcp : c ^^^ UInt8.ofNat (2 ^ p) = cp at *
            clear hcp
            unfold bv at hown' hbel'
            have hp64 : 2 ^ p ≤ 128 := by
              rcases (by omega : p = 0 ∨ p = 1 ∨ p = 2 ∨ p = 3 ∨ p = 4 ∨ p = 5 ∨ p = 6 ∨ p = 7) with rfl | rfl | rfl | rfl | rfl | rfl | rfl | rfl <;> decide
            generalize 2 ^ p = z at *
            go_wp2_with fail
            go_roundw
            case rel => exact ⟨k + 1, by omega, by go_num, by rw [Hnext.out]; rfl, hown', hbel', by simp; omega⟩
            case measure => simp [intOf]; omega
      · have hodd' : (((y : Int) % 2) == 1) = false := by rw [beq_eq_false_iff_ne]; omega
        have Hb : Hid (CrcPlain.turned ls bit t (k + 1) = CrcPlain.turned ls bit t k) := by
          show _ = _
          rw [CrcPlain.turned, Hbit.out, if_neg (by simpa using hodd)]
        clear hodd
        go_wp2_with fail
        go_roundw
        case rel => exact ⟨k + 1, by omega, by go_num, by rw [Hnext.out]; rfl, by rw [Hb.out]; exact hown, hbel, hBs⟩
        case measure => simp [intOf]; omega
    · obtain rfl : k = 32 := by omega
      have HNE1 := Lib.hid (HNE0.out _ rfl)
      generalize hlt : CrcPlain.turned ls bit t 32 = lt at *
      clear hlt HNE0
      obtain ⟨_, _, hvd, hrowd⟩ := ownsRow_bytes hown
      cases hvd
      obtain ⟨s0, hB0, hS0⟩ := sub_bytes hrowd 0 n (Nat.zero_le _) (by omega)
      obtain ⟨s1, hB1, hS1⟩ := sub_bytes hrowd n (n + 4) (by omega) (Nat.le_refl _)
      have hll : (lt.take (n + 4)) = lt := List.take_of_length_le (by rw [← hrowd.1]; exact Nat.le_refl _)
      rw [List.drop_zero] at hB0
      rw [hll] at hB1
      rw [← Hn.out] at HNE1
      have HNE := HNE1
      have HB0 := Lib.hid hB0; clear hB0
      have HB1 := Lib.hid hB1; clear hB1
      have HS0 := Lib.hid hS0; clear hS0
      have HS1 := Lib.hid hS1; clear hS1
      clear hll hrowd hown HNE1 hbit hi hz0 hz1 hz2 i0
      have hwr : wr.heap.size ≤ wr.heap.size := Nat.le_refl _
      go_wp2_with fail
      refine Rg.wp_region_rgl [] [Rg.Is (.slice (some ⟨g, 0, none⟩) (n + 4) cv), Rg.Is (.int .i64 (n : Int)), Rg.Is (.slice s0 (n - 0) (cv - 0)), Rg.Is (.int .u32 ((CrcPlain.of (lt.take n)).toNat : Int)), (fun v w => ∃ a c, v = .slice a 4 c ∧ Bytes w a 4 c (CrcPlain.tail (CrcPlain.of (lt.take n)))), Rg.Is (.string (str (CrcPlain.tail (CrcPlain.of (lt.take n))))), Rg.Is (.slice (some ⟨g, 0, none⟩) (n + 4) cv), Rg.Is (.int .i64 (n : Int)), Rg.Is (.slice s1 (n + 4 - n) (cv - n)), Rg.Is (.string (str (lt.drop n))), Rg.Is (.bool true), Rg.Is (.bool true)] (by kernel_rfl) (by kernel_rfl) (by kernel_rfl) ⟨Rg.st_is _, Rg.st_is _, Rg.st_is _, Rg.st_is _, fun v w w' h hb => by obtain ⟨a, c, hv, hr⟩ := h; exact ⟨a, c, hv, hr.below stable_byteAt hb⟩, Rg.st_is _, Rg.st_is _, Rg.st_is _, Rg.st_is _, Rg.st_is _, Rg.st_is _, Rg.st_is _, trivial⟩ ⟨rfl, rfl, rfl, rfl, rfl, rfl, rfl, rfl, rfl, rfl, rfl, rfl, trivial⟩ ⟨?_, ?_, ?_, ?_, ?_, ?_, ?_, ?_, ?_, ?_, ?_, ?_, trivial⟩ ?_
      · intro _ a wx hb hk
        have h8 : a.eval (.tmp 8) = .slice (some ⟨g, 0, none⟩) (n + 4) cv := Eq.mp (by kernel_rfl) (hk 8 (by decide))
        exact Rg.does_move ⟨Below.refl _ _, h8⟩
      · intro _ a wx hb hk
        have h13 : a.eval (.tmp 13) = .int .i64 (n : Int) := Eq.mp (by kernel_rfl) (hk 13 (by decide))
        exact Rg.does_move ⟨Below.refl _ _, h13⟩
      · intro _ a wx hb hk
        have h82 : a.eval (.tmp 82) = .slice (some ⟨g, 0, none⟩) (n + 4) cv := Eq.mp (by kernel_rfl) (hk 82 (by decide))
        have h83 : a.eval (.tmp 83) = .int .i64 (n : Int) := Eq.mp (by kernel_rfl) (hk 83 (by decide))
        exact Rg.does_sub _ Try.underlying22 (by rw [h82]; simp only [Option.map, h83]; exact (HS0.out wx).2.1 (by trivial) .i64) ⟨Below.refl _ _, rfl⟩
      · intro _ a wx hb hk
        have h84 : a.eval (.tmp 84) = .slice s0 (n - 0) (cv - 0) := Eq.mp (by kernel_rfl) (hk 84 (by decide))
        refine Rg.does_func #[.slice s0 (n - 0) (cv - 0)] Try.func18 (by kernel_rfl) (by kernel_rfl) (by simp [h84]) (crc_of_calls wx s0 (n - 0) (cv - 0) (lt.take n) (HB0.out.below stable_byteAt hb)) ?_
        rintro e w' ⟨rfl, hb'⟩
        exact ⟨_, rfl, hb', rfl⟩
      · intro _ a wx hb hk
        have h85 : a.eval (.tmp 85) = .int .u32 ((CrcPlain.of (lt.take n)).toNat : Int) := Eq.mp (by kernel_rfl) (hk 85 (by decide))
        refine Rg.does_func #[.int .u32 ((CrcPlain.of (lt.take n)).toNat : Int)] Try.func21 (by kernel_rfl) (by kernel_rfl) (by simp [h85]) (crc_tail_calls wx _) ?_
        rintro e w' ⟨v, rfl, ho, hb'⟩
        obtain ⟨a', c', hv, hr⟩ := ownsRow_bytes ho
        exact ⟨_, rfl, hb', a', c', hv, hr⟩
      · intro _ a wx hb hk
        have h86 : (fun v w => ∃ a c, v = .slice a 4 c ∧ Bytes w a 4 c (CrcPlain.tail (CrcPlain.of (lt.take n)))) (a.eval (.tmp 86)) wx := Eq.mp (by kernel_rfl) (hk 86 (by decide))
        obtain ⟨a', c', hv, hr⟩ := h86
        exact Rg.does_convert _ _ hv (str_bytes hr) ⟨Below.refl _ _, rfl⟩
      · intro _ a wx hb hk
        have h8 : a.eval (.tmp 8) = .slice (some ⟨g, 0, none⟩) (n + 4) cv := Eq.mp (by kernel_rfl) (hk 8 (by decide))
        exact Rg.does_move ⟨Below.refl _ _, h8⟩
      · intro _ a wx hb hk
        have h13 : a.eval (.tmp 13) = .int .i64 (n : Int) := Eq.mp (by kernel_rfl) (hk 13 (by decide))
        exact Rg.does_move ⟨Below.refl _ _, h13⟩
      · intro _ a wx hb hk
        have h88 : a.eval (.tmp 88) = .slice (some ⟨g, 0, none⟩) (n + 4) cv := Eq.mp (by kernel_rfl) (hk 88 (by decide))
        have h89 : a.eval (.tmp 89) = .int .i64 (n : Int) := Eq.mp (by kernel_rfl) (hk 89 (by decide))
        exact Rg.does_sub _ Try.underlying22 (by rw [h88]; simp only [Option.map, h89]; exact (HS1.out wx).2.2 (by trivial) .i64) ⟨Below.refl _ _, rfl⟩
      · intro _ a wx hb hk
        have h90 : a.eval (.tmp 90) = .slice s1 (n + 4 - n) (cv - n) := Eq.mp (by kernel_rfl) (hk 90 (by decide))
        exact Rg.does_convert _ _ h90 (str_bytes (HB1.out.below stable_byteAt hb)) ⟨Below.refl _ _, rfl⟩
      · intro _ a wx hb hk
        have h87 : a.eval (.tmp 87) = .string (str (CrcPlain.tail (CrcPlain.of (lt.take n)))) := Eq.mp (by kernel_rfl) (hk 87 (by decide))
        have h91 : a.eval (.tmp 91) = .string (str (lt.drop n)) := Eq.mp (by kernel_rfl) (hk 91 (by decide))
        exact Rg.does_ne_string _ _ h87 h91 HNE.out ⟨Below.refl _ _, rfl⟩
      · intro _ a wx hb hk
        have h92 : a.eval (.tmp 92) = .bool true := Eq.mp (by kernel_rfl) (hk 92 (by decide))
        exact Rg.does_assign ⟨Below.refl _ _, h92⟩
      intro vals wD hbD hL
      obtain ⟨g0, g1, g2, g3, g4, g5, g6, g7, g8, g9, g10, g11, _⟩ := hL
      have hfin : Below B w wD := hbel.trans (hbD.mono hBs)
      have hres : vals 11 = .bool true := g11
      clear g0 g1 g2 g3 g4 g5 g6 g7 g8 g9 g10 g11 hbD hbel
      simp only [Rg.putAll, List.setIfInBounds_toArray, List.set_cons_succ, List.set_cons_zero]
      go_wp2_with fail
      go_ret
      exact ⟨by rw [← hres]; rfl, hfin⟩

end Go.Proofs.Ytbbnopikinlcdaa
