/-
  The walk of the statement CrcTails: bytes with their tail behind have one sum, and the sum goes on from there: true; nothing that was there turns. Conditions: the arguments can be read.
-/
import Derived.Test.YtbbnopikinlcdaaCrcAwake
set_option linter.unusedVariables false
namespace Go.Proofs.Ytbbnopikinlcdaa
open Go.RowKit Base

theorem own_nil (w : World) (B : Nat) (e : TypeId) : w.ownsRow B e 1 (.slice none 0 0) 0 (([] : List UInt8).map bv) := World.ownsRow_nil _ _ _ _

theorem crc_tails_one (l : List UInt8) : ((CrcPlain.add 0#32 [l ++ CrcPlain.tail (CrcPlain.of l)].flatten).toNat : Int) = 558161692 := by
  have : [l ++ CrcPlain.tail (CrcPlain.of l)].flatten = l ++ CrcPlain.tail (CrcPlain.of l) := by simp
  rw [this, CrcPlain.add_of_tail]; rfl
theorem crc_tails_two (l k : List UInt8) : CrcPlain.add 0#32 [l ++ CrcPlain.tail (CrcPlain.of l) ++ k].flatten = CrcPlain.add 558161692#32 [k].flatten := by
  have e1 : [l ++ CrcPlain.tail (CrcPlain.of l) ++ k].flatten = (l ++ CrcPlain.tail (CrcPlain.of l)) ++ k := by simp
  have e2 : [k].flatten = k := by simp
  rw [e1, e2, CrcPlain.add_append, CrcPlain.add_of_tail]

set_option maxHeartbeats 2000000 in
theorem crc_tails_law (w : World) (a0 a1 : Option Addr) (n m cap cap1 : Nat) (l k : List UInt8) (h0 : Bytes w a0 n cap l) (h1 : Bytes w a1 m cap1 k) :
    Calls Try.prog 5 #[.slice a0 n cap, .slice a1 m cap1] w fun e w' => e = .returned (.bool true) ∧ Below w.heap.size w w' := by
  obtain ⟨i0, hi, hz0, hz1, hz2⟩ := info_parts info_u8
  have hn := h0.1
  have hm := h1.1
  have hc0 := h0.2.2.1
  have hc1 := h1.2.2.1
  have hn0 := h0.2.1
  have hn1 := h1.2.1
  unfold maxLen at hc0 hc1
  have Hn := Lib.hid hn; clear hn
  have Hm := Lib.hid hm; clear hm
  by_cases hbig : 1000 < n
  · have hbig' : decide ((1000 : Int) < (n : Int)) = true := by simp; omega
    go_enter Try.func5, Try.ntmps5
    go_wp2_with fail
    refine (crc_awake_calls _).mono ?_
    rintro e w1 ⟨rfl, hb1⟩
    go_wp2_with fail
    go_ret
    exact ⟨rfl, hb1⟩
  have hbig0 : decide ((1000 : Int) < (n : Int)) = false := by simp; omega
  by_cases hbig1 : 300 < m
  · have hbig' : decide ((300 : Int) < (m : Int)) = true := by simp; omega
    go_enter Try.func5, Try.ntmps5
    go_wp2_with fail
    refine (crc_awake_calls _).mono ?_
    rintro e w1 ⟨rfl, hb1⟩
    go_wp2_with fail
    go_ret
    exact ⟨rfl, hb1⟩
  have hbig1' : decide ((300 : Int) < (m : Int)) = false := by simp; omega
  have H0 := Lib.hid h0; clear h0
  have H1 := Lib.hid h1; clear h1
  have HO1 := Lib.hid (crc_tails_one l)
  have HO2 := Lib.hid (crc_tails_two l k)
  have Htl : Hid ((CrcPlain.tail (CrcPlain.of l)).length = 4) := rfl
  generalize hB : w.heap.size = B
  have HB := Lib.hid hB; clear hB
  go_enter Try.func5, Try.ntmps5
  go_wp2_with fail
  refine (crc_awake_calls _).mono ?_
  rintro e w1 ⟨rfl, hb1⟩
  rw [HB.out] at hb1
  have hs1 : B ≤ w1.heap.size := by have := hb1.size; rw [HB.out] at this; exact this
  have below : ∀ wx, Below B w wx → Below w.heap.size w wx := fun wx hx => by rw [HB.out]; exact hx
  have HBel := Lib.hid below; clear below
  -- s = append(s, b...)
  go_wp2_with (at_builtin; refine wpList_append_src rfl (.tmp 20) (.tmp 21) 22 22 rfl B 5 i0 (.int .u8 0) 1 1 Try.underlying22 (append_side Try.underlying22) hi hz0 hz1 hz2 rfl (by decide) (by decide) _ 0 _ rfl (own_nil w1 _ _) _ n _ rfl (src_bytes (H0.out.below stable_byteAt (HBel.out _ hb1))) ?_ ?_ ?_ ?_)
  case _ => unfold maxLen; omega
  case _ => omega
  case _ => omega
  intro v2 w2 hown2 hg2 _
  have hb2 : Below B w w2 := hb1.grown hg2 (by omega) (fun j hj => by simp [Value.ownBlock] at hj)
  have hs2 : B ≤ w2.heap.size := Nat.le_trans hs1 hg2.size
  clear hg2 hb1 hs1
  obtain ⟨av2, cv2, rfl, _, _, _, _⟩ := ownsRow_slice hown2
  go_wp2_with fail
  refine (crc_of_calls _ _ n _ l (H0.out.below stable_byteAt (HBel.out _ hb2))).mono ?_
  rintro e w3 ⟨rfl, hb3⟩
  have hown3 := ownsRow_below hown2 hb3
  have hb3' := hb2.trans (hb3.mono hs2)
  have hs3 : B ≤ w3.heap.size := Nat.le_trans hs2 hb3.size
  clear hown2 hb3 hb2 hs2
  go_wp2_with fail
  refine (crc_tail_calls _ _).mono ?_
  rintro e w4 ⟨v4, rfl, hown4, hb4⟩
  obtain ⟨av4, cv4, rfl, hrow4⟩ := ownsRow_bytes hown4
  have hown5 := ownsRow_below hown3 hb4
  have hb4' := hb3'.trans (hb4.mono hs3)
  have hs4 : B ≤ w4.heap.size := Nat.le_trans hs3 hb4.size
  clear hown3 hb4 hb3' hs3 hown4
  go_wp2_with (at_builtin; refine wpList_append_src rfl (.tmp 23) (.tmp 26) 22 22 rfl B 5 i0 (.int .u8 0) 1 1 Try.underlying22 (append_side Try.underlying22) hi hz0 hz1 hz2 rfl (by decide) (by decide) _ n _ rfl hown5 _ 4 _ rfl (src_bytes hrow4) ?_ ?_ ?_ ?_)
  case _ => unfold maxLen; omega
  case _ => omega
  case _ => omega
  intro v5 w5 hown6 hg5 _
  have hb5 : Below B w w5 := hb4'.grown hg5 (by omega) (fun j hj => (hown5.lt j hj).1)
  have hs5 : B ≤ w5.heap.size := Nat.le_trans hs4 hg5.size
  have hown7 : w5.ownsRow B 5 1 v5 (n + 4) ((l ++ CrcPlain.tail (CrcPlain.of l)).map bv) := by
    rw [List.map_append]; simpa using hown6
  clear hown6 hg5 hown5 hb4' hs4 hrow4
  obtain ⟨av5, cv5, rfl, hrow5⟩ := ownsRow_bytes hown7
  go_wp2_with fail
  refine (crc_new_calls _).mono ?_
  rintro e w6 ⟨rfl, rfl⟩
  have Hr5 := Lib.hid (row_one hrow5 22)
  go_wp2_with fail
  refine (crc_add_calls 0#32 _ _ _ _ _ Hr5.out).mono ?_
  rintro e w6 ⟨rfl, rfl⟩
  rw [HO1.out]
  have hb6 := hb5.alloc hs5 (.cells #[.slice av5 (n + 4) cv5] 22)
  have hown8 := hown7.alloc (.cells #[.slice av5 (n + 4) cv5] 22)
  have hs6 : B ≤ (w5.alloc (.cells #[.slice av5 (n + 4) cv5] 22)).heap.size := by simp; omega
  clear hb5 hs5 hown7 hrow5 Hr5
  generalize w5.alloc (.cells #[.slice av5 (n + 4) cv5] 22) = w6 at *
  obtain ⟨_, _, hv8, hrow8⟩ := ownsRow_bytes hown8
  cases hv8
  go_wp2_with (at_builtin; refine wpList_append_src rfl (.tmp 32) (.tmp 33) 22 22 rfl B 5 i0 (.int .u8 0) 1 1 Try.underlying22 (append_side Try.underlying22) hi hz0 hz1 hz2 rfl (by decide) (by decide) _ 0 _ rfl (own_nil w6 _ _) _ (n + 4) _ rfl (src_bytes hrow8) ?_ ?_ ?_ ?_)
  case _ => unfold maxLen; omega
  case _ => omega
  case _ => omega
  intro v7 w7 hown9 hg7 _
  have hb7 : Below B w w7 := hb6.grown hg7 (by omega) (fun j hj => by simp [Value.ownBlock] at hj)
  have hs7 : B ≤ w7.heap.size := Nat.le_trans hs6 hg7.size
  clear hg7 hown8 hb6 hs6 hrow8
  go_wp2_with (at_builtin; refine wpList_append_src rfl (.tmp 35) (.tmp 36) 22 22 rfl B 5 i0 (.int .u8 0) 1 1 Try.underlying22 (append_side Try.underlying22) hi hz0 hz1 hz2 rfl (by decide) (by decide) _ (n + 4) _ rfl hown9 _ m _ rfl (src_bytes (H1.out.below stable_byteAt (HBel.out _ hb7))) ?_ ?_ ?_ ?_)
  case _ => unfold maxLen; omega
  case _ => omega
  case _ => omega
  intro v8 w8 hown10 hg8 _
  have hb8 : Below B w w8 := hb7.grown hg8 (by omega) (fun j hj => (hown9.lt j hj).1)
  have hs8 : B ≤ w8.heap.size := Nat.le_trans hs7 hg8.size
  have hown11 : w8.ownsRow B 5 1 v8 (n + 4 + m) ((l ++ CrcPlain.tail (CrcPlain.of l) ++ k).map bv) := by
    rw [List.map_append]; simpa using hown10
  clear hown10 hg8 hown9 hb7 hs7
  obtain ⟨av8, cv8, rfl, hrow8⟩ := ownsRow_bytes hown11
  clear hown11
  have Hr8 := Lib.hid (row_one (H1.out.below stable_byteAt (HBel.out _ hb8)) 22)
  have hb9 := hb8.alloc hs8 (.cells #[.slice a1 m cap1] 22)
  have hs9 : B ≤ (w8.alloc (.cells #[.slice a1 m cap1] 22)).heap.size := by simp; omega
  have hrow9 := hrow8.below stable_byteAt ((Below.refl _ _).alloc (Nat.le_refl _) (.cells #[.slice a1 m cap1] 22))
  clear hb8
  go_wp2_with fail
  refine (crc_add_calls 558161692#32 _ _ _ _ _ Hr8.out).mono ?_
  rintro e w9 ⟨rfl, rfl⟩
  have hlt := (CrcPlain.add 558161692#32 [k].flatten).isLt
  clear Hr8 hrow8
  go_wp2_with fail
  refine (crc_new_calls _).mono ?_
  rintro e w9 ⟨rfl, rfl⟩
  have Hr9 := Lib.hid (row_one hrow9 22)
  generalize hW : w8.alloc (.cells #[.slice a1 m cap1] 22) = w9 at *
  clear hrow9 hW
  have hb10 := hb9.alloc hs9 (.cells #[.slice av8 (n + 4 + m) cv8] 22)
  clear hb9
  go_wp2_with fail
  refine (crc_add_calls 0#32 _ _ _ _ _ Hr9.out).mono ?_
  rintro e w10 ⟨rfl, rfl⟩
  rw [HO2.out]
  go_wp2_with fail
  refine (crc_add_calls 558161692#32 _ none 0 0 [] RowOf.nil).mono ?_
  rintro e w10 ⟨rfl, rfl⟩
  have Hz : Hid (CrcPlain.add 558161692#32 ([] : List (List UInt8)).flatten = 558161692#32) := CrcPlain.add_nil _
  rw [Hz.out]
  go_wp2_with fail
  go_ret
  exact ⟨rfl, hb10⟩

end Go.Proofs.Ytbbnopikinlcdaa
