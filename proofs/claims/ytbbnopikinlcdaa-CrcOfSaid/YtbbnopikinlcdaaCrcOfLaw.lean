/-
  The walk of the statement CrcOf: whatever bytes, in whatever parts: true; nothing that was there turns. Conditions: the arguments can be read.
-/
import Derived.Test.YtbbnopikinlcdaaCrcAwake
import Derived.Test.YtbbnopikinlcdaaRegion
set_option linter.unusedVariables false
namespace Go.Proofs.Ytbbnopikinlcdaa
open Go.RowKit Base

theorem two_rows {w : World} {a b : Option Addr} {n m c1 c2 : Nat} {l k : List UInt8} (h1 : Bytes w a n c1 l) (h2 : Bytes w b m c2 k) (e : TypeId) :
    ByteRows (w.alloc (.cells #[.slice a n c1, .slice b m c2] e)) (some ⟨w.heap.size, 0, none⟩) 2 2 [l, k] := by
  have e1 := h1.1
  have e2 := h2.1
  subst e1 e2
  exact rows_lit w [.slice a l.length c1, .slice b k.length c2] [l, k] e (by simp [maxLen]) ⟨⟨_, _, rfl, h1⟩, ⟨_, _, rfl, h2⟩, trivial⟩

theorem crc_parts (l : List UInt8) (i d n : Nat) (hn : n = l.length) (h : i + d ≤ n) : CrcPlain.add (CrcPlain.add 0#32 (l.take i)) [(l.take (i + d)).drop i, (l.take n).drop (i + d)].flatten = CrcPlain.of l := by
  rw [← CrcPlain.add_append]
  unfold CrcPlain.of
  congr 1
  subst hn
  simp only [List.flatten_cons, List.flatten_nil, List.append_nil, List.take_length]
  have e1 : l.take i = (l.take (i + d)).take i := by rw [List.take_take]; congr 1; omega
  rw [← List.append_assoc, e1, List.take_append_drop, List.take_append_drop]

set_option maxHeartbeats 4000000 in
set_option maxRecDepth 100000 in
theorem crc_of_law (w : World) (a0 : Option Addr) (n cap : Nat) (l : List UInt8) (h0 : Bytes w a0 n cap l) (at0 to0 : Int) (hat : 0 ≤ at0 ∧ at0 ≤ 65535) (hto : 0 ≤ to0 ∧ to0 ≤ 65535) (x : BitVec 32) :
    Calls Try.prog 3 #[.slice a0 n cap, .int .u16 at0, .int .u16 to0, .int .u32 (x.toNat : Int)] w fun e w' => e = .returned (.bool true) ∧ Below w.heap.size w w' := by
  have hm := h0.2.2.1
  have hnc := h0.2.1
  unfold maxLen at hm
  by_cases hbig : 2000 < n
  · go_enter Try.func3, Try.ntmps3
    go_wp2_with fail
    refine (crc_awake_calls _).mono ?_
    rintro e w1 ⟨rfl, hb1⟩
    go_wp2_with fail
    go_ret
    exact ⟨rfl, hb1⟩
  obtain ⟨i, hi, hin⟩ : ∃ i : Nat, at0 % ((n : Int) + 1) = (i : Int) ∧ i ≤ n := by
    have h1 := Int.emod_nonneg at0 (show ((n : Int) + 1) ≠ 0 by omega)
    have h2 := Int.emod_lt_of_pos at0 (show 0 < ((n : Int) + 1) by omega)
    exact ⟨(at0 % ((n : Int) + 1)).toNat, by omega, by omega⟩
  obtain ⟨d, hd, hdn⟩ : ∃ d : Nat, to0 % ((n : Int) - (i : Int) + 1) = (d : Int) ∧ i + d ≤ n := by
    have h1 := Int.emod_nonneg to0 (show ((n : Int) - (i : Int) + 1) ≠ 0 by omega)
    have h2 := Int.emod_lt_of_pos to0 (show 0 < ((n : Int) - (i : Int) + 1) by omega)
    exact ⟨(to0 % ((n : Int) - (i : Int) + 1)).toNat, by omega, by omega⟩
  have HP := Lib.hid (crc_parts l i d n h0.1 hdn)
  go_enter Try.func3, Try.ntmps3
  go_wp2_with fail
  refine (crc_awake_calls _).mono ?_
  rintro e w1 ⟨rfl, hb1⟩
  have h1 := h0.below stable_byteAt hb1
  have hstr := str_bytes h1
  have hsz : (str l).size ≤ maxLen := by rw [str_size, ← h0.1]; unfold maxLen; omega
  obtain ⟨a1, hB1, hS1⟩ := sub_bytes h1 0 i (Nat.zero_le _) hin
  obtain ⟨a2, hB2, hS2⟩ := sub_bytes h1 i (i + d) (by omega) hdn
  obtain ⟨a3, hB3, hS3⟩ := sub_bytes h1 (i + d) n hdn (Nat.le_refl _)
  have H0 := Lib.hid h1; clear h1
  have HB1 := Lib.hid hB1; clear hB1
  have HB2 := Lib.hid hB2; clear hB2
  have HB3 := Lib.hid hB3; clear hB3
  have HS1 := Lib.hid hS1; clear hS1
  have HS2 := Lib.hid hS2; clear hS2
  have HS3 := Lib.hid hS3; clear hS3
  clear h0
  go_wp2_with fail
  refine (crc_ref_of_calls _ (str l) hsz).mono ?_
  rintro e w2 ⟨rfl, rfl⟩
  rw [str_data]
  have hol := (CrcPlain.of l).isLt
  go_wp2_with fail
  refine Rg.wp_region_rgl [] [Rg.Is (.slice a0 n cap), Rg.Is (.int .u32 ((CrcPlain.of l).toNat : Int)), Rg.Is (.int .u32 ((CrcPlain.of l).toNat : Int)), Rg.Is (.bool true), Rg.Is (.bool true), Rg.Is (.int .u32 ((0#32).toNat : Int)), Rg.Is (.slice a0 n cap), Rg.Is (.int .i64 (i : Int)), Rg.Is (.slice a1 (i - 0) (cap - 0)), (fun v w => ∃ a c, v = .slice a 1 c ∧ ByteRows w a 1 c [l.take i]), Rg.Is (.int .u32 ((CrcPlain.add 0#32 (l.take i)).toNat : Int)), Rg.Is (.slice a0 n cap), Rg.Is (.int .i64 (i : Int)), Rg.Is (.int .i64 ((i : Int) + (d : Int))), Rg.Is (.slice a2 (i + d - i) (cap - i)), Rg.Is (.slice a0 n cap), Rg.Is (.int .i64 ((i : Int) + (d : Int))), Rg.Is (.slice a3 (n - (i + d)) (cap - (i + d))), (fun v w => ∃ a c, v = .slice a 2 c ∧ ByteRows w a 2 c [(l.take (i + d)).drop i, (l.take n).drop (i + d)]), Rg.Is (.int .u32 ((CrcPlain.of l).toNat : Int)), Rg.Is (.int .u32 ((CrcPlain.of l).toNat : Int)), Rg.Is (.bool true), Rg.Is (.bool true), Rg.Is (.bool true), Rg.Is (.int .u32 (x.toNat : Int)), (fun v w => ∃ a c, v = .slice a 4 c ∧ Bytes w a 4 c (CrcPlain.tail x)), Rg.Is (.string (str (CrcPlain.tail x))), Rg.Is (.int .u32 (x.toNat : Int)), Rg.Is (.string (str (CrcPlain.tail x))), Rg.Is (.bool true), Rg.Is (.bool true), Rg.Is (.bool true), Rg.Is (.int .u32 ((0#32).toNat : Int)), Rg.Is (.bool true), Rg.Is (.bool true), Rg.Is (.bool true)] (by kernel_rfl) (by kernel_rfl) (by kernel_rfl) ⟨Rg.st_is _, Rg.st_is _, Rg.st_is _, Rg.st_is _, Rg.st_is _, Rg.st_is _, Rg.st_is _, Rg.st_is _, Rg.st_is _, fun v w w' h hb => by obtain ⟨a, c, hv, hr⟩ := h; exact ⟨a, c, hv, hr.below stable_bytesCell hb⟩, Rg.st_is _, Rg.st_is _, Rg.st_is _, Rg.st_is _, Rg.st_is _, Rg.st_is _, Rg.st_is _, Rg.st_is _, fun v w w' h hb => by obtain ⟨a, c, hv, hr⟩ := h; exact ⟨a, c, hv, hr.below stable_bytesCell hb⟩, Rg.st_is _, Rg.st_is _, Rg.st_is _, Rg.st_is _, Rg.st_is _, Rg.st_is _, fun v w w' h hb => by obtain ⟨a, c, hv, hr⟩ := h; exact ⟨a, c, hv, hr.below stable_byteAt hb⟩, Rg.st_is _, Rg.st_is _, Rg.st_is _, Rg.st_is _, Rg.st_is _, Rg.st_is _, Rg.st_is _, Rg.st_is _, Rg.st_is _, Rg.st_is _, trivial⟩ ⟨rfl, rfl, rfl, rfl, rfl, ⟨rfl, fun _ _ h => h⟩, ⟨rfl, fun _ _ h => h⟩, ⟨rfl, fun _ _ h => h⟩, ⟨rfl, fun _ _ h => h⟩, ⟨rfl, fun _ _ h => h⟩, ⟨rfl, fun _ _ h => h⟩, ⟨rfl, fun _ _ h => h⟩, ⟨rfl, fun _ _ h => h⟩, ⟨rfl, fun _ _ h => h⟩, ⟨rfl, fun _ _ h => h⟩, ⟨rfl, fun _ _ h => h⟩, ⟨rfl, fun _ _ h => h⟩, ⟨rfl, fun _ _ h => h⟩, ⟨rfl, fun _ _ h => h⟩, ⟨rfl, fun _ _ h => h⟩, ⟨rfl, fun _ _ h => h⟩, ⟨rfl, fun _ _ h => h⟩, rfl, rfl, ⟨rfl, fun _ _ h => h⟩, ⟨rfl, fun _ _ h => h⟩, ⟨rfl, fun _ _ h => h⟩, ⟨rfl, fun _ _ h => h⟩, ⟨rfl, fun _ _ h => h⟩, ⟨rfl, fun _ _ h => h⟩, rfl, rfl, ⟨rfl, fun _ _ h => h⟩, ⟨rfl, fun _ _ h => h⟩, rfl, rfl, trivial⟩ ⟨?_, ?_, ?_, ?_, ?_, ?_, ?_, ?_, ?_, ?_, ?_, ?_, ?_, ?_, ?_, ?_, ?_, ?_, ?_, ?_, ?_, ?_, ?_, ?_, ?_, ?_, ?_, ?_, ?_, ?_, ?_, ?_, ?_, ?_, ?_, ?_, trivial⟩ ?_
  · intro _ a wx hb hk
    have h0 : a.eval (.tmp 0) = .slice a0 n cap := Eq.mp (by kernel_rfl) (hk 0 (by decide))
    exact Rg.does_move ⟨Below.refl _ _, h0⟩
  · intro _ a wx hb hk
    have h38 : a.eval (.tmp 38) = .slice a0 n cap := Eq.mp (by kernel_rfl) (hk 38 (by decide))
    refine Rg.does_func #[.slice a0 n cap] Try.func18 (by kernel_rfl) (by kernel_rfl) (by simp [h38]) (crc_of_calls wx a0 n cap l (H0.out.below stable_byteAt hb)) ?_
    rintro e w' ⟨rfl, hb'⟩
    exact ⟨_, rfl, hb', rfl⟩
  · intro _ a wx hb hk
    have h12 : a.eval (.tmp 12) = .int .u32 ((CrcPlain.of l).toNat : Int) := Eq.mp (by kernel_rfl) (hk 12 (by decide))
    exact Rg.does_move ⟨Below.refl _ _, h12⟩
  · intro _ a wx hb hk
    have h39 : a.eval (.tmp 39) = .int .u32 ((CrcPlain.of l).toNat : Int) := Eq.mp (by kernel_rfl) (hk 39 (by decide))
    have h40 : a.eval (.tmp 40) = .int .u32 ((CrcPlain.of l).toNat : Int) := Eq.mp (by kernel_rfl) (hk 40 (by decide))
    exact Rg.does_same_int .u32 _ h39 h40 ⟨Below.refl _ _, rfl⟩
  · intro _ a wx hb hk
    have h41 : a.eval (.tmp 41) = .bool true := Eq.mp (by kernel_rfl) (hk 41 (by decide))
    exact Rg.does_move ⟨Below.refl _ _, h41⟩
  · intro _ a wx hb hk
    refine Rg.does_func #[] Try.func19 (by kernel_rfl) (by kernel_rfl) (by simp) (crc_new_calls wx) ?_
    rintro e w' ⟨rfl, rfl⟩
    exact ⟨_, rfl, Below.refl _ _, rfl⟩
  · intro _ a wx hb hk
    have h0 : a.eval (.tmp 0) = .slice a0 n cap := Eq.mp (by kernel_rfl) (hk 0 (by decide))
    exact Rg.does_move ⟨Below.refl _ _, h0⟩
  · intro _ a wx hb hk
    have h10 : a.eval (.tmp 10) = .int .i64 (i : Int) := Eq.mp (by kernel_rfl) (hk 10 (by decide))
    exact Rg.does_move ⟨Below.refl _ _, h10⟩
  · intro _ a wx hb hk
    have h44 : a.eval (.tmp 44) = .slice a0 n cap := Eq.mp (by kernel_rfl) (hk 44 (by decide))
    have h45 : a.eval (.tmp 45) = .int .i64 (i : Int) := Eq.mp (by kernel_rfl) (hk 45 (by decide))
    exact Rg.does_sub _ Try.underlying22 (by rw [h44]; simp only [Option.map, h45]; exact (HS1.out wx).2.1 (by trivial) .i64) ⟨Below.refl _ _, rfl⟩
  · intro _ a wx hb hk
    have h46 : a.eval (.tmp 46) = .slice a1 (i - 0) (cap - 0) := Eq.mp (by kernel_rfl) (hk 46 (by decide))
    refine Rg.does_build (w' := wx.alloc (.cells #[.slice a1 (i - 0) (cap - 0)] 22)) #[(0, .slice a1 (i - 0) (cap - 0))] (.slice (some ⟨wx.heap.size, 0, none⟩) 1 1) (by simp [h46]) (by simp [go_sem]) ⟨(Below.refl _ _).alloc (Nat.le_refl _) _, _, _, rfl, ?_⟩
    exact row_one (HB1.out.below stable_byteAt hb) _
  · intro _ a wx hb hk
    have h43 : a.eval (.tmp 43) = .int .u32 ((0#32).toNat : Int) := Eq.mp (by kernel_rfl) (hk 43 (by decide))
    have h47 : (fun v w => ∃ a c, v = .slice a 1 c ∧ ByteRows w a 1 c [l.take i]) (a.eval (.tmp 47)) wx := Eq.mp (by kernel_rfl) (hk 47 (by decide))
    obtain ⟨a', c', hv, hr⟩ := h47
    refine Rg.does_func #[.int .u32 ((0#32).toNat : Int), .slice a' 1 c'] Try.func20 (by kernel_rfl) (by kernel_rfl) (by simp [h43, hv]) (crc_add_calls 0#32 wx a' 1 c' _ hr) ?_
    rintro e w' ⟨rfl, rfl⟩
    exact ⟨_, rfl, Below.refl _ _, by show _ = _; simp⟩
  · intro _ a wx hb hk
    have h0 : a.eval (.tmp 0) = .slice a0 n cap := Eq.mp (by kernel_rfl) (hk 0 (by decide))
    exact Rg.does_move ⟨Below.refl _ _, h0⟩
  · intro _ a wx hb hk
    have h10 : a.eval (.tmp 10) = .int .i64 (i : Int) := Eq.mp (by kernel_rfl) (hk 10 (by decide))
    exact Rg.does_move ⟨Below.refl _ _, h10⟩
  · intro _ a wx hb hk
    have h11 : a.eval (.tmp 11) = .int .i64 ((i : Int) + (d : Int)) := Eq.mp (by kernel_rfl) (hk 11 (by decide))
    exact Rg.does_move ⟨Below.refl _ _, h11⟩
  · intro _ a wx hb hk
    have h49 : a.eval (.tmp 49) = .slice a0 n cap := Eq.mp (by kernel_rfl) (hk 49 (by decide))
    have h50 : a.eval (.tmp 50) = .int .i64 (i : Int) := Eq.mp (by kernel_rfl) (hk 50 (by decide))
    have h51 : a.eval (.tmp 51) = .int .i64 ((i : Int) + (d : Int)) := Eq.mp (by kernel_rfl) (hk 51 (by decide))
    exact Rg.does_sub _ Try.underlying22 (by rw [h49]; simp only [Option.map, h50, h51]; exact (HS2.out wx).1 .i64 .i64) ⟨Below.refl _ _, rfl⟩
  · intro _ a wx hb hk
    have h0 : a.eval (.tmp 0) = .slice a0 n cap := Eq.mp (by kernel_rfl) (hk 0 (by decide))
    exact Rg.does_move ⟨Below.refl _ _, h0⟩
  · intro _ a wx hb hk
    have h11 : a.eval (.tmp 11) = .int .i64 ((i : Int) + (d : Int)) := Eq.mp (by kernel_rfl) (hk 11 (by decide))
    exact Rg.does_move ⟨Below.refl _ _, h11⟩
  · intro _ a wx hb hk
    have h53 : a.eval (.tmp 53) = .slice a0 n cap := Eq.mp (by kernel_rfl) (hk 53 (by decide))
    have h54 : a.eval (.tmp 54) = .int .i64 ((i : Int) + (d : Int)) := Eq.mp (by kernel_rfl) (hk 54 (by decide))
    exact Rg.does_sub _ Try.underlying22 (by rw [h53]; simp only [Option.map, h54]; exact (HS3.out wx).2.2 (by trivial) .i64) ⟨Below.refl _ _, rfl⟩
  · intro _ a wx hb hk
    have h52 : a.eval (.tmp 52) = .slice a2 (i + d - i) (cap - i) := Eq.mp (by kernel_rfl) (hk 52 (by decide))
    have h55 : a.eval (.tmp 55) = .slice a3 (n - (i + d)) (cap - (i + d)) := Eq.mp (by kernel_rfl) (hk 55 (by decide))
    refine Rg.does_build (w' := wx.alloc (.cells #[.slice a2 (i + d - i) (cap - i), .slice a3 (n - (i + d)) (cap - (i + d))] 22)) #[(0, .slice a2 (i + d - i) (cap - i)), (1, .slice a3 (n - (i + d)) (cap - (i + d)))] (.slice (some ⟨wx.heap.size, 0, none⟩) 2 2) (by simp [h52, h55]) (by simp [go_sem]) ⟨(Below.refl _ _).alloc (Nat.le_refl _) _, _, _, rfl, ?_⟩
    exact two_rows (HB2.out.below stable_byteAt hb) (HB3.out.below stable_byteAt hb) _
  · intro _ a wx hb hk
    have h48 : a.eval (.tmp 48) = .int .u32 ((CrcPlain.add 0#32 (l.take i)).toNat : Int) := Eq.mp (by kernel_rfl) (hk 48 (by decide))
    have h56 : (fun v w => ∃ a c, v = .slice a 2 c ∧ ByteRows w a 2 c [(l.take (i + d)).drop i, (l.take n).drop (i + d)]) (a.eval (.tmp 56)) wx := Eq.mp (by kernel_rfl) (hk 56 (by decide))
    obtain ⟨a', c', hv, hr⟩ := h56
    refine Rg.does_func #[.int .u32 ((CrcPlain.add 0#32 (l.take i)).toNat : Int), .slice a' 2 c'] Try.func20 (by kernel_rfl) (by kernel_rfl) (by simp [h48, hv]) (crc_add_calls _ wx a' 2 c' _ hr) ?_
    rintro e w' ⟨rfl, rfl⟩
    exact ⟨_, rfl, Below.refl _ _, by show _ = _; rw [HP.out]⟩
  · intro _ a wx hb hk
    have h12 : a.eval (.tmp 12) = .int .u32 ((CrcPlain.of l).toNat : Int) := Eq.mp (by kernel_rfl) (hk 12 (by decide))
    exact Rg.does_move ⟨Below.refl _ _, h12⟩
  · intro _ a wx hb hk
    have h57 : a.eval (.tmp 57) = .int .u32 ((CrcPlain.of l).toNat : Int) := Eq.mp (by kernel_rfl) (hk 57 (by decide))
    have h58 : a.eval (.tmp 58) = .int .u32 ((CrcPlain.of l).toNat : Int) := Eq.mp (by kernel_rfl) (hk 58 (by decide))
    exact Rg.does_same_int .u32 _ h57 h58 ⟨Below.refl _ _, rfl⟩
  · intro _ a wx hb hk
    have h42 : a.eval (.tmp 42) = .bool true := Eq.mp (by kernel_rfl) (hk 42 (by decide))
    have h59 : a.eval (.tmp 59) = .bool true := Eq.mp (by kernel_rfl) (hk 59 (by decide))
    exact Rg.does_pick true h42 ⟨Below.refl _ _, h59⟩
  · intro _ a wx hb hk
    have h60 : a.eval (.tmp 60) = .bool true := Eq.mp (by kernel_rfl) (hk 60 (by decide))
    exact Rg.does_move ⟨Below.refl _ _, h60⟩
  · intro _ a wx hb hk
    have h3 : a.eval (.tmp 3) = .int .u32 (x.toNat : Int) := Eq.mp (by kernel_rfl) (hk 3 (by decide))
    exact Rg.does_move ⟨Below.refl _ _, h3⟩
  · intro _ a wx hb hk
    have h62 : a.eval (.tmp 62) = .int .u32 (x.toNat : Int) := Eq.mp (by kernel_rfl) (hk 62 (by decide))
    refine Rg.does_func #[.int .u32 (x.toNat : Int)] Try.func21 (by kernel_rfl) (by kernel_rfl) (by simp [h62]) (crc_tail_calls wx x) ?_
    rintro e w' ⟨v, rfl, ho, hb'⟩
    obtain ⟨a', c', hv, hr⟩ := ownsRow_bytes ho
    exact ⟨_, rfl, hb', a', c', hv, hr⟩
  · intro _ a wx hb hk
    have h63 : (fun v w => ∃ a c, v = .slice a 4 c ∧ Bytes w a 4 c (CrcPlain.tail x)) (a.eval (.tmp 63)) wx := Eq.mp (by kernel_rfl) (hk 63 (by decide))
    obtain ⟨a', c', hv, hr⟩ := h63
    exact Rg.does_convert _ _ hv (str_bytes hr) ⟨Below.refl _ _, rfl⟩
  · intro _ a wx hb hk
    have h3 : a.eval (.tmp 3) = .int .u32 (x.toNat : Int) := Eq.mp (by kernel_rfl) (hk 3 (by decide))
    exact Rg.does_move ⟨Below.refl _ _, h3⟩
  · intro _ a wx hb hk
    have h65 : a.eval (.tmp 65) = .int .u32 (x.toNat : Int) := Eq.mp (by kernel_rfl) (hk 65 (by decide))
    refine Rg.does_func #[.int .u32 (x.toNat : Int)] Try.func22 (by kernel_rfl) (by kernel_rfl) (by simp [h65]) (crc_ref_tail_calls wx x) ?_
    rintro e w' ⟨rfl, hb'⟩
    exact ⟨_, rfl, hb', rfl⟩
  · intro _ a wx hb hk
    have h64 : a.eval (.tmp 64) = .string (str (CrcPlain.tail x)) := Eq.mp (by kernel_rfl) (hk 64 (by decide))
    have h66 : a.eval (.tmp 66) = .string (str (CrcPlain.tail x)) := Eq.mp (by kernel_rfl) (hk 66 (by decide))
    exact Rg.does_same_string _ h64 h66 ⟨Below.refl _ _, rfl⟩
  · intro _ a wx hb hk
    have h61 : a.eval (.tmp 61) = .bool true := Eq.mp (by kernel_rfl) (hk 61 (by decide))
    have h67 : a.eval (.tmp 67) = .bool true := Eq.mp (by kernel_rfl) (hk 67 (by decide))
    exact Rg.does_pick true h61 ⟨Below.refl _ _, h67⟩
  · intro _ a wx hb hk
    have h68 : a.eval (.tmp 68) = .bool true := Eq.mp (by kernel_rfl) (hk 68 (by decide))
    exact Rg.does_move ⟨Below.refl _ _, h68⟩
  · intro _ a wx hb hk
    refine Rg.does_func #[] Try.func19 (by kernel_rfl) (by kernel_rfl) (by simp) (crc_new_calls wx) ?_
    rintro e w' ⟨rfl, rfl⟩
    exact ⟨_, rfl, Below.refl _ _, rfl⟩
  · intro _ a wx hb hk
    have h70 : a.eval (.tmp 70) = .int .u32 ((0#32).toNat : Int) := Eq.mp (by kernel_rfl) (hk 70 (by decide))
    exact Rg.does_same_int .u32 _ h70 rfl ⟨Below.refl _ _, rfl⟩
  · intro _ a wx hb hk
    have h69 : a.eval (.tmp 69) = .bool true := Eq.mp (by kernel_rfl) (hk 69 (by decide))
    have h71 : a.eval (.tmp 71) = .bool true := Eq.mp (by kernel_rfl) (hk 71 (by decide))
    exact Rg.does_pick true h69 ⟨Below.refl _ _, h71⟩
  · intro _ a wx hb hk
    have h72 : a.eval (.tmp 72) = .bool true := Eq.mp (by kernel_rfl) (hk 72 (by decide))
    exact Rg.does_assign ⟨Below.refl _ _, h72⟩
  intro vals wD hbD hL
  obtain ⟨g0, g1, g2, g3, g4, g5, g6, g7, g8, g9, g10, g11, g12, g13, g14, g15, g16, g17, g18, g19, g20, g21, g22, g23, g24, g25, g26, g27, g28, g29, g30, g31, g32, g33, g34, g35, _⟩ := hL
  have hfin : Below w.heap.size w wD := hb1.trans (hbD.mono hb1.size)
  have hres : vals 35 = .bool true := g35
  clear g0 g1 g2 g3 g4 g5 g6 g7 g8 g9 g10 g11 g12 g13 g14 g15 g16 g17 g18 g19 g20 g21 g22 g23 g24 g25 g26 g27 g28 g29 g30 g31 g32 g33 g34 g35 hbD hb1
  simp only [Rg.putAll, List.setIfInBounds_toArray, List.set_cons_succ, List.set_cons_zero]
  go_wp2_with fail
  go_ret
  exact ⟨by rw [← hres]; rfl, hfin⟩

end Go.Proofs.Ytbbnopikinlcdaa
