/-
  The document's examples of chapter 2: 'awake' answers true. Conditions: none.
-/
import Derived.Test.YtbbnopikinlcdaaCrcWalks
set_option linter.unusedVariables false
namespace Go.Proofs.Ytbbnopikinlcdaa
open Go.RowKit Base

theorem nine : ((CrcPlain.of [49, 50, 51, 52, 53, 54, 55, 56, 57]).toNat : Int) = 3421780262 := by decide +kernel
theorem nine_parts : ((CrcPlain.add 0#32 [[49, 50, 51], [], [52, 53, 54, 55, 56, 57]].flatten).toNat : Int) = 3421780262 := by decide +kernel

theorem bytesCell_nil {w : World} {b o : Nat} (h : w.cell? ⟨b, o, none⟩ = some (.slice none 0 0)) : bytesCell w b o [] := ⟨none, 0, h, RowOf.nil⟩

theorem tail258 : str (CrcPlain.tail 258#32) = ⟨#[2, 1, 0, 0]⟩ := by decide

set_option maxHeartbeats 1000000 in
theorem crc_awake_calls (w : World) : Calls Try.prog 16 #[] w fun e w' => e = .returned (.bool true) ∧ Below w.heap.size w w' := by
  have kc := conv_const
  have kc1 := conv_const1
  go_enter Try.func16, Try.ntmps16
  go_wp2_with fail
  refine (crc_of_calls _ _ 9 _ [49, 50, 51, 52, 53, 54, 55, 56, 57] (bytes_lit w [49, 50, 51, 52, 53, 54, 55, 56, 57] _ (by simp [maxLen]) (9, 10))).mono ?_
  rintro e w1 ⟨rfl, hb1⟩
  rw [nine]
  have hb1' : Below w.heap.size w w1 := ((Below.refl _ _).alloc (Nat.le_refl _) _).trans (hb1.mono (by simp))
  have hs1 := hb1'.size
  clear hb1
  go_wp2_with fail
  refine (crc_tail_calls _ 258#32).mono ?_
  rintro e w2 ⟨v2, rfl, hown2, hb2⟩
  obtain ⟨a2, c2, rfl, hrow2⟩ := ownsRow_bytes hown2
  have hstr : (convert 22 9 (.slice a2 4 c2)).run Try.prog w2 = .ok (.string (str (CrcPlain.tail 258#32))) w2 := str_bytes hrow2
  rw [tail258] at hstr
  have hb2' := hb1'.trans (hb2.mono hs1)
  have hs2 := hb2'.size
  clear hown2 hrow2 hb1' hb2
  go_wp2_with fail
  refine (crc_new_calls _).mono ?_
  rintro e w3 ⟨rfl, rfl⟩
  have hr1 : Bytes ((w2.alloc (Obj.cells #[Value.int IntKind.u8 49, Value.int IntKind.u8 50, Value.int IntKind.u8 51] 5 (3, 4))).alloc (Obj.cells #[Value.int IntKind.u8 52, Value.int IntKind.u8 53, Value.int IntKind.u8 54, Value.int IntKind.u8 55, Value.int IntKind.u8 56, Value.int IntKind.u8 57] 5 (6, 7))) (some ⟨w2.heap.size, 0, none⟩) 3 3 [49, 50, 51] := (bytes_lit w2 [49, 50, 51] 5 (by simp [maxLen]) (3, 4)).below stable_byteAt ((Below.refl _ _).alloc (by simp) _)
  have hr2 : Bytes ((w2.alloc (Obj.cells #[Value.int IntKind.u8 49, Value.int IntKind.u8 50, Value.int IntKind.u8 51] 5 (3, 4))).alloc (Obj.cells #[Value.int IntKind.u8 52, Value.int IntKind.u8 53, Value.int IntKind.u8 54, Value.int IntKind.u8 55, Value.int IntKind.u8 56, Value.int IntKind.u8 57] 5 (6, 7))) (some ⟨w2.heap.size + 1, 0, none⟩) 6 6 [52, 53, 54, 55, 56, 57] := by
    have := bytes_lit (w2.alloc (Obj.cells #[Value.int IntKind.u8 49, Value.int IntKind.u8 50, Value.int IntKind.u8 51] 5 (3, 4))) [52, 53, 54, 55, 56, 57] 5 (by simp [maxLen]) (6, 7)
    rwa [show (w2.alloc (Obj.cells #[Value.int IntKind.u8 49, Value.int IntKind.u8 50, Value.int IntKind.u8 51] 5 (3, 4))).heap.size = w2.heap.size + 1 by simp] at this
  have hrows : ByteRows (((w2.alloc (Obj.cells #[Value.int IntKind.u8 49, Value.int IntKind.u8 50, Value.int IntKind.u8 51] 5 (3, 4))).alloc (Obj.cells #[Value.int IntKind.u8 52, Value.int IntKind.u8 53, Value.int IntKind.u8 54, Value.int IntKind.u8 55, Value.int IntKind.u8 56, Value.int IntKind.u8 57] 5 (6, 7))).alloc (.cells #[.slice (some ⟨w2.heap.size, 0, none⟩) 3 3, .slice none 0 0, .slice (some ⟨w2.heap.size + 1, 0, none⟩) 6 6] 22)) (some ⟨w2.heap.size + 1 + 1, 0, none⟩) 3 3 [[49, 50, 51], [], [52, 53, 54, 55, 56, 57]] := by
    have := rows_lit ((w2.alloc (Obj.cells #[Value.int IntKind.u8 49, Value.int IntKind.u8 50, Value.int IntKind.u8 51] 5 (3, 4))).alloc (Obj.cells #[Value.int IntKind.u8 52, Value.int IntKind.u8 53, Value.int IntKind.u8 54, Value.int IntKind.u8 55, Value.int IntKind.u8 56, Value.int IntKind.u8 57] 5 (6, 7))) [.slice (some ⟨w2.heap.size, 0, none⟩) 3 3, .slice none 0 0, .slice (some ⟨w2.heap.size + 1, 0, none⟩) 6 6] [[49, 50, 51], [], [52, 53, 54, 55, 56, 57]] 22 (by simp [maxLen]) ⟨⟨_, _, rfl, hr1⟩, ⟨_, _, rfl, RowOf.nil⟩, ⟨_, _, rfl, hr2⟩, trivial⟩
    rwa [show ((w2.alloc (Obj.cells #[Value.int IntKind.u8 49, Value.int IntKind.u8 50, Value.int IntKind.u8 51] 5 (3, 4))).alloc (Obj.cells #[Value.int IntKind.u8 52, Value.int IntKind.u8 53, Value.int IntKind.u8 54, Value.int IntKind.u8 55, Value.int IntKind.u8 56, Value.int IntKind.u8 57] 5 (6, 7))).heap.size = w2.heap.size + 1 + 1 by simp] at this
  have hfin : Below w.heap.size w (((w2.alloc (Obj.cells #[Value.int IntKind.u8 49, Value.int IntKind.u8 50, Value.int IntKind.u8 51] 5 (3, 4))).alloc (Obj.cells #[Value.int IntKind.u8 52, Value.int IntKind.u8 53, Value.int IntKind.u8 54, Value.int IntKind.u8 55, Value.int IntKind.u8 56, Value.int IntKind.u8 57] 5 (6, 7))).alloc (.cells #[.slice (some ⟨w2.heap.size, 0, none⟩) 3 3, .slice none 0 0, .slice (some ⟨w2.heap.size + 1, 0, none⟩) 6 6] 22)) :=
    ((hb2'.alloc hs2 _).alloc (by simp; omega) _).alloc (by simp; omega) _
  clear hb2' hr1 hr2
  have Hrows := Lib.hid hrows; clear hrows
  go_wp2_with fail
  refine (crc_add_calls 0#32 _ _ 3 _ [[49, 50, 51], [], [52, 53, 54, 55, 56, 57]] Hrows.out).mono ?_
  rintro e w4 ⟨rfl, rfl⟩
  rw [nine_parts]
  go_wp2_with fail
  go_ret
  exact ⟨rfl, hfin⟩

end Go.Proofs.Ytbbnopikinlcdaa
