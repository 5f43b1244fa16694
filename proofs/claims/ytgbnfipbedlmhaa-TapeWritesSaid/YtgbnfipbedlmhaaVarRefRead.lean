/-
  The reference's reader, Next and Word: each computes what the plain mathematics says. Conditions: the text is not longer than any text may be.
-/
import Derived.Test.YtgbnfipbedlmhaaVarTexts2
set_option linter.unusedVariables false
namespace Go.Proofs.Ytgbnfipbedlmhaa
open Go.RowKit Base

theorem str_drop (l : List UInt8) (m : Nat) : (str l).extract m (str l).size = str (l.drop m) := by
  apply ba_ext
  rw [str_data]
  simp [str, ByteArray.size]
  try exact List.take_of_length_le (by simp)
theorem str_take (l : List UInt8) (m : Nat) : (str l).extract 0 m = str (l.take m) := by
  apply ba_ext
  rw [str_data]
  simp [str]

/-- A reader of the reference, as a value. -/
def refR (l : List UInt8) (e : Int) : Value := .agg #[.string (str l), .int .i64 e]

set_option maxHeartbeats 400000 in
set_option maxRecDepth 100000 in
theorem ref_next_calls (w : World) (l : List UInt8) (e : Int) (hl : l.length ≤ maxLen) :
    Calls Try.prog 72 #[refR l e] w fun r w' => r = .returned (.tuple #[refR (VarPlain.next l e).2.1 (VarPlain.next l e).2.2, .int .u64 ((VarPlain.next l e).1 : Int)]) ∧ Below w.heap.size w w' := by
  have hsz : (str l).size ≤ 9223372036854775807 := by rw [str_size]; unfold maxLen at hl; omega
  by_cases he : e = 0
  · subst he
    have HN : Hid (VarPlain.next l 0 = ((VarPlain.take l).1, l.drop (VarPlain.take l).2.1, (VarPlain.take l).2.2)) := rfl
    have htake := fun w => var_ref_take_calls w (str l) (by rw [str_size]; exact hl)
    have hml := VarPlain.take_le l
    rw [str_data] at htake
    generalize VarPlain.take l = t at *
    obtain ⟨x, m, f⟩ := t
    simp only [] at hml HN
    have hms : m ≤ (str l).size := hml
    have hdr := str_drop l m
    have Htake := Lib.hid htake; clear htake hml
    unfold refR
    generalize str l = s at *
    go_enter Try.func72, Try.ntmps72
    go_wp2_with fail
    refine (Htake.out _).mono ?_
    rintro r w' ⟨rfl, rfl⟩
    unfold takeV
    go_wp2_with fail
    go_returns
    exact ⟨by rw [HN.out], ((Below.refl _ _).alloc (Nat.le_refl _) _).alloc (by simp) _⟩
  · have HN : Hid (VarPlain.next l e = (0, l, e)) := by show _ = _; unfold VarPlain.next; rw [if_pos he]
    have hne : (e != 0) = true := by rw [bne_iff_ne]; exact he
    clear he
    unfold refR
    go_enter Try.func72, Try.ntmps72
    go_wp2_with fail
    go_returns
    exact ⟨by rw [HN.out]; rfl, ((Below.refl _ _).alloc (Nat.le_refl _) _).alloc (by simp) _⟩

theorem next_len (l : List UInt8) (e : Int) : (VarPlain.next l e).2.1.length ≤ l.length := by
  unfold VarPlain.next
  split
  · exact Nat.le_refl _
  · simp

theorem cells_two {W : World} {q : Nat} {a b : Value} (h0 : W.cell? ⟨q, 0, none⟩ = some a) (h1 : W.cell? ⟨q, 1, none⟩ = some b) (x y : Value) (O : Obj) :
    (((W.setCell ⟨q, 0, none⟩ x).setCell ⟨q, 1, none⟩ y).alloc O).cell? ⟨q, 0, none⟩ = some x ∧ (((W.setCell ⟨q, 0, none⟩ x).setCell ⟨q, 1, none⟩ y).alloc O).cell? ⟨q, 1, none⟩ = some y := by
  have hlt : q < W.heap.size := World.block_lt_of_cell? W _ h0
  have e1 : (W.setCell ⟨q, 0, none⟩ x).cell? ⟨q, 0, none⟩ = some x := World.cell?_setCell_same W _ x h0
  have e2 : (W.setCell ⟨q, 0, none⟩ x).cell? ⟨q, 1, none⟩ = some b := by rw [World.cell?_setCell_other _ _ _ _ (by simp)]; exact h1
  have e3 : ((W.setCell ⟨q, 0, none⟩ x).setCell ⟨q, 1, none⟩ y).cell? ⟨q, 0, none⟩ = some x := by rw [World.cell?_setCell_other _ _ _ _ (by simp)]; exact e1
  have e4 : ((W.setCell ⟨q, 0, none⟩ x).setCell ⟨q, 1, none⟩ y).cell? ⟨q, 1, none⟩ = some y := World.cell?_setCell_same _ _ y e2
  have hb := (Below.refl ((W.setCell ⟨q, 0, none⟩ x).setCell ⟨q, 1, none⟩ y).heap.size ((W.setCell ⟨q, 0, none⟩ x).setCell ⟨q, 1, none⟩ y)).alloc (Nat.le_refl _) O
  exact ⟨cell_below hb (Nat.le_refl _) e3, cell_below hb (Nat.le_refl _) e4⟩

set_option maxHeartbeats 400000 in
set_option maxRecDepth 100000 in
theorem ref_word_calls (w : World) (l : List UInt8) (e : Int) (hl : l.length ≤ maxLen) :
    Calls Try.prog 73 #[refR l e] w fun r w' => r = .returned (.tuple #[refR (VarPlain.word l e).2.1 (VarPlain.word l e).2.2, .string (str (VarPlain.word l e).1)]) ∧ Below w.heap.size w w' := by
  have hnl := next_len l e
  have hx : (VarPlain.next l e).1 < 18446744073709551616 := by
    unfold VarPlain.next
    split
    · simp
    · exact VarPlain.take_lt l
  have hnext := fun w => ref_next_calls w l e hl
  have HW : Hid (VarPlain.word l e = if (VarPlain.next l e).2.2 ≠ 0 then ([], (VarPlain.next l e).2.1, (VarPlain.next l e).2.2) else if (VarPlain.next l e).2.1.length < (VarPlain.next l e).1 then ([], (VarPlain.next l e).2.1, 10) else ((VarPlain.next l e).2.1.take (VarPlain.next l e).1, (VarPlain.next l e).2.1.drop (VarPlain.next l e).1, 0)) := rfl
  generalize VarPlain.next l e = t at *
  obtain ⟨x, l1, f⟩ := t
  simp only [] at hx HW hnext hnl
  unfold maxLen at hl
  have hs1 : (str l1).size ≤ 9223372036854775807 := by rw [str_size]; omega
  have Hx := Lib.hid hx; clear hx
  have Hnext := Lib.hid hnext; clear hnext hnl
  by_cases hf : f = 0
  · subst hf
    have hw := HW.out
    rw [if_neg (by simp)] at hw
    by_cases hlong : l1.length < x
    · rw [if_pos hlong] at hw
      have Hw := Lib.hid hw; clear hw
      have hlong' : (str l1).size < x := hlong
      clear hlong
      unfold refR at Hw Hnext ⊢
      generalize hS : str l1 = s1 at *
      have HS := Lib.hid hS; clear hS
      go_enter Try.func73, Try.ntmps73
      go_wp2_with fail
      refine (Hnext.out _).mono ?_
      rintro r w1 ⟨rfl, hb⟩
      have hc : ∀ b o, b < w.heap.size + 1 + 1 → w1.cell? ⟨b, o, none⟩ = ((w.alloc (Obj.cells #[Value.string (str l), Value.int IntKind.i64 e] 101)).alloc (Obj.cells #[Value.string ⟨#[]⟩, Value.int IntKind.i64 0] 101)).cell? ⟨b, o, none⟩ := fun b o h => hb.cell (p := ⟨b, o, none⟩) (by simpa using h)
      have hfz : ∀ b o, b < w.heap.size + 1 + 1 → w1.frozen? ⟨b, o, none⟩ = ((w.alloc (Obj.cells #[Value.string (str l), Value.int IntKind.i64 e] 101)).alloc (Obj.cells #[Value.string ⟨#[]⟩, Value.int IntKind.i64 0] 101)).frozen? ⟨b, o, none⟩ := fun b o h => hb.frozen (p := ⟨b, o, none⟩) (by simpa using h)
      have k0 : w1.cell? ⟨w.heap.size + 1, 0, none⟩ = some (.string ⟨#[]⟩) := by rw [hc _ _ (by omega)]; simp
      have k1 : w1.cell? ⟨w.heap.size + 1, 1, none⟩ = some (.int .i64 0) := by rw [hc _ _ (by omega)]; simp
      have kf0 : w1.frozen? ⟨w.heap.size + 1, 0, none⟩ = false := by rw [hfz _ _ (by omega)]; simp
      have kf1 : w1.frozen? ⟨w.heap.size + 1, 1, none⟩ = false := by rw [hfz _ _ (by omega)]; simp
      have hbw : Below w.heap.size w w1 := (((Below.refl _ _).alloc (Nat.le_refl _) _).alloc (by simp) _).trans (hb.mono (by simp; omega))
      have hsz1 : w.heap.size + 1 < w1.heap.size := by have := hb.size; simp at this; omega
      clear hc hfz hb
      go_wp2_with fail
      obtain ⟨d0, d1⟩ := cells_two k0 k1 (.string s1) (.int .i64 10) (Obj.cells #[Value.string s1, Value.int IntKind.i64 10] 101)
      refine bodyPost_ret (v := .tuple #[.agg #[.string s1, .int .i64 10], .string ⟨#[]⟩]) (by simp [results, Try.results73, go_sem, d0, d1]) rfl ⟨by rw [Hw.out, ← HS.out]; rfl, ?_⟩
      exact ((hbw.setCell (p := ⟨w.heap.size + 1, 0, none⟩) (by simp) _).setCell (p := ⟨w.heap.size + 1, 1, none⟩) (by simp) _).alloc (by simp; omega) _
    · rw [if_neg hlong] at hw
      have Hw := Lib.hid hw; clear hw
      have hlong' : x ≤ (str l1).size := Nat.le_of_not_lt hlong
      have hdr := str_drop l1 x
      have htk := str_take l1 x
      clear hlong
      unfold refR at Hw Hnext ⊢
      generalize hS : str l1 = s1 at *
      have HS := Lib.hid hS; clear hS
      go_enter Try.func73, Try.ntmps73
      go_wp2_with fail
      refine (Hnext.out _).mono ?_
      rintro r w1 ⟨rfl, hb⟩
      have hc : ∀ b o, b < w.heap.size + 1 + 1 → w1.cell? ⟨b, o, none⟩ = ((w.alloc (Obj.cells #[Value.string (str l), Value.int IntKind.i64 e] 101)).alloc (Obj.cells #[Value.string ⟨#[]⟩, Value.int IntKind.i64 0] 101)).cell? ⟨b, o, none⟩ := fun b o h => hb.cell (p := ⟨b, o, none⟩) (by simpa using h)
      have hfz : ∀ b o, b < w.heap.size + 1 + 1 → w1.frozen? ⟨b, o, none⟩ = ((w.alloc (Obj.cells #[Value.string (str l), Value.int IntKind.i64 e] 101)).alloc (Obj.cells #[Value.string ⟨#[]⟩, Value.int IntKind.i64 0] 101)).frozen? ⟨b, o, none⟩ := fun b o h => hb.frozen (p := ⟨b, o, none⟩) (by simpa using h)
      have k0 : w1.cell? ⟨w.heap.size + 1, 0, none⟩ = some (.string ⟨#[]⟩) := by rw [hc _ _ (by omega)]; simp
      have k1 : w1.cell? ⟨w.heap.size + 1, 1, none⟩ = some (.int .i64 0) := by rw [hc _ _ (by omega)]; simp
      have kf0 : w1.frozen? ⟨w.heap.size + 1, 0, none⟩ = false := by rw [hfz _ _ (by omega)]; simp
      have kf1 : w1.frozen? ⟨w.heap.size + 1, 1, none⟩ = false := by rw [hfz _ _ (by omega)]; simp
      have hbw : Below w.heap.size w w1 := (((Below.refl _ _).alloc (Nat.le_refl _) _).alloc (by simp) _).trans (hb.mono (by simp; omega))
      have hsz1 : w.heap.size + 1 < w1.heap.size := by have := hb.size; simp at this; omega
      clear hc hfz hb
      go_wp2_with fail
      go_region
      go_wp2_with fail
      obtain ⟨d0, d1⟩ := cells_two k0 k1 (.string (str (l1.drop x))) (.int .i64 0) (Obj.cells #[Value.string s1, Value.int IntKind.i64 0] 101)
      refine bodyPost_ret (v := .tuple #[.agg #[.string (str (l1.drop x)), .int .i64 0], .string (str (l1.take x))]) (by simp [results, Try.results73, go_sem, d0, d1]) rfl ⟨by rw [Hw.out], ?_⟩
      exact (((hbw.setCell (p := ⟨w.heap.size + 1, 0, none⟩) (by simp) _).setCell (p := ⟨w.heap.size + 1, 1, none⟩) (by simp) _).alloc (by simp; omega) _).drew
  · have hw := HW.out
    rw [if_pos hf] at hw
    have Hw := Lib.hid hw; clear hw
    have hne : (f != 0) = true := by rw [bne_iff_ne]; exact hf
    clear hf
    unfold refR at Hw Hnext ⊢
    generalize hS : str l1 = s1 at *
    have HS := Lib.hid hS; clear hS
    go_enter Try.func73, Try.ntmps73
    go_wp2_with fail
    refine (Hnext.out _).mono ?_
    rintro r w1 ⟨rfl, hb⟩
    have hc : ∀ b o, b < w.heap.size + 1 + 1 → w1.cell? ⟨b, o, none⟩ = ((w.alloc (Obj.cells #[Value.string (str l), Value.int IntKind.i64 e] 101)).alloc (Obj.cells #[Value.string ⟨#[]⟩, Value.int IntKind.i64 0] 101)).cell? ⟨b, o, none⟩ := fun b o h => hb.cell (p := ⟨b, o, none⟩) (by simpa using h)
    have hfz : ∀ b o, b < w.heap.size + 1 + 1 → w1.frozen? ⟨b, o, none⟩ = ((w.alloc (Obj.cells #[Value.string (str l), Value.int IntKind.i64 e] 101)).alloc (Obj.cells #[Value.string ⟨#[]⟩, Value.int IntKind.i64 0] 101)).frozen? ⟨b, o, none⟩ := fun b o h => hb.frozen (p := ⟨b, o, none⟩) (by simpa using h)
    have k0 : w1.cell? ⟨w.heap.size + 1, 0, none⟩ = some (.string ⟨#[]⟩) := by rw [hc _ _ (by omega)]; simp
    have k1 : w1.cell? ⟨w.heap.size + 1, 1, none⟩ = some (.int .i64 0) := by rw [hc _ _ (by omega)]; simp
    have kf0 : w1.frozen? ⟨w.heap.size + 1, 0, none⟩ = false := by rw [hfz _ _ (by omega)]; simp
    have kf1 : w1.frozen? ⟨w.heap.size + 1, 1, none⟩ = false := by rw [hfz _ _ (by omega)]; simp
    have hbw : Below w.heap.size w w1 := (((Below.refl _ _).alloc (Nat.le_refl _) _).alloc (by simp) _).trans (hb.mono (by simp; omega))
    have hsz1 : w.heap.size + 1 < w1.heap.size := by have := hb.size; simp at this; omega
    clear hc hfz hb
    go_wp2_with fail
    obtain ⟨d0, d1⟩ := cells_two k0 k1 (.string s1) (.int .i64 f) (Obj.cells #[Value.string s1, Value.int IntKind.i64 f] 101)
    refine bodyPost_ret (v := .tuple #[.agg #[.string s1, .int .i64 f], .string ⟨#[]⟩]) (by simp [results, Try.results73, go_sem, d0, d1]) rfl ⟨by rw [Hw.out, ← HS.out]; rfl, ?_⟩
    exact ((hbw.setCell (p := ⟨w.heap.size + 1, 0, none⟩) (by simp) _).setCell (p := ⟨w.heap.size + 1, 1, none⟩) (by simp) _).alloc (by simp; omega) _

end Go.Proofs.Ytgbnfipbedlmhaa
