/-
  The reader of package varint, more: the methods that read on. Conditions: the reader is there; as each contract says.
-/
import Derived.Test.YtnmlnaoljkhjeaaVarReader
set_option linter.unusedVariables false
namespace Go.Proofs.Ytnmlnaoljkhjeaa
open Go.RowKit Base

/-- Bytes stay while a reader's block alone is written. -/
theorem bytes_other {w w' : World} {q : Nat} {a a2 : Option Addr} {n cap n2 cap2 : Nat} {l : List UInt8} {e : Int} {t : TypeId} (hq : w.heap[q]? = some (.cells #[.slice a2 n2 cap2, .int .i64 e] t)) (h : Bytes w a n cap l)
    (hg : ∀ k, k < w.heap.size → k ≠ q → w'.heap[k]? = w.heap[k]?) : Bytes w' a n cap l := by
  obtain ⟨h1, h2, h3, b, off, h4, h5⟩ := h
  refine ⟨h1, h2, h3, b, off, h4, fun k hk => ?_⟩
  have h6 := h5 k hk
  unfold byteAt at h6 ⊢
  have hlt : b < w.heap.size := World.block_lt_of_cell? w _ h6
  have hne : b ≠ q := by
    intro hbq
    subst hbq
    unfold World.cell? at h6
    rw [hq] at h6
    simp at h6
    rcases (by omega : off + k = 0 ∨ off + k = 1 ∨ 2 ≤ off + k) with h | h | h
    · simp [h] at h6
    · simp [h] at h6
    · have : ([Value.slice a2 n2 cap2, Value.int .i64 e] : List Value)[off + k]? = none := List.getElem?_eq_none (by simpa using h)
      rw [this] at h6
      cases h6
  rw [World.cell?_of_block (hg b hlt hne)]
  exact h6

theorem rd_set {w : World} {q : Nat} {a a' : Option Addr} {n cap n' cap' : Nat} {l' : List UInt8} {e f : Int} (h1 : w.heap[q]? = some (.cells #[.slice a n cap, .int .i64 e] 119)) (h2 : Bytes w a' n' cap' l') :
    Rd ((w.setCell ⟨q, 0, none⟩ (.slice a' n' cap')).setCell ⟨q, 1, none⟩ (.int .i64 f)) q l' f ∧ w.grownBy ((w.setCell ⟨q, 0, none⟩ (.slice a' n' cap')).setCell ⟨q, 1, none⟩ (.int .i64 f)) (some q) := by
  have e1 := heap_setCell_same w q 0 _ _ (.slice a' n' cap') h1
  have e2 := heap_setCell_same _ q 1 _ _ (.int .i64 f) e1
  have hg : ∀ k, k < w.heap.size → k ≠ q → ((w.setCell ⟨q, 0, none⟩ (.slice a' n' cap')).setCell ⟨q, 1, none⟩ (.int .i64 f)).heap[k]? = w.heap[k]? := fun k hk hne => by
    rw [Below.heap_setCell _ _ _ _ hne, Below.heap_setCell _ _ _ _ hne]
  exact ⟨⟨a', n', cap', e2, bytes_other h1 h2 hg⟩, ⟨rfl, rfl, rfl, by simp [World.setCell], fun k hk hne => hg k hk (fun h => hne (by rw [h]))⟩⟩

set_option maxHeartbeats 1000000 in
set_option maxRecDepth 100000 in
theorem rd_num_calls (w : World) (q : Nat) (l : List UInt8) (e : Int) (h : Rd w q l e) :
    Calls Try.prog 67 #[.pointer (some ⟨q, 0, none⟩)] w fun r w' => r = .returned (.int .u64 ((VarPlain.next l e).1 : Int)) ∧ Rd w' q (VarPlain.next l e).2.1 (VarPlain.next l e).2.2 ∧ w.grownBy w' (some q) := by
  by_cases he : e = 0
  · subst he
    have HN : Hid (VarPlain.next l 0 = ((VarPlain.take l).1, l.drop (VarPlain.take l).2.1, (VarPlain.take l).2.2)) := rfl
    obtain ⟨a, n, cap, h1, h2⟩ := h
    have Herr := Lib.hid (rd_err_calls w q l 0 ⟨a, n, cap, h1, h2⟩)
    obtain ⟨c0, c1, f0, f1⟩ := Rd.cells h1
    have htake := var_take_calls w a n cap l h2
    have hml := VarPlain.take_le l
    generalize ht : VarPlain.take l = t at *
    obtain ⟨x, m, f⟩ := t
    simp only [] at hml HN
    have hmn : m ≤ n := by rw [h2.1]; exact hml
    obtain ⟨a', hB, hS⟩ := sub_bytes h2 m n hmn (Nat.le_refl _)
    have hl : l.take n = l := List.take_of_length_le (by rw [h2.1]; exact Nat.le_refl _)
    rw [hl] at hB
    have hsl := fun wx => (hS wx).2.2 rfl .i64
    have HR := Lib.hid (rd_set (f := f) h1 hB)
    have hcap := h2.2.2.1
    unfold maxLen at hcap
    have Htake := Lib.hid htake
    clear hS hl hB h1 h2 ht htake
    go_enter Try.func67, Try.ntmps67
    go_wp2_with fail
    refine Herr.out.mono ?_
    rintro r w' ⟨rfl, rfl⟩
    go_wp2_with fail
    refine Htake.out.mono ?_
    rintro r w' ⟨rfl, rfl⟩
    unfold takeV
    go_wp2_with fail
    go_ret
    exact ⟨by rw [HN.out]; rfl, by rw [HN.out]; exact HR.out.1, HR.out.2⟩
  · have HN : Hid (VarPlain.next l e = (0, l, e)) := by show _ = _; unfold VarPlain.next; rw [if_pos he]
    have hne : (e != 0) = true := by rw [bne_iff_ne]; exact he
    have H := Lib.hid h; clear h he
    go_enter Try.func67, Try.ntmps67
    go_wp2_with fail
    refine (rd_err_calls _ q l e H.out).mono ?_
    rintro r w' ⟨rfl, rfl⟩
    go_wp2_with fail
    go_ret
    exact ⟨by rw [HN.out]; rfl, by rw [HN.out]; exact H.out, World.grownBy.refl _ _⟩

set_option maxRecDepth 100000 in
theorem rd_int_calls (w : World) (q : Nat) (l : List UInt8) (e : Int) (h : Rd w q l e) :
    Calls Try.prog 60 #[.pointer (some ⟨q, 0, none⟩)] w fun r w' => r = .returned (.int .i64 (VarPlain.zag (VarPlain.next l e).1)) ∧ Rd w' q (VarPlain.next l e).2.1 (VarPlain.next l e).2.2 ∧ w.grownBy w' (some q) := by
  have hx : (VarPlain.next l e).1 < 18446744073709551616 := by
    unfold VarPlain.next
    split
    · simp
    · exact VarPlain.take_lt l
  have Hx := Lib.hid hx; clear hx
  have H := Lib.hid (rd_num_calls w q l e h); clear h
  go_enter Try.func60, Try.ntmps60
  go_wp2_with fail
  refine H.out.mono ?_
  rintro r w' ⟨rfl, hr, hg⟩
  have Hr := Lib.hid hr; clear hr
  have Hg := Lib.hid hg; clear hg
  go_wp2_with fail
  refine (var_zag_calls w' ((VarPlain.next l e).1 : Int) (by omega) (by have := Hx.out; omega)).mono ?_
  rintro r w'' ⟨rfl, rfl⟩
  rw [Int.toNat_natCast]
  go_wp2_with fail
  go_ret
  exact ⟨rfl, Hr.out, Hg.out⟩

set_option maxRecDepth 100000 in
theorem rd_nil_num_calls (w : World) : Calls Try.prog 67 #[.pointer none] w fun r w' => r = .returned (.int .u64 0) ∧ w = w' := by
  go_enter Try.func67, Try.ntmps67
  go_wp2_with fail
  refine (rd_nil_err_calls _).mono ?_
  rintro r w' ⟨rfl, rfl⟩
  go_wp2_with fail
  go_ret
  exact ⟨rfl, rfl⟩
set_option maxRecDepth 100000 in
theorem rd_nil_text_calls (w : World) : Calls Try.prog 65 #[.pointer none] w fun r w' => r = .returned (.string ⟨#[]⟩) ∧ w = w' := by
  go_enter Try.func65, Try.ntmps65
  go_wp2_with fail
  refine (rd_nil_num_calls _).mono ?_
  rintro r w' ⟨rfl, rfl⟩
  go_wp2_with fail
  refine (rd_nil_err_calls _).mono ?_
  rintro r w' ⟨rfl, rfl⟩
  go_wp2_with fail
  go_ret
  exact ⟨rfl, rfl⟩
theorem rd_set1 {w : World} {q : Nat} {a : Option Addr} {n cap : Nat} {l : List UInt8} {e f : Int} (h1 : w.heap[q]? = some (.cells #[.slice a n cap, .int .i64 e] 119)) (h2 : Bytes w a n cap l) :
    Rd (w.setCell ⟨q, 1, none⟩ (.int .i64 f)) q l f ∧ w.grownBy (w.setCell ⟨q, 1, none⟩ (.int .i64 f)) (some q) := by
  have e2 := heap_setCell_same w q 1 _ _ (.int .i64 f) h1
  have hg : ∀ k, k < w.heap.size → k ≠ q → (w.setCell ⟨q, 1, none⟩ (.int .i64 f)).heap[k]? = w.heap[k]? := fun k hk hne => Below.heap_setCell _ _ _ _ hne
  exact ⟨⟨a, n, cap, e2, bytes_other h1 h2 hg⟩, ⟨rfl, rfl, rfl, by simp [World.setCell], fun k hk hne => hg k hk (fun h => hne (by rw [h]))⟩⟩
theorem rd_set0 {w : World} {q : Nat} {a a' : Option Addr} {n cap n' cap' : Nat} {l' : List UInt8} {e : Int} (h1 : w.heap[q]? = some (.cells #[.slice a n cap, .int .i64 e] 119)) (h2 : Bytes w a' n' cap' l') :
    Rd (w.setCell ⟨q, 0, none⟩ (.slice a' n' cap')) q l' e ∧ w.grownBy (w.setCell ⟨q, 0, none⟩ (.slice a' n' cap')) (some q) := by
  have e2 := heap_setCell_same w q 0 _ _ (.slice a' n' cap') h1
  have hg : ∀ k, k < w.heap.size → k ≠ q → (w.setCell ⟨q, 0, none⟩ (.slice a' n' cap')).heap[k]? = w.heap[k]? := fun k hk hne => Below.heap_setCell _ _ _ _ hne
  exact ⟨⟨a', n', cap', e2, bytes_other h1 h2 hg⟩, ⟨rfl, rfl, rfl, by simp [World.setCell], fun k hk hne => hg k hk (fun h => hne (by rw [h]))⟩⟩
theorem grownBy_trans {a b c : World} {r : Option Nat} (h : a.grownBy b r) (k : b.grownBy c r) : a.grownBy c r :=
  ⟨k.os.trans h.os, k.tape.trans h.tape, k.output.trans h.output, Nat.le_trans h.size k.size, fun i hi hne => (k.block i (Nat.lt_of_lt_of_le hi h.size) hne).trans (h.block i hi hne)⟩

set_option maxHeartbeats 1000000 in
set_option maxRecDepth 100000 in
theorem rd_text_calls (w : World) (q : Nat) (l : List UInt8) (e : Int) (h : Rd w q l e) :
    Calls Try.prog 65 #[.pointer (some ⟨q, 0, none⟩)] w fun r w' => r = .returned (.string (str (VarPlain.word l e).1)) ∧ Rd w' q (VarPlain.word l e).2.1 (VarPlain.word l e).2.2 ∧ w.grownBy w' (some q) := by
  have hx : (VarPlain.next l e).1 < 18446744073709551616 := by
    unfold VarPlain.next
    split
    · simp
    · exact VarPlain.take_lt l
  have H := Lib.hid (rd_num_calls w q l e h); clear h
  have HW : Hid (VarPlain.word l e = if (VarPlain.next l e).2.2 ≠ 0 then ([], (VarPlain.next l e).2.1, (VarPlain.next l e).2.2) else if (VarPlain.next l e).2.1.length < (VarPlain.next l e).1 then ([], (VarPlain.next l e).2.1, 10) else ((VarPlain.next l e).2.1.take (VarPlain.next l e).1, (VarPlain.next l e).2.1.drop (VarPlain.next l e).1, 0)) := rfl
  generalize VarPlain.next l e = t at *
  obtain ⟨x, l1, f⟩ := t
  simp only [] at hx HW H
  have Hx := Lib.hid hx; clear hx
  by_cases hf : f = 0
  · subst hf
    have hw := HW.out
    rw [if_neg (by simp)] at hw
    go_enter Try.func65, Try.ntmps65
    go_wp2_with fail
    refine H.out.mono ?_
    rintro r w1 ⟨rfl, hr1, hg1⟩
    have Hg1 := Lib.hid hg1; clear hg1
    have Herr := Lib.hid (rd_err_calls w1 q l1 0 hr1)
    obtain ⟨a, n, cap, h1, h2⟩ := hr1
    obtain ⟨c0, c1, f0, f1⟩ := Rd.cells h1
    have hcap := h2.2.2.1
    have hnc := h2.2.1
    have hnl := h2.1
    unfold maxLen at hcap
    by_cases hlong : l1.length < x
    · rw [if_pos hlong] at hw
      have Hw := Lib.hid hw; clear hw
      have HR := Lib.hid (rd_set1 (f := 10) h1 h2)
      have hnx : n < x := by rw [hnl]; exact hlong
      clear h1 h2 hnl hlong
      go_wp2_with fail
      refine Herr.out.mono ?_
      rintro r w' ⟨rfl, rfl⟩
      go_wp2_with fail
      go_ret
      exact ⟨by rw [Hw.out]; rfl, by rw [Hw.out]; exact HR.out.1, grownBy_trans Hg1.out HR.out.2⟩
    · rw [if_neg hlong] at hw
      have Hw := Lib.hid hw; clear hw
      have hxn : x ≤ n := by rw [hnl]; omega
      obtain ⟨a1, hB1, hS1⟩ := sub_bytes h2 0 x (Nat.zero_le _) hxn
      obtain ⟨a2, hB2, hS2⟩ := sub_bytes h2 x n hxn (Nat.le_refl _)
      have hl : l1.take n = l1 := List.take_of_length_le (by rw [hnl]; exact Nat.le_refl _)
      rw [List.drop_zero] at hB1
      rw [hl] at hB2
      have hsl1 := fun wx => (hS1 wx).2.1 rfl .u64
      have hsl2 := fun wx => (hS2 wx).2.2 rfl .u64
      have hstr := str_bytes hB1
      simp only [Nat.sub_zero] at hsl1 hstr
      have HR := Lib.hid (rd_set0 h1 hB2)
      clear h1 h2 hnl hlong hS1 hS2 hB1 hB2 hl
      go_wp2_with fail
      refine Herr.out.mono ?_
      rintro r w' ⟨rfl, rfl⟩
      go_wp2_with fail
      go_ret
      exact ⟨by rw [Hw.out]; rfl, by rw [Hw.out]; exact HR.out.1, grownBy_trans Hg1.out HR.out.2⟩
  · have hw := HW.out
    rw [if_pos hf] at hw
    have Hw := Lib.hid hw; clear hw
    have hne : (f != 0) = true := by rw [bne_iff_ne]; exact hf
    clear hf
    go_enter Try.func65, Try.ntmps65
    go_wp2_with fail
    refine H.out.mono ?_
    rintro r w1 ⟨rfl, hr1, hg1⟩
    have Hg1 := Lib.hid hg1; clear hg1
    have Hr1 := Lib.hid hr1; clear hr1
    go_wp2_with fail
    refine (rd_err_calls w1 q l1 f Hr1.out).mono ?_
    rintro r w' ⟨rfl, rfl⟩
    go_wp2_with fail
    go_ret
    exact ⟨by rw [Hw.out]; rfl, by rw [Hw.out]; exact Hr1.out, Hg1.out⟩

end Go.Proofs.Ytnmlnaoljkhjeaa
