/-
  The reader of package varint once more: Num and Text leave the row that is read in the block where it lay. Conditions: the reader is there; as each contract says.
-/
import Derived.Test.YtnmlnaoljkhjeaaVarReader2
set_option linter.unusedVariables false
namespace Go.Proofs.Ytnmlnaoljkhjeaa
open Go.RowKit Base

/-- A reader whose bytes, if there are any, lie in a block of S. -/
def RdIn (S : Nat → Prop) (w : World) (q : Nat) (l : List UInt8) (e : Int) : Prop := ∃ a n cap, w.heap[q]? = some (.cells #[.slice a n cap, .int .i64 e] 119) ∧ Bytes w a n cap l ∧ (n = 0 ∨ ∀ ad, a = some ad → S ad.block)
theorem RdIn.toRd {S : Nat → Prop} {w : World} {q : Nat} {l : List UInt8} {e : Int} (h : RdIn S w q l e) : Rd w q l e := by
  obtain ⟨a, n, cap, h1, h2, _⟩ := h
  exact ⟨a, n, cap, h1, h2⟩
theorem Rd.toIn {w : World} {q : Nat} {l : List UInt8} {e : Int} (h : Rd w q l e) : RdIn (fun b => b < w.heap.size) w q l e := by
  obtain ⟨a, n, cap, h1, h2⟩ := h
  refine ⟨a, n, cap, h1, h2, ?_⟩
  obtain ⟨g1, g2, g3, b, off, g4, g5⟩ := h2
  rcases g4 with g4 | g4
  · exact .inl g4
  · rcases Nat.eq_zero_or_pos n with h0 | h0
    · exact .inl h0
    · right
      intro ad had
      rw [g4] at had
      simp at had
      subst had
      have := g5 0 (by omega)
      unfold byteAt at this
      exact World.block_lt_of_cell? w _ this
/-- Where nothing below B turns, a reader below B whose bytes lie below B stays. -/
theorem RdIn.stays {B : Nat} {w w' : World} {q : Nat} {l : List UInt8} {e : Int} (h : RdIn (fun b => b < B) w q l e) (hb : Below B w w') (hq : q < B) : RdIn (fun b => b < B) w' q l e := by
  obtain ⟨a, n, cap, h1, h2, h3⟩ := h
  refine ⟨a, n, cap, by rw [hb.block q hq]; exact h1, ?_, h3⟩
  obtain ⟨g1, g2, g3, b, off, g4, g5⟩ := h2
  refine ⟨g1, g2, g3, b, off, g4, fun k hk => ?_⟩
  rcases h3 with h3 | h3
  · omega
  · rcases g4 with g4 | g4
    · omega
    · have := h3 _ g4
      have g6 := g5 k hk
      unfold byteAt at g6 ⊢
      rw [World.cell?_of_block (hb.block b this)]
      exact g6
theorem in_sub {S : Nat → Prop} {a a' : Option Addr} {n m : Nat} (h : n = 0 ∨ ∀ ad, a = some ad → S ad.block) (hA : ∀ ad', a' = some ad' → ∃ ad, a = some ad ∧ ad.block = ad'.block) : n - m = 0 ∨ ∀ ad, a' = some ad → S ad.block := by
  rcases h with h | h
  · exact .inl (by omega)
  · refine .inr fun ad' had' => ?_
    obtain ⟨ad, had, e⟩ := hA ad' had'
    rw [← e]; exact h ad had
theorem sub_bytes2 {w : World} {a : Option Addr} {n cap : Nat} {l : List UInt8} (h : Bytes w a n cap l) (lo hi : Nat) (hlo : lo ≤ hi) (hhi : hi ≤ n) :
    ∃ a' : Option Addr, Bytes w a' (hi - lo) (cap - lo) ((l.take hi).drop lo) ∧ (∀ ad', a' = some ad' → ∃ ad, a = some ad ∧ ad.block = ad'.block) ∧ ∀ w' : World,
        (∀ (k1 k2 : IntKind), (Instr.slice 43 (.slice a n cap) (some (.int k1 (lo : Int))) (some (.int k2 (hi : Int))) none).run Try.prog w' = .ok (.slice a' (hi - lo) (cap - lo)) w') ∧
        (lo = 0 → ∀ (k2 : IntKind), (Instr.slice 43 (.slice a n cap) none (some (.int k2 (hi : Int))) none).run Try.prog w' = .ok (.slice a' (hi - lo) (cap - lo)) w') ∧
        (hi = n → ∀ (k1 : IntKind), (Instr.slice 43 (.slice a n cap) (some (.int k1 (lo : Int))) none none).run Try.prog w' = .ok (.slice a' (hi - lo) (cap - lo)) w') := by
  obtain ⟨a', h1, h2⟩ := sub_bytes h lo hi hlo hhi
  refine ⟨a', h1, ?_, h2⟩
  have hr := (h2 w).1 .i64 .i64
  obtain ⟨i, hi', _, hs, _⟩ := info_parts info_u8
  have ht : Try.prog.underlying 43 = some (.slice (Try.prog.elem 43)) := by simp [Program.elem, Try.underlying43]
  have hcap := h.2.2.1
  have hnc := h.2.1
  rw [run_slice_lh w 43 a n cap ht .i64 .i64 lo hi (by omega) (by omega) (by omega)] at hr
  have he : Try.prog.elem 43 = 5 := by simp [Program.elem, Try.underlying43]
  have hsz : (sizeOf 5).run Try.prog w = .ok 1 w := by simp [sizeOf, typeInfo, hi', hs]
  rw [he, hsz] at hr
  simp [Result.andThen, sliced] at hr
  intro ad' had'
  rw [had'] at hr
  split at hr
  · exact ⟨ad', hr, rfl⟩
  · obtain ⟨ad, had, e⟩ := Option.map_eq_some_iff.1 hr
    exact ⟨ad, had, by rw [← e]; unfold Addr.add; split <;> rfl⟩

theorem rd_set_in {S : Nat → Prop} {w : World} {q : Nat} {a a' : Option Addr} {n cap n' cap' : Nat} {l' : List UInt8} {e f : Int} (h1 : w.heap[q]? = some (.cells #[.slice a n cap, .int .i64 e] 119)) (h2 : Bytes w a' n' cap' l') (h3 : n' = 0 ∨ ∀ ad, a' = some ad → S ad.block) :
    RdIn S ((w.setCell ⟨q, 0, none⟩ (.slice a' n' cap')).setCell ⟨q, 1, none⟩ (.int .i64 f)) q l' f ∧ w.grownBy ((w.setCell ⟨q, 0, none⟩ (.slice a' n' cap')).setCell ⟨q, 1, none⟩ (.int .i64 f)) (some q) := by
  have e1 := heap_setCell_same w q 0 _ _ (.slice a' n' cap') h1
  have e2 := heap_setCell_same _ q 1 _ _ (.int .i64 f) e1
  have hg : ∀ k, k < w.heap.size → k ≠ q → ((w.setCell ⟨q, 0, none⟩ (.slice a' n' cap')).setCell ⟨q, 1, none⟩ (.int .i64 f)).heap[k]? = w.heap[k]? := fun k hk hne => by
    rw [Below.heap_setCell _ _ _ _ hne, Below.heap_setCell _ _ _ _ hne]
  exact ⟨⟨a', n', cap', e2, bytes_other h1 h2 hg, h3⟩, (rd_set (f := f) h1 h2).2⟩
theorem rd_set1_in {S : Nat → Prop} {w : World} {q : Nat} {a : Option Addr} {n cap : Nat} {l : List UInt8} {e f : Int} (h1 : w.heap[q]? = some (.cells #[.slice a n cap, .int .i64 e] 119)) (h2 : Bytes w a n cap l) (h3 : n = 0 ∨ ∀ ad, a = some ad → S ad.block) :
    RdIn S (w.setCell ⟨q, 1, none⟩ (.int .i64 f)) q l f ∧ w.grownBy (w.setCell ⟨q, 1, none⟩ (.int .i64 f)) (some q) := by
  have e2 := heap_setCell_same w q 1 _ _ (.int .i64 f) h1
  have hg : ∀ k, k < w.heap.size → k ≠ q → (w.setCell ⟨q, 1, none⟩ (.int .i64 f)).heap[k]? = w.heap[k]? := fun k hk hne => Below.heap_setCell _ _ _ _ hne
  exact ⟨⟨a, n, cap, e2, bytes_other h1 h2 hg, h3⟩, (rd_set1 (f := f) h1 h2).2⟩
theorem rd_set0_in {S : Nat → Prop} {w : World} {q : Nat} {a a' : Option Addr} {n cap n' cap' : Nat} {l' : List UInt8} {e : Int} (h1 : w.heap[q]? = some (.cells #[.slice a n cap, .int .i64 e] 119)) (h2 : Bytes w a' n' cap' l') (h3 : n' = 0 ∨ ∀ ad, a' = some ad → S ad.block) :
    RdIn S (w.setCell ⟨q, 0, none⟩ (.slice a' n' cap')) q l' e ∧ w.grownBy (w.setCell ⟨q, 0, none⟩ (.slice a' n' cap')) (some q) := by
  have e2 := heap_setCell_same w q 0 _ _ (.slice a' n' cap') h1
  have hg : ∀ k, k < w.heap.size → k ≠ q → (w.setCell ⟨q, 0, none⟩ (.slice a' n' cap')).heap[k]? = w.heap[k]? := fun k hk hne => Below.heap_setCell _ _ _ _ hne
  exact ⟨⟨a', n', cap', e2, bytes_other h1 h2 hg, h3⟩, (rd_set0 h1 h2).2⟩

set_option maxHeartbeats 1000000 in
set_option maxRecDepth 100000 in
theorem rd_num_in (S : Nat → Prop) (w : World) (q : Nat) (l : List UInt8) (e : Int) (h : RdIn S w q l e) :
    Calls Try.prog 67 #[.pointer (some ⟨q, 0, none⟩)] w fun r w' => r = .returned (.int .u64 ((VarPlain.next l e).1 : Int)) ∧ RdIn S w' q (VarPlain.next l e).2.1 (VarPlain.next l e).2.2 ∧ w.grownBy w' (some q) := by
  by_cases he : e = 0
  · subst he
    have HN : Hid (VarPlain.next l 0 = ((VarPlain.take l).1, l.drop (VarPlain.take l).2.1, (VarPlain.take l).2.2)) := rfl
    obtain ⟨a, n, cap, h1, h2, h3⟩ := h
    have Herr := Lib.hid (rd_err_calls w q l 0 ⟨a, n, cap, h1, h2⟩)
    obtain ⟨c0, c1, f0, f1⟩ := Rd.cells h1
    have htake := var_take_calls w a n cap l h2
    have hml := VarPlain.take_le l
    generalize ht : VarPlain.take l = t at *
    obtain ⟨x, m, f⟩ := t
    simp only [] at hml HN
    have hmn : m ≤ n := by rw [h2.1]; exact hml
    obtain ⟨a', hB, hA, hS⟩ := sub_bytes2 h2 m n hmn (Nat.le_refl _)
    have hl : l.take n = l := List.take_of_length_le (by rw [h2.1]; exact Nat.le_refl _)
    rw [hl] at hB
    have hsl := fun wx => (hS wx).2.2 rfl .i64
    have HR := Lib.hid (rd_set_in (S := S) (f := f) h1 hB (in_sub h3 hA))
    have hcap := h2.2.2.1
    unfold maxLen at hcap
    have Htake := Lib.hid htake
    clear hS hl hB h1 h2 h3 hA ht htake
    go_enter Try.func67, Try.ntmps67
    go_wp2_with fail
    refine Herr.out.mono ?_
    rintro r w' ⟨rfl, rfl⟩
    go_wp2_with fail
    refine Htake.out.mono ?_
    rintro r w' ⟨rfl, rfl⟩
    unfold takeV
    go_wp2_with fail
    go_ret
    exact ⟨by rw [HN.out]; rfl, by rw [HN.out]; exact HR.out.1, HR.out.2⟩
  · have HN : Hid (VarPlain.next l e = (0, l, e)) := by show _ = _; unfold VarPlain.next; rw [if_pos he]
    have hne : (e != 0) = true := by rw [bne_iff_ne]; exact he
    have H := Lib.hid h; clear h he
    go_enter Try.func67, Try.ntmps67
    go_wp2_with fail
    refine (rd_err_calls _ q l e H.out.toRd).mono ?_
    rintro r w' ⟨rfl, rfl⟩
    go_wp2_with fail
    go_ret
    exact ⟨by rw [HN.out]; rfl, by rw [HN.out]; exact H.out, World.grownBy.refl _ _⟩

set_option maxHeartbeats 1000000 in
set_option maxRecDepth 100000 in
theorem rd_text_in (S : Nat → Prop) (w : World) (q : Nat) (l : List UInt8) (e : Int) (h : RdIn S w q l e) :
    Calls Try.prog 65 #[.pointer (some ⟨q, 0, none⟩)] w fun r w' => r = .returned (.string (str (VarPlain.word l e).1)) ∧ RdIn S w' q (VarPlain.word l e).2.1 (VarPlain.word l e).2.2 ∧ w.grownBy w' (some q) := by
  have hx : (VarPlain.next l e).1 < 18446744073709551616 := by
    unfold VarPlain.next
    split
    · simp
    · exact VarPlain.take_lt l
  have H := Lib.hid (rd_num_in S w q l e h); clear h
  have HW : Hid (VarPlain.word l e = if (VarPlain.next l e).2.2 ≠ 0 then ([], (VarPlain.next l e).2.1, (VarPlain.next l e).2.2) else if (VarPlain.next l e).2.1.length < (VarPlain.next l e).1 then ([], (VarPlain.next l e).2.1, 10) else ((VarPlain.next l e).2.1.take (VarPlain.next l e).1, (VarPlain.next l e).2.1.drop (VarPlain.next l e).1, 0)) := rfl
  generalize VarPlain.next l e = t at *
  obtain ⟨x, l1, f⟩ := t
  simp only [] at hx HW H
  have Hx := Lib.hid hx; clear hx
  by_cases hf : f = 0
  · subst hf
    have hw := HW.out
    rw [if_neg (by simp)] at hw
    go_enter Try.func65, Try.ntmps65
    go_wp2_with fail
    refine H.out.mono ?_
    rintro r w1 ⟨rfl, hr1, hg1⟩
    have Hg1 := Lib.hid hg1; clear hg1
    have Herr := Lib.hid (rd_err_calls w1 q l1 0 hr1.toRd)
    obtain ⟨a, n, cap, h1, h2, h3⟩ := hr1
    obtain ⟨c0, c1, f0, f1⟩ := Rd.cells h1
    have hcap := h2.2.2.1
    have hnc := h2.2.1
    have hnl := h2.1
    unfold maxLen at hcap
    by_cases hlong : l1.length < x
    · rw [if_pos hlong] at hw
      have Hw := Lib.hid hw; clear hw
      have HR := Lib.hid (rd_set1_in (S := S) (f := 10) h1 h2 h3)
      have hnx : n < x := by rw [hnl]; exact hlong
      clear h1 h2 h3 hnl hlong
      go_wp2_with fail
      refine Herr.out.mono ?_
      rintro r w' ⟨rfl, rfl⟩
      go_wp2_with fail
      go_ret
      exact ⟨by rw [Hw.out]; rfl, by rw [Hw.out]; exact HR.out.1, grownBy_trans Hg1.out HR.out.2⟩
    · rw [if_neg hlong] at hw
      have Hw := Lib.hid hw; clear hw
      have hxn : x ≤ n := by rw [hnl]; omega
      obtain ⟨a1, hB1, hS1⟩ := sub_bytes h2 0 x (Nat.zero_le _) hxn
      obtain ⟨a2, hB2, hA2, hS2⟩ := sub_bytes2 h2 x n hxn (Nat.le_refl _)
      have hl : l1.take n = l1 := List.take_of_length_le (by rw [hnl]; exact Nat.le_refl _)
      rw [List.drop_zero] at hB1
      rw [hl] at hB2
      have hsl1 := fun wx => (hS1 wx).2.1 rfl .u64
      have hsl2 := fun wx => (hS2 wx).2.2 rfl .u64
      have hstr := str_bytes hB1
      simp only [Nat.sub_zero] at hsl1 hstr
      have HR := Lib.hid (rd_set0_in (S := S) h1 hB2 (in_sub h3 hA2))
      clear h1 h2 h3 hA2 hnl hlong hS1 hS2 hB1 hB2 hl
      go_wp2_with fail
      refine Herr.out.mono ?_
      rintro r w' ⟨rfl, rfl⟩
      go_wp2_with fail
      go_ret
      exact ⟨by rw [Hw.out]; rfl, by rw [Hw.out]; exact HR.out.1, grownBy_trans Hg1.out HR.out.2⟩
  · have hw := HW.out
    rw [if_pos hf] at hw
    have Hw := Lib.hid hw; clear hw
    have hne : (f != 0) = true := by rw [bne_iff_ne]; exact hf
    clear hf
    go_enter Try.func65, Try.ntmps65
    go_wp2_with fail
    refine H.out.mono ?_
    rintro r w1 ⟨rfl, hr1, hg1⟩
    have Hg1 := Lib.hid hg1; clear hg1
    have Hr1 := Lib.hid hr1; clear hr1
    go_wp2_with fail
    refine (rd_err_calls w1 q l1 f Hr1.out.toRd).mono ?_
    rintro r w' ⟨rfl, rfl⟩
    go_wp2_with fail
    go_ret
    exact ⟨by rw [Hw.out]; rfl, by rw [Hw.out]; exact Hr1.out, Hg1.out⟩

end Go.Proofs.Ytnmlnaoljkhjeaa
