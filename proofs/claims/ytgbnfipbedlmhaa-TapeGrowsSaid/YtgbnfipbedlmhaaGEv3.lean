/-
  The reader of package varint once more: Num and Text leave the row that is read in the block where it lay. Conditions: the reader is there; as each contract says.
  What package event reads of bytes, its parts: small, list, end. Each computes what the plain mathematics says. Conditions: the reader is there; as each contract says.
  What package event reads of bytes: end, Asked, Told. Each computes what the plain mathematics says. Conditions: the bytes can be read; they are not too many.
  The reference's reader, Next and Word: each computes what the plain mathematics says. Conditions: the text is not longer than any text may be.
-/
import Derived.Test.YtgbnfipbedlmhaaGVar
import Derived.Test.YtgbnfipbedlmhaaGEv2
/-! VarReader3 -/
set_option linter.unusedVariables false
namespace Go.Proofs.Ytgbnfipbedlmhaa
open Go.RowKit Base

/-- A reader whose bytes, if there are any, lie in a block of S. -/
def RdIn (S : Nat → Prop) (w : World) (q : Nat) (l : List UInt8) (e : Int) : Prop := ∃ a n cap, w.heap[q]? = some (.cells #[.slice a n cap, .int .i64 e] 118) ∧ Bytes w a n cap l ∧ (n = 0 ∨ ∀ ad, a = some ad → S ad.block)
theorem RdIn.toRd {S : Nat → Prop} {w : World} {q : Nat} {l : List UInt8} {e : Int} (h : RdIn S w q l e) : Rd w q l e := by
  obtain ⟨a, n, cap, h1, h2, _⟩ := h
  exact ⟨a, n, cap, h1, h2⟩
theorem Rd.toIn {w : World} {q : Nat} {l : List UInt8} {e : Int} (h : Rd w q l e) : RdIn (fun b => b < w.heap.size) w q l e := by
  obtain ⟨a, n, cap, h1, h2⟩ := h
  refine ⟨a, n, cap, h1, h2, ?_⟩
  obtain ⟨g1, g2, g3, b, off, g4, g5⟩ := h2
  rcases g4 with g4 | g4
  · exact .inl g4
  · rcases Nat.eq_zero_or_pos n with h0 | h0
    · exact .inl h0
    · right
      intro ad had
      rw [g4] at had
      simp at had
      subst had
      have := g5 0 (by omega)
      unfold byteAt at this
      exact World.block_lt_of_cell? w _ this
/-- Where nothing below B turns, a reader below B whose bytes lie below B stays. -/
theorem RdIn.stays {B : Nat} {w w' : World} {q : Nat} {l : List UInt8} {e : Int} (h : RdIn (fun b => b < B) w q l e) (hb : Below B w w') (hq : q < B) : RdIn (fun b => b < B) w' q l e := by
  obtain ⟨a, n, cap, h1, h2, h3⟩ := h
  refine ⟨a, n, cap, by rw [hb.block q hq]; exact h1, ?_, h3⟩
  obtain ⟨g1, g2, g3, b, off, g4, g5⟩ := h2
  refine ⟨g1, g2, g3, b, off, g4, fun k hk => ?_⟩
  rcases h3 with h3 | h3
  · omega
  · rcases g4 with g4 | g4
    · omega
    · have := h3 _ g4
      have g6 := g5 k hk
      unfold byteAt at g6 ⊢
      rw [World.cell?_of_block (hb.block b this)]
      exact g6
theorem in_sub {S : Nat → Prop} {a a' : Option Addr} {n m : Nat} (h : n = 0 ∨ ∀ ad, a = some ad → S ad.block) (hA : ∀ ad', a' = some ad' → ∃ ad, a = some ad ∧ ad.block = ad'.block) : n - m = 0 ∨ ∀ ad, a' = some ad → S ad.block := by
  rcases h with h | h
  · exact .inl (by omega)
  · refine .inr fun ad' had' => ?_
    obtain ⟨ad, had, e⟩ := hA ad' had'
    rw [← e]; exact h ad had
theorem sub_bytes2 {w : World} {a : Option Addr} {n cap : Nat} {l : List UInt8} (h : Bytes w a n cap l) (lo hi : Nat) (hlo : lo ≤ hi) (hhi : hi ≤ n) :
    ∃ a' : Option Addr, Bytes w a' (hi - lo) (cap - lo) ((l.take hi).drop lo) ∧ (∀ ad', a' = some ad' → ∃ ad, a = some ad ∧ ad.block = ad'.block) ∧ ∀ w' : World,
        (∀ (k1 k2 : IntKind), (Instr.slice 28 (.slice a n cap) (some (.int k1 (lo : Int))) (some (.int k2 (hi : Int))) none).run Try.prog w' = .ok (.slice a' (hi - lo) (cap - lo)) w') ∧
        (lo = 0 → ∀ (k2 : IntKind), (Instr.slice 28 (.slice a n cap) none (some (.int k2 (hi : Int))) none).run Try.prog w' = .ok (.slice a' (hi - lo) (cap - lo)) w') ∧
        (hi = n → ∀ (k1 : IntKind), (Instr.slice 28 (.slice a n cap) (some (.int k1 (lo : Int))) none none).run Try.prog w' = .ok (.slice a' (hi - lo) (cap - lo)) w') := by
  obtain ⟨a', h1, h2⟩ := sub_bytes h lo hi hlo hhi
  refine ⟨a', h1, ?_, h2⟩
  have hr := (h2 w).1 .i64 .i64
  obtain ⟨i, hi', _, hs, _⟩ := info_parts info_u8
  have ht : Try.prog.underlying 28 = some (.slice (Try.prog.elem 28)) := by simp [Program.elem, Try.underlying28]
  have hcap := h.2.2.1
  have hnc := h.2.1
  rw [run_slice_lh w 28 a n cap ht .i64 .i64 lo hi (by omega) (by omega) (by omega)] at hr
  have he : Try.prog.elem 28 = 5 := by simp [Program.elem, Try.underlying28]
  have hsz : (sizeOf 5).run Try.prog w = .ok 1 w := by simp [sizeOf, typeInfo, hi', hs]
  rw [he, hsz] at hr
  simp [Result.andThen, sliced] at hr
  intro ad' had'
  rw [had'] at hr
  split at hr
  · exact ⟨ad', hr, rfl⟩
  · obtain ⟨ad, had, e⟩ := Option.map_eq_some_iff.1 hr
    exact ⟨ad, had, by rw [← e]; unfold Addr.add; split <;> rfl⟩

theorem rd_set_in {S : Nat → Prop} {w : World} {q : Nat} {a a' : Option Addr} {n cap n' cap' : Nat} {l' : List UInt8} {e f : Int} (h1 : w.heap[q]? = some (.cells #[.slice a n cap, .int .i64 e] 118)) (h2 : Bytes w a' n' cap' l') (h3 : n' = 0 ∨ ∀ ad, a' = some ad → S ad.block) :
    RdIn S ((w.setCell ⟨q, 0, none⟩ (.slice a' n' cap')).setCell ⟨q, 1, none⟩ (.int .i64 f)) q l' f ∧ w.grownBy ((w.setCell ⟨q, 0, none⟩ (.slice a' n' cap')).setCell ⟨q, 1, none⟩ (.int .i64 f)) (some q) := by
  have e1 := heap_setCell_same w q 0 _ _ (.slice a' n' cap') h1
  have e2 := heap_setCell_same _ q 1 _ _ (.int .i64 f) e1
  have hg : ∀ k, k < w.heap.size → k ≠ q → ((w.setCell ⟨q, 0, none⟩ (.slice a' n' cap')).setCell ⟨q, 1, none⟩ (.int .i64 f)).heap[k]? = w.heap[k]? := fun k hk hne => by
    rw [Below.heap_setCell _ _ _ _ hne, Below.heap_setCell _ _ _ _ hne]
  exact ⟨⟨a', n', cap', e2, bytes_other h1 h2 hg, h3⟩, (rd_set (f := f) h1 h2).2⟩
theorem rd_set1_in {S : Nat → Prop} {w : World} {q : Nat} {a : Option Addr} {n cap : Nat} {l : List UInt8} {e f : Int} (h1 : w.heap[q]? = some (.cells #[.slice a n cap, .int .i64 e] 118)) (h2 : Bytes w a n cap l) (h3 : n = 0 ∨ ∀ ad, a = some ad → S ad.block) :
    RdIn S (w.setCell ⟨q, 1, none⟩ (.int .i64 f)) q l f ∧ w.grownBy (w.setCell ⟨q, 1, none⟩ (.int .i64 f)) (some q) := by
  have e2 := heap_setCell_same w q 1 _ _ (.int .i64 f) h1
  have hg : ∀ k, k < w.heap.size → k ≠ q → (w.setCell ⟨q, 1, none⟩ (.int .i64 f)).heap[k]? = w.heap[k]? := fun k hk hne => Below.heap_setCell _ _ _ _ hne
  exact ⟨⟨a, n, cap, e2, bytes_other h1 h2 hg, h3⟩, (rd_set1 (f := f) h1 h2).2⟩
theorem rd_set0_in {S : Nat → Prop} {w : World} {q : Nat} {a a' : Option Addr} {n cap n' cap' : Nat} {l' : List UInt8} {e : Int} (h1 : w.heap[q]? = some (.cells #[.slice a n cap, .int .i64 e] 118)) (h2 : Bytes w a' n' cap' l') (h3 : n' = 0 ∨ ∀ ad, a' = some ad → S ad.block) :
    RdIn S (w.setCell ⟨q, 0, none⟩ (.slice a' n' cap')) q l' e ∧ w.grownBy (w.setCell ⟨q, 0, none⟩ (.slice a' n' cap')) (some q) := by
  have e2 := heap_setCell_same w q 0 _ _ (.slice a' n' cap') h1
  have hg : ∀ k, k < w.heap.size → k ≠ q → (w.setCell ⟨q, 0, none⟩ (.slice a' n' cap')).heap[k]? = w.heap[k]? := fun k hk hne => Below.heap_setCell _ _ _ _ hne
  exact ⟨⟨a', n', cap', e2, bytes_other h1 h2 hg, h3⟩, (rd_set0 h1 h2).2⟩

set_option maxHeartbeats 1000000 in
set_option maxRecDepth 100000 in
theorem rd_num_in (S : Nat → Prop) (w : World) (q : Nat) (l : List UInt8) (e : Int) (h : RdIn S w q l e) :
    Calls Try.prog 52 #[.pointer (some ⟨q, 0, none⟩)] w fun r w' => r = .returned (.int .u64 ((VarPlain.next l e).1 : Int)) ∧ RdIn S w' q (VarPlain.next l e).2.1 (VarPlain.next l e).2.2 ∧ w.grownBy w' (some q) := by
  by_cases he : e = 0
  · subst he
    have HN : Hid (VarPlain.next l 0 = ((VarPlain.take l).1, l.drop (VarPlain.take l).2.1, (VarPlain.take l).2.2)) := rfl
    obtain ⟨a, n, cap, h1, h2, h3⟩ := h
    have Herr := Lib.hid (rd_err_calls w q l 0 ⟨a, n, cap, h1, h2⟩)
    obtain ⟨c0, c1, f0, f1⟩ := Rd.cells h1
    have htake := var_take_calls w a n cap l h2
    have hml := VarPlain.take_le l
    generalize ht : VarPlain.take l = t at *
    obtain ⟨x, m, f⟩ := t
    simp only [] at hml HN
    have hmn : m ≤ n := by rw [h2.1]; exact hml
    obtain ⟨a', hB, hA, hS⟩ := sub_bytes2 h2 m n hmn (Nat.le_refl _)
    have hl : l.take n = l := List.take_of_length_le (by rw [h2.1]; exact Nat.le_refl _)
    rw [hl] at hB
    have hsl := fun wx => (hS wx).2.2 rfl .i64
    have HR := Lib.hid (rd_set_in (S := S) (f := f) h1 hB (in_sub h3 hA))
    have hcap := h2.2.2.1
    unfold maxLen at hcap
    have Htake := Lib.hid htake
    clear hS hl hB h1 h2 h3 hA ht htake
    go_enter Try.func52, Try.ntmps52
    go_wp2_with fail
    refine Herr.out.mono ?_
    rintro r w' ⟨rfl, rfl⟩
    go_wp2_with fail
    refine Htake.out.mono ?_
    rintro r w' ⟨rfl, rfl⟩
    unfold takeV
    go_wp2_with fail
    go_ret
    exact ⟨by rw [HN.out]; rfl, by rw [HN.out]; exact HR.out.1, HR.out.2⟩
  · have HN : Hid (VarPlain.next l e = (0, l, e)) := by show _ = _; unfold VarPlain.next; rw [if_pos he]
    have hne : (e != 0) = true := by rw [bne_iff_ne]; exact he
    have H := Lib.hid h; clear h he
    go_enter Try.func52, Try.ntmps52
    go_wp2_with fail
    refine (rd_err_calls _ q l e H.out.toRd).mono ?_
    rintro r w' ⟨rfl, rfl⟩
    go_wp2_with fail
    go_ret
    exact ⟨by rw [HN.out]; rfl, by rw [HN.out]; exact H.out, World.grownBy.refl _ _⟩

set_option maxHeartbeats 1000000 in
set_option maxRecDepth 100000 in
theorem rd_text_in (S : Nat → Prop) (w : World) (q : Nat) (l : List UInt8) (e : Int) (h : RdIn S w q l e) :
    Calls Try.prog 54 #[.pointer (some ⟨q, 0, none⟩)] w fun r w' => r = .returned (.string (str (VarPlain.word l e).1)) ∧ RdIn S w' q (VarPlain.word l e).2.1 (VarPlain.word l e).2.2 ∧ w.grownBy w' (some q) := by
  have hx : (VarPlain.next l e).1 < 18446744073709551616 := by
    unfold VarPlain.next
    split
    · simp
    · exact VarPlain.take_lt l
  have H := Lib.hid (rd_num_in S w q l e h); clear h
  have HW : Hid (VarPlain.word l e = if (VarPlain.next l e).2.2 ≠ 0 then ([], (VarPlain.next l e).2.1, (VarPlain.next l e).2.2) else if (VarPlain.next l e).2.1.length < (VarPlain.next l e).1 then ([], (VarPlain.next l e).2.1, 10) else ((VarPlain.next l e).2.1.take (VarPlain.next l e).1, (VarPlain.next l e).2.1.drop (VarPlain.next l e).1, 0)) := rfl
  generalize VarPlain.next l e = t at *
  obtain ⟨x, l1, f⟩ := t
  simp only [] at hx HW H
  have Hx := Lib.hid hx; clear hx
  by_cases hf : f = 0
  · subst hf
    have hw := HW.out
    rw [if_neg (by simp)] at hw
    go_enter Try.func54, Try.ntmps54
    go_wp2_with fail
    refine H.out.mono ?_
    rintro r w1 ⟨rfl, hr1, hg1⟩
    have Hg1 := Lib.hid hg1; clear hg1
    have Herr := Lib.hid (rd_err_calls w1 q l1 0 hr1.toRd)
    obtain ⟨a, n, cap, h1, h2, h3⟩ := hr1
    obtain ⟨c0, c1, f0, f1⟩ := Rd.cells h1
    have hcap := h2.2.2.1
    have hnc := h2.2.1
    have hnl := h2.1
    unfold maxLen at hcap
    by_cases hlong : l1.length < x
    · rw [if_pos hlong] at hw
      have Hw := Lib.hid hw; clear hw
      have HR := Lib.hid (rd_set1_in (S := S) (f := 10) h1 h2 h3)
      have hnx : n < x := by rw [hnl]; exact hlong
      clear h1 h2 h3 hnl hlong
      go_wp2_with fail
      refine Herr.out.mono ?_
      rintro r w' ⟨rfl, rfl⟩
      go_wp2_with fail
      go_ret
      exact ⟨by rw [Hw.out]; rfl, by rw [Hw.out]; exact HR.out.1, grownBy_trans Hg1.out HR.out.2⟩
    · rw [if_neg hlong] at hw
      have Hw := Lib.hid hw; clear hw
      have hxn : x ≤ n := by rw [hnl]; omega
      obtain ⟨a1, hB1, hS1⟩ := sub_bytes h2 0 x (Nat.zero_le _) hxn
      obtain ⟨a2, hB2, hA2, hS2⟩ := sub_bytes2 h2 x n hxn (Nat.le_refl _)
      have hl : l1.take n = l1 := List.take_of_length_le (by rw [hnl]; exact Nat.le_refl _)
      rw [List.drop_zero] at hB1
      rw [hl] at hB2
      have hsl1 := fun wx => (hS1 wx).2.1 rfl .u64
      have hsl2 := fun wx => (hS2 wx).2.2 rfl .u64
      have hstr := str_bytes hB1
      simp only [Nat.sub_zero] at hsl1 hstr
      have HR := Lib.hid (rd_set0_in (S := S) h1 hB2 (in_sub h3 hA2))
      clear h1 h2 h3 hA2 hnl hlong hS1 hS2 hB1 hB2 hl
      go_wp2_with fail
      refine Herr.out.mono ?_
      rintro r w' ⟨rfl, rfl⟩
      go_wp2_with fail
      go_ret
      exact ⟨by rw [Hw.out]; rfl, by rw [Hw.out]; exact HR.out.1, grownBy_trans Hg1.out HR.out.2⟩
  · have hw := HW.out
    rw [if_pos hf] at hw
    have Hw := Lib.hid hw; clear hw
    have hne : (f != 0) = true := by rw [bne_iff_ne]; exact hf
    clear hf
    go_enter Try.func54, Try.ntmps54
    go_wp2_with fail
    refine H.out.mono ?_
    rintro r w1 ⟨rfl, hr1, hg1⟩
    have Hg1 := Lib.hid hg1; clear hg1
    have Hr1 := Lib.hid hr1; clear hr1
    go_wp2_with fail
    refine (rd_err_calls w1 q l1 f Hr1.out.toRd).mono ?_
    rintro r w' ⟨rfl, rfl⟩
    go_wp2_with fail
    go_ret
    exact ⟨by rw [Hw.out]; rfl, by rw [Hw.out]; exact Hr1.out, Hg1.out⟩

end Go.Proofs.Ytgbnfipbedlmhaa

/-! EvWalks5 -/
set_option linter.unusedVariables false
set_option maxRecDepth 100000
namespace Go.Proofs.Ytgbnfipbedlmhaa
open Go.RowKit Base

def smallN (x most : Nat) : Nat := if most < x then most + 1 else x

set_option maxHeartbeats 400000 in
set_option maxRecDepth 100000 in
theorem ev_small_calls (w : World) (x : Nat) (hx : Lt64 x) (most : Nat) (hm : most ≤ 100000) :
    Calls Try.prog 51 #[.int .u64 (x : Int), .int .i64 (most : Int)] w fun e w' => e = .returned (.int .i64 (smallN x most : Int)) ∧ w = w' := by
  have HS : Hid (smallN x most = if most < x then most + 1 else x) := rfl
  unfold Lt64 at hx
  by_cases h : most < x
  · have t1 : (most : Int) < (x : Int) := by omega
    have HV : Hid ((smallN x most : Int) = (most : Int) + 1) := by show _ = _; rw [HS.out, if_pos h]; omega
    clear h
    go_enter Try.func51, Try.ntmps51
    go_wp2_with fail
    go_ret
    exact ⟨by rw [HV.out]; rfl, rfl⟩
  · have t1 : ¬ (most : Int) < (x : Int) := by omega
    have HV : Hid ((smallN x most : Int) = (x : Int)) := by show _ = _; rw [HS.out, if_neg h]
    have hxs : x ≤ 100000 := by omega
    clear h hx
    go_enter Try.func51, Try.ntmps51
    go_wp2_with fail
    go_ret
    exact ⟨by rw [HV.out]; rfl, rfl⟩

def sv (s : List UInt8) : Value := .string (str s)
theorem ownsRow_strs {w : World} {base : Nat} {e : TypeId} {v : Value} {n : Nat} {l : List (List UInt8)} (h : w.ownsRow base e 1 v n (l.map sv)) : ∃ a cap, v = .slice a n cap ∧ Strs w a n cap l :=
  ownsRow_row h (fun _ _ _ hx => hx)
theorem ownsRow_kept {w w' : World} {base : Nat} {e : TypeId} {size : Nat} {v : Value} {n : Nat} {xs : List Value} {q : Nat} (h : w.ownsRow base e size v n xs) (hg : w.grownBy w' (some q)) (hq : q < base) : w'.ownsRow base e size v n xs :=
  h.kept (row := some q) hg (by
    cases hv : v.ownBlock with
    | none => simp
    | some j => have := (h.lt j hv).1; simp; omega)
theorem grown_below {w a b : World} {q : Nat} (h : w.grownBy a (some q)) (hb : Below w.heap.size a b) : w.grownBy b (some q) :=
  ⟨hb.os.trans h.os, hb.tape.trans h.tape, hb.output.trans h.output, Nat.le_trans h.size hb.size, fun k hk hne => (hb.block k hk).trans (h.block k hk hne)⟩
theorem info_string : (Try.prog.info? 9).map (fun i => (i.zero, i.size, i.bytes)) = some (some (.string ⟨#[]⟩), 1, 16) := by kernel_rfl
theorem next_lt64 (l : List UInt8) (e : Int) : Lt64 (VarPlain.next l e).1 := by
  unfold VarPlain.next
  split
  · simp [Lt64]
  · exact VarPlain.take_lt l

set_option maxHeartbeats 1000000 in
set_option maxRecDepth 100000 in
theorem ev_list_calls (w : World) (q : Nat) (l : List UInt8) (e : Int) (h : Rd w q l e) :
    Calls Try.prog 55 #[.pointer (some ⟨q, 0, none⟩)] w fun r w' => ∃ v, r = .returned (.tuple #[v, .bool (readRow l e).1.1]) ∧ w'.ownsRow w.heap.size 9 1 v (readRow l e).1.2.length ((readRow l e).1.2.map sv) ∧
      Rd w' q (readRow l e).2.1 (readRow l e).2.2 ∧ w.grownBy w' (some q) := by
  obtain ⟨i0, hi, hz0, hz1, hz2⟩ := info_parts info_string
  have HX := Lib.hid (next_lt64 l e)
  have hqB : q < w.heap.size := by obtain ⟨a, n, c, h1, _⟩ := h; exact (Array.getElem?_eq_some_iff.1 h1).1
  have Hnum := Lib.hid (rd_num_in _ w q l e h.toIn)
  have HR : Hid (readRow l e = if 4096 < (VarPlain.next l e).1 then ((false, []), (VarPlain.next l e).2) else ((true, (words (VarPlain.next l e).2.1 (VarPlain.next l e).2.2 (VarPlain.next l e).1).1), (words (VarPlain.next l e).2.1 (VarPlain.next l e).2.2 (VarPlain.next l e).1).2)) := rfl
  clear h
  generalize hB : w.heap.size = B at *
  have HB := Lib.hid hB; clear hB
  generalize VarPlain.next l e = t at *
  obtain ⟨x, l1, e1⟩ := t
  simp only [] at HX Hnum HR
  have Hsm := Lib.hid fun w => ev_small_calls w x HX.out 4096 (by decide)
  by_cases hbig : 4096 < x
  · have HV : Hid (readRow l e = ((false, []), l1, e1)) := by show _ = _; rw [HR.out, if_pos hbig]
    have hs1 : smallN x 4096 = 4097 := by unfold smallN; rw [if_pos hbig]
    rw [hs1] at Hsm
    clear hs1 HR hbig
    go_enter Try.func55, Try.ntmps55
    go_wp2_with fail
    refine Hnum.out.mono ?_
    rintro r w1 ⟨rfl, hrd1, hg1⟩
    have Hrd1 := Lib.hid hrd1; clear hrd1
    have Hg1 := Lib.hid hg1; clear hg1
    go_wp2_with fail
    refine (Hsm.out _).mono ?_
    rintro r w2 ⟨rfl, rfl⟩
    go_wp2_with fail
    go_ret2
    exact ⟨_, by rw [HV.out]; rfl, by rw [HV.out]; exact World.ownsRow_nil _ _ _ _, by rw [HV.out]; exact Hrd1.out.toRd, Hg1.out⟩
  · have HV : Hid (readRow l e = ((true, (words l1 e1 x).1), (words l1 e1 x).2)) := by show _ = _; rw [HR.out, if_neg hbig]
    have hs1 : smallN x 4096 = x := by unfold smallN; rw [if_neg hbig]
    rw [hs1] at Hsm
    have hx4 : x ≤ 4096 := by omega
    have hx5 : ¬ (4096 : Int) < (x : Int) := by omega
    clear hs1 HR hbig
    obtain ⟨wd, hwd⟩ : ∃ wd, wd = words l1 e1 := ⟨_, rfl⟩
    rw [← hwd] at HV
    have W0 : Hid (wd 0 = ([], l1, e1)) := by show _ = _; rw [hwd]; rfl
    have WS : Hid (∀ k, wd (k + 1) = ((wd k).1 ++ [(VarPlain.word (wd k).2.1 (wd k).2.2).1], (VarPlain.word (wd k).2.1 (wd k).2.2).2)) := fun k => by rw [hwd]; rfl
    have WL : Hid (∀ k, (wd k).1.length = k) := fun k => by rw [hwd]; exact words_len l1 e1 k
    clear hwd
    go_enter Try.func55, Try.ntmps55
    go_wp2_with fail
    refine Hnum.out.mono ?_
    rintro r w1 ⟨rfl, hrd1, hg1⟩
    have Hrd1 := Lib.hid hrd1; clear hrd1
    have hs1 : B ≤ w1.heap.size := by have := hg1.size; have := HB.out; omega
    have Hg1 := Lib.hid hg1; clear hg1
    go_wp2_with fail
    refine (Hsm.out _).mono ?_
    rintro r w2 ⟨rfl, rfl⟩
    go_wp2_with fail
    go_loopw [5, 12] (fun v i wr => ∃ k : Nat, k ≤ x ∧ i = .int .i64 k ∧ wr.ownsRow B 9 1 v k ((wd k).1.map sv) ∧ RdIn (fun b => b < B) wr q (wd k).2.1 (wd k).2.2 ∧ w.grownBy wr (some q) ∧ B ≤ wr.heap.size) (fun _ i _ => x - (intOf i).toNat)
    case atStart => exact ⟨0, Nat.zero_le _, rfl, by rw [W0.out]; exact World.ownsRow_nil _ _ _ _, by rw [W0.out]; exact Hrd1.out, Hg1.out, hs1⟩
    case round =>
      clear Hrd1 Hg1 hs1
      obtain ⟨k, hk, rfl, hown, hrd, hg, hBs⟩ := hrel
      by_cases hlt : k < x
      · have Htx := Lib.hid (rd_text_in _ wr q _ _ hrd)
        have Hws := Lib.hid (WS.out k)
        have Hwl := Lib.hid (WL.out k)
        have Hg := Lib.hid hg
        obtain ⟨ao, co, rfl, _, _, _, _⟩ := ownsRow_slice hown
        have Hown := Lib.hid hown
        clear hrd hg hown
        generalize VarPlain.word (wd k).2.1 (wd k).2.2 = t at *
        obtain ⟨s, l2, e2⟩ := t
        simp only [] at Htx Hws
        go_wp2_with fail
        refine Htx.out.mono ?_
        rintro r w2 ⟨rfl, hrd2, hg2⟩
        have hown2 := ownsRow_kept Hown.out hg2 hqB
        have Hg2 := Lib.hid (grownBy_trans Hg.out hg2)
        have hs2 : B ≤ w2.heap.size := Nat.le_trans hBs hg2.size
        have Hrd2 := Lib.hid hrd2
        clear hrd2 hg2 hBs Hown Hg
        go_wp2_with (at_builtin; refine wpList_append_src rfl (.tmp 14) (.tmp 17) 32 32 rfl B 9 i0 (.string ⟨#[]⟩) 1 16 Try.underlying32 (append_side Try.underlying32) hi hz0 hz1 hz2 rfl (by decide) (by decide) _ k _ rfl (hown2.alloc _) _ 1 _ rfl (src_new _ [_] 9 1 1 rfl (by intro u hu; simp at hu; subst hu; rfl) 1) ?_ ?_ ?_ ?_)
        case _ => unfold maxLen; omega
        case _ => omega
        case _ => simp; omega
        intro v' w3 hown3 hg3 _
        have hb3 : Below B w2 w3 := ((Below.refl _ _).alloc hs2 _).grown hg3 (by simp; omega) (fun j hj => (hown2.lt j hj).1)
        have hs3 : B ≤ w3.heap.size := by have := hg3.size; simp at this; omega
        have hown4 : w3.ownsRow B 9 1 v' (k + 1) ((wd (k + 1)).1.map sv) := by
          rw [Hws.out]
          simp only []
          rw [List.map_append]
          exact hown3
        have hrd4 : RdIn (fun b => b < B) w3 q (wd (k + 1)).2.1 (wd (k + 1)).2.2 := by
          rw [Hws.out]
          exact Hrd2.out.stays hb3 hqB
        have hg4 : w.grownBy w3 (some q) := grown_below Hg2.out (by rw [HB.out]; exact hb3)
        clear hown3 hg3 hown2 Hg2 Hrd2 hb3
        go_wp2_with fail
        go_roundw
        case rel => exact ⟨k + 1, by omega, by go_num, hown4, hrd4, hg4, hs3⟩
        case measure => simp [intOf]; omega
      · obtain rfl : x = k := by omega
        go_wp2_with fail
        go_ret2
        exact ⟨_, by rw [HV.out]; rfl, by rw [HV.out]; simp only []; rw [WL.out]; exact hown, by rw [HV.out]; exact hrd.toRd, hg⟩

end Go.Proofs.Ytgbnfipbedlmhaa

/-! EvWalks6 -/
set_option linter.unusedVariables false
set_option maxRecDepth 100000
namespace Go.Proofs.Ytgbnfipbedlmhaa
open Go.RowKit Base

def endV (ev : Int) (x z : Value) : Value := if ev = 0 then .tuple #[x, .int .i64 ev] else .tuple #[z, .int .i64 ev]
theorem endR_ne {right : Bool} {l : List UInt8} {e : Int} (h : e ≠ 0) : endR right l e = e := by unfold endR; rw [if_pos h]
theorem endR_wrong (l : List UInt8) : endR false l 0 = 11 := by unfold endR; simp
theorem endR_end (l : List UInt8) : endR true l 0 = endE l 0 := by unfold endR endE; by_cases h : l = [] <;> simp [h]

set_option maxHeartbeats 800000 in
set_option maxRecDepth 100000 in
theorem end_ans_calls (w : World) (q : Nat) (l : List UInt8) (e : Int) (h : Rd w q l e) (k er n m sg : Int) (s : ByteArray) (a : Option Addr) (ln cap : Nat) (right : Bool) :
    Calls Try.prog 56 #[.pointer (some ⟨q, 0, none⟩), .agg #[.int .i64 k, .int .i64 er, .int .i64 n, .int .i64 m, .string s, .slice a ln cap, .int .i64 sg], .bool right] w fun r w' => r = .returned (endV (endR right l e) (.agg #[.int .i64 k, .int .i64 er, .int .i64 n, .int .i64 m, .string s, .slice a ln cap, .int .i64 sg]) (.agg #[.int .i64 0, .int .i64 0, .int .i64 0, .int .i64 0, .string ⟨#[]⟩, .slice none 0 0, .int .i64 0])) ∧ Below w.heap.size w w' := by
  have hb0 := (((Below.refl w.heap.size w).alloc (Nat.le_refl _) (.cells #[.int .i64 k, .int .i64 er, .int .i64 n, .int .i64 m, .string s, .slice a ln cap, .int .i64 sg] 34)).alloc (by simp) (.cells #[.int .i64 0, .int .i64 0, .int .i64 0, .int .i64 0, .string ⟨#[]⟩, .slice none 0 0, .int .i64 0] 34)).alloc (by simp; omega) (.cells #[.int .i64 0, .int .i64 0, .int .i64 0, .int .i64 0, .string ⟨#[]⟩, .slice none 0 0, .int .i64 0] 34)
  have HRD := Lib.hid (h.below hb0)
  clear h hb0
  by_cases he : e = 0
  · subst he
    cases right
    · have HV : Hid (endV (endR false l 0) (.agg #[.int .i64 k, .int .i64 er, .int .i64 n, .int .i64 m, .string s, .slice a ln cap, .int .i64 sg]) (.agg #[.int .i64 0, .int .i64 0, .int .i64 0, .int .i64 0, .string ⟨#[]⟩, .slice none 0 0, .int .i64 0]) = .tuple #[.agg #[.int .i64 0, .int .i64 0, .int .i64 0, .int .i64 0, .string ⟨#[]⟩, .slice none 0 0, .int .i64 0], .int .i64 11]) := by show _ = _; rw [endR_wrong]; unfold endV; rw [if_neg (by decide)]
      go_enter Try.func56, Try.ntmps56
      go_wp2_with fail
      refine (rd_err_calls _ q l _ HRD.out).mono ?_
      rintro r w' ⟨rfl, rfl⟩
      go_wp2_with fail
      refine bodyPost_ret (v := .tuple #[.agg #[.int .i64 0, .int .i64 0, .int .i64 0, .int .i64 0, .string ⟨#[]⟩, .slice none 0 0, .int .i64 0], .int .i64 11]) (by simp [results, Try.results56, go_sem]) rfl ⟨by rw [HV.out], ?_⟩
      repeat (first | exact Below.refl _ _ | (refine Below.setCell ?_ (by simp) _) | (refine Below.alloc ?_ (by simp; try omega) _))
    · by_cases hl : l = []
      · have HV : Hid (endV (endR true l 0) (.agg #[.int .i64 k, .int .i64 er, .int .i64 n, .int .i64 m, .string s, .slice a ln cap, .int .i64 sg]) (.agg #[.int .i64 0, .int .i64 0, .int .i64 0, .int .i64 0, .string ⟨#[]⟩, .slice none 0 0, .int .i64 0]) = .tuple #[.agg #[.int .i64 k, .int .i64 er, .int .i64 n, .int .i64 m, .string s, .slice a ln cap, .int .i64 sg], .int .i64 0]) := by show _ = _; rw [endR_end, show endE l 0 = 0 from by unfold endE; rw [if_pos (.inr hl)]]; unfold endV; rw [if_pos rfl]
        have HE : Hid (endE l 0 = 0) := by show _ = _; unfold endE; rw [if_pos (.inr hl)]
        clear hl
        go_enter Try.func56, Try.ntmps56
        go_wp2_with fail
        refine (rd_err_calls _ q l _ HRD.out).mono ?_
        rintro r w' ⟨rfl, rfl⟩
        go_wp2_with fail
        refine (rd_end_calls _ q l _ HRD.out).mono ?_
        rintro r w' ⟨rfl, rfl⟩
        rw [HE.out]
        go_wp2_with fail
        refine bodyPost_ret (v := .tuple #[.agg #[.int .i64 k, .int .i64 er, .int .i64 n, .int .i64 m, .string s, .slice a ln cap, .int .i64 sg], .int .i64 0]) (by simp [results, Try.results56, go_sem]) rfl ⟨by rw [HV.out], ?_⟩
        repeat (first | exact Below.refl _ _ | (refine Below.setCell ?_ (by simp) _) | (refine Below.alloc ?_ (by simp; try omega) _))
      · have HV : Hid (endV (endR true l 0) (.agg #[.int .i64 k, .int .i64 er, .int .i64 n, .int .i64 m, .string s, .slice a ln cap, .int .i64 sg]) (.agg #[.int .i64 0, .int .i64 0, .int .i64 0, .int .i64 0, .string ⟨#[]⟩, .slice none 0 0, .int .i64 0]) = .tuple #[.agg #[.int .i64 0, .int .i64 0, .int .i64 0, .int .i64 0, .string ⟨#[]⟩, .slice none 0 0, .int .i64 0], .int .i64 14]) := by show _ = _; rw [endR_end, show endE l 0 = 14 from by unfold endE; rw [if_neg (by simpa using hl)]]; unfold endV; rw [if_neg (by decide)]
        have HE : Hid (endE l 0 = 14) := by show _ = _; unfold endE; rw [if_neg (by simpa using hl)]
        clear hl
        go_enter Try.func56, Try.ntmps56
        go_wp2_with fail
        refine (rd_err_calls _ q l _ HRD.out).mono ?_
        rintro r w' ⟨rfl, rfl⟩
        go_wp2_with fail
        refine (rd_end_calls _ q l _ HRD.out).mono ?_
        rintro r w' ⟨rfl, rfl⟩
        rw [HE.out]
        go_wp2_with fail
        refine bodyPost_ret (v := .tuple #[.agg #[.int .i64 0, .int .i64 0, .int .i64 0, .int .i64 0, .string ⟨#[]⟩, .slice none 0 0, .int .i64 0], .int .i64 14]) (by simp [results, Try.results56, go_sem]) rfl ⟨by rw [HV.out], ?_⟩
        repeat (first | exact Below.refl _ _ | (refine Below.setCell ?_ (by simp) _) | (refine Below.alloc ?_ (by simp; try omega) _))
  · have HV : Hid (endV (endR right l e) (.agg #[.int .i64 k, .int .i64 er, .int .i64 n, .int .i64 m, .string s, .slice a ln cap, .int .i64 sg]) (.agg #[.int .i64 0, .int .i64 0, .int .i64 0, .int .i64 0, .string ⟨#[]⟩, .slice none 0 0, .int .i64 0]) = .tuple #[.agg #[.int .i64 0, .int .i64 0, .int .i64 0, .int .i64 0, .string ⟨#[]⟩, .slice none 0 0, .int .i64 0], .int .i64 e]) := by show _ = _; rw [endR_ne he]; unfold endV; rw [if_neg he]
    have t1 : (e == 0) = false := by rw [beq_eq_false_iff_ne]; exact he
    have t2 : (e != 0) = true := by rw [bne_iff_ne]; exact he
    clear he
    go_enter Try.func56, Try.ntmps56
    go_wp2_with fail
    refine (rd_err_calls _ q l _ HRD.out).mono ?_
    rintro r w' ⟨rfl, rfl⟩
    go_wp2_with fail
    refine bodyPost_ret (v := .tuple #[.agg #[.int .i64 0, .int .i64 0, .int .i64 0, .int .i64 0, .string ⟨#[]⟩, .slice none 0 0, .int .i64 0], .int .i64 e]) (by simp [results, Try.results56, go_sem]) rfl ⟨by rw [HV.out], ?_⟩
    repeat (first | exact Below.refl _ _ | (refine Below.setCell ?_ (by simp) _) | (refine Below.alloc ?_ (by simp; try omega) _))

/-! ### What is read, as the program holds it -/
def askedV (b : List UInt8) : Req := ⟨(smallN (q1 b).1 12 : Int), VarPlain.zag (q2 b).1, VarPlain.zag (q3 b).1, (q4 b).1, (q5 b).1.2⟩
theorem readRow_few {l : List UInt8} {e : Int} (h : (readRow l e).1.1 = true) : (readRow l e).1.2.length ≤ 4096 := by
  unfold readRow at h ⊢
  split at h
  · simp at h
  · rename_i hc
    rw [if_neg hc]
    simp only []
    rw [words_len]
    omega
theorem askedE_few {b : List UInt8} (h : (q5 b).1.1 = true) : askedE b = endR (rightB (askedV b)) (q5 b).2.1 (q5 b).2.2 := by
  unfold askedE
  congr 1
  unfold askedRight
  rw [h, Bool.and_true]
  have hl : (q5 b).1.2.length ≤ 4096 := readRow_few h
  rw [Bool.eq_iff_iff, rightB_iff]
  unfold askedV smallN
  simp only [Bool.and_eq_true, decide_eq_true_eq]
  split <;> omega
theorem askedE_many {b : List UInt8} (h : (q5 b).1.1 = false) : askedE b = endR false (q5 b).2.1 (q5 b).2.2 := by
  unfold askedE askedRight
  rw [h, Bool.and_false]
theorem askedQ_ok {b : List UInt8} (h : askedE b = 0) : askedQ b = askedV b := by
  have h2 := (endR_zero h).2.1
  unfold askedQ askedV smallN
  rw [if_pos h]
  unfold askedRight at h2
  simp only [Bool.and_eq_true, decide_eq_true_eq] at h2
  congr 1
  rw [if_neg (by omega)]
theorem askedQ_bad {b : List UInt8} (h : askedE b ≠ 0) : askedQ b = Req.zero := by unfold askedQ; rw [if_neg h]
def toldV (b : List UInt8) : Ans := ⟨(smallN (t1 b).1 12 : Int), (smallN (t2 b).1 255 : Int), VarPlain.zag (t3 b).1, VarPlain.zag (t4 b).1, (t5 b).1, (t6 b).1.2, (smallN (t7 b).1 64 : Int)⟩
theorem toldE_few {b : List UInt8} (h : (t6 b).1.1 = true) : toldE b = endR (fitsB (smallN (t1 b).1 12 : Int) (toldV b)) (t7 b).2.1 (t7 b).2.2 := by
  unfold toldE
  congr 1
  unfold toldRight
  rw [h, Bool.and_true]
  have hl : (t6 b).1.2.length ≤ 4096 := readRow_few h
  rw [Bool.eq_iff_iff, fitsB_iff]
  unfold toldV
  simp only [Bool.and_eq_true, decide_eq_true_eq, eq_self, true_and]
  unfold smallN
  split <;> split <;> split <;> omega
theorem toldE_many {b : List UInt8} (h : (t6 b).1.1 = false) : toldE b = endR false (t6 b).2.1 (t6 b).2.2 := by
  unfold toldE toldRight
  rw [h, Bool.and_false]
  unfold t7
  rw [if_neg (by rw [h]; simp)]
theorem toldA_ok {b : List UInt8} (h : toldE b = 0) : toldA b = toldV b := by
  have h2 := (endR_zero h).2.1
  unfold toldA toldV smallN
  rw [if_pos h]
  unfold toldRight at h2
  simp only [Bool.and_eq_true, decide_eq_true_eq] at h2
  congr 1
  · rw [if_neg (by omega)]
  · rw [if_neg (by omega)]
  · rw [if_neg (by omega)]
theorem toldA_bad {b : List UInt8} (h : toldE b ≠ 0) : toldA b = Ans.zero := by unfold toldA; rw [if_neg h]

/-- Bytes stay while a block is written in which no byte stands. -/
theorem bytes_apart {w w' : World} {p : Nat} {cs : Array Value} {t : TypeId} {fr : Nat × Nat} {a : Option Addr} {n cap : Nat} {l : List UInt8} (hq : w.heap[p]? = some (.cells cs t fr)) (hno : ∀ v ∈ cs.toList, ∀ c, v ≠ .int .u8 c) (h : Bytes w a n cap l)
    (hg : w.grownBy w' (some p)) : Bytes w' a n cap l := by
  obtain ⟨h1, h2, h3, b, off, h4, h5⟩ := h
  refine ⟨h1, h2, h3, b, off, h4, fun k hk => ?_⟩
  have h6 := h5 k hk
  unfold byteAt at h6 ⊢
  have hlt : b < w.heap.size := World.block_lt_of_cell? w _ h6
  have hne : b ≠ p := by
    intro hbq
    subst hbq
    unfold World.cell? at h6
    rw [hq] at h6
    simp at h6
    exact hno _ (List.mem_of_getElem? (by simpa using h6)) _ rfl
  rw [World.cell?_of_block (hg.block b hlt (by intro e; simp at e; exact hne e))]
  exact h6
theorem rd_apart {w w' : World} {p q : Nat} {cs : Array Value} {t : TypeId} {fr : Nat × Nat} {l : List UInt8} {e : Int} (hq : w.heap[p]? = some (.cells cs t fr)) (hno : ∀ v ∈ cs.toList, ∀ c, v ≠ .int .u8 c) (h : Rd w q l e) (hne : q ≠ p)
    (hg : w.grownBy w' (some p)) : Rd w' q l e := by
  obtain ⟨a, n, cap, h1, h2⟩ := h
  exact ⟨a, n, cap, by rw [hg.block q (Array.getElem?_eq_some_iff.1 h1).1 (by intro e; simp at e; exact hne e)]; exact h1, bytes_apart hq hno h2 hg⟩
theorem grown_set (W : World) (g i : Nat) (v : Value) : W.grownBy (W.setCell ⟨g, i, none⟩ v) (some g) :=
  ⟨rfl, rfl, rfl, by simp [World.setCell], fun k hk hne => Below.heap_setCell _ _ _ _ (fun h => hne (by simp [h]))⟩
theorem strs_sets {w w' : World} {base : Nat} {e : TypeId} {a : Option Addr} {n c : Nat} {l : List (List UInt8)} {q : Nat} (h : w.ownsRow base e 1 (.slice a n c) n (l.map sv)) (hq : q < base) (hg : w.grownBy w' (some q)) : Strs w' a n c l := by
  obtain ⟨a', c', he, hs⟩ := ownsRow_strs (ownsRow_kept h hg hq)
  simp at he
  obtain ⟨rfl, rfl⟩ := he
  exact hs
theorem does_extract {P : Program} {a : Act} {w : World} {post : Value → World → Prop} {dst : Option Tmp} {x : Operand} {i : Nat} {ty : TypeId} {pos : String} {after : Array Edge} {guard : Option (Nat × Bool)} (vs : Array Value) (v : Value)
    (hx : a.eval x = .tuple vs) (hi : vs[i]? = some v) (hp : post v w) : Rg.does P { dst, op := .extract x i, type := ty, pos, after, guard } a w post := by
  refine Rg.does_value (v := v) ?_ hp
  simp [execOp, hx, Instr.extract, hi]
theorem load_ans {w : World} {p : Nat} {v0 v1 v2 v3 v4 v5 v6 : Value} (h0 : w.cell? ⟨p, 0, none⟩ = some v0) (h1 : w.cell? ⟨p, 1, none⟩ = some v1) (h2 : w.cell? ⟨p, 2, none⟩ = some v2) (h3 : w.cell? ⟨p, 3, none⟩ = some v3) (h4 : w.cell? ⟨p, 4, none⟩ = some v4) (h5 : w.cell? ⟨p, 5, none⟩ = some v5) (h6 : w.cell? ⟨p, 6, none⟩ = some v6) :
    (Instr.loadAt 34 (.pointer (some ⟨p, 0, none⟩))).run Try.prog w = .ok (.agg #[v0, v1, v2, v3, v4, v5, v6]) w := by
  go_simp

end Go.Proofs.Ytgbnfipbedlmhaa

/-! VarRefRead -/
set_option linter.unusedVariables false
namespace Go.Proofs.Ytgbnfipbedlmhaa
open Go.RowKit Base

theorem str_drop (l : List UInt8) (m : Nat) : (str l).extract m (str l).size = str (l.drop m) := by
  apply ba_ext
  rw [str_data]
  simp [str, ByteArray.size]
  try exact List.take_of_length_le (by simp)
theorem str_take (l : List UInt8) (m : Nat) : (str l).extract 0 m = str (l.take m) := by
  apply ba_ext
  rw [str_data]
  simp [str]

/-- A reader of the reference, as a value. -/
def refR (l : List UInt8) (e : Int) : Value := .agg #[.string (str l), .int .i64 e]

set_option maxHeartbeats 400000 in
set_option maxRecDepth 100000 in
theorem ref_next_calls (w : World) (l : List UInt8) (e : Int) (hl : l.length ≤ maxLen) :
    Calls Try.prog 72 #[refR l e] w fun r w' => r = .returned (.tuple #[refR (VarPlain.next l e).2.1 (VarPlain.next l e).2.2, .int .u64 ((VarPlain.next l e).1 : Int)]) ∧ Below w.heap.size w w' := by
  have hsz : (str l).size ≤ 9223372036854775807 := by rw [str_size]; unfold maxLen at hl; omega
  by_cases he : e = 0
  · subst he
    have HN : Hid (VarPlain.next l 0 = ((VarPlain.take l).1, l.drop (VarPlain.take l).2.1, (VarPlain.take l).2.2)) := rfl
    have htake := fun w => var_ref_take_calls w (str l) (by rw [str_size]; exact hl)
    have hml := VarPlain.take_le l
    rw [str_data] at htake
    generalize VarPlain.take l = t at *
    obtain ⟨x, m, f⟩ := t
    simp only [] at hml HN
    have hms : m ≤ (str l).size := hml
    have hdr := str_drop l m
    have Htake := Lib.hid htake; clear htake hml
    unfold refR
    generalize str l = s at *
    go_enter Try.func72, Try.ntmps72
    go_wp2_with fail
    refine (Htake.out _).mono ?_
    rintro r w' ⟨rfl, rfl⟩
    unfold takeV
    go_wp2_with fail
    go_returns
    exact ⟨by rw [HN.out], ((Below.refl _ _).alloc (Nat.le_refl _) _).alloc (by simp) _⟩
  · have HN : Hid (VarPlain.next l e = (0, l, e)) := by show _ = _; unfold VarPlain.next; rw [if_pos he]
    have hne : (e != 0) = true := by rw [bne_iff_ne]; exact he
    clear he
    unfold refR
    go_enter Try.func72, Try.ntmps72
    go_wp2_with fail
    go_returns
    exact ⟨by rw [HN.out]; rfl, ((Below.refl _ _).alloc (Nat.le_refl _) _).alloc (by simp) _⟩

theorem next_len (l : List UInt8) (e : Int) : (VarPlain.next l e).2.1.length ≤ l.length := by
  unfold VarPlain.next
  split
  · exact Nat.le_refl _
  · simp

theorem cells_two {W : World} {q : Nat} {a b : Value} (h0 : W.cell? ⟨q, 0, none⟩ = some a) (h1 : W.cell? ⟨q, 1, none⟩ = some b) (x y : Value) (O : Obj) :
    (((W.setCell ⟨q, 0, none⟩ x).setCell ⟨q, 1, none⟩ y).alloc O).cell? ⟨q, 0, none⟩ = some x ∧ (((W.setCell ⟨q, 0, none⟩ x).setCell ⟨q, 1, none⟩ y).alloc O).cell? ⟨q, 1, none⟩ = some y := by
  have hlt : q < W.heap.size := World.block_lt_of_cell? W _ h0
  have e1 : (W.setCell ⟨q, 0, none⟩ x).cell? ⟨q, 0, none⟩ = some x := World.cell?_setCell_same W _ x h0
  have e2 : (W.setCell ⟨q, 0, none⟩ x).cell? ⟨q, 1, none⟩ = some b := by rw [World.cell?_setCell_other _ _ _ _ (by simp)]; exact h1
  have e3 : ((W.setCell ⟨q, 0, none⟩ x).setCell ⟨q, 1, none⟩ y).cell? ⟨q, 0, none⟩ = some x := by rw [World.cell?_setCell_other _ _ _ _ (by simp)]; exact e1
  have e4 : ((W.setCell ⟨q, 0, none⟩ x).setCell ⟨q, 1, none⟩ y).cell? ⟨q, 1, none⟩ = some y := World.cell?_setCell_same _ _ y e2
  have hb := (Below.refl ((W.setCell ⟨q, 0, none⟩ x).setCell ⟨q, 1, none⟩ y).heap.size ((W.setCell ⟨q, 0, none⟩ x).setCell ⟨q, 1, none⟩ y)).alloc (Nat.le_refl _) O
  exact ⟨cell_below hb (Nat.le_refl _) e3, cell_below hb (Nat.le_refl _) e4⟩

set_option maxHeartbeats 400000 in
set_option maxRecDepth 100000 in
theorem ref_word_calls (w : World) (l : List UInt8) (e : Int) (hl : l.length ≤ maxLen) :
    Calls Try.prog 73 #[refR l e] w fun r w' => r = .returned (.tuple #[refR (VarPlain.word l e).2.1 (VarPlain.word l e).2.2, .string (str (VarPlain.word l e).1)]) ∧ Below w.heap.size w w' := by
  have hnl := next_len l e
  have hx : (VarPlain.next l e).1 < 18446744073709551616 := by
    unfold VarPlain.next
    split
    · simp
    · exact VarPlain.take_lt l
  have hnext := fun w => ref_next_calls w l e hl
  have HW : Hid (VarPlain.word l e = if (VarPlain.next l e).2.2 ≠ 0 then ([], (VarPlain.next l e).2.1, (VarPlain.next l e).2.2) else if (VarPlain.next l e).2.1.length < (VarPlain.next l e).1 then ([], (VarPlain.next l e).2.1, 10) else ((VarPlain.next l e).2.1.take (VarPlain.next l e).1, (VarPlain.next l e).2.1.drop (VarPlain.next l e).1, 0)) := rfl
  generalize VarPlain.next l e = t at *
  obtain ⟨x, l1, f⟩ := t
  simp only [] at hx HW hnext hnl
  unfold maxLen at hl
  have hs1 : (str l1).size ≤ 9223372036854775807 := by rw [str_size]; omega
  have Hx := Lib.hid hx; clear hx
  have Hnext := Lib.hid hnext; clear hnext hnl
  by_cases hf : f = 0
  · subst hf
    have hw := HW.out
    rw [if_neg (by simp)] at hw
    by_cases hlong : l1.length < x
    · rw [if_pos hlong] at hw
      have Hw := Lib.hid hw; clear hw
      have hlong' : (str l1).size < x := hlong
      clear hlong
      unfold refR at Hw Hnext ⊢
      generalize hS : str l1 = s1 at *
      have HS := Lib.hid hS; clear hS
      go_enter Try.func73, Try.ntmps73
      go_wp2_with fail
      refine (Hnext.out _).mono ?_
      rintro r w1 ⟨rfl, hb⟩
      have hc : ∀ b o, b < w.heap.size + 1 + 1 → w1.cell? ⟨b, o, none⟩ = ((w.alloc (Obj.cells #[Value.string (str l), Value.int IntKind.i64 e] 101)).alloc (Obj.cells #[Value.string ⟨#[]⟩, Value.int IntKind.i64 0] 101)).cell? ⟨b, o, none⟩ := fun b o h => hb.cell (p := ⟨b, o, none⟩) (by simpa using h)
      have hfz : ∀ b o, b < w.heap.size + 1 + 1 → w1.frozen? ⟨b, o, none⟩ = ((w.alloc (Obj.cells #[Value.string (str l), Value.int IntKind.i64 e] 101)).alloc (Obj.cells #[Value.string ⟨#[]⟩, Value.int IntKind.i64 0] 101)).frozen? ⟨b, o, none⟩ := fun b o h => hb.frozen (p := ⟨b, o, none⟩) (by simpa using h)
      have k0 : w1.cell? ⟨w.heap.size + 1, 0, none⟩ = some (.string ⟨#[]⟩) := by rw [hc _ _ (by omega)]; simp
      have k1 : w1.cell? ⟨w.heap.size + 1, 1, none⟩ = some (.int .i64 0) := by rw [hc _ _ (by omega)]; simp
      have kf0 : w1.frozen? ⟨w.heap.size + 1, 0, none⟩ = false := by rw [hfz _ _ (by omega)]; simp
      have kf1 : w1.frozen? ⟨w.heap.size + 1, 1, none⟩ = false := by rw [hfz _ _ (by omega)]; simp
      have hbw : Below w.heap.size w w1 := (((Below.refl _ _).alloc (Nat.le_refl _) _).alloc (by simp) _).trans (hb.mono (by simp; omega))
      have hsz1 : w.heap.size + 1 < w1.heap.size := by have := hb.size; simp at this; omega
      clear hc hfz hb
      go_wp2_with fail
      obtain ⟨d0, d1⟩ := cells_two k0 k1 (.string s1) (.int .i64 10) (Obj.cells #[Value.string s1, Value.int IntKind.i64 10] 101)
      refine bodyPost_ret (v := .tuple #[.agg #[.string s1, .int .i64 10], .string ⟨#[]⟩]) (by simp [results, Try.results73, go_sem, d0, d1]) rfl ⟨by rw [Hw.out, ← HS.out]; rfl, ?_⟩
      exact ((hbw.setCell (p := ⟨w.heap.size + 1, 0, none⟩) (by simp) _).setCell (p := ⟨w.heap.size + 1, 1, none⟩) (by simp) _).alloc (by simp; omega) _
    · rw [if_neg hlong] at hw
      have Hw := Lib.hid hw; clear hw
      have hlong' : x ≤ (str l1).size := Nat.le_of_not_lt hlong
      have hdr := str_drop l1 x
      have htk := str_take l1 x
      clear hlong
      unfold refR at Hw Hnext ⊢
      generalize hS : str l1 = s1 at *
      have HS := Lib.hid hS; clear hS
      go_enter Try.func73, Try.ntmps73
      go_wp2_with fail
      refine (Hnext.out _).mono ?_
      rintro r w1 ⟨rfl, hb⟩
      have hc : ∀ b o, b < w.heap.size + 1 + 1 → w1.cell? ⟨b, o, none⟩ = ((w.alloc (Obj.cells #[Value.string (str l), Value.int IntKind.i64 e] 101)).alloc (Obj.cells #[Value.string ⟨#[]⟩, Value.int IntKind.i64 0] 101)).cell? ⟨b, o, none⟩ := fun b o h => hb.cell (p := ⟨b, o, none⟩) (by simpa using h)
      have hfz : ∀ b o, b < w.heap.size + 1 + 1 → w1.frozen? ⟨b, o, none⟩ = ((w.alloc (Obj.cells #[Value.string (str l), Value.int IntKind.i64 e] 101)).alloc (Obj.cells #[Value.string ⟨#[]⟩, Value.int IntKind.i64 0] 101)).frozen? ⟨b, o, none⟩ := fun b o h => hb.frozen (p := ⟨b, o, none⟩) (by simpa using h)
      have k0 : w1.cell? ⟨w.heap.size + 1, 0, none⟩ = some (.string ⟨#[]⟩) := by rw [hc _ _ (by omega)]; simp
      have k1 : w1.cell? ⟨w.heap.size + 1, 1, none⟩ = some (.int .i64 0) := by rw [hc _ _ (by omega)]; simp
      have kf0 : w1.frozen? ⟨w.heap.size + 1, 0, none⟩ = false := by rw [hfz _ _ (by omega)]; simp
      have kf1 : w1.frozen? ⟨w.heap.size + 1, 1, none⟩ = false := by rw [hfz _ _ (by omega)]; simp
      have hbw : Below w.heap.size w w1 := (((Below.refl _ _).alloc (Nat.le_refl _) _).alloc (by simp) _).trans (hb.mono (by simp; omega))
      have hsz1 : w.heap.size + 1 < w1.heap.size := by have := hb.size; simp at this; omega
      clear hc hfz hb
      go_wp2_with fail
      go_region
      go_wp2_with fail
      obtain ⟨d0, d1⟩ := cells_two k0 k1 (.string (str (l1.drop x))) (.int .i64 0) (Obj.cells #[Value.string s1, Value.int IntKind.i64 0] 101)
      refine bodyPost_ret (v := .tuple #[.agg #[.string (str (l1.drop x)), .int .i64 0], .string (str (l1.take x))]) (by simp [results, Try.results73, go_sem, d0, d1]) rfl ⟨by rw [Hw.out], ?_⟩
      exact (((hbw.setCell (p := ⟨w.heap.size + 1, 0, none⟩) (by simp) _).setCell (p := ⟨w.heap.size + 1, 1, none⟩) (by simp) _).alloc (by simp; omega) _).drew
  · have hw := HW.out
    rw [if_pos hf] at hw
    have Hw := Lib.hid hw; clear hw
    have hne : (f != 0) = true := by rw [bne_iff_ne]; exact hf
    clear hf
    unfold refR at Hw Hnext ⊢
    generalize hS : str l1 = s1 at *
    have HS := Lib.hid hS; clear hS
    go_enter Try.func73, Try.ntmps73
    go_wp2_with fail
    refine (Hnext.out _).mono ?_
    rintro r w1 ⟨rfl, hb⟩
    have hc : ∀ b o, b < w.heap.size + 1 + 1 → w1.cell? ⟨b, o, none⟩ = ((w.alloc (Obj.cells #[Value.string (str l), Value.int IntKind.i64 e] 101)).alloc (Obj.cells #[Value.string ⟨#[]⟩, Value.int IntKind.i64 0] 101)).cell? ⟨b, o, none⟩ := fun b o h => hb.cell (p := ⟨b, o, none⟩) (by simpa using h)
    have hfz : ∀ b o, b < w.heap.size + 1 + 1 → w1.frozen? ⟨b, o, none⟩ = ((w.alloc (Obj.cells #[Value.string (str l), Value.int IntKind.i64 e] 101)).alloc (Obj.cells #[Value.string ⟨#[]⟩, Value.int IntKind.i64 0] 101)).frozen? ⟨b, o, none⟩ := fun b o h => hb.frozen (p := ⟨b, o, none⟩) (by simpa using h)
    have k0 : w1.cell? ⟨w.heap.size + 1, 0, none⟩ = some (.string ⟨#[]⟩) := by rw [hc _ _ (by omega)]; simp
    have k1 : w1.cell? ⟨w.heap.size + 1, 1, none⟩ = some (.int .i64 0) := by rw [hc _ _ (by omega)]; simp
    have kf0 : w1.frozen? ⟨w.heap.size + 1, 0, none⟩ = false := by rw [hfz _ _ (by omega)]; simp
    have kf1 : w1.frozen? ⟨w.heap.size + 1, 1, none⟩ = false := by rw [hfz _ _ (by omega)]; simp
    have hbw : Below w.heap.size w w1 := (((Below.refl _ _).alloc (Nat.le_refl _) _).alloc (by simp) _).trans (hb.mono (by simp; omega))
    have hsz1 : w.heap.size + 1 < w1.heap.size := by have := hb.size; simp at this; omega
    clear hc hfz hb
    go_wp2_with fail
    obtain ⟨d0, d1⟩ := cells_two k0 k1 (.string s1) (.int .i64 f) (Obj.cells #[Value.string s1, Value.int IntKind.i64 f] 101)
    refine bodyPost_ret (v := .tuple #[.agg #[.string s1, .int .i64 f], .string ⟨#[]⟩]) (by simp [results, Try.results73, go_sem, d0, d1]) rfl ⟨by rw [Hw.out, ← HS.out]; rfl, ?_⟩
    exact ((hbw.setCell (p := ⟨w.heap.size + 1, 0, none⟩) (by simp) _).setCell (p := ⟨w.heap.size + 1, 1, none⟩) (by simp) _).alloc (by simp; omega) _

end Go.Proofs.Ytgbnfipbedlmhaa
