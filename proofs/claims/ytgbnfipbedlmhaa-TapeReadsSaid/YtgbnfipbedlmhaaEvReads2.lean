/-
  The reference's reader of requests and answers, second part: read is walked. Conditions: the text is short.
-/
import Derived.Test.YtgbnfipbedlmhaaEvReads1
import Derived.Deep.Cut
set_option linter.unusedVariables false
namespace Go.Proofs.Ytgbnfipbedlmhaa
open Go.RowKit Base

def nv (x : Nat) : Value := .int .u64 (x : Int)
theorem src_at {P : Program} {w : World} {b : Nat} {v : Value} {e : TypeId} (hb : b = w.heap.size) (hv : v.oneCell' = true) : Src P (w.alloc (.cells #[v] e)) 1 (.slice (some ⟨b, 0, none⟩) 1 1) 1 [v] := by
  subst hb
  exact src_new (P := P) w [v] e 1 1 rfl (by intro u hu; simp at hu; subst hu; exact hv) 1
/-- The cells of what is read. -/
def LC (l : List UInt8) (e : Int) (vn : Value) (t : List UInt8) (vr : Value) (lg : Bool) : Obj := .cells #[.string (str l), .int .i64 e, vn, .string (str t), vr, .bool lg] 104
theorem LC_r {W : World} {q : Nat} {l : List UInt8} {e : Int} {vn : Value} {t : List UInt8} {vr : Value} {lg : Bool} (h : W.heap[q]? = some (LC l e vn t vr lg)) (l' : List UInt8) (e' : Int) :
    ((W.setCell ⟨q, 0, none⟩ (.string (str l'))).setCell ⟨q, 1, none⟩ (.int .i64 e')).heap[q]? = some (LC l' e' vn t vr lg) :=
  heap_setCell_same _ q 1 _ _ _ (heap_setCell_same _ q 0 _ _ _ h)
theorem LC_2 {W : World} {q : Nat} {l : List UInt8} {e : Int} {vn : Value} {t : List UInt8} {vr : Value} {lg : Bool} (h : W.heap[q]? = some (LC l e vn t vr lg)) (v : Value) :
    (W.setCell ⟨q, 2, none⟩ v).heap[q]? = some (LC l e v t vr lg) := heap_setCell_same _ q 2 _ _ _ h
theorem LC_3 {W : World} {q : Nat} {l : List UInt8} {e : Int} {vn : Value} {t : List UInt8} {vr : Value} {lg : Bool} (h : W.heap[q]? = some (LC l e vn t vr lg)) (t' : List UInt8) :
    (W.setCell ⟨q, 3, none⟩ (.string (str t'))).heap[q]? = some (LC l e vn t' vr lg) := heap_setCell_same _ q 3 _ _ _ h
theorem LC_4 {W : World} {q : Nat} {l : List UInt8} {e : Int} {vn : Value} {t : List UInt8} {vr : Value} {lg : Bool} (h : W.heap[q]? = some (LC l e vn t vr lg)) (v : Value) :
    (W.setCell ⟨q, 4, none⟩ v).heap[q]? = some (LC l e vn t v lg) := heap_setCell_same _ q 4 _ _ _ h
theorem LC_5 {W : World} {q : Nat} {l : List UInt8} {e : Int} {vn : Value} {t : List UInt8} {vr : Value} {lg : Bool} (h : W.heap[q]? = some (LC l e vn t vr lg)) (b : Bool) :
    (W.setCell ⟨q, 5, none⟩ (.bool b)).heap[q]? = some (LC l e vn t vr b) := heap_setCell_same _ q 5 _ _ _ h
theorem LC_cells {W : World} {q : Nat} {l : List UInt8} {e : Int} {vn : Value} {t : List UInt8} {vr : Value} {lg : Bool} (h : W.heap[q]? = some (LC l e vn t vr lg)) :
    W.cell? ⟨q, 0, none⟩ = some (.string (str l)) ∧ W.cell? ⟨q, 1, none⟩ = some (.int .i64 e) ∧ W.cell? ⟨q, 2, none⟩ = some vn ∧ W.cell? ⟨q, 3, none⟩ = some (.string (str t)) ∧ W.cell? ⟨q, 4, none⟩ = some vr ∧ W.cell? ⟨q, 5, none⟩ = some (.bool lg) := by
  unfold LC at h
  refine ⟨?_, ?_, ?_, ?_, ?_, ?_⟩ <;> simp [World.cell?, h]
theorem LC_free {W : World} {q : Nat} {l : List UInt8} {e : Int} {vn : Value} {t : List UInt8} {vr : Value} {lg : Bool} (h : W.heap[q]? = some (LC l e vn t vr lg)) :
    W.frozen? ⟨q, 0, none⟩ = false ∧ W.frozen? ⟨q, 1, none⟩ = false ∧ W.frozen? ⟨q, 2, none⟩ = false ∧ W.frozen? ⟨q, 3, none⟩ = false ∧ W.frozen? ⟨q, 4, none⟩ = false ∧ W.frozen? ⟨q, 5, none⟩ = false := by
  unfold LC at h
  refine ⟨?_, ?_, ?_, ?_, ?_, ?_⟩ <;> simp [World.frozen?, h]

theorem heap_low {w w' : World} (hb : Below w.heap.size w w') {k : Nat} {o : Obj} (h : w.heap[k]? = some o) : w'.heap[k]? = some o := by
  rw [hb.block k (Array.getElem?_eq_some_iff.1 h).1]; exact h
theorem heap_apart {w w' : World} {r : Option Nat} (hg : w.grownBy w' r) {k : Nat} {o : Obj} (h : w.heap[k]? = some o) (hk : ∀ j, r = some j → k < j) : w'.heap[k]? = some o := by
  rw [hg.block k (Array.getElem?_eq_some_iff.1 h).1 (by intro e; have := hk k e.symm; omega)]; exact h

theorem own_set {w : World} {base : Nat} {e : TypeId} {size : Nat} {v : Value} {n : Nat} {xs : List Value} {g i : Nat} {u : Value} (h : w.ownsRow base e size v n xs) (hg : g < base) : (w.setCell ⟨g, i, none⟩ u).ownsRow base e size v n xs :=
  ownsRow_kept h (grown_set _ _ _ _) hg

set_option maxHeartbeats 8000000 in
set_option maxRecDepth 100000 in
theorem ref_read_calls (w : World) (b : List UInt8) (n : Nat) (behind : Bool) (hb : b.length ≤ 100000) (hn : n ≤ 4) :
    Calls Try.prog 58 #[.string (str b), .int .i64 (n : Int), .bool behind] w fun r w' => ∃ vn vr, r = .returned (lV (readL b n behind).l (readL b n behind).e vn (readL b n behind).text vr (readL b n behind).long) ∧
      w'.ownsRow w.heap.size 62 1 vn (readL b n behind).nums.length ((readL b n behind).nums.map nv) ∧ w'.ownsRow w.heap.size 9 1 vr (readL b n behind).row.length ((readL b n behind).row.map sv) ∧ Below w.heap.size w w' := by
  obtain ⟨i0, hi, hz0, hz1, hz2⟩ := info_parts info_u64
  obtain ⟨j0, hj, hy0, hy1, hy2⟩ := info_parts info_string
  have HRL : Hid (readL b n behind = tailL (nexts b n).1 (VarPlain.word (nexts b n).2.1 (nexts b n).2.2).1 (readRow (VarPlain.word (nexts b n).2.1 (nexts b n).2.2).2.1 (VarPlain.word (nexts b n).2.1 (nexts b n).2.2).2.2) behind) := rfl
  obtain ⟨nx, hnx⟩ : ∃ nx, nx = nexts b := ⟨_, rfl⟩
  rw [← hnx] at HRL
  have N0 : Hid (nx 0 = ([], b, 0)) := by show _ = _; rw [hnx]; rfl
  have NS : Hid (∀ k, nx (k + 1) = ((nx k).1 ++ [(VarPlain.next (nx k).2.1 (nx k).2.2).1], (VarPlain.next (nx k).2.1 (nx k).2.2).2)) := fun k => by rw [hnx]; rfl
  have NL : Hid (∀ k, (nx k).1.length = k) := fun k => by rw [hnx]; exact nexts_len b k
  have NB : Hid (∀ k, (nx k).2.1.length ≤ maxLen) := fun k => by rw [hnx]; have := nexts_left b k; unfold maxLen; omega
  have NT : Hid (∀ k, (nx k).2.1.length ≤ 100000) := fun k => by rw [hnx]; have := nexts_left b k; omega
  clear hnx
  have hq0 : (((w.alloc (LC [] 0 (.slice none 0 0) [] (.slice none 0 0) false)).alloc (LC b 0 (.slice none 0 0) [] (.slice none 0 0) false)).heap[w.heap.size]? = some (LC [] 0 (.slice none 0 0) [] (.slice none 0 0) false)) ∧ (((w.alloc (LC [] 0 (.slice none 0 0) [] (.slice none 0 0) false)).alloc (LC b 0 (.slice none 0 0) [] (.slice none 0 0) false)).heap[w.heap.size + 1]? = some (LC b 0 (.slice none 0 0) [] (.slice none 0 0) false)) := by
    have h : ((w.alloc (LC [] 0 (.slice none 0 0) [] (.slice none 0 0) false)).alloc (LC b 0 (.slice none 0 0) [] (.slice none 0 0) false)).heap = (w.heap.push (LC [] 0 (.slice none 0 0) [] (.slice none 0 0) false)).push (LC b 0 (.slice none 0 0) [] (.slice none 0 0) false) := rfl
    rw [h]
    refine ⟨?_, ?_⟩
    · rw [Array.getElem?_push, Array.getElem?_push]; simp
    · rw [Array.getElem?_push]; simp
  have Hg0 := Lib.hid hq0.1
  have Hq0 := Lib.hid hq0.2
  have HB0 := Lib.hid (((Below.refl w.heap.size w).alloc (Nat.le_refl _) (LC [] 0 (.slice none 0 0) [] (.slice none 0 0) false)).alloc (by simp) (LC b 0 (.slice none 0 0) [] (.slice none 0 0) false))
  have hs0 : w.heap.size + 1 < ((w.alloc (LC [] 0 (.slice none 0 0) [] (.slice none 0 0) false)).alloc (LC b 0 (.slice none 0 0) [] (.slice none 0 0) false)).heap.size := by simp
  clear hq0
  go_enter Try.func58, Try.ntmps58
  go_wp2_with fail
  go_loopw [8] (fun i wr => ∃ (k : Nat) (vn : Value), k ≤ n ∧ i = .int .i64 k ∧ wr.heap[w.heap.size]? = some (LC [] 0 (.slice none 0 0) [] (.slice none 0 0) false) ∧ wr.heap[w.heap.size + 1]? = some (LC (nx k).2.1 (nx k).2.2 vn [] (.slice none 0 0) false) ∧ wr.ownsRow (w.heap.size + 2) 62 1 vn k ((nx k).1.map nv) ∧ Below w.heap.size w wr ∧ w.heap.size + 1 < wr.heap.size) (fun i _ => n - (intOf i).toNat)
  case atStart => exact ⟨0, _, Nat.zero_le _, rfl, Hg0.out, by rw [N0.out]; exact Hq0.out, by rw [N0.out]; exact World.ownsRow_nil _ _ _ _, HB0.out, hs0⟩
  case round =>
    clear Hg0 Hq0 HB0 hs0
    obtain ⟨k, vn, hk, rfl, hg, hq, hown, hbel, hsz⟩ := hrel
    have Hg := Lib.hid hg; have Hq := Lib.hid hq; have Hown := Lib.hid hown; have Hbel := Lib.hid hbel
    clear hg hq hown hbel
    obtain ⟨c0, c1, c2, c3, c4, c5⟩ := LC_cells Hq.out
    by_cases hlt : k < n
    · have Hnx := Lib.hid (ref_next_calls wr (nx k).2.1 (nx k).2.2 (NB.out k))
      have Hns := Lib.hid (NS.out k)
      unfold refR at Hnx
      generalize VarPlain.next (nx k).2.1 (nx k).2.2 = t at *
      obtain ⟨x, l2, e2⟩ := t
      simp only [] at Hnx Hns
      go_wp2_with fail
      refine Hnx.out.mono ?_
      rintro r w2 ⟨rfl, hb2⟩
      clear c0 c1 c2 c3 c4 c5
      have Hq2 := Lib.hid (heap_low hb2 Hq.out)
      have hba := (Below.refl ((w2.setCell ⟨w.heap.size + 1, 0, none⟩ (.string (str l2))).setCell ⟨w.heap.size + 1, 1, none⟩ (.int .i64 e2)).heap.size ((w2.setCell ⟨w.heap.size + 1, 0, none⟩ (.string (str l2))).setCell ⟨w.heap.size + 1, 1, none⟩ (.int .i64 e2))).alloc (Nat.le_refl _) (.cells #[.string (str l2), .int .i64 e2] 101)
      have hs2 : w.heap.size + 1 < w2.heap.size := Nat.lt_of_lt_of_le hsz hb2.size
      have Hb3 : Hid (Below w.heap.size w (((w2.setCell ⟨w.heap.size + 1, 0, none⟩ (.string (str l2))).setCell ⟨w.heap.size + 1, 1, none⟩ (.int .i64 e2)).alloc (.cells #[.string (str l2), .int .i64 e2] 101))) := (((Hbel.out.trans (hb2.mono (by omega))).setCell (by simp) _).setCell (by simp) _).alloc (by simp [World.setCell]; omega) (.cells #[.string (str l2), .int .i64 e2] 101)
      have Hq3 : Hid ((((w2.setCell ⟨w.heap.size + 1, 0, none⟩ (.string (str l2))).setCell ⟨w.heap.size + 1, 1, none⟩ (.int .i64 e2)).alloc (.cells #[.string (str l2), .int .i64 e2] 101)).heap[w.heap.size + 1]? = some (LC l2 e2 vn [] (.slice none 0 0) false)) := heap_low hba (LC_r Hq2.out l2 e2)
      have Hg3 : Hid ((((w2.setCell ⟨w.heap.size + 1, 0, none⟩ (.string (str l2))).setCell ⟨w.heap.size + 1, 1, none⟩ (.int .i64 e2)).alloc (.cells #[.string (str l2), .int .i64 e2] 101)).heap[w.heap.size]? = some (LC [] 0 (.slice none 0 0) [] (.slice none 0 0) false)) := by
        refine heap_low hba ?_
        rw [heap_setCell_other _ _ _ _ (by simp), heap_setCell_other _ _ _ _ (by simp)]
        exact heap_low hb2 Hg.out
      have hz3 : (((w2.setCell ⟨w.heap.size + 1, 0, none⟩ (.string (str l2))).setCell ⟨w.heap.size + 1, 1, none⟩ (.int .i64 e2)).alloc (.cells #[.string (str l2), .int .i64 e2] 101)).heap.size = w2.heap.size + 1 := by simp [World.setCell]
      obtain ⟨ao, co, rfl, _, _, _, _⟩ := ownsRow_slice Hown.out
      have hown3 : (((w2.setCell ⟨w.heap.size + 1, 0, none⟩ (.string (str l2))).setCell ⟨w.heap.size + 1, 1, none⟩ (.int .i64 e2)).alloc (.cells #[.string (str l2), .int .i64 e2] 101)).ownsRow (w.heap.size + 2) 62 1 (.slice ao k co) k ((nx k).1.map nv) :=
        ownsRow_below (ownsRow_kept (ownsRow_kept (ownsRow_below Hown.out hb2) (grown_set _ (w.heap.size + 1) 0 _) (by omega)) (grown_set _ (w.heap.size + 1) 1 _) (by omega)) hba
      obtain ⟨c0, c1, c2, c3, c4, c5⟩ := LC_cells Hq2.out
      obtain ⟨f0, f1, f2, f3, f4, f5⟩ := LC_free Hq2.out
      clear hb2 hba Hnx Hbel Hown Hg Hq hsz
      go_wp2_with (at_builtin; refine wpList_append_src rfl (.tmp 37) (.tmp 39) 102 102 rfl (w.heap.size + 2) 62 i0 (.int .u64 0) 1 8 Try.underlying102 (append_side Try.underlying102) hi hz0 hz1 hz2 rfl (by decide) (by decide) _ k _ rfl (hown3.alloc _) _ 1 _ rfl (src_at (by simp [World.setCell]) rfl) ?_ ?_ ?_ ?_)
      case _ => unfold maxLen; omega
      case _ => omega
      case _ => simp [World.setCell]; omega
      intro v' w4 hown4 hg4 _
      have hg4 : (((w2.setCell ⟨w.heap.size + 1, 0, none⟩ (.string (str l2))).setCell ⟨w.heap.size + 1, 1, none⟩ (.int .i64 e2)).alloc (.cells #[.string (str l2), .int .i64 e2] 101)).grownBy w4 (Value.ownBlock (.slice ao k co)) := grownBy_trans (World.grownBy_alloc _ _ _) hg4
      have hlo : ∀ j, Value.ownBlock (.slice ao k co) = some j → w.heap.size + 2 ≤ j := fun j hj => (hown3.lt j hj).1
      have Hq4 := Lib.hid (heap_apart hg4 Hq3.out (fun j hj => by have := hlo j hj; omega))
      have Hg4 := Lib.hid (heap_apart hg4 Hg3.out (fun j hj => by have := hlo j hj; omega))
      have Hb4 : Hid (Below w.heap.size w w4) := Hb3.out.grown hg4 (by omega) (fun j hj => by have := hlo j hj; omega)
      have hs4 : w.heap.size + 1 < w4.heap.size := by have := hg4.size; omega
      have Hown4 : Hid (w4.ownsRow (w.heap.size + 2) 62 1 v' (k + 1) ((nx (k + 1)).1.map nv)) := by
        show _
        rw [Hns.out]
        simp only []
        rw [List.map_append]
        exact hown4
      clear c0 c1 c2 c3 c4 c5 f0 f1 f2 f3 f4 f5 hown4 hg4 hlo Hq3 Hg3 Hb3 hown3 hz3 hs2 Hq2
      obtain ⟨c0, c1, c2, c3, c4, c5⟩ := LC_cells Hq4.out
      obtain ⟨f0, f1, f2, f3, f4, f5⟩ := LC_free Hq4.out
      obtain ⟨a4, b4, rfl, _, _, _, _⟩ := ownsRow_slice Hown4.out
      go_wp2_with fail
      go_roundw
      case rel =>
        refine ⟨k + 1, .slice a4 (k + 1) b4, by omega, by go_num, ?_, ?_, ?_, ?_, by simpa [World.setCell] using hs4⟩
        · rw [heap_setCell_other _ _ _ _ (by simp)]; exact Hg4.out
        · rw [Hns.out]; exact LC_2 Hq4.out _
        · exact ownsRow_kept Hown4.out (grown_set _ (w.heap.size + 1) 2 _) (by omega)
        · exact Hb4.out.setCell (by simp) _
      case measure => simp [intOf]; omega
    · obtain rfl : n = k := by omega
      clear NS N0 hlt hk
      have HWd := Lib.hid (ref_word_calls wr (nx n).2.1 (nx n).2.2 (NB.out n))
      have hl2 := word_len (nx n).2.1 (nx n).2.2
      have hl3 := NT.out n
      unfold refR at HWd
      generalize VarPlain.word (nx n).2.1 (nx n).2.2 = t at *
      obtain ⟨s, l2, e2⟩ := t
      simp only [] at HWd HRL hl2
      have Hnx := Lib.hid (fun w => ref_next_calls w l2 e2 (by unfold maxLen; omega))
      have hl4 := next_len l2 e2
      have HX := Lib.hid (next_lt64 l2 e2)
      have HR : Hid (readRow l2 e2 = if 4096 < (VarPlain.next l2 e2).1 then ((false, []), (VarPlain.next l2 e2).2) else ((true, (words (VarPlain.next l2 e2).2.1 (VarPlain.next l2 e2).2.2 (VarPlain.next l2 e2).1).1), (words (VarPlain.next l2 e2).2.1 (VarPlain.next l2 e2).2.2 (VarPlain.next l2 e2).1).2)) := rfl
      unfold refR at Hnx
      generalize VarPlain.next l2 e2 = t at *
      obtain ⟨m, l3, e3⟩ := t
      simp only [] at Hnx HX HR hl4
      have Hl5 : Hid (l3.length ≤ 100000) := by show _ ≤ _; omega
      generalize (nx n).2.1 = l1 at *
      generalize (nx n).2.2 = e1 at *
      have Hnl := Lib.hid (NL.out n)
      generalize (nx n).1 = ns at *
      obtain ⟨ao, co, rfl, _, _, _, _⟩ := ownsRow_slice Hown.out
      clear NL NB NT hl2 hl3 hl4
      go_wp2_with fail
      refine HWd.out.mono ?_
      rintro r w2 ⟨rfl, hb2⟩
      clear c0 c1 c2 c3 c4 c5 HWd
      have Hq2 := Lib.hid (heap_low hb2 Hq.out)
      have hba := (Below.refl (w2.setCell ⟨w.heap.size + 1, 3, none⟩ (.string (str s))).heap.size (w2.setCell ⟨w.heap.size + 1, 3, none⟩ (.string (str s)))).alloc (Nat.le_refl _) (.cells #[.string (str l2), .int .i64 e2] 101)
      have hs2 : w.heap.size + 1 < w2.heap.size := Nat.lt_of_lt_of_le hsz hb2.size
      have Hb3 : Hid (Below w.heap.size w ((w2.setCell ⟨w.heap.size + 1, 3, none⟩ (.string (str s))).alloc (.cells #[.string (str l2), .int .i64 e2] 101))) := ((Hbel.out.trans (hb2.mono (by omega))).setCell (by simp) _).alloc (by simp [World.setCell]; omega) (.cells #[.string (str l2), .int .i64 e2] 101)
      have Hq3 : Hid (((w2.setCell ⟨w.heap.size + 1, 3, none⟩ (.string (str s))).alloc (.cells #[.string (str l2), .int .i64 e2] 101)).heap[w.heap.size + 1]? = some (LC l1 e1 (.slice ao n co) s (.slice none 0 0) false)) := heap_low hba (LC_3 Hq2.out s)
      have Hg3 : Hid (((w2.setCell ⟨w.heap.size + 1, 3, none⟩ (.string (str s))).alloc (.cells #[.string (str l2), .int .i64 e2] 101)).heap[w.heap.size]? = some (LC [] 0 (.slice none 0 0) [] (.slice none 0 0) false)) := by
        refine heap_low hba ?_
        rw [heap_setCell_other _ _ _ _ (by simp)]
        exact heap_low hb2 Hg.out
      have hs3 : w.heap.size + 1 < ((w2.setCell ⟨w.heap.size + 1, 3, none⟩ (.string (str s))).alloc (.cells #[.string (str l2), .int .i64 e2] 101)).heap.size := by simp [World.setCell]; omega
      have Hown3 := Lib.hid (ownsRow_below (own_set (g := w.heap.size + 1) (i := 3) (u := .string (str s)) (ownsRow_below Hown.out hb2) (by omega)) hba)
      obtain ⟨c0, c1, c2, c3, c4, c5⟩ := LC_cells Hq2.out
      obtain ⟨f0, f1, f2, f3, f4, f5⟩ := LC_free Hq2.out
      clear hb2 hba Hbel Hown Hg Hq hsz
      go_wp2_with fail
      refine (Hnx.out _).mono ?_
      rintro r w4 ⟨rfl, hb4⟩
      have Hq4 := Lib.hid (heap_low hb4 Hq3.out)
      have Hg4 := Lib.hid (heap_low hb4 Hg3.out)
      have Hown4 := Lib.hid (ownsRow_below Hown3.out hb4)
      have Hb4 : Hid (Below w.heap.size w w4) := Hb3.out.trans (hb4.mono Hb3.out.size)
      have hs4 : w.heap.size + 1 < w4.heap.size := Nat.lt_of_lt_of_le hs3 hb4.size
      clear c0 c1 c2 c3 c4 c5 f0 f1 f2 f3 f4 f5 Hq2 Hq3 Hg3 Hown3 Hb3 hb4 hs3 hs2 Hnx
      obtain ⟨c0, c1, c2, c3, c4, c5⟩ := LC_cells Hq4.out
      obtain ⟨f0, f1, f2, f3, f4, f5⟩ := LC_free Hq4.out
      have hba := (Below.refl ((w4.setCell ⟨w.heap.size + 1, 0, none⟩ (.string (str l3))).setCell ⟨w.heap.size + 1, 1, none⟩ (.int .i64 e3)).heap.size ((w4.setCell ⟨w.heap.size + 1, 0, none⟩ (.string (str l3))).setCell ⟨w.heap.size + 1, 1, none⟩ (.int .i64 e3))).alloc (Nat.le_refl _) (.cells #[.string (str l3), .int .i64 e3] 101)
      have Hb5 : Hid (Below w.heap.size w (((w4.setCell ⟨w.heap.size + 1, 0, none⟩ (.string (str l3))).setCell ⟨w.heap.size + 1, 1, none⟩ (.int .i64 e3)).alloc (.cells #[.string (str l3), .int .i64 e3] 101))) := ((Hb4.out.setCell (by simp) _).setCell (by simp) _).alloc (by simp [World.setCell]; omega) (.cells #[.string (str l3), .int .i64 e3] 101)
      have Hq5 : Hid ((((w4.setCell ⟨w.heap.size + 1, 0, none⟩ (.string (str l3))).setCell ⟨w.heap.size + 1, 1, none⟩ (.int .i64 e3)).alloc (.cells #[.string (str l3), .int .i64 e3] 101)).heap[w.heap.size + 1]? = some (LC l3 e3 (.slice ao n co) s (.slice none 0 0) false)) := heap_low hba (LC_r Hq4.out l3 e3)
      have Hg5 : Hid ((((w4.setCell ⟨w.heap.size + 1, 0, none⟩ (.string (str l3))).setCell ⟨w.heap.size + 1, 1, none⟩ (.int .i64 e3)).alloc (.cells #[.string (str l3), .int .i64 e3] 101)).heap[w.heap.size]? = some (LC [] 0 (.slice none 0 0) [] (.slice none 0 0) false)) := by
        refine heap_low hba ?_
        rw [heap_setCell_other _ _ _ _ (by simp), heap_setCell_other _ _ _ _ (by simp)]
        exact Hg4.out
      have hs5 : w.heap.size + 1 < (((w4.setCell ⟨w.heap.size + 1, 0, none⟩ (.string (str l3))).setCell ⟨w.heap.size + 1, 1, none⟩ (.int .i64 e3)).alloc (.cells #[.string (str l3), .int .i64 e3] 101)).heap.size := by simp [World.setCell]; omega
      have Hown5 := Lib.hid (ownsRow_below (own_set (g := w.heap.size + 1) (i := 1) (u := .int .i64 e3) (own_set (g := w.heap.size + 1) (i := 0) (u := .string (str l3)) Hown4.out (by omega)) (by omega)) hba)
      clear hba Hq4 Hg4 Hown4 Hb4
      go_upto_region 12 with fail
      generalize w4.heap.size = p5
      generalize hw5 : (((w4.setCell ⟨w.heap.size + 1, 0, none⟩ (.string (str l3))).setCell ⟨w.heap.size + 1, 1, none⟩ (.int .i64 e3)).alloc (.cells #[.string (str l3), .int .i64 e3] 101)) = w5 at *
      clear hw5 c0 c1 c2 c3 c4 c5 f0 f1 f2 f3 f4 f5 hs4
      obtain ⟨c0, c1, c2, c3, c4, c5⟩ := LC_cells Hq5.out
      obtain ⟨f0, f1, f2, f3, f4, f5⟩ := LC_free Hq5.out
      by_cases hbig : 4096 < m
      · have HV : Hid (readL b n behind = ⟨ns, s, [], true, l3, e3⟩) := by
          show _ = _
          rw [HRL.out, HR.out, if_pos hbig]
          rfl
        have d1 : decide ((4096 : Int) < (m : Int)) = true := by simp; omega
        have d2 : (4096 : Int) < (m : Int) := by omega
        clear hbig HRL HR
        go_upto_region 14 with fail
        have Hq6 := Lib.hid (LC_5 Hq5.out true)
        have Hg6 : Hid ((w5.setCell ⟨w.heap.size + 1, 5, none⟩ (.bool true)).heap[w.heap.size]? = some (LC [] 0 (.slice none 0 0) [] (.slice none 0 0) false)) := by
          show _ = _
          rw [heap_setCell_other _ _ _ _ (by simp)]; exact Hg5.out
        have Hb6 := Lib.hid (Hb5.out.setCell (p := ⟨w.heap.size + 1, 5, none⟩) (by simp) (.bool true))
        have Hown6 := Lib.hid (own_set (g := w.heap.size + 1) (i := 5) (u := .bool true) Hown5.out (by omega))
        clear c0 c1 c2 c3 c4 c5 f0 f1 f2 f3 f4 f5 Hq5 Hg5 Hb5 Hown5 d1 d2 hs5
        generalize hw6 : w5.setCell ⟨w.heap.size + 1, 5, none⟩ (.bool true) = w6 at *
        clear hw6
        obtain ⟨c0, c1, c2, c3, c4, c5⟩ := LC_cells Hq6.out
        obtain ⟨z0, z1, z2, z3, z4, z5⟩ := LC_cells Hg6.out
        obtain ⟨y0, y1, y2, y3, y4, y5⟩ := LC_free Hg6.out
        go_wp2_with fail
        refine bodyPost_ret (v := lV l3 e3 (.slice ao n co) s (.slice none 0 0) true) (by simp [lV, results, Try.results58, go_sem, z0, z1, z2, z3, z4, z5]) rfl ?_
        refine ⟨.slice ao n co, .slice none 0 0, by rw [HV.out], ?_, ?_, ?_⟩
        · rw [HV.out]
          show World.ownsRow _ _ _ _ _ ns.length _
          rw [Hnl.out]
          exact ownsRow_mono (own_set (own_set (own_set (own_set (own_set (own_set Hown6.out (by omega)) (by omega)) (by omega)) (by omega)) (by omega)) (by omega)) (Nat.le_add_right _ 2)
        · rw [HV.out]; exact World.ownsRow_nil _ _ _ _
        · exact ((((((Hb6.out.setCell (Nat.le_refl _) _).setCell (Nat.le_refl _) _).setCell (Nat.le_refl _) _).setCell (Nat.le_refl _) _).setCell (Nat.le_refl _) _).setCell (Nat.le_refl _) _)
      · have hm4 : m ≤ 4096 := by omega
        have HW : Hid (readRow l2 e2 = ((true, (words l3 e3 m).1), (words l3 e3 m).2)) := by show _ = _; rw [HR.out, if_neg hbig]
        have d1 : decide ((4096 : Int) < (m : Int)) = false := by simp; omega
        have d2 : ¬ (4096 : Int) < (m : Int) := by omega
        rw [HW.out] at HRL
        clear hbig HR HW
        obtain ⟨wd, hwd⟩ : ∃ wd, wd = words l3 e3 := ⟨_, rfl⟩
        rw [← hwd] at HRL
        have W0 : Hid (wd 0 = ([], l3, e3)) := by show _ = _; rw [hwd]; rfl
        have WS : Hid (∀ k, wd (k + 1) = ((wd k).1 ++ [(VarPlain.word (wd k).2.1 (wd k).2.2).1], (VarPlain.word (wd k).2.1 (wd k).2.2).2)) := fun k => by rw [hwd]; rfl
        have WL : Hid (∀ k, (wd k).1.length = k) := fun k => by rw [hwd]; exact words_len l3 e3 k
        have WB : Hid (∀ k, (wd k).2.1.length ≤ maxLen) := fun k => by rw [hwd]; have := words_left l3 e3 k; have := Hl5.out; unfold maxLen; omega
        clear hwd
        have hB2 : w.heap.size + 1 < w5.heap.size := hs5
        generalize hB5 : w5.heap.size = B5 at *
        have hlo : Hid (∀ j, Value.ownBlock (.slice ao n co) = some j → w.heap.size + 2 ≤ j ∧ j < B5) := fun j hj => by have := Hown5.out.lt j hj; omega
        have hsB : Hid (B5 ≤ w5.heap.size) := by show _ ≤ _; omega
        clear hB5
        go_wp2_with fail
        go_loopw [15] (fun i wr => ∃ (k : Nat) (vr : Value), k ≤ m ∧ i = .int .i64 k ∧ wr.heap[w.heap.size]? = some (LC [] 0 (.slice none 0 0) [] (.slice none 0 0) false) ∧ wr.heap[w.heap.size + 1]? = some (LC (wd k).2.1 (wd k).2.2 (.slice ao n co) s vr false) ∧ wr.ownsRow (w.heap.size + 2) 62 1 (.slice ao n co) n (ns.map nv) ∧ wr.ownsRow B5 9 1 vr k ((wd k).1.map sv) ∧ Below w.heap.size w wr ∧ B5 ≤ wr.heap.size) (fun i _ => m - (intOf i).toNat)
        case atStart => exact ⟨0, _, Nat.zero_le _, rfl, Hg5.out, by rw [W0.out]; exact Hq5.out, Hown5.out, by rw [W0.out]; exact World.ownsRow_nil _ _ _ _, Hb5.out, hsB.out⟩
        case round =>
          clear Hg5 Hq5 Hown5 Hb5 hsB
          obtain ⟨k, vr, hk, rfl, hg, hq, hown, hrow, hbel, hsz⟩ := hrel
          have Hg := Lib.hid hg; have Hq := Lib.hid hq; have Hown := Lib.hid hown; have Hrow := Lib.hid hrow; have Hbel := Lib.hid hbel
          clear hg hq hown hrow hbel c0 c1 c2 c3 c4 c5 f0 f1 f2 f3 f4 f5
          obtain ⟨c0, c1, c2, c3, c4, c5⟩ := LC_cells Hq.out
          by_cases hlt : k < m
          · have HWk := Lib.hid (ref_word_calls wr (wd k).2.1 (wd k).2.2 (WB.out k))
            have Hws := Lib.hid (WS.out k)
            unfold refR at HWk
            generalize VarPlain.word (wd k).2.1 (wd k).2.2 = t at *
            obtain ⟨tx, l6, e6⟩ := t
            simp only [] at HWk Hws
            go_wp2_with fail
            refine HWk.out.mono ?_
            rintro r w6 ⟨rfl, hb6⟩
            clear c0 c1 c2 c3 c4 c5 HWk
            have Hq6 := Lib.hid (heap_low hb6 Hq.out)
            have hba := (Below.refl ((w6.setCell ⟨w.heap.size + 1, 0, none⟩ (.string (str l6))).setCell ⟨w.heap.size + 1, 1, none⟩ (.int .i64 e6)).heap.size ((w6.setCell ⟨w.heap.size + 1, 0, none⟩ (.string (str l6))).setCell ⟨w.heap.size + 1, 1, none⟩ (.int .i64 e6))).alloc (Nat.le_refl _) (.cells #[.string (str l6), .int .i64 e6] 101)
            have hs6 : B5 ≤ w6.heap.size := Nat.le_trans hsz hb6.size
            have hs6' : w.heap.size + 1 < w6.heap.size := by omega
            have Hb7 : Hid (Below w.heap.size w (((w6.setCell ⟨w.heap.size + 1, 0, none⟩ (.string (str l6))).setCell ⟨w.heap.size + 1, 1, none⟩ (.int .i64 e6)).alloc (.cells #[.string (str l6), .int .i64 e6] 101))) := (((Hbel.out.trans (hb6.mono (by omega))).setCell (by simp) _).setCell (by simp) _).alloc (by simp [World.setCell]; omega) (.cells #[.string (str l6), .int .i64 e6] 101)
            have Hq7 : Hid ((((w6.setCell ⟨w.heap.size + 1, 0, none⟩ (.string (str l6))).setCell ⟨w.heap.size + 1, 1, none⟩ (.int .i64 e6)).alloc (.cells #[.string (str l6), .int .i64 e6] 101)).heap[w.heap.size + 1]? = some (LC l6 e6 (.slice ao n co) s vr false)) := heap_low hba (LC_r Hq6.out l6 e6)
            have Hg7 : Hid ((((w6.setCell ⟨w.heap.size + 1, 0, none⟩ (.string (str l6))).setCell ⟨w.heap.size + 1, 1, none⟩ (.int .i64 e6)).alloc (.cells #[.string (str l6), .int .i64 e6] 101)).heap[w.heap.size]? = some (LC [] 0 (.slice none 0 0) [] (.slice none 0 0) false)) := by
              refine heap_low hba ?_
              rw [heap_setCell_other _ _ _ _ (by simp), heap_setCell_other _ _ _ _ (by simp)]
              exact heap_low hb6 Hg.out
            have hz7 : (((w6.setCell ⟨w.heap.size + 1, 0, none⟩ (.string (str l6))).setCell ⟨w.heap.size + 1, 1, none⟩ (.int .i64 e6)).alloc (.cells #[.string (str l6), .int .i64 e6] 101)).heap.size = w6.heap.size + 1 := by simp [World.setCell]
            have Hown7 := Lib.hid (ownsRow_below (own_set (g := w.heap.size + 1) (i := 1) (u := .int .i64 e6) (own_set (g := w.heap.size + 1) (i := 0) (u := .string (str l6)) (ownsRow_below Hown.out hb6) (by omega)) (by omega)) hba)
            obtain ⟨av, cv, rfl, _, _, _, _⟩ := ownsRow_slice Hrow.out
            have hrow7 : (((w6.setCell ⟨w.heap.size + 1, 0, none⟩ (.string (str l6))).setCell ⟨w.heap.size + 1, 1, none⟩ (.int .i64 e6)).alloc (.cells #[.string (str l6), .int .i64 e6] 101)).ownsRow B5 9 1 (.slice av k cv) k ((wd k).1.map sv) :=
              ownsRow_below (own_set (g := w.heap.size + 1) (i := 1) (u := .int .i64 e6) (own_set (g := w.heap.size + 1) (i := 0) (u := .string (str l6)) (ownsRow_below Hrow.out hb6) (by omega)) (by omega)) hba
            obtain ⟨c0, c1, c2, c3, c4, c5⟩ := LC_cells Hq6.out
            obtain ⟨f0, f1, f2, f3, f4, f5⟩ := LC_free Hq6.out
            clear hb6 hba Hbel Hown Hrow Hg Hq hsz
            go_wp2_with (at_builtin; refine wpList_append_src rfl (.tmp 76) (.tmp 78) 32 32 rfl B5 9 j0 (.string ⟨#[]⟩) 1 16 Try.underlying32 (append_side Try.underlying32) hj hy0 hy1 hy2 rfl (by decide) (by decide) _ k _ rfl (hrow7.alloc _) _ 1 _ rfl (src_at (by simp [World.setCell]) rfl) ?_ ?_ ?_ ?_)
            case _ => unfold maxLen; omega
            case _ => omega
            case _ => simp [World.setCell]; omega
            intro v' w8 hrow8 hg8 _
            have hg8 : (((w6.setCell ⟨w.heap.size + 1, 0, none⟩ (.string (str l6))).setCell ⟨w.heap.size + 1, 1, none⟩ (.int .i64 e6)).alloc (.cells #[.string (str l6), .int .i64 e6] 101)).grownBy w8 (Value.ownBlock (.slice av k cv)) := grownBy_trans (World.grownBy_alloc _ _ _) hg8
            have hlo8 : ∀ j, Value.ownBlock (.slice av k cv) = some j → B5 ≤ j := fun j hj => (hrow7.lt j hj).1
            have Hq8 := Lib.hid (heap_apart hg8 Hq7.out (fun j hj => by have := hlo8 j hj; omega))
            have Hg8 := Lib.hid (heap_apart hg8 Hg7.out (fun j hj => by have := hlo8 j hj; omega))
            have Hb8 : Hid (Below w.heap.size w w8) := Hb7.out.grown hg8 (by omega) (fun j hj => by have := hlo8 j hj; omega)
            have hs8 : B5 ≤ w8.heap.size := by have := hg8.size; omega
            have Hown8 := Lib.hid (Hown7.out.kept hg8 (by
              cases hv : Value.ownBlock (.slice ao n co) with
              | none => exact .inl rfl
              | some j =>
                refine .inr fun e => ?_
                have h1 := (hlo.out j hv).2
                have h2 := hlo8 j e.symm
                omega))
            have Hrow8 : Hid (w8.ownsRow B5 9 1 v' (k + 1) ((wd (k + 1)).1.map sv)) := by
              show _
              rw [Hws.out]
              simp only []
              rw [List.map_append]
              exact hrow8
            clear c0 c1 c2 c3 c4 c5 f0 f1 f2 f3 f4 f5 hrow8 hg8 hlo8 Hq7 Hg7 Hb7 hrow7 Hown7 hz7 hs6 Hq6
            obtain ⟨c0, c1, c2, c3, c4, c5⟩ := LC_cells Hq8.out
            obtain ⟨f0, f1, f2, f3, f4, f5⟩ := LC_free Hq8.out
            obtain ⟨a8, b8, rfl, _, _, _, _⟩ := ownsRow_slice Hrow8.out
            go_wp2_with fail
            go_roundw
            case rel =>
              refine ⟨k + 1, .slice a8 (k + 1) b8, by omega, by go_num, ?_, ?_, ?_, ?_, ?_, by simpa [World.setCell] using hs8⟩
              · rw [heap_setCell_other _ _ _ _ (by simp)]; exact Hg8.out
              · rw [Hws.out]; exact LC_4 Hq8.out _
              · exact own_set Hown8.out (by omega)
              · exact own_set Hrow8.out (by omega)
              · exact Hb8.out.setCell (by simp) _
            case measure => simp [intOf]; omega
          · obtain rfl : m = k := by omega
            have HWl := Lib.hid (WL.out m)
            have HW6 := Lib.hid (WB.out m)
            clear WS W0 WB WL hlt hk
            generalize wd m = t at *
            obtain ⟨tx, l6, e6⟩ := t
            simp only [] at HWl HW6 HRL Hq Hrow c0 c1
            obtain ⟨av, cv, rfl, _, _, _, _⟩ := ownsRow_slice Hrow.out
            go_upto_region 21 with fail
            clear c0 c1 c2 c3 c4 c5
            cases behind with
            | false =>
              have HV : Hid (readL b n false = ⟨ns, s, tx, false, l6, e6⟩) := by
                show _ = _
                rw [HRL.out]
                rfl
              clear HRL
              have Hq6 := Hq; have Hg6 := Hg; have Hown6 := Hown; have Hrow6 := Hrow; have Hb6 := Hbel
              clear Hq Hg Hown Hrow Hbel
              obtain ⟨c0, c1, c2, c3, c4, c5⟩ := LC_cells Hq6.out
              obtain ⟨z0, z1, z2, z3, z4, z5⟩ := LC_cells Hg6.out
              obtain ⟨y0, y1, y2, y3, y4, y5⟩ := LC_free Hg6.out
              go_wp2_with fail
              refine bodyPost_ret (v := lV l6 e6 (.slice ao n co) s (.slice av m cv) false) (by simp [lV, results, Try.results58, go_sem, z0, z1, z2, z3, z4, z5]) rfl ?_
              refine ⟨(.slice ao n co), (.slice av m cv), by rw [HV.out], ?_, ?_, ?_⟩
              · rw [HV.out]
                show World.ownsRow _ _ _ _ _ ns.length _
                rw [Hnl.out]
                exact ownsRow_mono (own_set (own_set (own_set (own_set (own_set (own_set Hown6.out (by omega)) (by omega)) (by omega)) (by omega)) (by omega)) (by omega)) (Nat.le_add_right _ 2)
              · rw [HV.out]
                show World.ownsRow _ _ _ _ _ tx.length _
                rw [HWl.out]
                exact ownsRow_mono (own_set (own_set (own_set (own_set (own_set (own_set Hrow6.out (by omega)) (by omega)) (by omega)) (by omega)) (by omega)) (by omega)) (by omega)
              · exact ((((((Hb6.out.setCell (Nat.le_refl _) _).setCell (Nat.le_refl _) _).setCell (Nat.le_refl _) _).setCell (Nat.le_refl _) _).setCell (Nat.le_refl _) _).setCell (Nat.le_refl _) _)
            | true =>
              have Hnx := Lib.hid (ref_next_calls wr l6 e6 HW6.out)
              have HV : Hid (readL b n true = ⟨ns ++ [(VarPlain.next l6 e6).1], s, tx, false, (VarPlain.next l6 e6).2.1, (VarPlain.next l6 e6).2.2⟩) := by
                show _ = _
                rw [HRL.out]
                rfl
              clear HRL
              unfold refR at Hnx
              generalize VarPlain.next l6 e6 = t at *
              obtain ⟨x, l7, e7⟩ := t
              simp only [] at Hnx HV
              obtain ⟨c0, c1, c2, c3, c4, c5⟩ := LC_cells Hq.out
              go_wp2_with fail
              refine Hnx.out.mono ?_
              rintro r w2 ⟨rfl, hb2⟩
              clear c0 c1 c2 c3 c4 c5 Hnx
              have Hq2 := Lib.hid (heap_low hb2 Hq.out)
              have hba := (Below.refl ((w2.setCell ⟨w.heap.size + 1, 0, none⟩ (.string (str l7))).setCell ⟨w.heap.size + 1, 1, none⟩ (.int .i64 e7)).heap.size ((w2.setCell ⟨w.heap.size + 1, 0, none⟩ (.string (str l7))).setCell ⟨w.heap.size + 1, 1, none⟩ (.int .i64 e7))).alloc (Nat.le_refl _) (.cells #[.string (str l7), .int .i64 e7] 101)
              have hs2 : B5 ≤ w2.heap.size := Nat.le_trans hsz hb2.size
              have hs2' : w.heap.size + 1 < w2.heap.size := by omega
              have Hb3 : Hid (Below w.heap.size w (((w2.setCell ⟨w.heap.size + 1, 0, none⟩ (.string (str l7))).setCell ⟨w.heap.size + 1, 1, none⟩ (.int .i64 e7)).alloc (.cells #[.string (str l7), .int .i64 e7] 101))) := (((Hbel.out.trans (hb2.mono (by omega))).setCell (by simp) _).setCell (by simp) _).alloc (by simp [World.setCell]; omega) (.cells #[.string (str l7), .int .i64 e7] 101)
              have Hq3 : Hid ((((w2.setCell ⟨w.heap.size + 1, 0, none⟩ (.string (str l7))).setCell ⟨w.heap.size + 1, 1, none⟩ (.int .i64 e7)).alloc (.cells #[.string (str l7), .int .i64 e7] 101)).heap[w.heap.size + 1]? = some (LC l7 e7 (.slice ao n co) s (.slice av m cv) false)) := heap_low hba (LC_r Hq2.out l7 e7)
              have Hg3 : Hid ((((w2.setCell ⟨w.heap.size + 1, 0, none⟩ (.string (str l7))).setCell ⟨w.heap.size + 1, 1, none⟩ (.int .i64 e7)).alloc (.cells #[.string (str l7), .int .i64 e7] 101)).heap[w.heap.size]? = some (LC [] 0 (.slice none 0 0) [] (.slice none 0 0) false)) := by
                refine heap_low hba ?_
                rw [heap_setCell_other _ _ _ _ (by simp), heap_setCell_other _ _ _ _ (by simp)]
                exact heap_low hb2 Hg.out
              have hz3 : (((w2.setCell ⟨w.heap.size + 1, 0, none⟩ (.string (str l7))).setCell ⟨w.heap.size + 1, 1, none⟩ (.int .i64 e7)).alloc (.cells #[.string (str l7), .int .i64 e7] 101)).heap.size = w2.heap.size + 1 := by simp [World.setCell]
              have hown3 : (((w2.setCell ⟨w.heap.size + 1, 0, none⟩ (.string (str l7))).setCell ⟨w.heap.size + 1, 1, none⟩ (.int .i64 e7)).alloc (.cells #[.string (str l7), .int .i64 e7] 101)).ownsRow (w.heap.size + 2) 62 1 (.slice ao n co) n (ns.map nv) :=
                ownsRow_below (own_set (g := w.heap.size + 1) (i := 1) (u := .int .i64 e7) (own_set (g := w.heap.size + 1) (i := 0) (u := .string (str l7)) (ownsRow_below Hown.out hb2) (by omega)) (by omega)) hba
              have Hrow3 := Lib.hid (ownsRow_below (own_set (g := w.heap.size + 1) (i := 1) (u := .int .i64 e7) (own_set (g := w.heap.size + 1) (i := 0) (u := .string (str l7)) (ownsRow_below Hrow.out hb2) (by omega)) (by omega)) hba)
              obtain ⟨c0, c1, c2, c3, c4, c5⟩ := LC_cells Hq2.out
              obtain ⟨f0, f1, f2, f3, f4, f5⟩ := LC_free Hq2.out
              clear hb2 hba Hbel Hown Hrow Hg Hq hsz
              go_wp2_with (at_builtin; refine wpList_append_src rfl (.tmp 91) (.tmp 93) 102 102 rfl (w.heap.size + 2) 62 i0 (.int .u64 0) 1 8 Try.underlying102 (append_side Try.underlying102) hi hz0 hz1 hz2 rfl (by decide) (by decide) _ n _ rfl (hown3.alloc _) _ 1 _ rfl (src_at (by simp [World.setCell]) rfl) ?_ ?_ ?_ ?_)
              case _ => unfold maxLen; omega
              case _ => omega
              case _ => simp [World.setCell]; omega
              intro v' w4 hown4 hg4 _
              have hg4 : (((w2.setCell ⟨w.heap.size + 1, 0, none⟩ (.string (str l7))).setCell ⟨w.heap.size + 1, 1, none⟩ (.int .i64 e7)).alloc (.cells #[.string (str l7), .int .i64 e7] 101)).grownBy w4 (Value.ownBlock (.slice ao n co)) := grownBy_trans (World.grownBy_alloc _ _ _) hg4
              have Hrow4 := Lib.hid (Hrow3.out.kept hg4 (by
                cases hv : Value.ownBlock (.slice av m cv) with
                | none => exact .inl rfl
                | some j =>
                  refine .inr fun e => ?_
                  have h1 := (hlo.out j e.symm).2
                  have h2 := (Hrow3.out.lt j hv).1
                  omega))
              have hlo3 : ∀ j, Value.ownBlock (.slice ao n co) = some j → w.heap.size + 2 ≤ j := fun j hj => (hown3.lt j hj).1
              have Hq4 := Lib.hid (heap_apart hg4 Hq3.out (fun j hj => by have := hlo3 j hj; omega))
              have Hg4 := Lib.hid (heap_apart hg4 Hg3.out (fun j hj => by have := hlo3 j hj; omega))
              have Hb4 : Hid (Below w.heap.size w w4) := Hb3.out.grown hg4 (by omega) (fun j hj => by have := hlo3 j hj; omega)
              have Hown4 : Hid (w4.ownsRow (w.heap.size + 2) 62 1 v' (n + 1) ((ns ++ [x]).map nv)) := by
                show _
                rw [List.map_append]
                exact hown4
              clear c0 c1 c2 c3 c4 c5 f0 f1 f2 f3 f4 f5 hown4 hg4 hlo hlo3 Hq3 Hg3 Hb3 hown3 Hrow3 hz3 hs2 Hq2
              obtain ⟨c0, c1, c2, c3, c4, c5⟩ := LC_cells Hq4.out
              obtain ⟨f0, f1, f2, f3, f4, f5⟩ := LC_free Hq4.out
              obtain ⟨a4, b4, rfl, _, _, _, _⟩ := ownsRow_slice Hown4.out
              go_upto_region 25 with fail
              have Hq6 := Lib.hid (LC_2 Hq4.out (.slice a4 (n + 1) b4))
              have Hg6 : Hid ((w4.setCell ⟨w.heap.size + 1, 2, none⟩ (.slice a4 (n + 1) b4)).heap[w.heap.size]? = some (LC [] 0 (.slice none 0 0) [] (.slice none 0 0) false)) := by
                show _ = _
                rw [heap_setCell_other _ _ _ _ (by simp)]; exact Hg4.out
              have Hb6 := Lib.hid (Hb4.out.setCell (p := ⟨w.heap.size + 1, 2, none⟩) (by simp) (.slice a4 (n + 1) b4))
              have Hown6 := Lib.hid (own_set (g := w.heap.size + 1) (i := 2) (u := .slice a4 (n + 1) b4) Hown4.out (by omega))
              have Hrow6 := Lib.hid (own_set (g := w.heap.size + 1) (i := 2) (u := .slice a4 (n + 1) b4) Hrow4.out (by omega))
              clear c0 c1 c2 c3 c4 c5 f0 f1 f2 f3 f4 f5 Hq4 Hg4 Hb4 Hown4 Hrow4
              generalize hw6 : w4.setCell ⟨w.heap.size + 1, 2, none⟩ (.slice a4 (n + 1) b4) = w6 at *
              clear hw6
              have Hns : Hid ((ns ++ [x]).length = n + 1) := by show _ = _; rw [List.length_append, Hnl.out]; rfl
              obtain ⟨c0, c1, c2, c3, c4, c5⟩ := LC_cells Hq6.out
              obtain ⟨z0, z1, z2, z3, z4, z5⟩ := LC_cells Hg6.out
              obtain ⟨y0, y1, y2, y3, y4, y5⟩ := LC_free Hg6.out
              go_wp2_with fail
              refine bodyPost_ret (v := lV l7 e7 (.slice a4 (n + 1) b4) s (.slice av m cv) false) (by simp [lV, results, Try.results58, go_sem, z0, z1, z2, z3, z4, z5]) rfl ?_
              refine ⟨(.slice a4 (n + 1) b4), (.slice av m cv), by rw [HV.out], ?_, ?_, ?_⟩
              · rw [HV.out]
                show World.ownsRow _ _ _ _ _ (ns ++ [x]).length _
                rw [Hns.out]
                exact ownsRow_mono (own_set (own_set (own_set (own_set (own_set (own_set Hown6.out (by omega)) (by omega)) (by omega)) (by omega)) (by omega)) (by omega)) (Nat.le_add_right _ 2)
              · rw [HV.out]
                show World.ownsRow _ _ _ _ _ tx.length _
                rw [HWl.out]
                exact ownsRow_mono (own_set (own_set (own_set (own_set (own_set (own_set Hrow6.out (by omega)) (by omega)) (by omega)) (by omega)) (by omega)) (by omega)) (by omega)
              · exact ((((((Hb6.out.setCell (Nat.le_refl _) _).setCell (Nat.le_refl _) _).setCell (Nat.le_refl _) _).setCell (Nat.le_refl _) _).setCell (Nat.le_refl _) _).setCell (Nat.le_refl _) _)


end Go.Proofs.Ytgbnfipbedlmhaa
