/-
  Split: what the document says: a text of one sort. Conditions: the texts are short.
-/
import Derived.Test.YtiemlgfcmldnoaaSpRefs2
set_option linter.unusedVariables false
set_option maxRecDepth 100000
namespace Go.Proofs.Ytiemlgfcmldnoaa
open Go.RowKit Base

theorem str_zero : (⟨#[]⟩ : ByteArray) = str [] := rfl
structure OfI (w : World) (s m : List UInt8) (W : World) : Prop where
  z : W.heap[w.heap.size]? = some (.cells #[.string ⟨#[]⟩, .string ⟨#[]⟩] 29)
  o : W.heap[w.heap.size + 1]? = some (.cells #[.string (str s), .string (str m)] 29)
  low : Below w.heap.size w W
  size : w.heap.size + 1 + 1 ≤ W.heap.size
theorem OfI.next {w : World} {s m m' : List UInt8} {A : World} {o : Obj} (h : OfI w s m A) : OfI w s m' ((A.alloc o).setCell ⟨w.heap.size + 1, 1, none⟩ (.string (str m'))) := by
  have hs := h.size
  have ho : (A.alloc o).heap[w.heap.size + 1]? = some (.cells #[.string (str s), .string (str m)] 29) := (((Below.refl _ A).alloc (Nat.le_refl _) o).block _ (by omega)).trans h.o
  refine ⟨(set_other _ (w.heap.size + 1) 1 _ w.heap.size (by omega)).trans ((((Below.refl _ A).alloc (Nat.le_refl _) o).block _ (by omega)).trans h.z), heap_setCell_same _ _ 1 _ _ _ ho, (h.low.alloc (by omega) o).setCell (by simp) _, ?_⟩
  simp
  omega
set_option maxHeartbeats 1000000 in
theorem ref_of_calls (w : World) (s : List UInt8) (c : UInt8) (hs : s.length ≤ 100000) :
    Calls Try.prog 15 #[.string (str s), .int .u8 (c.toNat : Int)] w fun e w' => e = .returned (rowV (ofS s c)) ∧ Below w.heap.size w w' := by
  have HP : Hid (rowV (ofS s c) = .agg #[.string (str s), .string (str (List.replicate s.length c))]) := by show _ = _; unfold rowV; rw [ofS_text, ofS_mask]
  have hsz : (str s).size = s.length := rfl
  generalize rowV (ofS s c) = R at *
  go_enter Try.func15, Try.ntmps15
  go_wp2_with fail
  obtain ⟨hA0, hbl, hw⟩ := heap2 w (.cells #[.string ⟨#[]⟩, .string ⟨#[]⟩] 29) (.cells #[.string (str s), .string ⟨#[]⟩] 29)
  have hA1 := heap_alloc_new (w.alloc (.cells #[.string ⟨#[]⟩, .string ⟨#[]⟩] 29)) (.cells #[.string (str s), .string ⟨#[]⟩] 29)
  rw [World.size_alloc] at hA1
  generalize (w.alloc (.cells #[.string ⟨#[]⟩, .string ⟨#[]⟩] 29)).alloc (.cells #[.string (str s), .string ⟨#[]⟩] 29) = w1 at *
  have H0 : Hid (OfI w s (List.replicate 0 c) w1) := ⟨hA0, hA1, hbl, by omega⟩
  clear hA0 hA1 hbl hw
  go_loopw [6] (fun v6 wr => ∃ k : Nat, k ≤ s.length ∧ v6 = .int .i64 k ∧ OfI w s (List.replicate k c) wr) (fun v6 _ => s.length - (intOf v6).toNat)
  case atStart => exact ⟨0, Nat.zero_le _, rfl, H0.out⟩
  case round =>
    clear H0 w1
    obtain ⟨k, hk, rfl, hI⟩ := hrel
    have hrep : List.replicate k c ++ [c] = List.replicate (k + 1) c := by rw [List.replicate_succ']
    have hrl : (List.replicate k c).length = k := List.length_replicate
    have HNext := Lib.hid fun o => hI.next (m' := List.replicate (k + 1) c) (o := o)
    by_cases hlt : k < s.length
    · have hwl := hI.size
      have hcv := str_bytes (bytes_one wr (c.toNat : Int) c rfl 5)
      have hno : ¬ 9223372036854775807 < (str (List.replicate k c)).size + (str [c]).size := by rw [str_size, str_size, hrl]; simp; omega
      obtain ⟨c0, c1, f0, f1⟩ := row_facts hI.o
      obtain ⟨d0, d1, g0, g1⟩ := row_facts ((((Below.refl _ wr).alloc (Nat.le_refl _) (.cells #[.int .u8 (c.toNat : Int)] 5)).block _ (by omega)).trans hI.o)
      have HRep := Lib.hid (show str (List.replicate k c) ++ str [c] = str (List.replicate (k + 1) c) by rw [str_append, hrep])
      clear hrep hrl hI
      generalize List.replicate k c = m at *
      obtain ⟨m', hm'⟩ : ∃ m', List.replicate (k + 1) c = m' := ⟨_, rfl⟩
      have HM := Lib.hid hm'
      rw [hm'] at HRep HNext
      clear hm'
      have u3 : decide (k < s.length) = true := decide_eq_true (by omega)
      have u1 : decide ((k : Int) < (s.length : Int)) = true := decide_eq_true (by omega)
      have u2 : (k : Int) < (s.length : Int) := by omega
      go_wp2_with fail
      rw [HRep.out]
      go_roundw
      case rel => exact ⟨k + 1, by omega, by go_num, by rw [HM.out]; exact HNext.out _⟩
      case measure => simp [intOf]; omega
    · obtain rfl : k = s.length := by omega
      have hw := row_set2 hI.z (.string (str s)) (.string (str (List.replicate s.length c)))
      have hlow := (hI.low.setCell (p := ⟨w.heap.size, 0, none⟩) (Nat.le_refl _) (.string (str s))).setCell (p := ⟨w.heap.size, 1, none⟩) (Nat.le_refl _) (.string (str (List.replicate s.length c)))
      obtain ⟨c0, c1, f0, f1⟩ := row_facts hI.o
      obtain ⟨d0, d1, g0, g1⟩ := row_facts hI.z
      have Hw := Lib.hid hw
      have Hlow := Lib.hid hlow
      clear hw hlow
      clear hI hrep hrl HNext
      generalize List.replicate s.length c = m at *
      have u3 : decide (s.length < s.length) = false := decide_eq_false (by omega)
      have u1 : decide ((s.length : Int) < (s.length : Int)) = false := decide_eq_false (by omega)
      have u2 : ¬ ((s.length : Int) < (s.length : Int)) := by omega
      go_wp2_with fail
      obtain ⟨y0, y1, _, _⟩ := row_facts Hw.out
      refine bodyPost_ret (v := .agg #[.string (str s), .string (str m)]) (by simp [results, Try.results15, go_sem, y0, y1]) rfl ?_
      exact ⟨by rw [HP.out], Hlow.out⟩
end Go.Proofs.Ytiemlgfcmldnoaa
