/-
  The rows of texts of package event and its reference, as bytes: each computes what the plain mathematics says. Conditions: the arguments can be read; the bytes are not too many.
-/
import Derived.Test.YtgbnfipbedlmhaaEvWalks2
import Derived.Test.YtgbnfipbedlmhaaConcat
import Derived.Test.YtgbnfipbedlmhaaRegionS
set_option linter.unusedVariables false
namespace Go.Proofs.Ytgbnfipbedlmhaa
open Go.RowKit Base

theorem textB_len (s : List UInt8) (h : Lt64 s.length) : (textB s).length ≤ 10 + s.length := by
  unfold textB; rw [List.length_append]; have := num_len s.length h; omega
theorem texts_part2 (l : List (List UInt8)) (s : List UInt8) (h : s ∈ l) : s.length ≤ (texts l).length := by
  induction l with
  | nil => cases h
  | cons t r ih =>
    simp only [texts, List.flatMap_cons, List.length_append] at ih ⊢
    rcases List.mem_cons.1 h with rfl | h
    · omega
    · have := ih h; omega
theorem texts_textB (l : List (List UInt8)) (s : List UInt8) : texts (l ++ [s]) = texts l ++ textB s := by rw [texts_snoc, textB, List.append_assoc]

set_option maxHeartbeats 400000 in
set_option maxRecDepth 100000 in
theorem ev_row_calls (w : World) (a : Option Addr) (n cap : Nat) (l : List (List UInt8)) (h : Strs w a n cap l) (hs : n ≤ 1000000) (ht : (texts l).length ≤ 100000000) :
    Calls Try.prog 42 #[.slice a n cap] w fun e w' => ∃ v, e = .returned v ∧ w'.ownsRow w.heap.size 5 1 v (rowB l).length ((rowB l).map bv) ∧ Below w.heap.size w w' := by
  obtain ⟨i0, hi, hz0, hz1, hz2⟩ := info_parts info_u8
  have Hn := Lib.hid h.1
  have hm64 : Lt64 n := by unfold Lt64; omega
  have Hput := Lib.hid (var_put_calls (w.alloc (.cells #[.int .u64 ((n : Nat) : Int)] 62)) (some ⟨w.heap.size, 0, none⟩) 1 1 [n] (u64_one w n 62) (by intro x hx; simp at hx; subst hx; exact hm64) (by decide))
  have H0 := Lib.hid h; clear h
  have HT := Lib.hid ht; clear ht
  have hnl := num_len n hm64
  have HR : Hid (rowB l = VarPlain.num n ++ texts l) := by show _ = _; unfold rowB; rw [Hn.out]
  go_enter Try.func42, Try.ntmps42
  go_wp2_with fail
  refine Hput.out.mono ?_
  rintro e w1 ⟨v1, rfl, hown1, hb1⟩
  rw [nums_one] at hown1
  have hbA := (Below.refl w.heap.size w).alloc (Nat.le_refl _) (.cells #[.int .u64 ((n : Nat) : Int)] 62)
  have hb1' := hbA.trans (hb1.mono (by simp))
  have hs1 := hb1'.size
  have hown1' := ownsRow_mono (base' := w.heap.size) hown1 (by simp)
  obtain ⟨av, cv, rfl, _, _, _, _⟩ := ownsRow_slice hown1'
  clear Hput hown1 hbA hb1
  go_wp2_with fail
  refine (var_texts_calls w1 a n cap l (H0.out.below stable_strAt hb1') hs (by have := HT.out; omega)).mono ?_
  rintro e w2 ⟨v2, rfl, hown2, hb2⟩
  obtain ⟨a2, c2, rfl, hrow2⟩ := ownsRow_bytes hown2
  have hb2' := hb1'.trans (hb2.mono hs1)
  have hown1'' := ownsRow_below hown1' hb2
  have hs2 := hb2'.size
  have htl := HT.out
  clear hown2 hb2 hown1' hb1' hs1
  go_wp2_with (at_builtin; refine wpList_append_src rfl (.tmp 7) (.tmp 9) 28 28 rfl w.heap.size 5 i0 (.int .u8 0) 1 1 Try.underlying28 (append_side Try.underlying28) hi hz0 hz1 hz2 rfl (by decide) (by decide) _ (VarPlain.num n).length _ rfl hown1'' _ (texts l).length _ rfl (src_bytes hrow2) ?_ ?_ ?_ ?_)
  case _ => unfold maxLen; omega
  case _ => omega
  case _ => omega
  intro v3 w3 hown3 hg3 _
  have hb3 : Below w.heap.size w w3 := hb2'.grown hg3 hs2 (fun j hj => (hown1''.lt j hj).1)
  have hown4 : w3.ownsRow w.heap.size 5 1 v3 (rowB l).length ((rowB l).map bv) := by
    rw [HR.out, List.length_append, List.map_append]
    exact hown3
  clear hown3 hg3
  go_wp2_with fail
  go_ret
  exact ⟨_, rfl, hown4, hb3⟩

set_option maxHeartbeats 400000 in
set_option maxRecDepth 100000 in
theorem ref_text_calls (w : World) (s : List UInt8) (hs : s.length ≤ 1000000000) :
    Calls Try.prog 24 #[.string (str s)] w fun e w' => e = .returned (.string (str (textB s))) ∧ Below w.heap.size w w' := by
  have hm64 : Lt64 s.length := by unfold Lt64; omega
  have Hnum := Lib.hid (var_ref_num_calls w s.length hm64)
  have hnl : (str (VarPlain.num s.length)).size ≤ 10 := num_len s.length hm64
  have hsl : (str s).size ≤ 1000000000 := hs
  have hse : (str s).size = s.length := rfl
  have Hf : Hid (str (VarPlain.num s.length) ++ str s = str (textB s)) := str_append _ _
  have Hse := Lib.hid hse
  rw [← Hse.out] at Hnum
  clear hse
  have Hnn : Hid (str (VarPlain.num (str s).size) = str (VarPlain.num s.length)) := rfl
  rw [← Hnn.out] at hnl Hf
  go_enter Try.func24, Try.ntmps24
  go_wp2_with fail
  refine Hnum.out.mono ?_
  rintro e w1 ⟨rfl, hb1⟩
  have Hb1 := Lib.hid hb1; clear hb1
  go_wp2_with fail
  go_ret
  exact ⟨by rw [← Hf.out]; rfl, Hb1.out⟩

set_option maxHeartbeats 400000 in
set_option maxRecDepth 100000 in
theorem ref_row_calls (w : World) (a : Option Addr) (n cap : Nat) (l : List (List UInt8)) (h : Strs w a n cap l) (hs : n ≤ 1000000) (ht : (texts l).length ≤ 100000000) :
    Calls Try.prog 29 #[.slice a n cap] w fun e w' => e = .returned (.string (str (rowB l))) ∧ Below w.heap.size w w' := by
  have Hn := Lib.hid h.1
  have hm64 : Lt64 n := by unfold Lt64; omega
  have HT : Hid (∀ k, (texts (l.take k)).length ≤ 100000000) := fun k => Nat.le_trans (texts_take_le l k) ht
  have HTm : Hid (∀ s ∈ l, s.length ≤ 100000000) := fun s hs => Nat.le_trans (texts_part2 l s hs) ht
  have Hnum := Lib.hid (var_ref_num_calls w n hm64)
  have hnl := num_len n hm64
  have HR : Hid (rowB l = VarPlain.num n ++ texts l) := by show _ = _; unfold rowB; rw [Hn.out]
  have H0 := Lib.hid h; clear h ht
  generalize hB : w.heap.size = B
  have HB := Lib.hid hB; clear hB
  have HBel : Hid (∀ wx, Below B w wx → Below w.heap.size w wx) := fun wx hx => by rw [HB.out]; exact hx
  go_enter Try.func29, Try.ntmps29
  go_wp2_with fail
  refine Hnum.out.mono ?_
  rintro e w1 ⟨rfl, hb1⟩
  rw [HB.out] at hb1
  have hs1 : B ≤ w1.heap.size := by have := hb1.size; rw [HB.out] at this; exact this
  have H00 : Hid (str (VarPlain.num n ++ texts (l.take 0)) = str (VarPlain.num n)) := by show _ = _; simp [texts]
  go_wp2_with fail
  go_loopw [3, 4] (fun s i wr => ∃ k : Nat, k ≤ n ∧ i = .int .i64 k ∧ s = .string (str (VarPlain.num n ++ texts (l.take k))) ∧ Below B w wr ∧ B ≤ wr.heap.size) (fun _ i _ => n - (intOf i).toNat)
  case atStart => exact ⟨0, Nat.zero_le _, rfl, by rw [H00.out], hb1, hs1⟩
  case round =>
    clear hb1 hs1 H00
    obtain ⟨k, hk, rfl, rfl, hbel, hBs⟩ := hrel
    by_cases hlt : k < n
    · have hkl : k < l.length := by rw [← Hn.out]; exact hlt
      obtain ⟨b, off, hrow, hidx⟩ := at_strs (H0.out.below stable_strAt (HBel.out _ hbel))
      have hc := hrow k hkl
      have hix := hidx .i64 k wr hlt
      have hsl := HTm.out l[k] (List.getElem_mem hkl)
      have Hsn : Hid (texts (l.take (k + 1)) = texts (l.take k) ++ textB l[k]) := by
        show _ = _
        rw [List.take_succ_eq_append_getElem hkl, texts_textB]
      have hpl := HT.out k
      clear hrow hidx
      generalize l[k]'hkl = s at *
      have Htx := Lib.hid (ref_text_calls wr s (by omega))
      have htl := textB_len s (by unfold Lt64; omega)
      have h1 : (str (VarPlain.num n ++ texts (l.take k))).size ≤ 100000010 := by rw [str_size, List.length_append]; omega
      have h2 : (str (textB s)).size ≤ 100000010 := by rw [str_size]; omega
      clear hpl htl
      have Hcat : Hid (str (VarPlain.num n ++ texts (l.take k)) ++ str (textB s) = str (VarPlain.num n ++ texts (l.take (k + 1)))) := by
        show _ = _
        rw [str_append, Hsn.out, List.append_assoc]
      generalize str (VarPlain.num n ++ texts (l.take k)) = pre at *
      generalize str (textB s) = ts at *
      go_wp2_with fail
      refine Htx.out.mono ?_
      rintro e w2 ⟨rfl, hb2⟩
      have hb2' := hbel.trans (hb2.mono hBs)
      have hs2 : B ≤ w2.heap.size := Nat.le_trans hBs hb2.size
      clear hb2 hbel hBs hc hix
      go_wp2_with fail
      go_roundw
      case rel => exact ⟨k + 1, by omega, by go_num, by rw [Hcat.out], hb2', hs2⟩
      case measure => simp [intOf]; omega
    · obtain rfl : n = k := by omega
      have ht : l.take n = l := List.take_of_length_le (by rw [← Hn.out]; exact Nat.le_refl _)
      rw [ht]
      clear ht
      go_wp2_with fail
      go_ret
      exact ⟨by rw [HR.out]; rfl, hbel⟩

end Go.Proofs.Ytgbnfipbedlmhaa
