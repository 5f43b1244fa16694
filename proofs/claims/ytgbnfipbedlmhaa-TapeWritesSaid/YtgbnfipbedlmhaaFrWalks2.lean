/-
  frame.one: a row's frame. Conditions: the row can be read; it is not longer than 100000 bytes.
-/
import Derived.Test.YtgbnfipbedlmhaaFrWalks1
import Derived.Test.YtgbnfipbedlmhaaFrPlain
import Derived.Test.YtgbnfipbedlmhaaCrcWalks
import Derived.Test.YtgbnfipbedlmhaaConcat
set_option linter.unusedVariables false
namespace Go.Proofs.Ytgbnfipbedlmhaa
open Go.RowKit Base

theorem one_flat (l : List UInt8) : [VarPlain.num l.length, l].flatten = headed l := by simp [headed]
theorem one_flat3 (l : List UInt8) : [VarPlain.num l.length, l, CrcPlain.tail (CrcPlain.of (headed l))].flatten = oneF l := by simp [oneF, headed]
theorem two_rows {w : World} {a b : Option Addr} {n m ca cb : Nat} {l k : List UInt8} (h1 : Bytes w a n ca l) (h2 : Bytes w b m cb k) (e : TypeId) :
    ByteRows (w.alloc (.cells #[.slice a n ca, .slice b m cb] e)) (some ⟨w.heap.size, 0, none⟩) 2 2 [l, k] := by
  obtain rfl : n = l.length := h1.1
  obtain rfl : m = k.length := h2.1
  exact rows_lit w [.slice a l.length ca, .slice b k.length cb] [l, k] e (by simp [maxLen]) ⟨⟨_, _, rfl, h1⟩, ⟨_, _, rfl, h2⟩, trivial⟩
theorem three_rows {w : World} {a b c : Option Addr} {n m p ca cb cc : Nat} {l k j : List UInt8} (h1 : Bytes w a n ca l) (h2 : Bytes w b m cb k) (h3 : Bytes w c p cc j) (e : TypeId) :
    ByteRows (w.alloc (.cells #[.slice a n ca, .slice b m cb, .slice c p cc] e)) (some ⟨w.heap.size, 0, none⟩) 3 3 [l, k, j] := by
  obtain rfl : n = l.length := h1.1
  obtain rfl : m = k.length := h2.1
  obtain rfl : p = j.length := h3.1
  exact rows_lit w [.slice a l.length ca, .slice b k.length cb, .slice c j.length cc] [l, k, j] e (by simp [maxLen]) ⟨⟨_, _, rfl, h1⟩, ⟨_, _, rfl, h2⟩, ⟨_, _, rfl, h3⟩, trivial⟩

set_option maxHeartbeats 2000000 in
set_option maxRecDepth 100000 in
theorem frame_one_calls (w : World) (a : Option Addr) (n cap : Nat) (l : List UInt8) (h : Bytes w a n cap l) (hs : n ≤ 100000) :
    Calls Try.prog 30 #[.slice a n cap] w fun e w' => ∃ v, e = .returned v ∧ w'.ownsRow w.heap.size 5 1 v (oneF l).length ((oneF l).map bv) ∧ Below w.heap.size w w' := by
  obtain rfl : n = l.length := h.1
  have hcap := h.2.2.1
  have hnc := h.2.1
  unfold maxLen at hcap
  have hL : Lt64 l.length := by unfold Lt64; omega
  have hnl := num_len l.length hL
  have H0 := Lib.hid h; clear h
  have F2 : Hid (CrcPlain.add 0#32 [VarPlain.num l.length, l].flatten = CrcPlain.of (headed l)) := by show _ = _; rw [one_flat]; rfl
  have F3 := Lib.hid (one_flat3 l)
  have FL : Hid ((oneF l).length ≤ 1000000000) := by show _ ≤ _; rw [oneF_len]; omega
  have Hput := Lib.hid (var_put_calls (w.alloc (.cells #[.int .u64 ((l.length : Nat) : Int)] 62)) (some ⟨w.heap.size, 0, none⟩) 1 1 [l.length] (u64_one w l.length 62) (by intro x hx; simp at hx; subst hx; exact hL) (by decide))
  have HBA := Lib.hid ((Below.refl w.heap.size w).alloc (Nat.le_refl _) (.cells #[.int .u64 ((l.length : Nat) : Int)] 62))
  rw [nums_one] at Hput
  have hl64 : ((l.length : Nat) : Int) ≤ 100000 := by omega
  generalize VarPlain.num l.length = nb at *
  generalize CrcPlain.of (headed l) = s at *
  generalize oneF l = fr at *
  have hslt := s.isLt
  go_enter Try.func30, Try.ntmps30
  go_wp2_with fail
  refine Hput.out.mono ?_
  rintro e w1 ⟨v1, rfl, hown1, hb1⟩
  have HB1 : Hid (Below w.heap.size w w1) := HBA.out.trans (hb1.mono HBA.out.size)
  obtain ⟨a1, c1, rfl, hrow1⟩ := ownsRow_bytes hown1
  have hc1 := hrow1.2.2.1
  have hn1 := hrow1.2.1
  unfold maxLen at hc1
  have H1 := Lib.hid (H0.out.below stable_byteAt HB1.out)
  have HR := Lib.hid (two_rows hrow1 H1.out 28)
  have hba := (Below.refl w1.heap.size w1).alloc (Nat.le_refl _) (.cells #[.slice a1 nb.length c1, .slice a l.length cap] 28)
  have HB2 : Hid (Below w.heap.size w (w1.alloc (.cells #[.slice a1 nb.length c1, .slice a l.length cap] 28))) := HB1.out.trans (hba.mono HB1.out.size)
  have Hr2 := Lib.hid (hrow1.below stable_byteAt hba)
  have H2 := Lib.hid (H1.out.below stable_byteAt hba)
  clear hown1 hb1 hrow1 HBA Hput H1 HB1 hba
  go_wp2_with fail
  refine (crc_new_calls _).mono ?_
  rintro e w' ⟨rfl, rfl⟩
  go_wp2_with fail
  refine (crc_add_calls 0#32 _ _ _ _ [nb, l] HR.out).mono ?_
  rintro e w' ⟨rfl, rfl⟩
  rw [F2.out]
  clear HR
  generalize hX : w1.alloc (.cells #[.slice a1 nb.length c1, .slice a l.length cap] 28) = w2 at *
  clear hX
  go_wp2_with fail
  refine (crc_tail_calls _ s).mono ?_
  rintro e w3 ⟨v3, rfl, hown3, hb3⟩
  obtain ⟨a3, c3, rfl, hrow3⟩ := ownsRow_bytes hown3
  have HB3 : Hid (Below w.heap.size w w3) := HB2.out.trans (hb3.mono HB2.out.size)
  have HR3 := Lib.hid (three_rows (Hr2.out.below stable_byteAt hb3) (H2.out.below stable_byteAt hb3) hrow3 28)
  have hba := (Below.refl w3.heap.size w3).alloc (Nat.le_refl _) (.cells #[.slice a1 nb.length c1, .slice a l.length cap, .slice a3 4 c3] 28)
  have HB4 : Hid (Below w.heap.size w (w3.alloc (.cells #[.slice a1 nb.length c1, .slice a l.length cap, .slice a3 4 c3] 28))) := HB3.out.trans (hba.mono HB3.out.size)
  clear hown3 hb3 hrow3 Hr2 H2 HB2 HB3 hba
  go_wp2_with fail
  refine (concat_calls _ _ _ _ [nb, l, CrcPlain.tail s] HR3.out (by rw [F3.out]; exact FL.out)).mono ?_
  rintro e w5 ⟨v5, rfl, hown5, hb5⟩
  rw [F3.out] at hown5
  go_wp2_with fail
  go_ret
  exact ⟨_, rfl, ownsRow_mono hown5 HB4.out.size, HB4.out.trans (hb5.mono HB4.out.size)⟩

end Go.Proofs.Ytgbnfipbedlmhaa
