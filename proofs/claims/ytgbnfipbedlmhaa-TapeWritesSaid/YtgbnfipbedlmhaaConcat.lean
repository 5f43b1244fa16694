/-
  slices.Grow at nil and slices.Concat, of bytes: each computes what the plain mathematics says. Conditions: the rows can be read; they are not longer than a thousand million bytes together.
-/
import Derived.Test.YtgbnfipbedlmhaaWords
import Derived.Lib.AppendZeros
set_option linter.unusedVariables false
namespace Go.Proofs.Ytgbnfipbedlmhaa
open Go.RowKit Base

theorem int_slot : Try.prog.underlying 3 = some (.int .i64) := Try.underlying3

set_option maxHeartbeats 400000 in
set_option maxRecDepth 100000 in
theorem grow_calls (w : World) (n : Nat) (hs : n ≤ 1000000000) :
    Calls Try.prog 63 #[.slice none 0 0, .int .i64 (n : Int)] w fun e w' => ∃ v, e = .returned v ∧ w'.ownsRow w.heap.size 5 1 v 0 (([] : List UInt8).map bv) ∧ Below w.heap.size w w' := by
  obtain ⟨i0, hi, hz0, hz1, hz2⟩ := info_parts info_u8
  rcases Nat.eq_zero_or_pos n with h0 | h0
  · subst h0
    go_enter Try.func63, Try.ntmps63
    go_wp2_with fail
    go_ret
    exact ⟨_, rfl, World.ownsRow_nil _ _ _ _, Below.refl _ _⟩
  · have h1 : (0 : Int) < (n : Int) := by omega
    have hg0 := grownCap_ge w n 0 5
    have hgm := grownCap_le_maxLen w n 0 5 (by unfold maxLen; omega)
    have hap : ∀ ty, (Builtin.append_ #[28, 3] ty #[.slice none 0 0, .int .i64 (n : Int)]).run Try.prog w = _ := fun ty => Lib.run_append_nil_zeros (P := Try.prog) w 28 3 ty 5 i0 (.int .u8 0) .i64 .i64 Try.underlying28 Try.underlying3 hi hz0 n h0 (by rw [hz1]; decide) (by omega) (by rw [hz2]; omega)
    have hfin : (w.drew.alloc (.cells (Builtin.zeroCells (Value.int .u8 0).cells n ++ Builtin.zeroCells (Value.int .u8 0).cells (grownCap w n 0 5 - n)) 5)).ownsRow w.heap.size 5 1 (.slice (some ⟨w.heap.size, 0, none⟩) 0 (grownCap w n 0 5)) 0 (([] : List UInt8).map bv) := by
      refine ⟨rfl, .inr ⟨w.heap.size, _, _, rfl, Nat.le_refl _, heap_alloc_new w.drew _, Nat.zero_le _, hgm, ?_, rfl⟩⟩
      rw [Array.size_append, size_zeroCells, size_zeroCells]
      show n * 1 + (grownCap w n 0 5 - n) * 1 = grownCap w n 0 5 * 1
      omega
    have Hfin := Lib.hid hfin; clear hfin
    have hbel : Below w.heap.size w (w.drew.alloc (.cells (Builtin.zeroCells (Value.int .u8 0).cells n ++ Builtin.zeroCells (Value.int .u8 0).cells (grownCap w n 0 5 - n)) 5)) := (Below.refl _ _).drew.alloc (Nat.le_refl _) _
    have Hbel := Lib.hid hbel; clear hbel
    have Hap := Lib.hid hap; clear hap
    unfold maxLen at hgm
    have hcapi : ((grownCap w n 0 5 : Nat) : Int) ≤ 9223372036854775807 := by omega
    go_enter Try.func63, Try.ntmps63
    go_wp2_with (at_builtin; refine Lib.wpList_append_run _ rfl (.tmp 20) (.tmp 21) 28 3 rfl _ _ rfl rfl _ _ (Hap.out _) ?_)
    go_ret
    exact ⟨_, rfl, Hfin.out, Hbel.out⟩

theorem flat_take_le (ls : List (List UInt8)) (k : Nat) : (ls.take k).flatten.length ≤ ls.flatten.length := by
  conv => rhs; rw [← List.take_append_drop k ls]
  rw [List.flatten_append, List.length_append]
  omega
theorem take_flat1 {α : Type} (ls : List (List α)) (k : Nat) (h : k < ls.length) : (ls.take (k + 1)).flatten = (ls.take k).flatten ++ ls[k] := by
  rw [List.take_succ_eq_append_getElem h, List.flatten_append]; simp

set_option maxHeartbeats 1000000 in
set_option maxRecDepth 100000 in
theorem concat_calls (w : World) (a : Option Addr) (n cap : Nat) (ls : List (List UInt8)) (h : ByteRows w a n cap ls) (hs : ls.flatten.length ≤ 1000000000) :
    Calls Try.prog 38 #[.slice a n cap] w fun e w' => ∃ v, e = .returned v ∧ w'.ownsRow w.heap.size 5 1 v ls.flatten.length (ls.flatten.map bv) ∧ Below w.heap.size w w' := by
  obtain ⟨i0, hi, hz0, hz1, hz2⟩ := info_parts info_u8
  have hcap := h.2.2.1
  have hnc := h.2.1
  unfold maxLen at hcap
  have Hn := Lib.hid h.1
  have H0 := Lib.hid h; clear h
  obtain ⟨fl, hfl⟩ : ∃ fl : Nat → List UInt8, ∀ k, fl k = (ls.take k).flatten := ⟨fun k => (ls.take k).flatten, fun _ => rfl⟩
  have F0 : Hid (fl 0 = []) := by show _ = _; rw [hfl]; rfl
  have FN : Hid (fl n = ls.flatten) := by show _ = _; rw [hfl, List.take_of_length_le (by rw [← Hn.out]; exact Nat.le_refl _)]
  have FSq : Hid (∀ k (hk : k < ls.length), fl (k + 1) = fl k ++ ls[k]) := fun k hk => by rw [hfl, hfl]; exact take_flat1 ls k hk
  have FL : Hid (∀ k, (fl k).length ≤ 1000000000) := fun k => by rw [hfl]; exact Nat.le_trans (flat_take_le ls k) hs
  clear hfl hs
  rw [← FN.out]
  generalize hB : w.heap.size = B
  have HB := Lib.hid hB; clear hB
  have hbb : B ≤ w.heap.size := by rw [HB.out]; exact Nat.le_refl _
  have HBel : Hid (∀ wx, Below B w wx → Below w.heap.size w wx) := fun wx hx => by rw [HB.out]; exact hx
  go_enter Try.func38, Try.ntmps38
  go_wp2_with fail
  go_loop [3, 11] (fun s i => ∃ k : Nat, k ≤ n ∧ i = .int .i64 k ∧ s = .int .i64 (((fl k).length : Nat) : Int)) (fun _ i => n - (intOf i).toNat)
  case atStart => exact ⟨0, Nat.zero_le _, rfl, by rw [F0.out]; rfl⟩
  case round =>
    obtain ⟨k, hk, rfl, rfl⟩ := hrel
    have hle2 := FL.out k
    by_cases hlt : k < n
    · have hkl : k < ls.length := by rw [← Hn.out]; exact hlt
      obtain ⟨b, off, hrow, hidx⟩ := at_rows H0.out
      obtain ⟨a1, c1, hc, hbr⟩ := hrow k hkl
      have hix := hidx .i64 k w hlt
      have hsn := congrArg List.length (FSq.out k hkl)
      rw [List.length_append] at hsn
      have hle4 : (fl k).length + ls[k].length ≤ 1000000000 := by have := FL.out (k + 1); omega
      have Hsn := Lib.hid hsn
      clear hrow hidx hsn hbr
      generalize ls[k]'hkl = s at *
      generalize (fl k).length = L at *
      go_wp2_with fail
      go_round
      case rel => exact ⟨k + 1, by omega, by go_num, by rw [Hsn.out]; go_num⟩
      case measure => simp [intOf]; omega
    · obtain rfl : n = k := by omega
      have Hgr := Lib.hid (grow_calls w (fl n).length hle2)
      rw [HB.out] at Hgr
      have hneg : (0 : Int) ≤ (((fl n).length : Nat) : Int) := by omega
      go_wp2_with fail
      refine Hgr.out.mono ?_
      rintro e w1 ⟨v1, rfl, hown1, hb1⟩
      have hs1 : B ≤ w1.heap.size := by have := hb1.size; omega
      have Hown1 : Hid (w1.ownsRow B 5 1 v1 (fl 0).length ((fl 0).map bv)) := by rw [F0.out]; exact hown1
      clear hown1
      go_wp2_with fail
      go_loopw [6, 27] (fun v i wr => ∃ k : Nat, k ≤ n ∧ i = .int .i64 k ∧ wr.ownsRow B 5 1 v (fl k).length ((fl k).map bv) ∧ Below B w wr ∧ B ≤ wr.heap.size) (fun _ i _ => n - (intOf i).toNat)
      case atStart => exact ⟨0, Nat.zero_le _, rfl, Hown1.out, hb1, hs1⟩
      case round =>
        clear Hown1 hb1 hs1
        obtain ⟨k, hk, rfl, hown, hbel, hBs⟩ := hrel
        by_cases hlt : k < n
        · have hkl : k < ls.length := by rw [← Hn.out]; exact hlt
          obtain ⟨b, off, hrow, hidx⟩ := at_rows (H0.out.below stable_bytesCell (HBel.out _ hbel))
          obtain ⟨a1, c1, hc, hbr⟩ := hrow k hkl
          have hix := hidx .i64 k wr hlt
          have Hsn := Lib.hid (FSq.out k hkl)
          have hsn := congrArg List.length (FSq.out k hkl)
          rw [List.length_append] at hsn
          have hle4 : (fl k).length + ls[k].length ≤ 1000000000 := by have := FL.out (k + 1); omega
          clear hrow hidx hsn
          generalize ls[k]'hkl = s at *
          generalize fl k = pre at *
          obtain ⟨av, cv, rfl, _, _, _, _⟩ := ownsRow_slice hown
          go_wp2_with (at_builtin; refine wpList_append_src rfl (.tmp 31) (.tmp 32) 28 28 rfl B 5 i0 (.int .u8 0) 1 1 Try.underlying28 (append_side Try.underlying28) hi hz0 hz1 hz2 rfl (by decide) (by decide) _ pre.length _ rfl hown _ s.length _ rfl (src_bytes hbr) ?_ ?_ ?_ ?_)
          case _ => unfold maxLen; omega
          case _ => omega
          case _ => omega
          intro v2 w2 hown2 hg2 _
          have hb2 : Below B w w2 := hbel.grown hg2 hBs (fun j hj => (hown.lt j hj).1)
          have hs2 : B ≤ w2.heap.size := Nat.le_trans hBs hg2.size
          have hown3 : w2.ownsRow B 5 1 v2 (fl (k + 1)).length ((fl (k + 1)).map bv) := by
            rw [Hsn.out, List.length_append, List.map_append]
            exact hown2
          clear hown2 hg2 hown hbel hBs hc hix hbr
          go_wp2_with fail
          go_roundw
          case rel => exact ⟨k + 1, by omega, by go_num, hown3, hb2, hs2⟩
          case measure => simp [intOf]; omega
        · obtain rfl : n = k := by omega
          go_wp2_with fail
          go_ret
          exact ⟨_, rfl, hown, hbel⟩

end Go.Proofs.Ytgbnfipbedlmhaa
