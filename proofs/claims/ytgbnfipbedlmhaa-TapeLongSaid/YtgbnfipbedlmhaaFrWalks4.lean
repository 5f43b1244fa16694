/-
  frame.Put: the frames of rows. Conditions: the rows can be read; none is longer than 65536 bytes; together they are not too many.
-/
import Derived.Test.YtgbnfipbedlmhaaFrWalks2
set_option linter.unusedVariables false
namespace Go.Proofs.Ytgbnfipbedlmhaa
open Go.RowKit Base

theorem framesB_take_le (ls : List (List UInt8)) (k : Nat) : (framesB (ls.take k)).length ≤ (framesB ls).length := by
  conv => rhs; rw [framesB_split ls k]
  rw [List.length_append]
  omega

set_option maxHeartbeats 2000000 in
set_option maxRecDepth 100000 in
theorem frame_put_calls (w : World) (a : Option Addr) (n cap : Nat) (ls : List (List UInt8)) (h : ByteRows w a n cap ls) (hr : ∀ l ∈ ls, l.length ≤ 65536) (hs : (framesB ls).length ≤ 100000000) :
    Calls Try.prog 17 #[.slice a n cap] w fun e w' => ∃ v, e = .returned v ∧ w'.ownsRow w.heap.size 5 1 v (framesB ls).length ((framesB ls).map bv) ∧ Below w.heap.size w w' := by
  obtain ⟨i0, hi, hz0, hz1, hz2⟩ := info_parts info_u8
  have hcap := h.2.2.1
  have hnc := h.2.1
  unfold maxLen at hcap
  have Hn := Lib.hid h.1
  have H0 := Lib.hid h; clear h
  have HR := Lib.hid hr; clear hr
  obtain ⟨fr, hfr⟩ : ∃ fr : Nat → List UInt8, ∀ k, fr k = framesB (ls.take k) := ⟨fun k => framesB (ls.take k), fun _ => rfl⟩
  have F0 : Hid (fr 0 = []) := by show _ = _; rw [hfr]; rfl
  have FN : Hid (fr n = framesB ls) := by show _ = _; rw [hfr, List.take_of_length_le (by rw [← Hn.out]; exact Nat.le_refl _)]
  have FSq : Hid (∀ k (hk : k < ls.length), fr (k + 1) = fr k ++ oneF ls[k]) := fun k hk => by rw [hfr, hfr]; exact framesB_take ls k hk
  have FL : Hid (∀ k, (fr k).length ≤ 100000000) := fun k => by rw [hfr]; exact Nat.le_trans (framesB_take_le ls k) hs
  clear hfr hs
  rw [← FN.out]
  generalize hB : w.heap.size = B
  have HB := Lib.hid hB; clear hB
  have hbb : B ≤ w.heap.size := by rw [HB.out]; exact Nat.le_refl _
  have HBel : Hid (∀ wx, Below B w wx → Below w.heap.size w wx) := fun wx hx => by rw [HB.out]; exact hx
  go_enter Try.func17, Try.ntmps17
  go_wp2_with fail
  go_loopw [3, 8] (fun v i wr => ∃ k : Nat, k ≤ n ∧ i = .int .i64 k ∧ wr.ownsRow B 5 1 v (fr k).length ((fr k).map bv) ∧ Below B w wr ∧ B ≤ wr.heap.size) (fun _ i _ => n - (intOf i).toNat)
  case atStart => exact ⟨0, Nat.zero_le _, rfl, by rw [F0.out]; exact World.ownsRow_nil _ _ _ _, Below.refl _ _, hbb⟩
  case round =>
    obtain ⟨k, hk, rfl, hown, hbel, hBs⟩ := hrel
    by_cases hlt : k < n
    · have hkl : k < ls.length := by rw [← Hn.out]; exact hlt
      obtain ⟨b, off, hrow, hidx⟩ := at_rows (H0.out.below stable_bytesCell (HBel.out _ hbel))
      obtain ⟨ar, cr, hc, hbr⟩ := hrow k hkl
      have hix := fun w' => hidx .i64 k w' hlt
      have hrl := HR.out _ (List.getElem_mem hkl)
      have HS := Lib.hid (FSq.out k hkl)
      have hf1 := FL.out k
      have hf2 := FL.out (k + 1)
      rw [HS.out, List.length_append] at hf2
      clear hrow hidx
      generalize ls[k]'hkl = r at *
      have Hone := Lib.hid (frame_one_calls wr ar r.length cr r hbr (by omega))
      have d1 : decide ((65536 : Int) < (r.length : Int)) = false := by simp; omega
      have d2 : ¬ (65536 : Int) < (r.length : Int) := by omega
      have Hown := Lib.hid hown
      obtain ⟨av, cv, rfl, _, _, _, _⟩ := ownsRow_slice Hown.out
      clear hbr hown
      generalize oneF r = fo at *
      go_wp2_with fail
      refine Hone.out.mono ?_
      rintro e w1 ⟨v1, rfl, hown1, hb1⟩
      obtain ⟨a1, c1, rfl, hrow1⟩ := ownsRow_bytes hown1
      have hownA := ownsRow_below Hown.out hb1
      have hbA := hbel.trans (hb1.mono hBs)
      have hsA : B ≤ w1.heap.size := Nat.le_trans hBs hb1.size
      clear hown1 hb1 Hown Hone hc hix
      go_wp2_with (at_builtin; refine wpList_append_src rfl (.tmp 15) (.tmp 17) 28 28 rfl B 5 i0 (.int .u8 0) 1 1 Try.underlying28 (append_side Try.underlying28) hi hz0 hz1 hz2 rfl (by decide) (by decide) _ (fr k).length _ rfl hownA _ fo.length _ rfl (src_bytes hrow1) ?_ ?_ ?_ ?_)
      case _ => unfold maxLen; omega
      case _ => omega
      case _ => omega
      intro v2 w2 hown2 hg2 _
      have hb2 : Below B w w2 := hbA.grown hg2 (by omega) (fun j hj => (hownA.lt j hj).1)
      have hs2 : B ≤ w2.heap.size := Nat.le_trans hsA hg2.size
      have hown3 : w2.ownsRow B 5 1 v2 (fr (k + 1)).length ((fr (k + 1)).map bv) := by
        rw [HS.out, List.length_append, List.map_append]
        exact hown2
      clear hg2 hownA hbA hsA hrow1 hown2
      go_wp2_with fail
      go_roundw
      case rel => exact ⟨k + 1, by omega, by go_num, hown3, hb2, hs2⟩
      case measure => simp [intOf]; omega
    · obtain rfl : n = k := by omega
      have Hown := Lib.hid hown
      clear hown
      go_wp2_with fail
      go_ret
      exact ⟨_, rfl, Hown.out, hbel⟩

end Go.Proofs.Ytgbnfipbedlmhaa
