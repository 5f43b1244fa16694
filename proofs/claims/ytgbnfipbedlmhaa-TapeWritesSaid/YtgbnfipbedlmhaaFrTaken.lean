/-
  frame.taken and the function that it hands back: the rows of bytes, one by one. Conditions: the bytes can be read; they are not too many.
-/
import Derived.Test.YtgbnfipbedlmhaaFrLaw
import Derived.Shelf.Abstract
import Derived.WalkKit
import Derived.OwnWalkIn
import Derived.TacticsInMore
import Derived.LoopNIn
import Derived.LoopIn
set_option linter.unusedVariables false
namespace Go.Proofs.Ytgbnfipbedlmhaa
open Go.RowKit Base

theorem frame_taken_calls (w : World) (a : Option Addr) (n cap : Nat) : Calls Try.prog 47 #[.slice a n cap] w fun e w' => e = .returned (.func (.func 64) #[] #[.pointer (some ⟨w.heap.size, 0, none⟩)]) ∧ w' = w.alloc (.cells #[.slice a n cap] 28) := by
  go_enter Try.func47, Try.ntmps47
  go_wp2_with fail
  go_ret
  exact ⟨rfl, rfl⟩

/-- How many bytes are left, read off the world. -/
def leftN (q : Nat) (w : World) : Nat := match w.cell? ⟨q, 0, none⟩ with
  | some (.slice _ n _) => n
  | _ => 0
theorem leftN_eq {q : Nat} {w : World} {a : Option Addr} {n c : Nat} (h : w.cell? ⟨q, 0, none⟩ = some (.slice a n c)) : leftN q w = n := by unfold leftN; rw [h]
theorem drop_st (b : List UInt8) (k : Nat) : b.drop (stF b (k + 1)).2 = (b.drop (stF b k).2).drop (takeF (b.drop (stF b k).2)).2.1 := by
  rw [List.drop_drop]; rfl

theorem grown_setF (W : World) (g i : Nat) (v : Value) : W.grownBy (W.setCell ⟨g, i, none⟩ v) (some g) :=
  ⟨rfl, rfl, rfl, by show W.heap.size ≤ (W.heap.modify _ _).size; rw [Array.size_modify]; exact Nat.le_refl _, fun k _ hk => Below.heap_setCell _ _ _ k (fun e => hk (by rw [e]))⟩

set_option maxHeartbeats 2000000 in
set_option maxRecDepth 100000 in
theorem taken_seq (w0 w : World) (a : Option Addr) (n cap : Nat) (b : List UInt8) (hB : Bytes w0 a n cap b) (hs : n ≤ 100000000) (q : Nat) (hb : Below w0.heap.size w0 w) (hq0 : w0.heap.size ≤ q)
    (hqc : w.heap[q]? = some (.cells #[.slice a n cap] 28)) :
    SeqSt Try.prog 64 #[.pointer (some ⟨q, 0, none⟩)] w0.heap.size q 5 (fun k => ((takeF (b.drop (stF b k).2)).2.1 : Int)) (fun k => (takeF (b.drop (stF b k).2)).1) (fun k => GoodF b (k + 1)) (EndsF b) w := by
  intro l J W hW hJ hY h0
  have HqW : Hid (W.heap[q]? = some (.cells #[.slice a n cap] 28)) := (hW.block q (Array.getElem?_eq_some_iff.1 hqc).1).trans hqc
  have HbW : Hid (Below w0.heap.size w0 W) := hb.trans (hW.mono hb.size)
  have HB := Lib.hid hB
  have HJ := Lib.hid hJ
  have HY := Lib.hid hY
  have H0 := Lib.hid h0
  clear hqc hb hB hW hJ hY h0
  refine (callsIn_wide (n := 2)).1 ?_
  refine callsIn_of_wp Try.func64 rfl trivial ?_ rfl
  simp only [Try.ntmps64, List.size_toArray, List.length_cons, List.length_nil, Nat.reduceAdd, Nat.reduceSub, Array.replicate_succ, Array.replicate_zero, List.push_toArray, List.append_toArray, List.nil_append, List.cons_append]
  gi_wp2
  gi_loopw [3] (fun _ wr => ∃ (k : Nat) (a' : Option Addr) (c' : Nat), GoodF b k ∧ Bytes w0 a' (b.drop (stF b k).2).length c' (b.drop (stF b k).2) ∧ wr.heap[q]? = some (.cells #[.slice a' (b.drop (stF b k).2).length c'] 28) ∧ Below w0.heap.size w0 wr ∧ J k wr) (fun _ wr => leftN q wr)
  case atStart =>
    obtain rfl : n = b.length := HB.out.1
    exact ⟨0, a, cap, fun j hj => absurd hj (by omega), HB.out, HqW.out, HbW.out, H0.out⟩
  case round =>
    obtain ⟨k, a', c', hgood, hb', hqc, hbel, hJk⟩ := hrel
    have HEnd : Hid ((takeF (b.drop (stF b k).2)).2.2 ≠ 0 → EndsF b k) := fun h => ⟨hgood, h⟩
    have HGood := Lib.hid (fun h : (takeF (b.drop (stF b k).2)).2.2 = 0 => goodF_succ hgood h)
    have HYk := Lib.hid (fun v W0 W1 => HY.out k v W0 W1)
    have HD := Lib.hid (drop_st b k)
    have hle : (b.drop (stF b k).2).length ≤ 100000000 := by rw [List.length_drop]; have := HB.out.1; omega
    generalize b.drop (stF b k).2 = rest at *
    have Htk := Lib.hid (frame_take_calls wr a' rest.length c' rest (hb'.below stable_byteAt hbel) hle)
    have hok := @takeF_ok rest
    generalize takeF rest = t at *
    obtain ⟨row, num, e⟩ := t
    simp only [] at HEnd HGood HYk HD Htk hok
    have Hb' := Lib.hid hb'
    have hcap := hb'.2.2.1
    have hnc := hb'.2.1
    unfold maxLen at hcap
    have Hqc := Lib.hid hqc
    have HJk := Lib.hid hJk
    have hcell : wr.cell? ⟨q, 0, none⟩ = some (.slice a' rest.length c') := by simp [World.cell?, hqc]
    clear hgood hb' hqc hJk HqW HbW H0 HY
    gi_wp2
    refine ⟨trivial, callsIn_wide.2 (Htk.out.mono ?_)⟩
    rintro r w1 ⟨v, rfl, hown, hb1⟩
    obtain ⟨av, cv, rfl, _, _, _, _⟩ := ownsRow_slice hown
    have hgr : wr.grownBy w1 (some q) := ⟨hb1.os, hb1.tape, hb1.output, hb1.size, fun j hj _ => hb1.block j hj⟩
    have Hq1 : Hid (w1.heap[q]? = some (.cells #[.slice a' rest.length c'] 28)) := by show _ = _; rw [hb1.block q (Array.getElem?_eq_some_iff.1 Hqc.out).1]; exact Hqc.out
    have HJ1 : Hid (J k w1) := HJ.out k wr w1 HJk.out hgr
    have hbel1 : Below w0.heap.size w0 w1 := hbel.trans (hb1.mono hbel.size)
    by_cases he : e = 0
    case neg =>
      have t1 : (e == 0) = false := by rw [beq_eq_false_iff_ne]; exact he
      have t2 : (e != 0) = true := by rw [bne_iff_ne]; exact he
      have HE := Lib.hid (HEnd.out he)
      clear he HEnd HGood HYk hcell Htk hown hgr
      gi_wp2
      refine ⟨fun _ _ => trivial, ?_⟩
      gi_wp2
      refine bodyPost_ret (results_none rfl _ _ _) rfl ?_
      exact ⟨⟨_, rfl⟩, k, HE.out, HJ1.out⟩
    case pos =>
      subst he
      have HG2 := Lib.hid (HGood.out rfl)
      have HJJ := HJ
      obtain ⟨fn, tmps, assign, body, hy, hR⟩ := HYk.out (.slice av row.length cv) wr w1 HJk.out hgr (HGood.out rfl) hown
      clear HYk HGood HEnd HJ1 HJ hown hgr hcell Htk
      gi_wp2
      refine hR.mono ?_
      clear hR
      rintro r w3 ⟨rfl, hJ3, hkb, hkq⟩
      have hq3 : w3.heap[q]? = some (.cells #[.slice a' rest.length c'] 28) := hkq.trans Hq1.out
      have hc3 : w3.cell? ⟨q, 0, none⟩ = some (.slice a' rest.length c') := by simp [World.cell?, hq3]
      have hf3 : w3.frozen? ⟨q, 0, none⟩ = false := by simp [World.frozen?, hq3]
      obtain ⟨hn1, hn2, _⟩ := hok trivial
      obtain ⟨a2, hb2, hS2⟩ := sub_bytes Hb'.out num rest.length hn1 (Nat.le_refl _)
      rw [List.take_length] at hb2
      have hs2 : ∀ w', (Instr.slice 28 (.slice a' rest.length c') (some (.int .i64 (num : Int))) none none).run Try.prog w' = .ok (.slice a2 (rest.length - num) (c' - num)) w' := fun w' => (hS2 w').2.2 rfl .i64
      have hlr : (rest.drop num).length = rest.length - num := List.length_drop
      have HS := Lib.hid (heap_setCell_same w3 q 0 _ _ (.slice a2 (rest.length - num) (c' - num)) hq3)
      have HJ3 := Lib.hid (HJJ.out (k + 1) w3 (w3.setCell ⟨q, 0, none⟩ (.slice a2 (rest.length - num) (c' - num))) hJ3 (grown_setF _ _ _ _))
      have Hbel3 : Hid (Below w0.heap.size w0 (w3.setCell ⟨q, 0, none⟩ (.slice a2 (rest.length - num) (c' - num)))) := (hbel1.trans hkb).setCell hq0 _
      have Hb2 : Hid (Bytes w0 a2 (rest.drop num).length (c' - num) (rest.drop num)) := by rw [← hlr] at hb2; exact hb2
      clear hkb hkq hJ3 hq3 hb2 hS2
      gi_wp2
      go_roundw
      case rel => exact ⟨k + 1, a2, c' - num, HG2.out, by rw [HD.out]; exact Hb2.out, by rw [HD.out, hlr]; exact HS.out, Hbel3.out, HJ3.out⟩
      case measure =>
        have e1 : leftN q (w3.setCell ⟨q, 0, none⟩ (.slice a2 (rest.length - num) (c' - num))) = rest.length - num := leftN_eq (a := a2) (c := c' - num) (by have := HS.out; simp [World.cell?, this])
        have e2 : leftN q wr = rest.length := leftN_eq (a := a') (c := c') (by have := Hqc.out; simp [World.cell?, this])
        rw [e1, e2]
        omega

end Go.Proofs.Ytgbnfipbedlmhaa
