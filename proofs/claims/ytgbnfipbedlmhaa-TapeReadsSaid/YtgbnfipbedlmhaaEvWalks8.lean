/-
  Told computes what the plain mathematics says. Conditions: the bytes can be read; they are not too many.
-/
import Derived.Test.YtgbnfipbedlmhaaGEv3
set_option linter.unusedVariables false
set_option maxRecDepth 100000
namespace Go.Proofs.Ytgbnfipbedlmhaa
open Go.RowKit Base

set_option maxHeartbeats 16000000 in
set_option maxRecDepth 100000 in
theorem told_calls_at (w : World) (a : Option Addr) (ln cap : Nat) (b : List UInt8) (hb : Bytes w a ln cap b) (hs : ln ≤ 1000000000) :
    Calls Try.prog 33 #[.slice a ln cap] w fun r w' => ∃ a1 c1, r = .returned (.tuple #[ansV (toldA b) a1 c1, .int .i64 (toldE b)]) ∧ Strs w' a1 (toldA b).list.length c1 (toldA b).list ∧ Below w.heap.size w w' ∧ (∀ ad, a1 = some ad → w.heap.size ≤ ad.block) := by
  have hcap := hb.2.2.1
  unfold maxLen at hcap
  have hbA := (Below.refl w.heap.size w).alloc (Nat.le_refl _) (.cells #[.int .i64 0, .int .i64 0, .int .i64 0, .int .i64 0, .string ⟨#[]⟩, .slice none 0 0, .int .i64 0] 34)
  have HOpen := Lib.hid (open_calls _ a ln cap b (hb.below stable_byteAt hbA) hs)
  have HG0 : Hid ((w.alloc (.cells #[.int .i64 0, .int .i64 0, .int .i64 0, .int .i64 0, .string ⟨#[]⟩, .slice none 0 0, .int .i64 0] 34)).heap[w.heap.size]? = some (.cells #[.int .i64 0, .int .i64 0, .int .i64 0, .int .i64 0, .string ⟨#[]⟩, .slice none 0 0, .int .i64 0] 34)) := heap_alloc_new w _
  clear hb
  go_enter Try.func33, Try.ntmps33
  go_wp2_with fail
  refine HOpen.out.mono ?_
  rintro r w1 ⟨q, rfl, hq1, hq2, hrd, hb1⟩
  have hqg : w.heap.size < q := by simp at hq1; omega
  have hsz1 : q < w1.heap.size := hq2
  have HG : Hid (w1.heap[w.heap.size]? = some (.cells #[.int .i64 0, .int .i64 0, .int .i64 0, .int .i64 0, .string ⟨#[]⟩, .slice none 0 0, .int .i64 0] 34)) := by show _ = _; rw [hb1.block _ (by simp)]; exact HG0.out
  have HB : Hid (Below w.heap.size w w1) := hbA.trans (hb1.mono (by simp))
  have Hrd := Lib.hid hrd
  clear hrd hb1 hbA HOpen HG0 hq1 hq2
  have Hst := Lib.hid (rd_num_calls w1 q _ _ Hrd.out)
  change Hid (Calls _ _ _ _ fun r w' => r = .returned (.int .u64 ((t1 b).1 : Int)) ∧ Rd w' q (t1 b).2.1 (t1 b).2.2 ∧ w1.grownBy w' (some q)) at Hst
  go_wp2_with fail
  refine Hst.out.mono ?_
  rintro r w2 ⟨rfl, hrd, hg⟩
  have HG : Hid (w2.heap[w.heap.size]? = some (.cells #[.int .i64 0, .int .i64 0, .int .i64 0, .int .i64 0, .string ⟨#[]⟩, .slice none 0 0, .int .i64 0] 34)) := by show _ = _; rw [hg.block _ (by omega) (by intro e; simp at e; omega)]; exact HG.out
  have hsz2 : q < w2.heap.size := Nat.lt_of_lt_of_le hsz1 hg.size
  have HB : Hid (Below w.heap.size w w2) := HB.out.grown hg (by omega) (fun j hj => by simp at hj; omega)
  have Hrd := Lib.hid hrd
  clear hrd hg Hst
  go_wp2_with fail
  refine (ev_small_calls _ _ (next_lt64 _ _) 12 (by decide)).mono ?_
  rintro r w' ⟨rfl, rfl⟩
  have Hst := Lib.hid (rd_num_calls w2 q _ _ Hrd.out)
  change Hid (Calls _ _ _ _ fun r w' => r = .returned (.int .u64 ((t2 b).1 : Int)) ∧ Rd w' q (t2 b).2.1 (t2 b).2.2 ∧ w2.grownBy w' (some q)) at Hst
  go_wp2_with fail
  refine Hst.out.mono ?_
  rintro r w3 ⟨rfl, hrd, hg⟩
  have HG : Hid (w3.heap[w.heap.size]? = some (.cells #[.int .i64 0, .int .i64 0, .int .i64 0, .int .i64 0, .string ⟨#[]⟩, .slice none 0 0, .int .i64 0] 34)) := by show _ = _; rw [hg.block _ (by omega) (by intro e; simp at e; omega)]; exact HG.out
  have hsz3 : q < w3.heap.size := Nat.lt_of_lt_of_le hsz2 hg.size
  have HB : Hid (Below w.heap.size w w3) := HB.out.grown hg (by omega) (fun j hj => by simp at hj; omega)
  have Hrd := Lib.hid hrd
  clear hrd hg Hst
  go_wp2_with fail
  refine (ev_small_calls _ _ (next_lt64 _ _) 255 (by decide)).mono ?_
  rintro r w' ⟨rfl, rfl⟩
  have Hst := Lib.hid (rd_int_calls w3 q _ _ Hrd.out)
  change Hid (Calls _ _ _ _ fun r w' => r = .returned (.int .i64 (VarPlain.zag (t3 b).1)) ∧ Rd w' q (t3 b).2.1 (t3 b).2.2 ∧ w3.grownBy w' (some q)) at Hst
  go_wp2_with fail
  refine Hst.out.mono ?_
  rintro r w4 ⟨rfl, hrd, hg⟩
  have HG : Hid (w4.heap[w.heap.size]? = some (.cells #[.int .i64 0, .int .i64 0, .int .i64 0, .int .i64 0, .string ⟨#[]⟩, .slice none 0 0, .int .i64 0] 34)) := by show _ = _; rw [hg.block _ (by omega) (by intro e; simp at e; omega)]; exact HG.out
  have hsz4 : q < w4.heap.size := Nat.lt_of_lt_of_le hsz3 hg.size
  have HB : Hid (Below w.heap.size w w4) := HB.out.grown hg (by omega) (fun j hj => by simp at hj; omega)
  have Hrd := Lib.hid hrd
  clear hrd hg Hst
  have Hst := Lib.hid (rd_int_calls w4 q _ _ Hrd.out)
  change Hid (Calls _ _ _ _ fun r w' => r = .returned (.int .i64 (VarPlain.zag (t4 b).1)) ∧ Rd w' q (t4 b).2.1 (t4 b).2.2 ∧ w4.grownBy w' (some q)) at Hst
  go_wp2_with fail
  refine Hst.out.mono ?_
  rintro r w5 ⟨rfl, hrd, hg⟩
  have HG : Hid (w5.heap[w.heap.size]? = some (.cells #[.int .i64 0, .int .i64 0, .int .i64 0, .int .i64 0, .string ⟨#[]⟩, .slice none 0 0, .int .i64 0] 34)) := by show _ = _; rw [hg.block _ (by omega) (by intro e; simp at e; omega)]; exact HG.out
  have hsz5 : q < w5.heap.size := Nat.lt_of_lt_of_le hsz4 hg.size
  have HB : Hid (Below w.heap.size w w5) := HB.out.grown hg (by omega) (fun j hj => by simp at hj; omega)
  have Hrd := Lib.hid hrd
  clear hrd hg Hst
  have Hst := Lib.hid (rd_text_calls w5 q _ _ Hrd.out)
  change Hid (Calls _ _ _ _ fun r w' => r = .returned (.string (str (t5 b).1)) ∧ Rd w' q (t5 b).2.1 (t5 b).2.2 ∧ w5.grownBy w' (some q)) at Hst
  go_wp2_with fail
  refine Hst.out.mono ?_
  rintro r w6 ⟨rfl, hrd, hg⟩
  have HG : Hid (w6.heap[w.heap.size]? = some (.cells #[.int .i64 0, .int .i64 0, .int .i64 0, .int .i64 0, .string ⟨#[]⟩, .slice none 0 0, .int .i64 0] 34)) := by show _ = _; rw [hg.block _ (by omega) (by intro e; simp at e; omega)]; exact HG.out
  have hsz6 : q < w6.heap.size := Nat.lt_of_lt_of_le hsz5 hg.size
  have HB : Hid (Below w.heap.size w w6) := HB.out.grown hg (by omega) (fun j hj => by simp at hj; omega)
  have Hrd := Lib.hid hrd
  clear hrd hg Hst
  have Hli := Lib.hid (ev_list_calls (w6.alloc (.cells #[.int .i64 (smallN (t1 b).1 12 : Int), .int .i64 (smallN (t2 b).1 255 : Int), .int .i64 (VarPlain.zag (t3 b).1), .int .i64 (VarPlain.zag (t4 b).1), .string (str (t5 b).1), .slice none 0 0, .int .i64 0] 34)) q _ _ (Hrd.out.below ((Below.refl _ _).alloc (Nat.le_refl _) _)))
  change Hid (Calls _ _ _ _ fun r w' => ∃ v, r = .returned (.tuple #[v, .bool (t6 b).1.1]) ∧ w'.ownsRow _ _ _ v (t6 b).1.2.length ((t6 b).1.2.map sv) ∧ Rd w' q (t6 b).2.1 (t6 b).2.2 ∧ _) at Hli
  go_wp2_with fail
  refine Hli.out.mono ?_
  rintro r wl ⟨v, rfl, hown, hrd, hg⟩
  have hpl : w6.heap.size < wl.heap.size := by have := hg.size; simp at this; omega
  have HP : Hid (wl.heap[w6.heap.size]? = some (.cells #[.int .i64 (smallN (t1 b).1 12 : Int), .int .i64 (smallN (t2 b).1 255 : Int), .int .i64 (VarPlain.zag (t3 b).1), .int .i64 (VarPlain.zag (t4 b).1), .string (str (t5 b).1), .slice none 0 0, .int .i64 0] 34)) := by show _ = _; rw [hg.block _ (by simp) (by intro e; simp at e; omega)]; exact heap_alloc_new w6 _
  have HG : Hid (wl.heap[w.heap.size]? = some (.cells #[.int .i64 0, .int .i64 0, .int .i64 0, .int .i64 0, .string ⟨#[]⟩, .slice none 0 0, .int .i64 0] 34)) := by show _ = _; rw [hg.block _ (by simp; omega) (by intro e; simp at e; omega), heap_alloc_old w6 _ (by omega)]; exact HG.out
  have HB : Hid (Below w.heap.size w wl) := (HB.out.alloc (by omega) _).grown hg (by simp; omega) (fun j hj => by simp at hj; omega)
  obtain ⟨al, cl, rfl, hstr⟩ := ownsRow_strs hown
  have Hown := Lib.hid hown
  have Hstr := Lib.hid hstr
  have Hrd := Lib.hid hrd
  clear hown hrd hg hstr Hli
  have hpc : wl.cell? ⟨w6.heap.size, 5, none⟩ = some (.slice none 0 0) := by have := HP.out; simp [World.cell?, this]
  have hpf : wl.frozen? ⟨w6.heap.size, 5, none⟩ = false := by have := HP.out; simp [World.frozen?, this]
  have hgp : w.heap.size < w6.heap.size := by omega
  have hqp : q ≠ w6.heap.size := by omega
  have HPS : Hid ((wl.setCell ⟨w6.heap.size, 5, none⟩ (.slice al (t6 b).1.2.length cl)).heap[w6.heap.size]? = some (.cells #[.int .i64 (smallN (t1 b).1 12 : Int), .int .i64 (smallN (t2 b).1 255 : Int), .int .i64 (VarPlain.zag (t3 b).1), .int .i64 (VarPlain.zag (t4 b).1), .string (str (t5 b).1), .slice al (t6 b).1.2.length cl, .int .i64 0] 34)) := heap_setCell_same wl _ 5 _ _ (.slice al (t6 b).1.2.length cl) HP.out
  have HGS : Hid ((wl.setCell ⟨w6.heap.size, 5, none⟩ (.slice al (t6 b).1.2.length cl)).heap[w.heap.size]? = some (.cells #[.int .i64 0, .int .i64 0, .int .i64 0, .int .i64 0, .string ⟨#[]⟩, .slice none 0 0, .int .i64 0] 34)) := by show _ = _; rw [Below.heap_setCell _ _ _ _ (by simp; omega)]; exact HG.out
  have HBS : Hid (Below w.heap.size w (wl.setCell ⟨w6.heap.size, 5, none⟩ (.slice al (t6 b).1.2.length cl))) := HB.out.setCell (by simp; omega) _
  have HrdS : Hid (Rd (wl.setCell ⟨w6.heap.size, 5, none⟩ (.slice al (t6 b).1.2.length cl)) q (t6 b).2.1 (t6 b).2.2) := rd_apart HP.out (by simp) Hrd.out hqp (grown_set _ _ _ _)
  have HownS : Hid ((wl.setCell ⟨w6.heap.size, 5, none⟩ (.slice al (t6 b).1.2.length cl)).ownsRow _ _ _ (.slice al (t6 b).1.2.length cl) _ _) := ownsRow_kept Hown.out (grown_set _ _ _ _) (by simp)
  have hszS : q < (wl.setCell ⟨w6.heap.size, 5, none⟩ (.slice al (t6 b).1.2.length cl)).heap.size := by simp [World.setCell]; omega
  by_cases hf : (t6 b).1.1 = true
  · have HE := Lib.hid (toldE_few hf)
    have H7 : Hid (t7 b = VarPlain.next (t6 b).2.1 (t6 b).2.2) := by show _ = _; unfold t7; rw [if_pos hf]
    rw [hf]
    clear hf
    go_wp2_with fail
    clear hpc hpf HP HG HB Hrd Hown Hstr
    generalize hWS : wl.setCell ⟨w6.heap.size, 5, none⟩ (.slice al (t6 b).1.2.length cl) = ws at *
    clear hWS
    have Hst := Lib.hid (rd_num_calls ws q _ _ HrdS.out)
    rw [← H7.out] at Hst
    refine Hst.out.mono ?_
    rintro r wn ⟨rfl, hrd, hg⟩
    have hszN : q < wn.heap.size := Nat.lt_of_lt_of_le hszS hg.size
    have HPN : Hid (wn.heap[w6.heap.size]? = some (.cells #[.int .i64 (smallN (t1 b).1 12 : Int), .int .i64 (smallN (t2 b).1 255 : Int), .int .i64 (VarPlain.zag (t3 b).1), .int .i64 (VarPlain.zag (t4 b).1), .string (str (t5 b).1), .slice al (t6 b).1.2.length cl, .int .i64 0] 34)) := by show _ = _; rw [hg.block _ (Array.getElem?_eq_some_iff.1 HPS.out).1 (by intro e; simp at e; omega)]; exact HPS.out
    have HGN : Hid (wn.heap[w.heap.size]? = some (.cells #[.int .i64 0, .int .i64 0, .int .i64 0, .int .i64 0, .string ⟨#[]⟩, .slice none 0 0, .int .i64 0] 34)) := by show _ = _; rw [hg.block _ (Array.getElem?_eq_some_iff.1 HGS.out).1 (by intro e; simp at e; omega)]; exact HGS.out
    have HBN : Hid (Below w.heap.size w wn) := HBS.out.grown hg (by omega) (fun j hj => by simp at hj; omega)
    have HownN := Lib.hid (ownsRow_kept HownS.out hg (by simp; omega))
    have HrdN := Lib.hid hrd
    have hpn : w6.heap.size < wn.heap.size := (Array.getElem?_eq_some_iff.1 HPN.out).1
    clear hrd hg Hst HPS HGS HBS HownS HrdS
    go_wp2_with fail
    refine (ev_small_calls _ _ (by rw [H7.out]; exact next_lt64 _ _) 64 (by decide)).mono ?_
    rintro r w' ⟨rfl, rfl⟩
    clear H7
    have hpc : wn.cell? ⟨w6.heap.size, 6, none⟩ = some (.int .i64 0) := by have := HPN.out; simp [World.cell?, this]
    have hpf : wn.frozen? ⟨w6.heap.size, 6, none⟩ = false := by have := HPN.out; simp [World.frozen?, this]
    have HPS : Hid ((wn.setCell ⟨w6.heap.size, 6, none⟩ (.int .i64 (smallN (t7 b).1 64 : Int))).heap[w6.heap.size]? = some (.cells #[.int .i64 (smallN (t1 b).1 12 : Int), .int .i64 (smallN (t2 b).1 255 : Int), .int .i64 (VarPlain.zag (t3 b).1), .int .i64 (VarPlain.zag (t4 b).1), .string (str (t5 b).1), .slice al (t6 b).1.2.length cl, .int .i64 (smallN (t7 b).1 64 : Int)] 34)) := heap_setCell_same wn _ 6 _ _ _ HPN.out
    have HGS : Hid ((wn.setCell ⟨w6.heap.size, 6, none⟩ (.int .i64 (smallN (t7 b).1 64 : Int))).heap[w.heap.size]? = some (.cells #[.int .i64 0, .int .i64 0, .int .i64 0, .int .i64 0, .string ⟨#[]⟩, .slice none 0 0, .int .i64 0] 34)) := by show _ = _; rw [Below.heap_setCell _ _ _ _ (by simp; omega)]; exact HGN.out
    have HBS : Hid (Below w.heap.size w (wn.setCell ⟨w6.heap.size, 6, none⟩ (.int .i64 (smallN (t7 b).1 64 : Int)))) := HBN.out.setCell (by simp; omega) _
    have HrdS : Hid (Rd (wn.setCell ⟨w6.heap.size, 6, none⟩ (.int .i64 (smallN (t7 b).1 64 : Int))) q (t7 b).2.1 (t7 b).2.2) := rd_apart HPN.out (by simp) HrdN.out hqp (grown_set _ _ _ _)
    have HownS : Hid ((wn.setCell ⟨w6.heap.size, 6, none⟩ (.int .i64 (smallN (t7 b).1 64 : Int))).ownsRow _ _ _ (.slice al (t6 b).1.2.length cl) _ _) := ownsRow_kept HownN.out (grown_set _ _ _ _) (by simp)
    have hszT : q < (wn.setCell ⟨w6.heap.size, 6, none⟩ (.int .i64 (smallN (t7 b).1 64 : Int))).heap.size := by simp [World.setCell]; omega
    go_wp2_with fail
    clear hpc hpf HPN HGN HBN HrdN HownN
    generalize hWS : wn.setCell ⟨w6.heap.size, 6, none⟩ (.int .i64 (smallN (t7 b).1 64 : Int)) = ws2 at *
    clear hWS
    by_cases hE : toldE b = 0
    · have HQ := Lib.hid (toldA_ok hE)
      have HZ := Lib.hid hE; clear hE
      have HK0 : Hid (ws2.cell? ⟨w6.heap.size, 0, none⟩ = some (.int .i64 (smallN (t1 b).1 12 : Int))) := by have := HPS.out; show _ = _; simp [World.cell?, this]
      have HK1 : Hid (ws2.cell? ⟨w6.heap.size, 1, none⟩ = some (.int .i64 (smallN (t2 b).1 255 : Int))) := by have := HPS.out; show _ = _; simp [World.cell?, this]
      have HK2 : Hid (ws2.cell? ⟨w6.heap.size, 2, none⟩ = some (.int .i64 (VarPlain.zag (t3 b).1))) := by have := HPS.out; show _ = _; simp [World.cell?, this]
      have HK3 : Hid (ws2.cell? ⟨w6.heap.size, 3, none⟩ = some (.int .i64 (VarPlain.zag (t4 b).1))) := by have := HPS.out; show _ = _; simp [World.cell?, this]
      have HK4 : Hid (ws2.cell? ⟨w6.heap.size, 4, none⟩ = some (.string (str (t5 b).1))) := by have := HPS.out; show _ = _; simp [World.cell?, this]
      have HK5 : Hid (ws2.cell? ⟨w6.heap.size, 5, none⟩ = some (.slice al (t6 b).1.2.length cl)) := by have := HPS.out; show _ = _; simp [World.cell?, this]
      have HK6 : Hid (ws2.cell? ⟨w6.heap.size, 6, none⟩ = some (.int .i64 (smallN (t7 b).1 64 : Int))) := by have := HPS.out; show _ = _; simp [World.cell?, this]
      have HV : Hid (endV (endR (fitsB (smallN (t1 b).1 12 : Int) (toldV b)) (t7 b).2.1 (t7 b).2.2) (.agg #[.int .i64 (smallN (t1 b).1 12 : Int), .int .i64 (smallN (t2 b).1 255 : Int), .int .i64 (VarPlain.zag (t3 b).1), .int .i64 (VarPlain.zag (t4 b).1), .string (str (t5 b).1), .slice al (t6 b).1.2.length cl, .int .i64 (smallN (t7 b).1 64 : Int)]) (.agg #[.int .i64 0, .int .i64 0, .int .i64 0, .int .i64 0, .string ⟨#[]⟩, .slice none 0 0, .int .i64 0]) = .tuple #[.agg #[.int .i64 (smallN (t1 b).1 12 : Int), .int .i64 (smallN (t2 b).1 255 : Int), .int .i64 (VarPlain.zag (t3 b).1), .int .i64 (VarPlain.zag (t4 b).1), .string (str (t5 b).1), .slice al (t6 b).1.2.length cl, .int .i64 (smallN (t7 b).1 64 : Int)], .int .i64 0]) := by show _ = _; rw [← HE.out]; unfold endV; rw [if_pos HZ.out]; rw [HZ.out]
      refine Rg.wp_region_rgt 12 [] [Rg.Is (.pointer (some ⟨q, 0, none⟩)), Rg.Is (.agg #[.int .i64 (smallN (t1 b).1 12 : Int), .int .i64 (smallN (t2 b).1 255 : Int), .int .i64 (VarPlain.zag (t3 b).1), .int .i64 (VarPlain.zag (t4 b).1), .string (str (t5 b).1), .slice al (t6 b).1.2.length cl, .int .i64 (smallN (t7 b).1 64 : Int)]), Rg.Is (.bool true), Rg.Is (.bool true), Rg.Is (.pointer (some ⟨w6.heap.size, 0, none⟩)), Rg.Is (.int .i64 (smallN (t1 b).1 12 : Int)), Rg.Is (.agg #[.int .i64 (smallN (t1 b).1 12 : Int), .int .i64 (smallN (t2 b).1 255 : Int), .int .i64 (VarPlain.zag (t3 b).1), .int .i64 (VarPlain.zag (t4 b).1), .string (str (t5 b).1), .slice al (t6 b).1.2.length cl, .int .i64 (smallN (t7 b).1 64 : Int)]), Rg.Is (.bool (fitsB (smallN (t1 b).1 12 : Int) (toldV b))), Rg.Is (.bool (fitsB (smallN (t1 b).1 12 : Int) (toldV b))), Rg.Is (.tuple #[.agg #[.int .i64 (smallN (t1 b).1 12 : Int), .int .i64 (smallN (t2 b).1 255 : Int), .int .i64 (VarPlain.zag (t3 b).1), .int .i64 (VarPlain.zag (t4 b).1), .string (str (t5 b).1), .slice al (t6 b).1.2.length cl, .int .i64 (smallN (t7 b).1 64 : Int)], .int .i64 0]), Rg.Is (.agg #[.int .i64 (smallN (t1 b).1 12 : Int), .int .i64 (smallN (t2 b).1 255 : Int), .int .i64 (VarPlain.zag (t3 b).1), .int .i64 (VarPlain.zag (t4 b).1), .string (str (t5 b).1), .slice al (t6 b).1.2.length cl, .int .i64 (smallN (t7 b).1 64 : Int)]), Rg.Is (.int .i64 0)] (by kernel_rfl) (by kernel_rfl) (of_decide_eq_true (by kernel_rfl)) (by kernel_rfl) (by kernel_rfl) ⟨Rg.st_is _, Rg.st_is _, Rg.st_is _, Rg.st_is _, Rg.st_is _, Rg.st_is _, Rg.st_is _, Rg.st_is _, Rg.st_is _, Rg.st_is _, Rg.st_is _, Rg.st_is _, trivial⟩ ⟨rfl, rfl, rfl, rfl, ⟨rfl, fun _ _ h => h⟩, ⟨rfl, fun _ _ h => h⟩, ⟨rfl, fun _ _ h => h⟩, ⟨rfl, fun _ _ h => h⟩, rfl, rfl, rfl, rfl, trivial⟩ ⟨?_, ?_, ?_, ?_, ?_, ?_, ?_, ?_, ?_, ?_, ?_, ?_, trivial⟩ ?_
      · intro _ a wx hb hk
        have h4 : a.eval (.tmp 4) = .pointer (some ⟨q, 0, none⟩) := Eq.mp (by kernel_rfl) (hk 4 (by decide))
        exact Rg.does_move ⟨Below.refl _ _, h4⟩
      · intro _ a wx hb hk
        have h5 : a.eval (.tmp 5) = .pointer (some ⟨w6.heap.size, 0, none⟩) := Eq.mp (by kernel_rfl) (hk 5 (by decide))
        exact Rg.does_load _ _ h5 (load_ans (cell_below hb (Nat.le_refl _) HK0.out) (cell_below hb (Nat.le_refl _) HK1.out) (cell_below hb (Nat.le_refl _) HK2.out) (cell_below hb (Nat.le_refl _) HK3.out) (cell_below hb (Nat.le_refl _) HK4.out) (cell_below hb (Nat.le_refl _) HK5.out) (cell_below hb (Nat.le_refl _) HK6.out)) ⟨Below.refl _ _, rfl⟩
      · intro _ a wx hb hk
        have h7 : a.eval (.tmp 7) = .bool true := Eq.mp (by kernel_rfl) (hk 7 (by decide))
        exact Rg.does_move ⟨Below.refl _ _, h7⟩
      · intro _ a wx hb hk
        have h37 : a.eval (.tmp 37) = .bool true := Eq.mp (by kernel_rfl) (hk 37 (by decide))
        exact Rg.does_move ⟨Below.refl _ _, h37⟩
      · intro _ a wx hb hk
        have h5 : a.eval (.tmp 5) = .pointer (some ⟨w6.heap.size, 0, none⟩) := Eq.mp (by kernel_rfl) (hk 5 (by decide))
        exact Rs.does_field _ _ h5 (ans_f0 _ _) ⟨Below.refl _ _, rfl⟩
      · intro _ a wx hb hk
        have h39 : a.eval (.tmp 39) = .pointer (some ⟨w6.heap.size, 0, none⟩) := Eq.mp (by kernel_rfl) (hk 39 (by decide))
        exact Rg.does_load _ _ h39 (load_int (cell_below hb (Nat.le_refl _) HK0.out)) ⟨Below.refl _ _, rfl⟩
      · intro _ a wx hb hk
        have h5 : a.eval (.tmp 5) = .pointer (some ⟨w6.heap.size, 0, none⟩) := Eq.mp (by kernel_rfl) (hk 5 (by decide))
        exact Rg.does_load _ _ h5 (load_ans (cell_below hb (Nat.le_refl _) HK0.out) (cell_below hb (Nat.le_refl _) HK1.out) (cell_below hb (Nat.le_refl _) HK2.out) (cell_below hb (Nat.le_refl _) HK3.out) (cell_below hb (Nat.le_refl _) HK4.out) (cell_below hb (Nat.le_refl _) HK5.out) (cell_below hb (Nat.le_refl _) HK6.out)) ⟨Below.refl _ _, rfl⟩
      · intro _ a wx hb hk
        have h40 : a.eval (.tmp 40) = .int .i64 (smallN (t1 b).1 12 : Int) := Eq.mp (by kernel_rfl) (hk 40 (by decide))
        have h41 : a.eval (.tmp 41) = .agg #[.int .i64 (smallN (t1 b).1 12 : Int), .int .i64 (smallN (t2 b).1 255 : Int), .int .i64 (VarPlain.zag (t3 b).1), .int .i64 (VarPlain.zag (t4 b).1), .string (str (t5 b).1), .slice al (t6 b).1.2.length cl, .int .i64 (smallN (t7 b).1 64 : Int)] := Eq.mp (by kernel_rfl) (hk 41 (by decide))
        refine Rg.does_func #[.int .i64 (smallN (t1 b).1 12 : Int), .agg #[.int .i64 (smallN (t1 b).1 12 : Int), .int .i64 (smallN (t2 b).1 255 : Int), .int .i64 (VarPlain.zag (t3 b).1), .int .i64 (VarPlain.zag (t4 b).1), .string (str (t5 b).1), .slice al (t6 b).1.2.length cl, .int .i64 (smallN (t7 b).1 64 : Int)]] Try.func37 (by kernel_rfl) (by kernel_rfl) (by simp [h40, h41]) (ev_fits_calls wx _ (toldV b) al cl) ?_
        rintro e' w' ⟨rfl, hb'⟩
        exact ⟨_, rfl, hb', rfl⟩
      · intro _ a wx hb hk
        have h38 : a.eval (.tmp 38) = .bool true := Eq.mp (by kernel_rfl) (hk 38 (by decide))
        have h42 : a.eval (.tmp 42) = .bool (fitsB (smallN (t1 b).1 12 : Int) (toldV b)) := Eq.mp (by kernel_rfl) (hk 42 (by decide))
        exact Rg.does_pick true h38 ⟨Below.refl _ _, h42⟩
      · intro _ a wx hb hk
        have h35 : a.eval (.tmp 35) = .pointer (some ⟨q, 0, none⟩) := Eq.mp (by kernel_rfl) (hk 35 (by decide))
        have h36 : a.eval (.tmp 36) = .agg #[.int .i64 (smallN (t1 b).1 12 : Int), .int .i64 (smallN (t2 b).1 255 : Int), .int .i64 (VarPlain.zag (t3 b).1), .int .i64 (VarPlain.zag (t4 b).1), .string (str (t5 b).1), .slice al (t6 b).1.2.length cl, .int .i64 (smallN (t7 b).1 64 : Int)] := Eq.mp (by kernel_rfl) (hk 36 (by decide))
        have h43 : a.eval (.tmp 43) = .bool (fitsB (smallN (t1 b).1 12 : Int) (toldV b)) := Eq.mp (by kernel_rfl) (hk 43 (by decide))
        refine Rg.does_func #[.pointer (some ⟨q, 0, none⟩), .agg #[.int .i64 (smallN (t1 b).1 12 : Int), .int .i64 (smallN (t2 b).1 255 : Int), .int .i64 (VarPlain.zag (t3 b).1), .int .i64 (VarPlain.zag (t4 b).1), .string (str (t5 b).1), .slice al (t6 b).1.2.length cl, .int .i64 (smallN (t7 b).1 64 : Int)], .bool (fitsB (smallN (t1 b).1 12 : Int) (toldV b))] Try.func56 (by kernel_rfl) (by kernel_rfl) (by simp [h35, h36, h43]) (end_ans_calls wx q _ _ (HrdS.out.below hb) _ _ _ _ _ _ _ _ _ (fitsB (smallN (t1 b).1 12 : Int) (toldV b))) ?_
        rintro e' w' ⟨rfl, hb'⟩
        exact ⟨_, rfl, hb', by show _ = _; rw [HV.out]⟩
      · intro _ a wx hb hk
        have h44 : a.eval (.tmp 44) = .tuple #[.agg #[.int .i64 (smallN (t1 b).1 12 : Int), .int .i64 (smallN (t2 b).1 255 : Int), .int .i64 (VarPlain.zag (t3 b).1), .int .i64 (VarPlain.zag (t4 b).1), .string (str (t5 b).1), .slice al (t6 b).1.2.length cl, .int .i64 (smallN (t7 b).1 64 : Int)], .int .i64 0] := Eq.mp (by kernel_rfl) (hk 44 (by decide))
        exact does_extract _ _ h44 rfl ⟨Below.refl _ _, rfl⟩
      · intro _ a wx hb hk
        have h44 : a.eval (.tmp 44) = .tuple #[.agg #[.int .i64 (smallN (t1 b).1 12 : Int), .int .i64 (smallN (t2 b).1 255 : Int), .int .i64 (VarPlain.zag (t3 b).1), .int .i64 (VarPlain.zag (t4 b).1), .string (str (t5 b).1), .slice al (t6 b).1.2.length cl, .int .i64 (smallN (t7 b).1 64 : Int)], .int .i64 0] := Eq.mp (by kernel_rfl) (hk 44 (by decide))
        exact does_extract _ _ h44 rfl ⟨Below.refl _ _, rfl⟩
      intro vals wD hbD hL
      obtain ⟨g0, g1, g2, g3, g4, g5, g6, g7, g8, g9, g10, g11, _⟩ := hL
      have HGD : Hid (wD.heap[w.heap.size]? = some (.cells #[.int .i64 0, .int .i64 0, .int .i64 0, .int .i64 0, .string ⟨#[]⟩, .slice none 0 0, .int .i64 0] 34)) := by show _ = _; rw [hbD.block _ (by omega)]; exact HGS.out
      have z0 : wD.cell? ⟨w.heap.size, 0, none⟩ = some (.int .i64 0) := by have := HGD.out; simp [World.cell?, this]
      have f0 : wD.frozen? ⟨w.heap.size, 0, none⟩ = false := by have := HGD.out; simp [World.frozen?, this]
      have z1 : wD.cell? ⟨w.heap.size, 1, none⟩ = some (.int .i64 0) := by have := HGD.out; simp [World.cell?, this]
      have f1 : wD.frozen? ⟨w.heap.size, 1, none⟩ = false := by have := HGD.out; simp [World.frozen?, this]
      have z2 : wD.cell? ⟨w.heap.size, 2, none⟩ = some (.int .i64 0) := by have := HGD.out; simp [World.cell?, this]
      have f2 : wD.frozen? ⟨w.heap.size, 2, none⟩ = false := by have := HGD.out; simp [World.frozen?, this]
      have z3 : wD.cell? ⟨w.heap.size, 3, none⟩ = some (.int .i64 0) := by have := HGD.out; simp [World.cell?, this]
      have f3 : wD.frozen? ⟨w.heap.size, 3, none⟩ = false := by have := HGD.out; simp [World.frozen?, this]
      have z4 : wD.cell? ⟨w.heap.size, 4, none⟩ = some (.string ⟨#[]⟩) := by have := HGD.out; simp [World.cell?, this]
      have f4 : wD.frozen? ⟨w.heap.size, 4, none⟩ = false := by have := HGD.out; simp [World.frozen?, this]
      have z5 : wD.cell? ⟨w.heap.size, 5, none⟩ = some (.slice none 0 0) := by have := HGD.out; simp [World.cell?, this]
      have f5 : wD.frozen? ⟨w.heap.size, 5, none⟩ = false := by have := HGD.out; simp [World.frozen?, this]
      have z6 : wD.cell? ⟨w.heap.size, 6, none⟩ = some (.int .i64 0) := by have := HGD.out; simp [World.cell?, this]
      have f6 : wD.frozen? ⟨w.heap.size, 6, none⟩ = false := by have := HGD.out; simp [World.frozen?, this]
      have g10' : vals 10 = .agg #[.int .i64 (smallN (t1 b).1 12 : Int), .int .i64 (smallN (t2 b).1 255 : Int), .int .i64 (VarPlain.zag (t3 b).1), .int .i64 (VarPlain.zag (t4 b).1), .string (str (t5 b).1), .slice al (t6 b).1.2.length cl, .int .i64 (smallN (t7 b).1 64 : Int)] := g10
      have g11' : vals 11 = .int .i64 0 := g11
      have hownD := Lib.hid (ownsRow_below HownS.out hbD)
      have HBD : Hid (Below w.heap.size w wD) := HBS.out.trans (hbD.mono (by omega))
      have hgD : w.heap.size < wD.heap.size := by have := hbD.size; omega
      clear g0 g1 g2 g3 g4 g5 g6 g7 g8 g9 g10 g11 hbD
      simp only [Rg.putAll, List.take_succ_cons, List.take_zero, List.drop_succ_cons, List.drop_zero, List.setIfInBounds_toArray, List.set_cons_succ, List.set_cons_zero, g10', g11']
      go_wp2_with fail
      refine bodyPost_ret (v := .tuple #[.agg #[.int .i64 (smallN (t1 b).1 12 : Int), .int .i64 (smallN (t2 b).1 255 : Int), .int .i64 (VarPlain.zag (t3 b).1), .int .i64 (VarPlain.zag (t4 b).1), .string (str (t5 b).1), .slice al (t6 b).1.2.length cl, .int .i64 (smallN (t7 b).1 64 : Int)], .int .i64 0]) (by simp [results, Try.results33, go_sem, z0, z1, z2, z3, z4, z5, z6]) rfl ?_
      refine ⟨al, cl, by rw [HQ.out, HZ.out]; rfl, ?_, ?_, fun ad h => by subst h; have := (hownD.out.lt ad.block rfl).1; simp at this; omega⟩
      · rw [HQ.out]
        refine strs_sets (q := w.heap.size) hownD.out (by simp; omega) ?_
        exact grownBy_trans (grownBy_trans (grownBy_trans (grownBy_trans (grownBy_trans (grownBy_trans (grownBy_trans (World.grownBy.refl _ _) (grown_set _ _ _ _)) (grown_set _ _ _ _)) (grown_set _ _ _ _)) (grown_set _ _ _ _)) (grown_set _ _ _ _)) (grown_set _ _ _ _)) (grown_set _ _ _ _)
      · exact (((((((HBD.out.setCell (Nat.le_refl _) _).setCell (Nat.le_refl _) _).setCell (Nat.le_refl _) _).setCell (Nat.le_refl _) _).setCell (Nat.le_refl _) _).setCell (Nat.le_refl _) _).setCell (Nat.le_refl _) _)
    · have HQ := Lib.hid (toldA_bad hE)
      have HZ := Lib.hid hE; clear hE
      have HK0 : Hid (ws2.cell? ⟨w6.heap.size, 0, none⟩ = some (.int .i64 (smallN (t1 b).1 12 : Int))) := by have := HPS.out; show _ = _; simp [World.cell?, this]
      have HK1 : Hid (ws2.cell? ⟨w6.heap.size, 1, none⟩ = some (.int .i64 (smallN (t2 b).1 255 : Int))) := by have := HPS.out; show _ = _; simp [World.cell?, this]
      have HK2 : Hid (ws2.cell? ⟨w6.heap.size, 2, none⟩ = some (.int .i64 (VarPlain.zag (t3 b).1))) := by have := HPS.out; show _ = _; simp [World.cell?, this]
      have HK3 : Hid (ws2.cell? ⟨w6.heap.size, 3, none⟩ = some (.int .i64 (VarPlain.zag (t4 b).1))) := by have := HPS.out; show _ = _; simp [World.cell?, this]
      have HK4 : Hid (ws2.cell? ⟨w6.heap.size, 4, none⟩ = some (.string (str (t5 b).1))) := by have := HPS.out; show _ = _; simp [World.cell?, this]
      have HK5 : Hid (ws2.cell? ⟨w6.heap.size, 5, none⟩ = some (.slice al (t6 b).1.2.length cl)) := by have := HPS.out; show _ = _; simp [World.cell?, this]
      have HK6 : Hid (ws2.cell? ⟨w6.heap.size, 6, none⟩ = some (.int .i64 (smallN (t7 b).1 64 : Int))) := by have := HPS.out; show _ = _; simp [World.cell?, this]
      have HV : Hid (endV (endR (fitsB (smallN (t1 b).1 12 : Int) (toldV b)) (t7 b).2.1 (t7 b).2.2) (.agg #[.int .i64 (smallN (t1 b).1 12 : Int), .int .i64 (smallN (t2 b).1 255 : Int), .int .i64 (VarPlain.zag (t3 b).1), .int .i64 (VarPlain.zag (t4 b).1), .string (str (t5 b).1), .slice al (t6 b).1.2.length cl, .int .i64 (smallN (t7 b).1 64 : Int)]) (.agg #[.int .i64 0, .int .i64 0, .int .i64 0, .int .i64 0, .string ⟨#[]⟩, .slice none 0 0, .int .i64 0]) = .tuple #[.agg #[.int .i64 0, .int .i64 0, .int .i64 0, .int .i64 0, .string ⟨#[]⟩, .slice none 0 0, .int .i64 0], .int .i64 (toldE b)]) := by show _ = _; rw [← HE.out]; unfold endV; rw [if_neg HZ.out]
      refine Rg.wp_region_rgt 12 [] [Rg.Is (.pointer (some ⟨q, 0, none⟩)), Rg.Is (.agg #[.int .i64 (smallN (t1 b).1 12 : Int), .int .i64 (smallN (t2 b).1 255 : Int), .int .i64 (VarPlain.zag (t3 b).1), .int .i64 (VarPlain.zag (t4 b).1), .string (str (t5 b).1), .slice al (t6 b).1.2.length cl, .int .i64 (smallN (t7 b).1 64 : Int)]), Rg.Is (.bool true), Rg.Is (.bool true), Rg.Is (.pointer (some ⟨w6.heap.size, 0, none⟩)), Rg.Is (.int .i64 (smallN (t1 b).1 12 : Int)), Rg.Is (.agg #[.int .i64 (smallN (t1 b).1 12 : Int), .int .i64 (smallN (t2 b).1 255 : Int), .int .i64 (VarPlain.zag (t3 b).1), .int .i64 (VarPlain.zag (t4 b).1), .string (str (t5 b).1), .slice al (t6 b).1.2.length cl, .int .i64 (smallN (t7 b).1 64 : Int)]), Rg.Is (.bool (fitsB (smallN (t1 b).1 12 : Int) (toldV b))), Rg.Is (.bool (fitsB (smallN (t1 b).1 12 : Int) (toldV b))), Rg.Is (.tuple #[.agg #[.int .i64 0, .int .i64 0, .int .i64 0, .int .i64 0, .string ⟨#[]⟩, .slice none 0 0, .int .i64 0], .int .i64 (toldE b)]), Rg.Is (.agg #[.int .i64 0, .int .i64 0, .int .i64 0, .int .i64 0, .string ⟨#[]⟩, .slice none 0 0, .int .i64 0]), Rg.Is (.int .i64 (toldE b))] (by kernel_rfl) (by kernel_rfl) (of_decide_eq_true (by kernel_rfl)) (by kernel_rfl) (by kernel_rfl) ⟨Rg.st_is _, Rg.st_is _, Rg.st_is _, Rg.st_is _, Rg.st_is _, Rg.st_is _, Rg.st_is _, Rg.st_is _, Rg.st_is _, Rg.st_is _, Rg.st_is _, Rg.st_is _, trivial⟩ ⟨rfl, rfl, rfl, rfl, ⟨rfl, fun _ _ h => h⟩, ⟨rfl, fun _ _ h => h⟩, ⟨rfl, fun _ _ h => h⟩, ⟨rfl, fun _ _ h => h⟩, rfl, rfl, rfl, rfl, trivial⟩ ⟨?_, ?_, ?_, ?_, ?_, ?_, ?_, ?_, ?_, ?_, ?_, ?_, trivial⟩ ?_
      · intro _ a wx hb hk
        have h4 : a.eval (.tmp 4) = .pointer (some ⟨q, 0, none⟩) := Eq.mp (by kernel_rfl) (hk 4 (by decide))
        exact Rg.does_move ⟨Below.refl _ _, h4⟩
      · intro _ a wx hb hk
        have h5 : a.eval (.tmp 5) = .pointer (some ⟨w6.heap.size, 0, none⟩) := Eq.mp (by kernel_rfl) (hk 5 (by decide))
        exact Rg.does_load _ _ h5 (load_ans (cell_below hb (Nat.le_refl _) HK0.out) (cell_below hb (Nat.le_refl _) HK1.out) (cell_below hb (Nat.le_refl _) HK2.out) (cell_below hb (Nat.le_refl _) HK3.out) (cell_below hb (Nat.le_refl _) HK4.out) (cell_below hb (Nat.le_refl _) HK5.out) (cell_below hb (Nat.le_refl _) HK6.out)) ⟨Below.refl _ _, rfl⟩
      · intro _ a wx hb hk
        have h7 : a.eval (.tmp 7) = .bool true := Eq.mp (by kernel_rfl) (hk 7 (by decide))
        exact Rg.does_move ⟨Below.refl _ _, h7⟩
      · intro _ a wx hb hk
        have h37 : a.eval (.tmp 37) = .bool true := Eq.mp (by kernel_rfl) (hk 37 (by decide))
        exact Rg.does_move ⟨Below.refl _ _, h37⟩
      · intro _ a wx hb hk
        have h5 : a.eval (.tmp 5) = .pointer (some ⟨w6.heap.size, 0, none⟩) := Eq.mp (by kernel_rfl) (hk 5 (by decide))
        exact Rs.does_field _ _ h5 (ans_f0 _ _) ⟨Below.refl _ _, rfl⟩
      · intro _ a wx hb hk
        have h39 : a.eval (.tmp 39) = .pointer (some ⟨w6.heap.size, 0, none⟩) := Eq.mp (by kernel_rfl) (hk 39 (by decide))
        exact Rg.does_load _ _ h39 (load_int (cell_below hb (Nat.le_refl _) HK0.out)) ⟨Below.refl _ _, rfl⟩
      · intro _ a wx hb hk
        have h5 : a.eval (.tmp 5) = .pointer (some ⟨w6.heap.size, 0, none⟩) := Eq.mp (by kernel_rfl) (hk 5 (by decide))
        exact Rg.does_load _ _ h5 (load_ans (cell_below hb (Nat.le_refl _) HK0.out) (cell_below hb (Nat.le_refl _) HK1.out) (cell_below hb (Nat.le_refl _) HK2.out) (cell_below hb (Nat.le_refl _) HK3.out) (cell_below hb (Nat.le_refl _) HK4.out) (cell_below hb (Nat.le_refl _) HK5.out) (cell_below hb (Nat.le_refl _) HK6.out)) ⟨Below.refl _ _, rfl⟩
      · intro _ a wx hb hk
        have h40 : a.eval (.tmp 40) = .int .i64 (smallN (t1 b).1 12 : Int) := Eq.mp (by kernel_rfl) (hk 40 (by decide))
        have h41 : a.eval (.tmp 41) = .agg #[.int .i64 (smallN (t1 b).1 12 : Int), .int .i64 (smallN (t2 b).1 255 : Int), .int .i64 (VarPlain.zag (t3 b).1), .int .i64 (VarPlain.zag (t4 b).1), .string (str (t5 b).1), .slice al (t6 b).1.2.length cl, .int .i64 (smallN (t7 b).1 64 : Int)] := Eq.mp (by kernel_rfl) (hk 41 (by decide))
        refine Rg.does_func #[.int .i64 (smallN (t1 b).1 12 : Int), .agg #[.int .i64 (smallN (t1 b).1 12 : Int), .int .i64 (smallN (t2 b).1 255 : Int), .int .i64 (VarPlain.zag (t3 b).1), .int .i64 (VarPlain.zag (t4 b).1), .string (str (t5 b).1), .slice al (t6 b).1.2.length cl, .int .i64 (smallN (t7 b).1 64 : Int)]] Try.func37 (by kernel_rfl) (by kernel_rfl) (by simp [h40, h41]) (ev_fits_calls wx _ (toldV b) al cl) ?_
        rintro e' w' ⟨rfl, hb'⟩
        exact ⟨_, rfl, hb', rfl⟩
      · intro _ a wx hb hk
        have h38 : a.eval (.tmp 38) = .bool true := Eq.mp (by kernel_rfl) (hk 38 (by decide))
        have h42 : a.eval (.tmp 42) = .bool (fitsB (smallN (t1 b).1 12 : Int) (toldV b)) := Eq.mp (by kernel_rfl) (hk 42 (by decide))
        exact Rg.does_pick true h38 ⟨Below.refl _ _, h42⟩
      · intro _ a wx hb hk
        have h35 : a.eval (.tmp 35) = .pointer (some ⟨q, 0, none⟩) := Eq.mp (by kernel_rfl) (hk 35 (by decide))
        have h36 : a.eval (.tmp 36) = .agg #[.int .i64 (smallN (t1 b).1 12 : Int), .int .i64 (smallN (t2 b).1 255 : Int), .int .i64 (VarPlain.zag (t3 b).1), .int .i64 (VarPlain.zag (t4 b).1), .string (str (t5 b).1), .slice al (t6 b).1.2.length cl, .int .i64 (smallN (t7 b).1 64 : Int)] := Eq.mp (by kernel_rfl) (hk 36 (by decide))
        have h43 : a.eval (.tmp 43) = .bool (fitsB (smallN (t1 b).1 12 : Int) (toldV b)) := Eq.mp (by kernel_rfl) (hk 43 (by decide))
        refine Rg.does_func #[.pointer (some ⟨q, 0, none⟩), .agg #[.int .i64 (smallN (t1 b).1 12 : Int), .int .i64 (smallN (t2 b).1 255 : Int), .int .i64 (VarPlain.zag (t3 b).1), .int .i64 (VarPlain.zag (t4 b).1), .string (str (t5 b).1), .slice al (t6 b).1.2.length cl, .int .i64 (smallN (t7 b).1 64 : Int)], .bool (fitsB (smallN (t1 b).1 12 : Int) (toldV b))] Try.func56 (by kernel_rfl) (by kernel_rfl) (by simp [h35, h36, h43]) (end_ans_calls wx q _ _ (HrdS.out.below hb) _ _ _ _ _ _ _ _ _ (fitsB (smallN (t1 b).1 12 : Int) (toldV b))) ?_
        rintro e' w' ⟨rfl, hb'⟩
        exact ⟨_, rfl, hb', by show _ = _; rw [HV.out]⟩
      · intro _ a wx hb hk
        have h44 : a.eval (.tmp 44) = .tuple #[.agg #[.int .i64 0, .int .i64 0, .int .i64 0, .int .i64 0, .string ⟨#[]⟩, .slice none 0 0, .int .i64 0], .int .i64 (toldE b)] := Eq.mp (by kernel_rfl) (hk 44 (by decide))
        exact does_extract _ _ h44 rfl ⟨Below.refl _ _, rfl⟩
      · intro _ a wx hb hk
        have h44 : a.eval (.tmp 44) = .tuple #[.agg #[.int .i64 0, .int .i64 0, .int .i64 0, .int .i64 0, .string ⟨#[]⟩, .slice none 0 0, .int .i64 0], .int .i64 (toldE b)] := Eq.mp (by kernel_rfl) (hk 44 (by decide))
        exact does_extract _ _ h44 rfl ⟨Below.refl _ _, rfl⟩
      intro vals wD hbD hL
      obtain ⟨g0, g1, g2, g3, g4, g5, g6, g7, g8, g9, g10, g11, _⟩ := hL
      have HGD : Hid (wD.heap[w.heap.size]? = some (.cells #[.int .i64 0, .int .i64 0, .int .i64 0, .int .i64 0, .string ⟨#[]⟩, .slice none 0 0, .int .i64 0] 34)) := by show _ = _; rw [hbD.block _ (by omega)]; exact HGS.out
      have z0 : wD.cell? ⟨w.heap.size, 0, none⟩ = some (.int .i64 0) := by have := HGD.out; simp [World.cell?, this]
      have f0 : wD.frozen? ⟨w.heap.size, 0, none⟩ = false := by have := HGD.out; simp [World.frozen?, this]
      have z1 : wD.cell? ⟨w.heap.size, 1, none⟩ = some (.int .i64 0) := by have := HGD.out; simp [World.cell?, this]
      have f1 : wD.frozen? ⟨w.heap.size, 1, none⟩ = false := by have := HGD.out; simp [World.frozen?, this]
      have z2 : wD.cell? ⟨w.heap.size, 2, none⟩ = some (.int .i64 0) := by have := HGD.out; simp [World.cell?, this]
      have f2 : wD.frozen? ⟨w.heap.size, 2, none⟩ = false := by have := HGD.out; simp [World.frozen?, this]
      have z3 : wD.cell? ⟨w.heap.size, 3, none⟩ = some (.int .i64 0) := by have := HGD.out; simp [World.cell?, this]
      have f3 : wD.frozen? ⟨w.heap.size, 3, none⟩ = false := by have := HGD.out; simp [World.frozen?, this]
      have z4 : wD.cell? ⟨w.heap.size, 4, none⟩ = some (.string ⟨#[]⟩) := by have := HGD.out; simp [World.cell?, this]
      have f4 : wD.frozen? ⟨w.heap.size, 4, none⟩ = false := by have := HGD.out; simp [World.frozen?, this]
      have z5 : wD.cell? ⟨w.heap.size, 5, none⟩ = some (.slice none 0 0) := by have := HGD.out; simp [World.cell?, this]
      have f5 : wD.frozen? ⟨w.heap.size, 5, none⟩ = false := by have := HGD.out; simp [World.frozen?, this]
      have z6 : wD.cell? ⟨w.heap.size, 6, none⟩ = some (.int .i64 0) := by have := HGD.out; simp [World.cell?, this]
      have f6 : wD.frozen? ⟨w.heap.size, 6, none⟩ = false := by have := HGD.out; simp [World.frozen?, this]
      have g10' : vals 10 = .agg #[.int .i64 0, .int .i64 0, .int .i64 0, .int .i64 0, .string ⟨#[]⟩, .slice none 0 0, .int .i64 0] := g10
      have g11' : vals 11 = .int .i64 (toldE b) := g11
      have hownD := Lib.hid (ownsRow_below HownS.out hbD)
      have HBD : Hid (Below w.heap.size w wD) := HBS.out.trans (hbD.mono (by omega))
      have hgD : w.heap.size < wD.heap.size := by have := hbD.size; omega
      clear g0 g1 g2 g3 g4 g5 g6 g7 g8 g9 g10 g11 hbD
      simp only [Rg.putAll, List.take_succ_cons, List.take_zero, List.drop_succ_cons, List.drop_zero, List.setIfInBounds_toArray, List.set_cons_succ, List.set_cons_zero, g10', g11']
      go_wp2_with fail
      refine bodyPost_ret (v := .tuple #[.agg #[.int .i64 0, .int .i64 0, .int .i64 0, .int .i64 0, .string ⟨#[]⟩, .slice none 0 0, .int .i64 0], .int .i64 (toldE b)]) (by simp [results, Try.results33, go_sem, z0, z1, z2, z3, z4, z5, z6]) rfl ?_
      refine ⟨none, 0, by rw [HQ.out]; rfl, ?_, ?_, fun ad h => by cases h⟩
      · rw [HQ.out]; exact RowOf.nil
      · exact (((((((HBD.out.setCell (Nat.le_refl _) _).setCell (Nat.le_refl _) _).setCell (Nat.le_refl _) _).setCell (Nat.le_refl _) _).setCell (Nat.le_refl _) _).setCell (Nat.le_refl _) _).setCell (Nat.le_refl _) _)
  · have hf' : (t6 b).1.1 = false := by simpa using hf
    have HE := Lib.hid (toldE_many hf')
    have hE : toldE b ≠ 0 := by rw [HE.out]; intro hc; have := (endR_zero hc).2.1; cases this
    rw [hf']
    clear hf hf'
    have HQ := Lib.hid (toldA_bad hE)
    have HZ := Lib.hid hE; clear hE
    go_wp2_with fail
    clear hpc hpf HP HG HB Hrd Hown Hstr
    generalize hWS : wl.setCell ⟨w6.heap.size, 5, none⟩ (.slice al (t6 b).1.2.length cl) = ws at *
    clear hWS
    have HK0 : Hid (ws.cell? ⟨w6.heap.size, 0, none⟩ = some (.int .i64 (smallN (t1 b).1 12 : Int))) := by have := HPS.out; show _ = _; simp [World.cell?, this]
    have HK1 : Hid (ws.cell? ⟨w6.heap.size, 1, none⟩ = some (.int .i64 (smallN (t2 b).1 255 : Int))) := by have := HPS.out; show _ = _; simp [World.cell?, this]
    have HK2 : Hid (ws.cell? ⟨w6.heap.size, 2, none⟩ = some (.int .i64 (VarPlain.zag (t3 b).1))) := by have := HPS.out; show _ = _; simp [World.cell?, this]
    have HK3 : Hid (ws.cell? ⟨w6.heap.size, 3, none⟩ = some (.int .i64 (VarPlain.zag (t4 b).1))) := by have := HPS.out; show _ = _; simp [World.cell?, this]
    have HK4 : Hid (ws.cell? ⟨w6.heap.size, 4, none⟩ = some (.string (str (t5 b).1))) := by have := HPS.out; show _ = _; simp [World.cell?, this]
    have HK5 : Hid (ws.cell? ⟨w6.heap.size, 5, none⟩ = some (.slice al (t6 b).1.2.length cl)) := by have := HPS.out; show _ = _; simp [World.cell?, this]
    have HK6 : Hid (ws.cell? ⟨w6.heap.size, 6, none⟩ = some (.int .i64 0)) := by have := HPS.out; show _ = _; simp [World.cell?, this]
    have HV : Hid (endV (endR false (t6 b).2.1 (t6 b).2.2) (.agg #[.int .i64 (smallN (t1 b).1 12 : Int), .int .i64 (smallN (t2 b).1 255 : Int), .int .i64 (VarPlain.zag (t3 b).1), .int .i64 (VarPlain.zag (t4 b).1), .string (str (t5 b).1), .slice al (t6 b).1.2.length cl, .int .i64 0]) (.agg #[.int .i64 0, .int .i64 0, .int .i64 0, .int .i64 0, .string ⟨#[]⟩, .slice none 0 0, .int .i64 0]) = .tuple #[.agg #[.int .i64 0, .int .i64 0, .int .i64 0, .int .i64 0, .string ⟨#[]⟩, .slice none 0 0, .int .i64 0], .int .i64 (toldE b)]) := by show _ = _; rw [← HE.out]; unfold endV; rw [if_neg HZ.out]
    refine Rg.wp_region_rgt 12 [true, true, true, true, false, false, false, false, true, true, true, true] [Rg.Is (.pointer (some ⟨q, 0, none⟩)), Rg.Is (.agg #[.int .i64 (smallN (t1 b).1 12 : Int), .int .i64 (smallN (t2 b).1 255 : Int), .int .i64 (VarPlain.zag (t3 b).1), .int .i64 (VarPlain.zag (t4 b).1), .string (str (t5 b).1), .slice al (t6 b).1.2.length cl, .int .i64 0]), Rg.Is (.bool false), Rg.Is (.bool false), (fun _ _ => True), (fun _ _ => True), (fun _ _ => True), (fun _ _ => True), Rg.Is (.bool false), Rg.Is (.tuple #[.agg #[.int .i64 0, .int .i64 0, .int .i64 0, .int .i64 0, .string ⟨#[]⟩, .slice none 0 0, .int .i64 0], .int .i64 (toldE b)]), Rg.Is (.agg #[.int .i64 0, .int .i64 0, .int .i64 0, .int .i64 0, .string ⟨#[]⟩, .slice none 0 0, .int .i64 0]), Rg.Is (.int .i64 (toldE b))] (by kernel_rfl) (by kernel_rfl) (of_decide_eq_true (by kernel_rfl)) (by kernel_rfl) (by kernel_rfl) ⟨Rg.st_is _, Rg.st_is _, Rg.st_is _, Rg.st_is _, fun _ _ _ h _ => h, fun _ _ _ h _ => h, fun _ _ _ h _ => h, fun _ _ _ h _ => h, Rg.st_is _, Rg.st_is _, Rg.st_is _, Rg.st_is _, trivial⟩ ⟨rfl, rfl, rfl, rfl, Or.inr fun _ _ h => h, Or.inr fun _ _ h => h, Or.inr fun _ _ h => h, Or.inr fun _ _ h => h, rfl, rfl, rfl, rfl, trivial⟩ ⟨?_, ?_, ?_, ?_, ?_, ?_, ?_, ?_, ?_, ?_, ?_, ?_, trivial⟩ ?_
    · intro _ a wx hb hk
      have h4 : a.eval (.tmp 4) = .pointer (some ⟨q, 0, none⟩) := Eq.mp (by kernel_rfl) (hk 4 (by decide))
      exact Rg.does_move ⟨Below.refl _ _, h4⟩
    · intro _ a wx hb hk
      have h5 : a.eval (.tmp 5) = .pointer (some ⟨w6.heap.size, 0, none⟩) := Eq.mp (by kernel_rfl) (hk 5 (by decide))
      exact Rg.does_load _ _ h5 (load_ans (cell_below hb (Nat.le_refl _) HK0.out) (cell_below hb (Nat.le_refl _) HK1.out) (cell_below hb (Nat.le_refl _) HK2.out) (cell_below hb (Nat.le_refl _) HK3.out) (cell_below hb (Nat.le_refl _) HK4.out) (cell_below hb (Nat.le_refl _) HK5.out) (cell_below hb (Nat.le_refl _) HK6.out)) ⟨Below.refl _ _, rfl⟩
    · intro _ a wx hb hk
      have h7 : a.eval (.tmp 7) = .bool false := Eq.mp (by kernel_rfl) (hk 7 (by decide))
      exact Rg.does_move ⟨Below.refl _ _, h7⟩
    · intro _ a wx hb hk
      have h37 : a.eval (.tmp 37) = .bool false := Eq.mp (by kernel_rfl) (hk 37 (by decide))
      exact Rg.does_move ⟨Below.refl _ _, h37⟩
    · intro h; exact absurd h (by decide)
    · intro h; exact absurd h (by decide)
    · intro h; exact absurd h (by decide)
    · intro h; exact absurd h (by decide)
    · intro _ a wx hb hk
      have h38 : a.eval (.tmp 38) = .bool false := Eq.mp (by kernel_rfl) (hk 38 (by decide))
      have h42 : a.eval (.tmp 42) = undef := Eq.mp (by kernel_rfl) (hk 42 (by decide))
      exact Rg.does_pick false h38 ⟨Below.refl _ _, rfl⟩
    · intro _ a wx hb hk
      have h35 : a.eval (.tmp 35) = .pointer (some ⟨q, 0, none⟩) := Eq.mp (by kernel_rfl) (hk 35 (by decide))
      have h36 : a.eval (.tmp 36) = .agg #[.int .i64 (smallN (t1 b).1 12 : Int), .int .i64 (smallN (t2 b).1 255 : Int), .int .i64 (VarPlain.zag (t3 b).1), .int .i64 (VarPlain.zag (t4 b).1), .string (str (t5 b).1), .slice al (t6 b).1.2.length cl, .int .i64 0] := Eq.mp (by kernel_rfl) (hk 36 (by decide))
      have h43 : a.eval (.tmp 43) = .bool false := Eq.mp (by kernel_rfl) (hk 43 (by decide))
      refine Rg.does_func #[.pointer (some ⟨q, 0, none⟩), .agg #[.int .i64 (smallN (t1 b).1 12 : Int), .int .i64 (smallN (t2 b).1 255 : Int), .int .i64 (VarPlain.zag (t3 b).1), .int .i64 (VarPlain.zag (t4 b).1), .string (str (t5 b).1), .slice al (t6 b).1.2.length cl, .int .i64 0], .bool false] Try.func56 (by kernel_rfl) (by kernel_rfl) (by simp [h35, h36, h43]) (end_ans_calls wx q _ _ (HrdS.out.below hb) _ _ _ _ _ _ _ _ _ false) ?_
      rintro e' w' ⟨rfl, hb'⟩
      exact ⟨_, rfl, hb', by show _ = _; rw [HV.out]⟩
    · intro _ a wx hb hk
      have h44 : a.eval (.tmp 44) = .tuple #[.agg #[.int .i64 0, .int .i64 0, .int .i64 0, .int .i64 0, .string ⟨#[]⟩, .slice none 0 0, .int .i64 0], .int .i64 (toldE b)] := Eq.mp (by kernel_rfl) (hk 44 (by decide))
      exact does_extract _ _ h44 rfl ⟨Below.refl _ _, rfl⟩
    · intro _ a wx hb hk
      have h44 : a.eval (.tmp 44) = .tuple #[.agg #[.int .i64 0, .int .i64 0, .int .i64 0, .int .i64 0, .string ⟨#[]⟩, .slice none 0 0, .int .i64 0], .int .i64 (toldE b)] := Eq.mp (by kernel_rfl) (hk 44 (by decide))
      exact does_extract _ _ h44 rfl ⟨Below.refl _ _, rfl⟩
    intro vals wD hbD hL
    obtain ⟨g0, g1, g2, g3, g4, g5, g6, g7, g8, g9, g10, g11, _⟩ := hL
    have HGD : Hid (wD.heap[w.heap.size]? = some (.cells #[.int .i64 0, .int .i64 0, .int .i64 0, .int .i64 0, .string ⟨#[]⟩, .slice none 0 0, .int .i64 0] 34)) := by show _ = _; rw [hbD.block _ (by omega)]; exact HGS.out
    have z0 : wD.cell? ⟨w.heap.size, 0, none⟩ = some (.int .i64 0) := by have := HGD.out; simp [World.cell?, this]
    have f0 : wD.frozen? ⟨w.heap.size, 0, none⟩ = false := by have := HGD.out; simp [World.frozen?, this]
    have z1 : wD.cell? ⟨w.heap.size, 1, none⟩ = some (.int .i64 0) := by have := HGD.out; simp [World.cell?, this]
    have f1 : wD.frozen? ⟨w.heap.size, 1, none⟩ = false := by have := HGD.out; simp [World.frozen?, this]
    have z2 : wD.cell? ⟨w.heap.size, 2, none⟩ = some (.int .i64 0) := by have := HGD.out; simp [World.cell?, this]
    have f2 : wD.frozen? ⟨w.heap.size, 2, none⟩ = false := by have := HGD.out; simp [World.frozen?, this]
    have z3 : wD.cell? ⟨w.heap.size, 3, none⟩ = some (.int .i64 0) := by have := HGD.out; simp [World.cell?, this]
    have f3 : wD.frozen? ⟨w.heap.size, 3, none⟩ = false := by have := HGD.out; simp [World.frozen?, this]
    have z4 : wD.cell? ⟨w.heap.size, 4, none⟩ = some (.string ⟨#[]⟩) := by have := HGD.out; simp [World.cell?, this]
    have f4 : wD.frozen? ⟨w.heap.size, 4, none⟩ = false := by have := HGD.out; simp [World.frozen?, this]
    have z5 : wD.cell? ⟨w.heap.size, 5, none⟩ = some (.slice none 0 0) := by have := HGD.out; simp [World.cell?, this]
    have f5 : wD.frozen? ⟨w.heap.size, 5, none⟩ = false := by have := HGD.out; simp [World.frozen?, this]
    have z6 : wD.cell? ⟨w.heap.size, 6, none⟩ = some (.int .i64 0) := by have := HGD.out; simp [World.cell?, this]
    have f6 : wD.frozen? ⟨w.heap.size, 6, none⟩ = false := by have := HGD.out; simp [World.frozen?, this]
    have g10' : vals 10 = .agg #[.int .i64 0, .int .i64 0, .int .i64 0, .int .i64 0, .string ⟨#[]⟩, .slice none 0 0, .int .i64 0] := g10
    have g11' : vals 11 = .int .i64 (toldE b) := g11
    have hownD := Lib.hid (ownsRow_below HownS.out hbD)
    have HBD : Hid (Below w.heap.size w wD) := HBS.out.trans (hbD.mono (by omega))
    have hgD : w.heap.size < wD.heap.size := by have := hbD.size; omega
    clear g0 g1 g2 g3 g4 g5 g6 g7 g8 g9 g10 g11 hbD
    simp only [Rg.putAll, List.take_succ_cons, List.take_zero, List.drop_succ_cons, List.drop_zero, List.setIfInBounds_toArray, List.set_cons_succ, List.set_cons_zero, g10', g11']
    go_wp2_with fail
    refine bodyPost_ret (v := .tuple #[.agg #[.int .i64 0, .int .i64 0, .int .i64 0, .int .i64 0, .string ⟨#[]⟩, .slice none 0 0, .int .i64 0], .int .i64 (toldE b)]) (by simp [results, Try.results33, go_sem, z0, z1, z2, z3, z4, z5, z6]) rfl ?_
    refine ⟨none, 0, by rw [HQ.out]; rfl, ?_, ?_, fun ad h => by cases h⟩
    · rw [HQ.out]; exact RowOf.nil
    · exact (((((((HBD.out.setCell (Nat.le_refl _) _).setCell (Nat.le_refl _) _).setCell (Nat.le_refl _) _).setCell (Nat.le_refl _) _).setCell (Nat.le_refl _) _).setCell (Nat.le_refl _) _).setCell (Nat.le_refl _) _)

theorem told_calls (w : World) (a : Option Addr) (ln cap : Nat) (b : List UInt8) (hb : Bytes w a ln cap b) (hs : ln ≤ 1000000000) :
    Calls Try.prog 33 #[.slice a ln cap] w fun r w' => ∃ a1 c1, r = .returned (.tuple #[ansV (toldA b) a1 c1, .int .i64 (toldE b)]) ∧ Strs w' a1 (toldA b).list.length c1 (toldA b).list ∧ Below w.heap.size w w' :=
  (told_calls_at w a ln cap b hb hs).mono fun _ _ ⟨a1, c1, hr, hs, hb, _⟩ => ⟨a1, c1, hr, hs, hb⟩

end Go.Proofs.Ytgbnfipbedlmhaa
