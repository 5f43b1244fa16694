/-
  State: the law's 'few', walked. Conditions: as each contract says.
-/
import Derived.Test.YtnmlnaoljkhjeaaStFew
set_option linter.unusedVariables false
set_option maxRecDepth 100000
namespace Go.Proofs.Ytnmlnaoljkhjeaa
open Go.RowKit Base

theorem und_fr : (Try.prog.underlying 70).map TypeDesc.isRow = some true := by kernel_rfl
theorem info_fr : (Try.prog.info? 70).map (fun i => i.size) = some 19 := by kernel_rfl
theorem framesN_take {l : List FrameD} {k : Nat} (hk : k < l.length) : framesN (l.take (k + 1)) = framesN (l.take k) + frameN l[k] := by
  unfold framesN
  rw [List.take_succ_eq_append_getElem hk, List.map_append, List.sum_append]
  simp
theorem framesN_le (l : List FrameD) (k : Nat) : framesN (l.take k) ≤ framesN l := by
  unfold framesN
  conv => rhs; rw [← List.take_append_drop k l]
  rw [List.map_append, List.sum_append]
  omega
abbrev frZ : List Value := [.int .i64 0, .int .i64 0, .int .i64 0, .int .i64 0, .int .i64 0, .bool false, .int .i64 0, .int .i64 0, .string ⟨#[]⟩, .slice none 0 0, .slice none 0 0, .slice none 0 0, .slice none 0 0, .slice none 0 0, .int .i64 0, .string ⟨#[]⟩, .slice none 0 0, .slice none 0 0, .slice none 0 0]
theorem frameA_1 {W : World} {us : List Value} {f : FrameD} (h : frameA W us f) : us.length = 19 ∧ ∀ v ∈ us, v.oneCell' = true := by
  obtain ⟨p9, p10, p11, p12, p13, p16, p17, p18, k9, k10, k11, k12, k13, k16, k17, k18, rfl, _⟩ := frameA_inv h
  refine ⟨rfl, fun v hv => ?_⟩
  simp only [List.mem_cons, List.not_mem_nil, or_false] at hv
  rcases hv with rfl | rfl | rfl | rfl | rfl | rfl | rfl | rfl | rfl | rfl | rfl | rfl | rfl | rfl | rfl | rfl | rfl | rfl | rfl <;> rfl
theorem there_cut {w : World} {b : Nat} {us : List Value} {t : TypeId} (h : Cut b us t w) (n : Nat) (hl : n ≤ us.length) : w.there b 0 n := fun j hj => ⟨by rw [Nat.zero_add, h.cell, List.getElem?_eq_getElem (by omega)]; rfl, by rw [Nat.zero_add]; exact h.frozen j⟩
theorem set_cut {w : World} {b : Nat} {us vs : List Value} {t : TypeId} (h : Cut b us t w) (hl : vs.length = us.length) : Cut b vs t (w.setCells b 0 vs) := by
  have := Sl.heap_setCells b t vs 0 w us h (by omega)
  rw [splice_full hl] at this
  exact this
abbrev frT : TypeId := 70
set_option maxHeartbeats 4000000 in
theorem few_calls (W : World) (vs : List Value) (s : StateD) (h : stateA W vs s) (hl : (stateC.enc s).length ≤ 100000000) :
    Calls Try.prog 8 #[.agg vs.toArray] W fun r W' => r = .returned (.bool (decide (fewN s ≤ 300))) ∧ Below W.heap.size W W' := by
  have HN : Hid (fewN s ≤ 100000000) := Nat.le_trans (few_ge s) hl
  obtain ⟨p0, p1, p4, p5, p6, p7, p8, p13, p19, p21, k0, k1, k4, k5, k6, k7, k8, k13, k19, k21, hvs, E0, E1, E4, E5, E6, E7, E8, E13, E19, E21⟩ := stateA_inv h
  obtain ⟨w1, hw1, hc, hb1⟩ : ∃ w1, W.alloc (.cells vs.toArray stT) = w1 ∧ Cut W.heap.size vs stT w1 ∧ Below W.heap.size W w1 := ⟨_, rfl, heap_alloc_new W _, (Below.refl W.heap.size W).alloc (Nat.le_refl _) _⟩
  have HW := Lib.hid hw1
  have HC := Lib.hid hc
  have HB := Lib.hid hb1
  have HE := Lib.hid E8
  have HV := Lib.hid hvs
  obtain ⟨hn1, hn2⟩ : headN s ≤ 100000000 ∧ framesN s.2.2.1 ≤ 100000000 := by have := HN.out; unfold fewN at this; omega
  have hn3 := hn1
  unfold headN keepN at hn3
  have HH : Hid (headN s = s.2.1.length + s.2.2.1.length + s.2.2.2.2.2.1.length + (s.1.1.1.length + s.1.1.2.1.length + s.1.2.1.length + s.1.2.2.1.length + s.1.2.2.2.length) + s.2.2.2.1.2.2.2.2.length + s.2.2.2.2.1.2.2.2.2.1.length) := rfl
  have HFN : Hid (fewN s = headN s + framesN s.2.2.1) := rfl
  clear hw1 hc hb1 h hl E0 E1 E4 E5 E6 E7 E8 E13 E19 E21
  have cell : ∀ j v, vs[j]? = some v → w1.cell? ⟨W.heap.size, j, none⟩ = some v := fun j v hv => (HC.out.cell j).trans hv
  rw [hvs] at cell
  have c0 := cell 0 _ rfl
  have c1 := cell 1 _ rfl
  have c4 := cell 4 _ rfl
  have c5 := cell 5 _ rfl
  have c6 := cell 6 _ rfl
  have c7 := cell 7 _ rfl
  have c8 := cell 8 _ rfl
  have c13 := cell 13 _ rfl
  have c19 := cell 19 _ rfl
  have c21 := cell 21 _ rfl
  have HC8 := Lib.hid c8
  clear cell hvs
  generalize s.1.1.1.length = n0 at *
  generalize s.1.1.2.1.length = n1 at *
  generalize s.1.2.1.length = n4 at *
  generalize s.1.2.2.1.length = n5 at *
  generalize s.1.2.2.2.length = n6 at *
  generalize s.2.1.length = n7 at *
  generalize s.2.2.2.1.2.2.2.2.length = n13 at *
  generalize s.2.2.2.2.1.2.2.2.2.1.length = n19 at *
  generalize s.2.2.2.2.2.1.length = n21 at *
  generalize headN s = hd at *
  generalize s.2.2.1 = fr at *
  go_enter Try.func8, Try.ntmps8
  go_upto_region 1 with fail
  rw [HW.out]
  go_upto_region 3 with fail
  clear c0 c1 c4 c5 c6 c7 c13 c19 c21 c8
  go_loopw [3, 4, 5] (fun v3 v4 _ wr => ∃ k : Nat, k ≤ fr.length ∧ v4 = .int .i64 k ∧ v3 = .int .i64 ((hd + framesN (fr.take k) : Nat) : Int) ∧ Below W.heap.size W wr ∧ wr.cell? ⟨W.heap.size, 8, none⟩ = some (.slice p8 fr.length k8)) (fun _ v4 _ _ => fr.length - (intOf v4).toNat)
  case atStart =>
    refine ⟨0, Nat.zero_le _, rfl, ?_, HB.out, HC8.out⟩
    have h1 := HH.out
    rw [List.take_zero, show framesN [] = 0 from rfl]
    go_num
  case round =>
    obtain ⟨k, hk, rfl, rfl, hb, hc8⟩ := hrel
    have HBr := Lib.hid hb
    have HC8r := Lib.hid hc8
    have hle := framesN_le fr k
    clear hb
    by_cases hlt : k < fr.length
    · obtain ⟨_, _, he⟩ := HE.out
      obtain ⟨b, o, rfl, hel⟩ := he.resolve_left (fun e => by rw [e] at hlt; exact absurd hlt (Nat.not_lt_zero _))
      obtain ⟨us, hul, hcu, _, hA⟩ := hel k hlt
      have h1s := frameA_1 hA
      obtain ⟨p9, p10, p11, p12, p13, p16, p17, p18, k9, k10, k11, k12, k13', k16, k17, k18, hus, _⟩ := frameA_inv hA
      have HFT := Lib.hid (framesN_take hlt)
      have HFL : Hid (framesN (fr.take (k + 1)) ≤ framesN fr) := framesN_le fr (k + 1)
      have HFNk : Hid (frameN fr[k] = fr[k].2.2.2.2.2.1.length + fr[k].2.2.2.2.2.2.1.length + fr[k].2.2.2.2.2.2.2.1.length + (fr[k].2.2.2.2.2.2.2.2.1.1.length + fr[k].2.2.2.2.2.2.2.2.1.2.1.length + fr[k].2.2.2.2.2.2.2.2.2.1.length + fr[k].2.2.2.2.2.2.2.2.2.2.1.length + fr[k].2.2.2.2.2.2.2.2.2.2.2.length)) := rfl
      have hsum : framesN (fr.take k) + (fr[k].2.2.2.2.2.1.length + fr[k].2.2.2.2.2.2.1.length + fr[k].2.2.2.2.2.2.2.1.length + (fr[k].2.2.2.2.2.2.2.2.1.1.length + fr[k].2.2.2.2.2.2.2.2.1.2.1.length + fr[k].2.2.2.2.2.2.2.2.2.1.length + fr[k].2.2.2.2.2.2.2.2.2.2.1.length + fr[k].2.2.2.2.2.2.2.2.2.2.2.length)) ≤ 100000000 := by
        rw [← HFNk.out, ← HFT.out]
        exact Nat.le_trans HFL.out hn2
      have hbl : b < W.heap.size := World.block_lt_of_cell? W _ (hcu 0 (by omega))
      have HRg : Hid (wr.rangeAt b (o + k * 19) us) := fun j v hv => by
        have hj : j < us.length := (List.getElem?_eq_some_iff.1 hv).1
        have := (HBr.out.cell (p := ⟨b, o + k * 19 + j, none⟩) hbl).trans (hcu j hj)
        rw [this, ← hv, List.getElem?_eq_getElem hj]
      obtain ⟨fb, wa, hwa, hfb, hca, hba⟩ : ∃ fb wa, wr.alloc (.cells frZ.toArray frT) = wa ∧ wr.heap.size = fb ∧ Cut fb frZ frT wa ∧ Below wr.heap.size wr wa := ⟨_, _, rfl, rfl, heap_alloc_new wr _, (Below.refl wr.heap.size wr).alloc (Nat.le_refl _) _⟩
      have HWa : Hid (wr.alloc (.cells #[.int .i64 0, .int .i64 0, .int .i64 0, .int .i64 0, .int .i64 0, .bool false, .int .i64 0, .int .i64 0, .string ⟨#[]⟩, .slice none 0 0, .slice none 0 0, .slice none 0 0, .slice none 0 0, .slice none 0 0, .int .i64 0, .string ⟨#[]⟩, .slice none 0 0, .slice none 0 0, .slice none 0 0] frT) = wa) := hwa
      have HFb := Lib.hid hfb
      have HCa := Lib.hid hca
      have HBa := Lib.hid hba
      have HRga : Hid (wa.rangeAt b (o + k * 19) us) := fun j v hv => by
        have := HRg.out j v hv
        exact (hba.cell (p := ⟨b, o + k * 19 + j, none⟩) (World.block_lt_of_cell? wr _ this)).trans this
      obtain ⟨dd, hdu, hdr⟩ := Option.map_eq_some_iff.1 und_fr
      have HDu := Lib.hid hdu
      have HDr := Lib.hid hdr
      have HUl := Lib.hid hul
      have HU1 := Lib.hid h1s.2
      have HUs := Lib.hid hus
      have hx := fun W => row_idx Try.underlying32 19 info_el_frame b o fr.length k8 k hlt W
      clear hdu hdr h1s hwa hfb hca hba hul hcu hel he hA hus
      have u1 : decide ((k : Int) < (fr.length : Int)) = true := decide_eq_true (by omega)
      have u2 : (k : Int) < (fr.length : Int) := by omega
      have u3 : decide (k < fr.length) = true := decide_eq_true hlt
      go_upto_region 5 with fail
      go_upto_region 6 with (first | (refine wpList_load_mid rfl frT (.tmp 64) rfl b (o + k * 19) rfl us dd HRg.out HDu.out HDr.out (by rw [HUl.out]; exact info_fr) ?_) | (refine wpList_store_mid rfl frT (.tmp 5) (.tmp 65) rfl wr.heap.size 0 us.toArray rfl rfl (by rw [HWa.out, HFb.out]; exact there_cut HCa.out _ (by rw [List.size_toArray, HUl.out]; exact Nat.le_refl _)) (by rw [List.size_toArray, HUl.out]; exact info_fr) (all_oneCell_toArray HU1.out) ?_))
      rw [HWa.out, HFb.out]
      have hcs : Cut fb us frT (wa.setCells fb 0 us) := set_cut HCa.out (by rw [HUl.out]; rfl)
      have HBs : Hid (Below W.heap.size W (wa.setCells fb 0 us)) := by
        have hs := HBr.out.size
        have h1 := HBr.out.trans (HBa.out.mono hs)
        exact h1.grown (Sl.setCells_grown fb us 0 wa) h1.size (fun j hj => by have := Option.some.inj hj; have := HFb.out; omega)
      have HCs8 : Hid ((wa.setCells fb 0 us).cell? ⟨W.heap.size, 8, none⟩ = some (.slice (some ⟨b, o, none⟩) fr.length k8)) := by
        have hs : W.heap.size < wr.heap.size := World.block_lt_of_cell? wr _ HC8r.out
        have h2 : (wa.setCells fb 0 us).heap[W.heap.size]? = wr.heap[W.heap.size]? := ((Sl.setCells_grown fb us 0 wa).block _ (Nat.lt_of_lt_of_le hs HBa.out.size) (fun e => by have := Option.some.inj e; have := HFb.out; omega)).trans (HBa.out.block _ hs)
        exact (World.cell?_of_block h2).trans HC8r.out
      clear hc8 hx u1 u2 u3
      generalize wa.setCells fb 0 us = ws at *
      have cell : ∀ j v, us[j]? = some v → ws.cell? ⟨fb, j, none⟩ = some v := fun j v hv => (hcs.cell j).trans hv
      rw [HUs.out] at cell
      have c9 := cell 9 _ rfl
      have c10 := cell 10 _ rfl
      have c11 := cell 11 _ rfl
      have c12 := cell 12 _ rfl
      have c13 := cell 13 _ rfl
      have c16 := cell 16 _ rfl
      have c17 := cell 17 _ rfl
      have c18 := cell 18 _ rfl
      clear cell hcs HRga HRg HUs
      obtain ⟨FT, hFT⟩ : ∃ FT, framesN (fr.take k) = FT := ⟨_, rfl⟩
      rw [hFT] at hsum HFT hle ⊢
      clear hFT
      generalize frameN fr[k] = fn at *
      generalize fr[k].2.2.2.2.2.1.length = m9 at *
      generalize fr[k].2.2.2.2.2.2.1.length = m10 at *
      generalize fr[k].2.2.2.2.2.2.2.1.length = m11 at *
      generalize fr[k].2.2.2.2.2.2.2.2.1.1.length = m12 at *
      generalize fr[k].2.2.2.2.2.2.2.2.1.2.1.length = m13 at *
      generalize fr[k].2.2.2.2.2.2.2.2.2.1.length = m16 at *
      generalize fr[k].2.2.2.2.2.2.2.2.2.2.1.length = m17 at *
      generalize fr[k].2.2.2.2.2.2.2.2.2.2.2.length = m18 at *
      have hk9 : k ≤ 100000000 := by have := hn3; omega
      go_wp2_with fail
      go_roundw
      case rel =>
        refine ⟨k + 1, by omega, by go_num, ?_, HBs.out, HCs8.out⟩
        have h1 := HFT.out
        have h2 := HFNk.out
        rw [h1, h2]
        go_num
      case measure => simp [intOf]; omega
    · obtain rfl : k = fr.length := by omega
      rw [List.take_length]
      have u1 : decide ((fr.length : Int) < (fr.length : Int)) = false := decide_eq_false (by omega)
      have u2 : ¬ ((fr.length : Int) < (fr.length : Int)) := by omega
      have u3 : decide (fr.length < fr.length) = false := decide_eq_false (by omega)
      have HHf : Hid (decide (hd + framesN fr ≤ 300) = decide (fewN s ≤ 300)) := by show _ = _; rw [HFN.out]
      by_cases h3 : hd + framesN fr ≤ 300
      · have d1 : decide (((hd + framesN fr : Nat) : Int) ≤ 300) = true := decide_eq_true (by omega)
        have d2 : ((hd + framesN fr : Nat) : Int) ≤ 300 := by omega
        have d3 : decide ((hd : Int) + (framesN fr : Int) ≤ 300) = true := decide_eq_true (by omega)
        have d4 : (hd : Int) + (framesN fr : Int) ≤ 300 := by omega
        have HR : Hid (decide (fewN s ≤ 300) = true) := by show _ = _; rw [← HHf.out]; exact decide_eq_true h3
        clear h3
        go_wp2_with fail
        go_ret
        rw [HR.out]
        exact ⟨rfl, HBr.out⟩
      · have d1 : decide (((hd + framesN fr : Nat) : Int) ≤ 300) = false := decide_eq_false (by omega)
        have d2 : ¬ ((hd + framesN fr : Nat) : Int) ≤ 300 := by omega
        have d3 : decide ((hd : Int) + (framesN fr : Int) ≤ 300) = false := decide_eq_false (by omega)
        have d4 : ¬ (hd : Int) + (framesN fr : Int) ≤ 300 := by omega
        have HR : Hid (decide (fewN s ≤ 300) = false) := by show _ = _; rw [← HHf.out]; exact decide_eq_false h3
        clear h3
        go_wp2_with fail
        go_ret
        rw [HR.out]
        exact ⟨rfl, HBr.out⟩
end Go.Proofs.Ytnmlnaoljkhjeaa
