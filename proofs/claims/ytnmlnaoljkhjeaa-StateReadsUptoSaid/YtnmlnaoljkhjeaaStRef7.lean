/-
  State: the reference: a state's bytes, walked. Conditions: as each contract says.
-/
import Derived.Test.YtnmlnaoljkhjeaaStRef6
set_option linter.unusedVariables false
set_option maxRecDepth 100000
namespace Go.Proofs.Ytnmlnaoljkhjeaa
open Go.RowKit Base

theorem und_rP : (Try.prog.underlying rST).map TypeDesc.isRow = some true := by kernel_rfl
set_option maxHeartbeats 4000000 in
theorem ref_pack_calls (W : World) (vs : List Value) (s : StateD) (h : rStateA W vs s) (hq : StateQ s) (hl : (stateC.enc s).length ≤ 100000000) :
    Calls Try.prog 11 #[.agg vs.toArray] W fun r w' => r = .returned (.string (str (stateC.enc s))) ∧ Below W.heap.size W w' := by
  obtain ⟨uk, uq, ua, p7, p8, p21, p22, p23, k7, k8, k21, k22, k23, hvs, hk, hreq, hans, e7, e8, e21, e22, e23⟩ := rStateA_inv h
  have hrs : RS vs uk uq ua s p7 p8 p21 p22 p23 k7 k8 k21 k22 k23 := by
    rw [hvs]
    exact rs_of (keepA_len hk) (reqA_len hreq) (ansA_len hans)
  have h3I : encs numC (threeI s) = intB s.2.2.2.2.2.2.1.1 ++ (intB s.2.2.2.2.2.2.1.2.1 ++ intB s.2.2.2.2.2.2.1.2.2) := by
    show intB s.2.2.2.2.2.2.1.1 ++ (intB s.2.2.2.2.2.2.1.2.1 ++ (intB s.2.2.2.2.2.2.1.2.2 ++ [])) = _
    rw [List.append_nil]
  have h3B : encs bitC (threeB s) = bitC.enc s.2.2.2.2.2.2.2.1.1 ++ (bitC.enc s.2.2.2.2.2.2.2.1.2.1 ++ bitC.enc s.2.2.2.2.2.2.2.1.2.2) := by
    show bitC.enc s.2.2.2.2.2.2.2.1.1 ++ (bitC.enc s.2.2.2.2.2.2.2.1.2.1 ++ (bitC.enc s.2.2.2.2.2.2.2.1.2.2 ++ [])) = _
    rw [List.append_nil]
  have henc : stateC.enc s = keepC.enc s.1 ++ ((rowC txtC).enc s.2.1 ++ ((intB (s.2.2.1.length : Int) ++ encs frameC s.2.2.1) ++ (reqC.enc s.2.2.2.1 ++ (ansC.enc s.2.2.2.2.1 ++ ((intB (s.2.2.2.2.2.1.length : Int) ++ encs numC s.2.2.2.2.2.1) ++ (encs numC (threeI s) ++ (encs bitC (threeB s) ++ intB s.2.2.2.2.2.2.2.2))))))) := by
    rw [h3I, h3B]
    rfl
  have hl1 := hl
  rw [henc] at hl1
  simp only [List.length_append] at hl1
  have hn8 := row_len_le (c := frameC) (fun a => by have := frame_ge a; omega) s.2.2.1
  have hn21 := row_len_le numC_pos s.2.2.2.2.2.1
  simp only [List.length_append] at hn8 hn21
  have HL : Hid ((keepC.enc s.1).length + (((rowC txtC).enc s.2.1).length + ((intB (s.2.2.1.length : Int)).length + (encs frameC s.2.2.1).length + ((reqC.enc s.2.2.2.1).length + ((ansC.enc s.2.2.2.2.1).length + ((intB (s.2.2.2.2.2.1.length : Int)).length + (encs numC s.2.2.2.2.2.1).length + ((encs numC (threeI s)).length + ((encs bitC (threeB s)).length + (intB s.2.2.2.2.2.2.2.2).length))))))) ≤ 100000000) := hl1
  have HEnc := Lib.hid henc
  have HN8 : Hid (s.2.2.1.length ≤ 100000000) := by show _ ≤ _; omega
  have HN21 : Hid (s.2.2.2.2.2.1.length ≤ 100000000) := by show _ ≤ _; omega
  obtain ⟨w1, hw1, hc, hb1⟩ : ∃ w1, W.alloc (.cells vs.toArray rST) = w1 ∧ Cut W.heap.size vs rST w1 ∧ Below W.heap.size W w1 := ⟨_, rfl, heap_alloc_new W _, (Below.refl W.heap.size W).alloc (Nat.le_refl _) _⟩
  have HW := Lib.hid hw1
  have HC := Lib.hid hc
  have HB1 := Lib.hid hb1
  have HRS := Lib.hid hrs
  have HK := Lib.hid hk
  have HReq := Lib.hid hreq
  have HAns := Lib.hid hans
  have HE7 := Lib.hid e7
  have HE8 := Lib.hid e8
  have HE21 := Lib.hid e21
  have HE22 := Lib.hid e22
  have HE23 := Lib.hid e23
  have HQ := Lib.hid hq
  have HQ3 : Hid (∀ z ∈ threeI s, I64 z) := by
    obtain ⟨q0, q1, q2⟩ := hq.2.2.2.2.2.2.1
    show ∀ z ∈ threeI s, _
    simp only [List.mem_cons, List.not_mem_nil, or_false]
    rintro z (rfl | rfl | rfl)
    all_goals assumption
  have HKl := keepA_len hk
  have HQl := reqA_len hreq
  have HAl := ansA_len hans
  have HInfK : Hid ((Try.prog.info? rKT).map (fun i => i.size) = some uk.length) := by show _ = _; rw [HKl]; exact info_rK
  have HInfQ : Hid ((Try.prog.info? rqT).map (fun i => i.size) = some uq.length) := by show _ = _; rw [HQl]; exact info_rq
  have HInfA : Hid ((Try.prog.info? raT).map (fun i => i.size) = some ua.length) := by show _ = _; rw [HAl]; exact info_ra
  obtain ⟨dk, hku, hkr⟩ := Option.map_eq_some_iff.1 und_rK
  have HKu := Lib.hid hku
  have HKr := Lib.hid hkr
  obtain ⟨dq, hqu, hqr⟩ := Option.map_eq_some_iff.1 und_rq
  have HQu := Lib.hid hqu
  have HQr := Lib.hid hqr
  obtain ⟨da, hau, har⟩ := Option.map_eq_some_iff.1 und_ra
  have HAu := Lib.hid hau
  have HAr := Lib.hid har
  obtain ⟨df, hfu, hfr⟩ := Option.map_eq_some_iff.1 und_rF
  have HFu := Lib.hid hfu
  have HFr := Lib.hid hfr
  clear h hq hl hl1 hw1 hc hb1 hvs hk hreq hans e7 e8 e21 e22 e23 hrs h3I h3B henc hn8 hn21 HKl HQl HAl hku hkr hqu hqr hau har hfu hfr
  go_enter Try.func11, Try.ntmps11
  go_upto_region 1 with fail
  rw [HW.out]
  obtain ⟨eb, heb⟩ : ∃ eb, W.heap.size = eb := ⟨_, rfl⟩
  rw [heb] at HC ⊢
  clear heb
  refine Rg.wp_region_rgl [] [Rg.Is (.pointer (some ⟨eb, 0, none⟩)), Rg.Is (.agg uk.toArray), Rg.Is (.string (str (keepC.enc s.1))), Rg.Is (.pointer (some ⟨eb, 7, none⟩)), Rg.Is (.slice p7 s.2.1.length k7), Rg.Is (.string (str ((rowC txtC).enc s.2.1))), Rg.Is (.string (str (keepC.enc s.1 ++ (rowC txtC).enc s.2.1))), Rg.Is (.pointer (some ⟨eb, 8, none⟩)), Rg.Is (.slice p8 s.2.2.1.length k8), Rg.Is (.int .i64 (s.2.2.1.length : Int)), Rg.Is (.string (str (intB (s.2.2.1.length : Int)))), Rg.Is (.string (str ((keepC.enc s.1 ++ (rowC txtC).enc s.2.1) ++ intB (s.2.2.1.length : Int)))), Rg.Is (.string (str ((keepC.enc s.1 ++ (rowC txtC).enc s.2.1) ++ intB (s.2.2.1.length : Int))))] (by kernel_rfl) (by kernel_rfl) (by kernel_rfl) ⟨Rg.st_is _, Rg.st_is _, Rg.st_is _, Rg.st_is _, Rg.st_is _, Rg.st_is _, Rg.st_is _, Rg.st_is _, Rg.st_is _, Rg.st_is _, Rg.st_is _, Rg.st_is _, Rg.st_is _, trivial⟩ ⟨rfl, rfl, rfl, rfl, rfl, rfl, rfl, rfl, rfl, rfl, rfl, rfl, rfl, trivial⟩ ⟨?_, ?_, ?_, ?_, ?_, ?_, ?_, ?_, ?_, ?_, ?_, ?_, ?_, trivial⟩ ?_
  · intro _ a wx hb hk
    have h1 : a.eval (.tmp 1) = .pointer (some ⟨eb, 0, none⟩) := Eq.mp (by kernel_rfl) (hk 1 (by decide))
    exact Rs.does_field _ _ h1 (show (Instr.fieldAt 59 (.pointer (some ⟨eb, 0, none⟩)) 0).run Try.prog wx = .ok (.pointer (some ⟨eb, 0, none⟩)) wx from rfl) ⟨Below.refl _ _, rfl⟩
  · intro _ a wx hb hk
    have h6 : a.eval (.tmp 6) = .pointer (some ⟨eb, 0, none⟩) := Eq.mp (by kernel_rfl) (hk 6 (by decide))
    exact Rg.does_load _ _ h6 (run_loadAt_mid wx eb 0 _ uk dk (fun j v hv => cell_below hb (Nat.le_refl _) ((HC.out.cell (0 + j)).trans (HRS.out.ck j v hv))) HKu.out HKr.out HInfK.out) ⟨Below.refl _ _, rfl⟩
  · intro _ a wx hb hk
    have h7 : a.eval (.tmp 7) = .agg uk.toArray := Eq.mp (by kernel_rfl) (hk 7 (by decide))
    refine Rg.does_func #[.agg uk.toArray] Try.func19 (by kernel_rfl) (by kernel_rfl) (by simp [h7]) (ref_keep_calls wx uk s.1 (keepA_below (HB1.out.trans (hb.mono HB1.out.size)) HK.out) HQ.out.1 (by have := HL.out; omega)) ?_
    rintro e w' ⟨rfl, hb'⟩
    exact ⟨_, rfl, hb', rfl⟩
  · intro _ a wx hb hk
    have h1 : a.eval (.tmp 1) = .pointer (some ⟨eb, 0, none⟩) := Eq.mp (by kernel_rfl) (hk 1 (by decide))
    exact Rs.does_field _ _ h1 (show (Instr.fieldAt 59 (.pointer (some ⟨eb, 0, none⟩)) 1).run Try.prog wx = .ok (.pointer (some ⟨eb, 7, none⟩)) wx from rfl) ⟨Below.refl _ _, rfl⟩
  · intro _ a wx hb hk
    have h9 : a.eval (.tmp 9) = .pointer (some ⟨eb, 7, none⟩) := Eq.mp (by kernel_rfl) (hk 9 (by decide))
    exact Rg.does_load _ _ h9 (Ap.load_plainP (by simp [isAgg]) (cell_below hb (Nat.le_refl _) ((HC.out.cell 7).trans HRS.out.c7))) ⟨Below.refl _ _, rfl⟩
  · intro _ a wx hb hk
    have h10 : a.eval (.tmp 10) = .slice p7 s.2.1.length k7 := Eq.mp (by kernel_rfl) (hk 10 (by decide))
    refine Rg.does_func #[.slice p7 s.2.1.length k7] Try.func20 (by kernel_rfl) (by kernel_rfl) (by simp [h10]) (ref_row18_calls wx p7 k7 s.2.1 (HE7.out.below (by decide) (HB1.out.trans (hb.mono HB1.out.size))) (by have := HL.out; omega)) ?_
    rintro e w' ⟨rfl, hb'⟩
    exact ⟨_, rfl, hb', rfl⟩
  · intro _ a wx hb hk
    have h8 : a.eval (.tmp 8) = .string (str (keepC.enc s.1)) := Eq.mp (by kernel_rfl) (hk 8 (by decide))
    have h11 : a.eval (.tmp 11) = .string (str ((rowC txtC).enc s.2.1)) := Eq.mp (by kernel_rfl) (hk 11 (by decide))
    exact Sw.does_bin_str (str (keepC.enc s.1)) (str ((rowC txtC).enc s.2.1)) _ h8 h11 (Sw.run_cat (by have h9 := HL.out; (try simp only [List.length_append]); omega)) ⟨Below.refl _ _, rfl⟩
  · intro _ a wx hb hk
    have h1 : a.eval (.tmp 1) = .pointer (some ⟨eb, 0, none⟩) := Eq.mp (by kernel_rfl) (hk 1 (by decide))
    exact Rs.does_field _ _ h1 (show (Instr.fieldAt 59 (.pointer (some ⟨eb, 0, none⟩)) 2).run Try.prog wx = .ok (.pointer (some ⟨eb, 8, none⟩)) wx from rfl) ⟨Below.refl _ _, rfl⟩
  · intro _ a wx hb hk
    have h13 : a.eval (.tmp 13) = .pointer (some ⟨eb, 8, none⟩) := Eq.mp (by kernel_rfl) (hk 13 (by decide))
    exact Rg.does_load _ _ h13 (Ap.load_plainP (by simp [isAgg]) (cell_below hb (Nat.le_refl _) ((HC.out.cell 8).trans HRS.out.c8))) ⟨Below.refl _ _, rfl⟩
  · intro _ a wx hb hk
    have h14 : a.eval (.tmp 14) = .slice p8 s.2.2.1.length k8 := Eq.mp (by kernel_rfl) (hk 14 (by decide))
    exact Rg.does_len _ _ _ Try.underlying56 h14 ⟨Below.refl _ _, rfl⟩
  · intro _ a wx hb hk
    have h15 : a.eval (.tmp 15) = .int .i64 (s.2.2.1.length : Int) := Eq.mp (by kernel_rfl) (hk 15 (by decide))
    refine Rg.does_func #[.int .i64 (s.2.2.1.length : Int)] Try.func21 (by kernel_rfl) (by kernel_rfl) (by simp [h15]) (ref_n_calls wx (s.2.2.1.length : Int) ⟨by have := HN8.out; omega, by have := HN8.out; omega⟩) ?_
    rintro e w' ⟨rfl, hb'⟩
    exact ⟨_, rfl, hb', rfl⟩
  · intro _ a wx hb hk
    have h12 : a.eval (.tmp 12) = .string (str (keepC.enc s.1 ++ (rowC txtC).enc s.2.1)) := Eq.mp (by kernel_rfl) (hk 12 (by decide))
    have h16 : a.eval (.tmp 16) = .string (str (intB (s.2.2.1.length : Int))) := Eq.mp (by kernel_rfl) (hk 16 (by decide))
    exact Sw.does_bin_str (str (keepC.enc s.1 ++ (rowC txtC).enc s.2.1)) (str (intB (s.2.2.1.length : Int))) _ h12 h16 (Sw.run_cat (by have h9 := HL.out; (try simp only [List.length_append]); omega)) ⟨Below.refl _ _, rfl⟩
  · intro _ a wx hb hk
    have h17 : a.eval (.tmp 17) = .string (str ((keepC.enc s.1 ++ (rowC txtC).enc s.2.1) ++ intB (s.2.2.1.length : Int))) := Eq.mp (by kernel_rfl) (hk 17 (by decide))
    exact Rg.does_assign ⟨Below.refl _ _, h17⟩
  intro vals wD hbD hL
  obtain ⟨g0, g1, g2, g3, g4, g5, g6, g7, g8, g9, g10, g11, g12, _⟩ := hL
  have g' : vals 12 = .string (str ((keepC.enc s.1 ++ (rowC txtC).enc s.2.1) ++ intB (s.2.2.1.length : Int))) := g12
  have HBD := Lib.hid hbD
  clear g0 g1 g2 g3 g4 g5 g6 g7 g8 g9 g10 g11 g12 hbD
  simp only [Rg.putAll, List.setIfInBounds_toArray, List.set_cons_succ, List.set_cons_zero, g']
  clear g'
  obtain ⟨pre1, hp1⟩ : ∃ x, (keepC.enc s.1 ++ (rowC txtC).enc s.2.1) ++ intB (s.2.2.1.length : Int) = x := ⟨_, rfl⟩
  have HP1 := Lib.hid hp1
  have HL1 : Hid (pre1.length + (encs frameC s.2.2.1).length + ((reqC.enc s.2.2.2.1).length + ((ansC.enc s.2.2.2.2.1).length + ((intB (s.2.2.2.2.2.1.length : Int)).length + (encs numC s.2.2.2.2.2.1).length + ((encs numC (threeI s)).length + ((encs bitC (threeB s)).length + (intB s.2.2.2.2.2.2.2.2).length))))) ≤ 100000000) := by show _ ≤ _; rw [← hp1]; simp only [List.length_append]; have := HL.out; omega
  rw [hp1]
  clear hp1
  generalize hfr : s.2.2.1 = fr at HN8 HE8 HL1
  have HFR := Lib.hid hfr
  have HC8 : Hid (vs[8]? = some (.slice p8 fr.length k8)) := by rw [← hfr]; exact HRS.out.c8
  have HQ8 : Hid (∀ z ∈ fr, FrameQ z) := by rw [← hfr]; exact HQ.out.2.2.1
  clear hfr
  go_wp2_with fail
  go_loopw [3, 4] (fun va vi wr => ∃ k : Nat, k ≤ fr.length ∧ vi = .int .i64 k ∧ va = .string (str (pre1 ++ encs frameC (fr.take k))) ∧ Below w1.heap.size w1 wr) (fun _ vi _ => fr.length - (intOf vi).toNat)
  case atStart => exact ⟨0, Nat.zero_le _, rfl, by rw [List.take_zero, show encs frameC [] = [] from rfl, List.append_nil], HBD.out⟩
  case round =>
    obtain ⟨k, hk, rfl, rfl, hb⟩ := hrel
    have HB := Lib.hid hb
    clear hb
    have hcs : wr.cell? ⟨eb, 8, none⟩ = some (.slice p8 fr.length k8) := (HB.out.cell (p := ⟨eb, 8, none⟩) HC.out.lt).trans ((HC.out.cell 8).trans HC8.out)
    by_cases hlt : k < fr.length
    · obtain ⟨_, _, he⟩ := HE8.out
      obtain ⟨b, o, rfl, hel⟩ := he.resolve_left (fun e => by rw [e] at hlt; exact absurd hlt (Nat.not_lt_zero _))
      obtain ⟨us, hul, hcu, _, hA⟩ := hel k hlt
      have hbl : b < W.heap.size := World.block_lt_of_cell? W _ (hcu 0 (by omega))
      have hWr : Below W.heap.size W wr := HB1.out.trans (HB.out.mono HB1.out.size)
      have HRg : Hid (wr.rangeAt b (o + k * 15) us) := fun j v hv => by
        have hj : j < us.length := (List.getElem?_eq_some_iff.1 hv).1
        have := (hWr.cell (p := ⟨b, o + k * 15 + j, none⟩) hbl).trans (hcu j hj)
        rw [this, ← hv, List.getElem?_eq_getElem hj]
      have hx := fun W => row_idx Try.underlying56 15 (by kernel_rfl) b o fr.length k8 k hlt W
      have HT := Lib.hid (encs_take_succ frameC hlt)
      have hle := encs_take frameC fr (k + 1)
      rw [HT.out, List.length_append] at hle
      have hL := HL1.out
      have HFc := Lib.hid (ref_frame_calls wr us fr[k] (rFrameA_below hWr hA) (HQ8.out _ (List.getElem_mem hlt)) (by omega))
      have HTl : Hid ((encs frameC (fr.take k)).length + (frameC.enc fr[k]).length ≤ (encs frameC fr).length) := hle
      have HInf : Hid ((Try.prog.info? rFT).map (fun i => i.size) = some us.length) := by show _ = _; rw [hul]; exact info_rF
      clear hcu hle hel he hA hWr hul
      generalize fr[k] = fd at *
      have hk9 : k ≤ 100000000 := by have := HN8.out; omega
      have u1 : decide ((k : Int) < (fr.length : Int)) = true := decide_eq_true (by omega)
      have u2 : (k : Int) < (fr.length : Int) := by omega
      have u3 : decide (k < fr.length) = true := decide_eq_true hlt
      have hsz1 : (str (pre1 ++ encs frameC (fr.take k))).size + (str (frameC.enc fd)).size ≤ 100000000 := by
        rw [str_size, str_size, List.length_append]
        have := HTl.out
        omega
      go_wp2_with (refine wpList_load_g (by kernel_rfl) rFT (.tmp 29) rfl b (o + k * 15) rfl us df HRg.out HFu.out HFr.out HInf.out ?_)
      refine HFc.out.mono ?_
      rintro e w2 ⟨rfl, hb2⟩
      have HB2 := Lib.hid (HB.out.trans (hb2.mono HB.out.size))
      clear hb2 HFc hx hcs
      go_wp2_with fail
      go_roundw
      case rel => exact ⟨k + 1, by omega, by go_num, by rw [HT.out, ← List.append_assoc, ← str_append]; rfl, HB2.out⟩
      case measure => simp [intOf]; omega
    · obtain rfl : k = fr.length := by omega
      rw [List.take_length]
      have u1 : decide ((fr.length : Int) < (fr.length : Int)) = false := decide_eq_false (by omega)
      have u2 : ¬ ((fr.length : Int) < (fr.length : Int)) := by omega
      have u3 : decide (fr.length < fr.length) = false := decide_eq_false (by omega)
      obtain ⟨acc, hacc⟩ : ∃ x, pre1 ++ encs frameC fr = x := ⟨_, rfl⟩
      have HAc := Lib.hid hacc
      have hal : acc.length = pre1.length + (encs frameC fr).length := by rw [← hacc, List.length_append]
      have HL2 : Hid (acc.length + ((reqC.enc s.2.2.2.1).length + ((ansC.enc s.2.2.2.2.1).length + ((intB (s.2.2.2.2.2.1.length : Int)).length + (encs numC s.2.2.2.2.2.1).length + ((encs numC (threeI s)).length + ((encs bitC (threeB s)).length + (intB s.2.2.2.2.2.2.2.2).length))))) ≤ 100000000) := by have := HL1.out; show _ ≤ _; omega
      rw [hacc]
      clear hacc hal
      have HCr : Hid (Cut eb vs rST wr) := cut_below HC.out HB.out
      have HWr : Hid (Below W.heap.size W wr) := HB1.out.trans (HB.out.mono HB1.out.size)
      go_upto_region 6 with fail
      clear u1 u2 u3 hcs
      refine Rg.wp_region_rgl [] [Rg.Is (.string (str (acc))), Rg.Is (.pointer (some ⟨eb, 9, none⟩)), Rg.Is (.agg uq.toArray), Rg.Is (.string (str (reqC.enc s.2.2.2.1))), Rg.Is (.pointer (some ⟨eb, 14, none⟩)), Rg.Is (.agg ua.toArray), Rg.Is (.string (str (ansC.enc s.2.2.2.2.1))), Rg.Is (.string (str (reqC.enc s.2.2.2.1 ++ ansC.enc s.2.2.2.2.1))), Rg.Is (.pointer (some ⟨eb, 21, none⟩)), Rg.Is (.slice p21 s.2.2.2.2.2.1.length k21), Rg.Is (.int .i64 (s.2.2.2.2.2.1.length : Int)), Rg.Is (.string (str (intB (s.2.2.2.2.2.1.length : Int)))), Rg.Is (.string (str ((reqC.enc s.2.2.2.1 ++ ansC.enc s.2.2.2.2.1) ++ intB (s.2.2.2.2.2.1.length : Int)))), Rg.Is (.pointer (some ⟨eb, 21, none⟩)), Rg.Is (.slice p21 s.2.2.2.2.2.1.length k21), Rg.Is (.string (str (encs numC s.2.2.2.2.2.1))), Rg.Is (.string (str (((reqC.enc s.2.2.2.1 ++ ansC.enc s.2.2.2.2.1) ++ intB (s.2.2.2.2.2.1.length : Int)) ++ encs numC s.2.2.2.2.2.1))), Rg.Is (.pointer (some ⟨eb, 22, none⟩)), Rg.Is (.slice p22 3 k22), Rg.Is (.string (str (encs numC (threeI s)))), Rg.Is (.string (str ((((reqC.enc s.2.2.2.1 ++ ansC.enc s.2.2.2.2.1) ++ intB (s.2.2.2.2.2.1.length : Int)) ++ encs numC s.2.2.2.2.2.1) ++ encs numC (threeI s)))), Rg.Is (.string (str (acc ++ ((((reqC.enc s.2.2.2.1 ++ ansC.enc s.2.2.2.2.1) ++ intB (s.2.2.2.2.2.1.length : Int)) ++ encs numC s.2.2.2.2.2.1) ++ encs numC (threeI s))))), Rg.Is (.string (str (acc ++ ((((reqC.enc s.2.2.2.1 ++ ansC.enc s.2.2.2.2.1) ++ intB (s.2.2.2.2.2.1.length : Int)) ++ encs numC s.2.2.2.2.2.1) ++ encs numC (threeI s)))))] (by kernel_rfl) (by kernel_rfl) (by kernel_rfl) ⟨Rg.st_is _, Rg.st_is _, Rg.st_is _, Rg.st_is _, Rg.st_is _, Rg.st_is _, Rg.st_is _, Rg.st_is _, Rg.st_is _, Rg.st_is _, Rg.st_is _, Rg.st_is _, Rg.st_is _, Rg.st_is _, Rg.st_is _, Rg.st_is _, Rg.st_is _, Rg.st_is _, Rg.st_is _, Rg.st_is _, Rg.st_is _, Rg.st_is _, Rg.st_is _, trivial⟩ ⟨rfl, rfl, rfl, rfl, rfl, rfl, rfl, rfl, rfl, rfl, rfl, rfl, rfl, rfl, rfl, rfl, rfl, rfl, rfl, rfl, rfl, rfl, rfl, trivial⟩ ⟨?_, ?_, ?_, ?_, ?_, ?_, ?_, ?_, ?_, ?_, ?_, ?_, ?_, ?_, ?_, ?_, ?_, ?_, ?_, ?_, ?_, ?_, ?_, trivial⟩ ?_
      · intro _ a wx hb hk
        have h3 : a.eval (.tmp 3) = .string (str (acc)) := Eq.mp (by kernel_rfl) (hk 3 (by decide))
        exact Rg.does_move ⟨Below.refl _ _, h3⟩
      · intro _ a wx hb hk
        have h1 : a.eval (.tmp 1) = .pointer (some ⟨eb, 0, none⟩) := Eq.mp (by kernel_rfl) (hk 1 (by decide))
        exact Rs.does_field _ _ h1 (show (Instr.fieldAt 59 (.pointer (some ⟨eb, 0, none⟩)) 3).run Try.prog wx = .ok (.pointer (some ⟨eb, 9, none⟩)) wx from rfl) ⟨Below.refl _ _, rfl⟩
      · intro _ a wx hb hk
        have h34 : a.eval (.tmp 34) = .pointer (some ⟨eb, 9, none⟩) := Eq.mp (by kernel_rfl) (hk 34 (by decide))
        exact Rg.does_load _ _ h34 (run_loadAt_mid wx eb 9 _ uq dq (fun j v hv => cell_below hb (Nat.le_refl _) ((HCr.out.cell (9 + j)).trans (HRS.out.cq j v hv))) HQu.out HQr.out HInfQ.out) ⟨Below.refl _ _, rfl⟩
      · intro _ a wx hb hk
        have h35 : a.eval (.tmp 35) = .agg uq.toArray := Eq.mp (by kernel_rfl) (hk 35 (by decide))
        refine Rg.does_func #[.agg uq.toArray] Try.func23 (by kernel_rfl) (by kernel_rfl) (by simp [h35]) (ref_request_calls wx uq s.2.2.2.1 (reqA_below (HWr.out.trans (hb.mono HWr.out.size)) HReq.out) HQ.out.2.2.2.1 (by have := HL.out; omega)) ?_
        rintro e w' ⟨rfl, hb'⟩
        exact ⟨_, rfl, hb', rfl⟩
      · intro _ a wx hb hk
        have h1 : a.eval (.tmp 1) = .pointer (some ⟨eb, 0, none⟩) := Eq.mp (by kernel_rfl) (hk 1 (by decide))
        exact Rs.does_field _ _ h1 (show (Instr.fieldAt 59 (.pointer (some ⟨eb, 0, none⟩)) 4).run Try.prog wx = .ok (.pointer (some ⟨eb, 14, none⟩)) wx from rfl) ⟨Below.refl _ _, rfl⟩
      · intro _ a wx hb hk
        have h37 : a.eval (.tmp 37) = .pointer (some ⟨eb, 14, none⟩) := Eq.mp (by kernel_rfl) (hk 37 (by decide))
        exact Rg.does_load _ _ h37 (run_loadAt_mid wx eb 14 _ ua da (fun j v hv => cell_below hb (Nat.le_refl _) ((HCr.out.cell (14 + j)).trans (HRS.out.ca j v hv))) HAu.out HAr.out HInfA.out) ⟨Below.refl _ _, rfl⟩
      · intro _ a wx hb hk
        have h38 : a.eval (.tmp 38) = .agg ua.toArray := Eq.mp (by kernel_rfl) (hk 38 (by decide))
        refine Rg.does_func #[.agg ua.toArray] Try.func24 (by kernel_rfl) (by kernel_rfl) (by simp [h38]) (ref_answer_calls wx ua s.2.2.2.2.1 (ansA_below (HWr.out.trans (hb.mono HWr.out.size)) HAns.out) HQ.out.2.2.2.2.1 (by have := HL.out; omega)) ?_
        rintro e w' ⟨rfl, hb'⟩
        exact ⟨_, rfl, hb', rfl⟩
      · intro _ a wx hb hk
        have h36 : a.eval (.tmp 36) = .string (str (reqC.enc s.2.2.2.1)) := Eq.mp (by kernel_rfl) (hk 36 (by decide))
        have h39 : a.eval (.tmp 39) = .string (str (ansC.enc s.2.2.2.2.1)) := Eq.mp (by kernel_rfl) (hk 39 (by decide))
        exact Sw.does_bin_str (str (reqC.enc s.2.2.2.1)) (str (ansC.enc s.2.2.2.2.1)) _ h36 h39 (Sw.run_cat (by have h9 := HL2.out; (try simp only [List.length_append]); omega)) ⟨Below.refl _ _, rfl⟩
      · intro _ a wx hb hk
        have h1 : a.eval (.tmp 1) = .pointer (some ⟨eb, 0, none⟩) := Eq.mp (by kernel_rfl) (hk 1 (by decide))
        exact Rs.does_field _ _ h1 (show (Instr.fieldAt 59 (.pointer (some ⟨eb, 0, none⟩)) 5).run Try.prog wx = .ok (.pointer (some ⟨eb, 21, none⟩)) wx from rfl) ⟨Below.refl _ _, rfl⟩
      · intro _ a wx hb hk
        have h41 : a.eval (.tmp 41) = .pointer (some ⟨eb, 21, none⟩) := Eq.mp (by kernel_rfl) (hk 41 (by decide))
        exact Rg.does_load _ _ h41 (Ap.load_plainP (by simp [isAgg]) (cell_below hb (Nat.le_refl _) ((HCr.out.cell 21).trans HRS.out.c21))) ⟨Below.refl _ _, rfl⟩
      · intro _ a wx hb hk
        have h42 : a.eval (.tmp 42) = .slice p21 s.2.2.2.2.2.1.length k21 := Eq.mp (by kernel_rfl) (hk 42 (by decide))
        exact Rg.does_len _ _ _ Try.underlying37 h42 ⟨Below.refl _ _, rfl⟩
      · intro _ a wx hb hk
        have h43 : a.eval (.tmp 43) = .int .i64 (s.2.2.2.2.2.1.length : Int) := Eq.mp (by kernel_rfl) (hk 43 (by decide))
        refine Rg.does_func #[.int .i64 (s.2.2.2.2.2.1.length : Int)] Try.func21 (by kernel_rfl) (by kernel_rfl) (by simp [h43]) (ref_n_calls wx (s.2.2.2.2.2.1.length : Int) ⟨by have := HN21.out; omega, by have := HN21.out; omega⟩) ?_
        rintro e w' ⟨rfl, hb'⟩
        exact ⟨_, rfl, hb', rfl⟩
      · intro _ a wx hb hk
        have h40 : a.eval (.tmp 40) = .string (str (reqC.enc s.2.2.2.1 ++ ansC.enc s.2.2.2.2.1)) := Eq.mp (by kernel_rfl) (hk 40 (by decide))
        have h44 : a.eval (.tmp 44) = .string (str (intB (s.2.2.2.2.2.1.length : Int))) := Eq.mp (by kernel_rfl) (hk 44 (by decide))
        exact Sw.does_bin_str (str (reqC.enc s.2.2.2.1 ++ ansC.enc s.2.2.2.2.1)) (str (intB (s.2.2.2.2.2.1.length : Int))) _ h40 h44 (Sw.run_cat (by have h9 := HL2.out; (try simp only [List.length_append]); omega)) ⟨Below.refl _ _, rfl⟩
      · intro _ a wx hb hk
        have h1 : a.eval (.tmp 1) = .pointer (some ⟨eb, 0, none⟩) := Eq.mp (by kernel_rfl) (hk 1 (by decide))
        exact Rs.does_field _ _ h1 (show (Instr.fieldAt 59 (.pointer (some ⟨eb, 0, none⟩)) 5).run Try.prog wx = .ok (.pointer (some ⟨eb, 21, none⟩)) wx from rfl) ⟨Below.refl _ _, rfl⟩
      · intro _ a wx hb hk
        have h46 : a.eval (.tmp 46) = .pointer (some ⟨eb, 21, none⟩) := Eq.mp (by kernel_rfl) (hk 46 (by decide))
        exact Rg.does_load _ _ h46 (Ap.load_plainP (by simp [isAgg]) (cell_below hb (Nat.le_refl _) ((HCr.out.cell 21).trans HRS.out.c21))) ⟨Below.refl _ _, rfl⟩
      · intro _ a wx hb hk
        have h47 : a.eval (.tmp 47) = .slice p21 s.2.2.2.2.2.1.length k21 := Eq.mp (by kernel_rfl) (hk 47 (by decide))
        refine Rg.does_func #[.slice p21 s.2.2.2.2.2.1.length k21] Try.func25 (by kernel_rfl) (by kernel_rfl) (by simp [h47]) (ref_ints_calls wx p21 k21 s.2.2.2.2.2.1 (HE21.out.below (by decide) (HWr.out.trans (hb.mono HWr.out.size))) HQ.out.2.2.2.2.2.1 (by have := HL.out; omega)) ?_
        rintro e w' ⟨rfl, hb'⟩
        exact ⟨_, rfl, hb', rfl⟩
      · intro _ a wx hb hk
        have h45 : a.eval (.tmp 45) = .string (str ((reqC.enc s.2.2.2.1 ++ ansC.enc s.2.2.2.2.1) ++ intB (s.2.2.2.2.2.1.length : Int))) := Eq.mp (by kernel_rfl) (hk 45 (by decide))
        have h48 : a.eval (.tmp 48) = .string (str (encs numC s.2.2.2.2.2.1)) := Eq.mp (by kernel_rfl) (hk 48 (by decide))
        exact Sw.does_bin_str (str ((reqC.enc s.2.2.2.1 ++ ansC.enc s.2.2.2.2.1) ++ intB (s.2.2.2.2.2.1.length : Int))) (str (encs numC s.2.2.2.2.2.1)) _ h45 h48 (Sw.run_cat (by have h9 := HL2.out; (try simp only [List.length_append]); omega)) ⟨Below.refl _ _, rfl⟩
      · intro _ a wx hb hk
        have h1 : a.eval (.tmp 1) = .pointer (some ⟨eb, 0, none⟩) := Eq.mp (by kernel_rfl) (hk 1 (by decide))
        exact Rs.does_field _ _ h1 (show (Instr.fieldAt 59 (.pointer (some ⟨eb, 0, none⟩)) 6).run Try.prog wx = .ok (.pointer (some ⟨eb, 22, none⟩)) wx from rfl) ⟨Below.refl _ _, rfl⟩
      · intro _ a wx hb hk
        have h50 : a.eval (.tmp 50) = .pointer (some ⟨eb, 22, none⟩) := Eq.mp (by kernel_rfl) (hk 50 (by decide))
        exact Rg.does_load _ _ h50 (Ap.load_plainP (by simp [isAgg]) (cell_below hb (Nat.le_refl _) ((HCr.out.cell 22).trans HRS.out.c22))) ⟨Below.refl _ _, rfl⟩
      · intro _ a wx hb hk
        have h51 : a.eval (.tmp 51) = .slice p22 3 k22 := Eq.mp (by kernel_rfl) (hk 51 (by decide))
        refine Rg.does_func #[.slice p22 3 k22] Try.func25 (by kernel_rfl) (by kernel_rfl) (by simp [h51]) (ref_ints_calls wx p22 k22 (threeI s) (HE22.out.below (by decide) (HWr.out.trans (hb.mono HWr.out.size))) HQ3.out (by have := HL.out; omega)) ?_
        rintro e w' ⟨rfl, hb'⟩
        exact ⟨_, rfl, hb', rfl⟩
      · intro _ a wx hb hk
        have h49 : a.eval (.tmp 49) = .string (str (((reqC.enc s.2.2.2.1 ++ ansC.enc s.2.2.2.2.1) ++ intB (s.2.2.2.2.2.1.length : Int)) ++ encs numC s.2.2.2.2.2.1)) := Eq.mp (by kernel_rfl) (hk 49 (by decide))
        have h52 : a.eval (.tmp 52) = .string (str (encs numC (threeI s))) := Eq.mp (by kernel_rfl) (hk 52 (by decide))
        exact Sw.does_bin_str (str (((reqC.enc s.2.2.2.1 ++ ansC.enc s.2.2.2.2.1) ++ intB (s.2.2.2.2.2.1.length : Int)) ++ encs numC s.2.2.2.2.2.1)) (str (encs numC (threeI s))) _ h49 h52 (Sw.run_cat (by have h9 := HL2.out; (try simp only [List.length_append]); omega)) ⟨Below.refl _ _, rfl⟩
      · intro _ a wx hb hk
        have h33 : a.eval (.tmp 33) = .string (str (acc)) := Eq.mp (by kernel_rfl) (hk 33 (by decide))
        have h53 : a.eval (.tmp 53) = .string (str ((((reqC.enc s.2.2.2.1 ++ ansC.enc s.2.2.2.2.1) ++ intB (s.2.2.2.2.2.1.length : Int)) ++ encs numC s.2.2.2.2.2.1) ++ encs numC (threeI s))) := Eq.mp (by kernel_rfl) (hk 53 (by decide))
        exact Sw.does_bin_str (str (acc)) (str ((((reqC.enc s.2.2.2.1 ++ ansC.enc s.2.2.2.2.1) ++ intB (s.2.2.2.2.2.1.length : Int)) ++ encs numC s.2.2.2.2.2.1) ++ encs numC (threeI s))) _ h33 h53 (Sw.run_cat (by have h9 := HL2.out; (try simp only [List.length_append]); omega)) ⟨Below.refl _ _, rfl⟩
      · intro _ a wx hb hk
        have h54 : a.eval (.tmp 54) = .string (str (acc ++ ((((reqC.enc s.2.2.2.1 ++ ansC.enc s.2.2.2.2.1) ++ intB (s.2.2.2.2.2.1.length : Int)) ++ encs numC s.2.2.2.2.2.1) ++ encs numC (threeI s)))) := Eq.mp (by kernel_rfl) (hk 54 (by decide))
        exact Rg.does_assign ⟨Below.refl _ _, h54⟩
      intro vals wD hbD hL
      obtain ⟨g0, g1, g2, g3, g4, g5, g6, g7, g8, g9, g10, g11, g12, g13, g14, g15, g16, g17, g18, g19, g20, g21, g22, _⟩ := hL
      have g' : vals 22 = .string (str (acc ++ ((((reqC.enc s.2.2.2.1 ++ ansC.enc s.2.2.2.2.1) ++ intB (s.2.2.2.2.2.1.length : Int)) ++ encs numC s.2.2.2.2.2.1) ++ encs numC (threeI s)))) := g22
      have HBD := Lib.hid hbD
      clear g0 g1 g2 g3 g4 g5 g6 g7 g8 g9 g10 g11 g12 g13 g14 g15 g16 g17 g18 g19 g20 g21 g22 hbD
      simp only [Rg.putAll, List.setIfInBounds_toArray, List.set_cons_succ, List.set_cons_zero, g']
      clear g'
      obtain ⟨pre2, hp2⟩ : ∃ x, acc ++ ((((reqC.enc s.2.2.2.1 ++ ansC.enc s.2.2.2.2.1) ++ intB (s.2.2.2.2.2.1.length : Int)) ++ encs numC s.2.2.2.2.2.1) ++ encs numC (threeI s)) = x := ⟨_, rfl⟩
      have HP2 := Lib.hid hp2
      have HL3 : Hid (pre2.length + (encs bitC (threeB s)).length + (intB s.2.2.2.2.2.2.2.2).length ≤ 100000000) := by show _ ≤ _; rw [← hp2]; simp only [List.length_append]; have := HL2.out; omega
      rw [hp2]
      clear hp2
      have HB7 := Lib.hid (HB.out.trans (HBD.out.mono HB.out.size))
      obtain ⟨bl, hbl⟩ : ∃ x, threeB s = x := ⟨_, rfl⟩
      have HBl := Lib.hid hbl
      have HC23 : Hid (vs[23]? = some (.slice p23 bl.length k23)) := by rw [← hbl]; exact HRS.out.c23
      have HE23' : Hid (RowE 1 (flatH bitV) w1 p23 k23 bl) := by rw [← hbl]; exact HE23.out.below (by decide) HB1.out
      have HNb : Hid (bl.length ≤ 100) := by rw [← hbl]; exact (by decide : 3 ≤ 100)
      rw [hbl] at HL3
      clear hbl HB hk hlt
      go_wp2_with fail
      go_loopw [3, 5] (fun va vi wr => ∃ k : Nat, k ≤ bl.length ∧ vi = .int .i64 k ∧ va = .string (str (pre2 ++ encs bitC (bl.take k))) ∧ Below w1.heap.size w1 wr) (fun _ vi _ => bl.length - (intOf vi).toNat)
      case atStart => exact ⟨0, Nat.zero_le _, rfl, by rw [List.take_zero, show encs bitC [] = [] from rfl, List.append_nil], HB7.out⟩
      case round =>
        obtain ⟨k, hk, rfl, rfl, hb⟩ := hrel
        have HB := Lib.hid hb
        clear hb
        have hcs : wr.cell? ⟨eb, 23, none⟩ = some (.slice p23 bl.length k23) := (HB.out.cell (p := ⟨eb, 23, none⟩) HC.out.lt).trans ((HC.out.cell 23).trans HC23.out)
        by_cases hlt : k < bl.length
        · obtain ⟨b, o, hpe, hbl, hcu⟩ := HE23'.out.at (by decide) hlt
          subst hpe
          have hx := fun W => row_idx Try.underlying57 1 (by kernel_rfl) b o bl.length k23 k hlt W
          have c0 : wr.cell? ⟨b, o + k, none⟩ = some (.bool bl[k]) := by
            have h1 := (HB.out.cell (p := ⟨b, o + k * 1 + 0, none⟩) hbl).trans (hcu 0 Nat.zero_lt_one)
            rw [Nat.mul_one, Nat.add_zero] at h1
            exact h1
          have HT := Lib.hid (encs_take_succ bitC hlt)
          have hle := encs_take bitC bl (k + 1)
          rw [HT.out, List.length_append] at hle
          have hL := HL3.out
          have HTx := Lib.hid (ref_is_calls wr bl[k])
          have HTl : Hid ((encs bitC (bl.take k)).length + (bitC.enc bl[k]).length ≤ (encs bitC bl).length) := hle
          clear hcu hle
          generalize bl[k] = x at *
          have hk9 : k ≤ 100000000 := by have := HNb.out; omega
          have u1 : decide ((k : Int) < (bl.length : Int)) = true := decide_eq_true (by omega)
          have u2 : (k : Int) < (bl.length : Int) := by omega
          have u3 : decide (k < bl.length) = true := decide_eq_true hlt
          have hsz1 : (str (pre2 ++ encs bitC (bl.take k))).size + (str (bitC.enc x)).size ≤ 100000000 := by
            rw [str_size, str_size, List.length_append]
            have := HTl.out
            omega
          go_wp2_with fail
          refine HTx.out.mono ?_
          rintro e w2 ⟨rfl, hb2⟩
          have HB2 := Lib.hid (HB.out.trans (hb2.mono HB.out.size))
          clear hb2 HTx c0 hx hcs
          go_wp2_with fail
          go_roundw
          case rel => exact ⟨k + 1, by omega, by go_num, by rw [HT.out, ← List.append_assoc, ← str_append]; rfl, HB2.out⟩
          case measure => simp [intOf]; omega
        · obtain rfl : k = bl.length := by omega
          rw [List.take_length]
          have u1 : decide ((bl.length : Int) < (bl.length : Int)) = false := decide_eq_false (by omega)
          have u2 : ¬ ((bl.length : Int) < (bl.length : Int)) := by omega
          have u3 : decide (bl.length < bl.length) = false := decide_eq_false (by omega)
          have hcz : wr.cell? ⟨eb, 24, none⟩ = some (.int .i64 s.2.2.2.2.2.2.2.2) := (HB.out.cell (p := ⟨eb, 24, none⟩) HC.out.lt).trans ((HC.out.cell 24).trans HRS.out.c24)
          have HNz := Lib.hid (ref_n_calls wr s.2.2.2.2.2.2.2.2 HQ.out.2.2.2.2.2.2.2.2)
          have hsz : (str (pre2 ++ encs bitC bl)).size + (str (intB s.2.2.2.2.2.2.2.2)).size ≤ 100000000 := by rw [str_size, str_size, List.length_append]; exact HL3.out
          go_wp2_with fail
          refine HNz.out.mono ?_
          rintro r wz ⟨rfl, hbz⟩
          have HBz := Lib.hid (HB.out.trans (hbz.mono HB.out.size))
          clear hbz HNz
          go_wp2_with fail
          go_ret
          refine ⟨congrArg (fun l => Ending.returned (Value.string l)) ?_, HB1.out.trans (HBz.out.mono HB1.out.size)⟩
          rw [str_append]
          refine congrArg str ?_
          rw [HEnc.out, ← HP2.out, ← HAc.out, ← HP1.out, ← HBl.out, ← HFR.out]
          simp only [List.append_assoc]
end Go.Proofs.Ytnmlnaoljkhjeaa
