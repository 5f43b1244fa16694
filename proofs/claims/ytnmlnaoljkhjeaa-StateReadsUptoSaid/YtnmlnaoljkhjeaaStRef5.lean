/-
  State: the reference: a frame. Conditions: as each contract says.
-/
import Derived.Test.YtnmlnaoljkhjeaaStRef3
import Derived.Test.YtnmlnaoljkhjeaaStRef4
set_option linter.unusedVariables false
set_option maxRecDepth 100000
namespace Go.Proofs.Ytnmlnaoljkhjeaa
open Go.RowKit Base

abbrev five (f : FrameD) : List Int := [f.1.1, f.1.2.1, f.1.2.2.1, f.1.2.2.2.1, f.1.2.2.2.2]
/-- A frame as the reference has it. -/
def rFrameA (W : World) (vs : List Value) (f : FrameD) : Prop :=
  pairH 1 numsA (pairH 1 (flatH bitV) (pairH 1 (flatH numV) (pairH 1 (flatH numV) (pairH 1 (flatH txtV) (pairH 1 numsA (pairH 1 strsA (pairH 1 varsA keepA))))))) W vs (five f, f.2)
theorem rFrameA_inv {W : World} {vs : List Value} {a : FrameD} (h : rFrameA W vs a) : ∃ (us : List Value) (p0 p5 p6 p7 : Option Addr) (k0 k5 k6 k7 : Nat), vs = [.slice p0 (five a).length k0, .bool a.2.1, .int .i64 a.2.2.1, .int .i64 a.2.2.2.1, .string (str a.2.2.2.2.1), .slice p5 a.2.2.2.2.2.1.length k5, .slice p6 a.2.2.2.2.2.2.1.length k6, .slice p7 a.2.2.2.2.2.2.2.1.length k7] ++ us ∧ keepA W us a.2.2.2.2.2.2.2.2 ∧
    RowE 1 (flatH numV) W p0 k0 (five a) ∧ RowE 1 (flatH numV) W p5 k5 a.2.2.2.2.2.1 ∧ RowE 1 (flatH txtV) W p6 k6 a.2.2.2.2.2.2.1 ∧ RowE 2 (flatH varV) W p7 k7 a.2.2.2.2.2.2.2.1 := by
  obtain ⟨_, _, rfl, _, ⟨p0, k0, rfl, m0, n0, e0⟩, ⟨_, _, rfl, _, rfl, ⟨_, _, rfl, _, rfl, ⟨_, _, rfl, _, rfl, ⟨_, _, rfl, _, rfl, ⟨_, _, rfl, _, ⟨p5, k5, rfl, m5, n5, e5⟩, ⟨_, _, rfl, _, ⟨p6, k6, rfl, m6, n6, e6⟩, ⟨_, us, rfl, _, ⟨p7, k7, rfl, m7, n7, e7⟩, hk⟩⟩⟩⟩⟩⟩⟩⟩ := h
  exact ⟨us, p0, p5, p6, p7, k0, k5, k6, k7, rfl, hk, ⟨m0, n0, e0⟩, ⟨m5, n5, e5⟩, ⟨m6, n6, e6⟩, ⟨m7, n7, e7⟩⟩
theorem keepA_len {W : World} {vs : List Value} {a : KeepD} (h : keepA W vs a) : vs.length = 7 := by
  obtain ⟨us, p4, p5, p6, k4, k5, k6, rfl, hl, _⟩ := keepA_inv h
  rw [List.length_append, hl]
  rfl
abbrev rFT : TypeId := 86
theorem und_rK : (Try.prog.underlying rKT).map TypeDesc.isRow = some true := by kernel_rfl
theorem info_rK : (Try.prog.info? rKT).map (fun i => i.size) = some 7 := by kernel_rfl
theorem suf_right {us vs : List Value} {n : Nat} (hn : us.length = n) (j : Nat) (v : Value) (h : vs[j]? = some v) : (us ++ vs)[n + j]? = some v := by
  subst hn
  rw [List.getElem?_append_right (by omega), Nat.add_sub_cancel_left]
  exact h
set_option maxHeartbeats 4000000 in
theorem ref_frame_calls (W : World) (vs : List Value) (fd : FrameD) (h : rFrameA W vs fd) (hq : FrameQ fd) (hl : (frameC.enc fd).length ≤ 100000000) :
    Calls Try.prog 22 #[.agg vs.toArray] W fun r w' => r = .returned (.string (str (frameC.enc fd))) ∧ Below W.heap.size W w' := by
  obtain ⟨us, p0, p5, p6, p7, k0, k5, k6, k7, hvs, hA, e0, e5, e6, e7⟩ := rFrameA_inv h
  obtain ⟨w1, hw1, hc, hb1⟩ : ∃ w1, W.alloc (.cells vs.toArray rFT) = w1 ∧ Cut W.heap.size vs rFT w1 ∧ Below W.heap.size W w1 := ⟨_, rfl, heap_alloc_new W _, (Below.refl W.heap.size W).alloc (Nat.le_refl _) _⟩
  have hl1 : ((intB fd.1.1 ++ (intB fd.1.2.1 ++ (intB fd.1.2.2.1 ++ (intB fd.1.2.2.2.1 ++ intB fd.1.2.2.2.2)))) ++ (bitC.enc fd.2.1 ++ (intB fd.2.2.1 ++ (intB fd.2.2.2.1 ++ (txtB fd.2.2.2.2.1 ++ ((intB (fd.2.2.2.2.2.1.length : Int) ++ encs numC fd.2.2.2.2.2.1) ++ ((rowC txtC).enc fd.2.2.2.2.2.2.1 ++ ((intB (fd.2.2.2.2.2.2.2.1.length : Int) ++ encs varC fd.2.2.2.2.2.2.2.1) ++ keepC.enc fd.2.2.2.2.2.2.2.2)))))))).length ≤ 100000000 := hl
  have hfive : encs numC (five fd) = intB fd.1.1 ++ (intB fd.1.2.1 ++ (intB fd.1.2.2.1 ++ (intB fd.1.2.2.2.1 ++ intB fd.1.2.2.2.2))) := by
    show intB fd.1.1 ++ (intB fd.1.2.1 ++ (intB fd.1.2.2.1 ++ (intB fd.1.2.2.2.1 ++ (intB fd.1.2.2.2.2 ++ [])))) = _
    rw [List.append_nil]
  rw [← hfive] at hl1
  simp only [List.length_append] at hl1
  have hn5 := row_len_le numC_pos fd.2.2.2.2.2.1
  have hn7 := row_len_le (c := varC) (pairC_pos txtC_pos) fd.2.2.2.2.2.2.2.1
  simp only [List.length_append] at hn5 hn7
  have HL : Hid ((encs numC (five fd)).length + ((bitC.enc fd.2.1).length + ((intB fd.2.2.1).length + ((intB fd.2.2.2.1).length + ((txtB fd.2.2.2.2.1).length + ((intB (fd.2.2.2.2.2.1.length : Int)).length + (encs numC fd.2.2.2.2.2.1).length + (((rowC txtC).enc fd.2.2.2.2.2.2.1).length + ((intB (fd.2.2.2.2.2.2.2.1.length : Int)).length + (encs varC fd.2.2.2.2.2.2.2.1).length + (keepC.enc fd.2.2.2.2.2.2.2.2).length))))))) ≤ 100000000) := hl1
  have HF5 := Lib.hid hfive
  have HN5 : Hid (fd.2.2.2.2.2.1.length ≤ 100000000) := by show _ ≤ _; omega
  have HN7 : Hid (fd.2.2.2.2.2.2.2.1.length ≤ 100000000) := by show _ ≤ _; omega
  have HW := Lib.hid hw1
  have HC := Lib.hid hc
  have HB1 := Lib.hid hb1
  have HVs : Hid (∀ j v, us[j]? = some v → vs[8 + j]? = some v) := by rw [hvs]; exact fun j v hv => suf_right rfl j v hv
  have HV : Hid (vs[0]? = some (.slice p0 5 k0) ∧ vs[1]? = some (.bool fd.2.1) ∧ vs[2]? = some (.int .i64 fd.2.2.1) ∧ vs[3]? = some (.int .i64 fd.2.2.2.1) ∧ vs[4]? = some (.string (str fd.2.2.2.2.1)) ∧ vs[5]? = some (.slice p5 fd.2.2.2.2.2.1.length k5) ∧ vs[6]? = some (.slice p6 fd.2.2.2.2.2.2.1.length k6) ∧ vs[7]? = some (.slice p7 fd.2.2.2.2.2.2.2.1.length k7)) := by
    rw [hvs]
    exact ⟨rfl, rfl, rfl, rfl, rfl, rfl, rfl, rfl⟩
  have HK : Hid (keepA w1 us fd.2.2.2.2.2.2.2.2) := keepA_below hb1 hA
  have HE0 := Lib.hid (e0.below (by decide) hb1)
  have HE5 := Lib.hid (e5.below (by decide) hb1)
  have HE6 := Lib.hid (e6.below (by decide) hb1)
  have HE7 := Lib.hid (e7.below (by decide) hb1)
  have HQ := Lib.hid hq
  have HQ5 : Hid (∀ z ∈ five fd, I64 z) := by
    obtain ⟨q0, q1, q2, q3, q4⟩ := hq.1
    show ∀ z ∈ five fd, _
    simp only [List.mem_cons, List.not_mem_nil, or_false]
    rintro z (rfl | rfl | rfl | rfl | rfl)
    all_goals assumption
  have HInf : Hid ((Try.prog.info? rKT).map (fun i => i.size) = some us.length) := by show _ = _; rw [keepA_len hA]; exact info_rK
  clear h hq hl hl1 hw1 hc hb1 e0 e5 e6 e7 hA hn5 hn7 hvs hfive
  go_enter Try.func22, Try.ntmps22
  go_upto_region 1 with fail
  rw [HW.out]
  obtain ⟨eb, heb⟩ : ∃ eb, W.heap.size = eb := ⟨_, rfl⟩
  rw [heb] at HC ⊢
  clear heb
  refine Rg.wp_region_rgl [] [Rg.Is (.pointer (some ⟨eb, 0, none⟩)), Rg.Is (.slice p0 5 k0), Rg.Is (.string (str (encs numC (five fd)))), Rg.Is (.pointer (some ⟨eb, 1, none⟩)), Rg.Is (.bool fd.2.1), Rg.Is (.string (str (bitC.enc fd.2.1))), Rg.Is (.string (str (encs numC (five fd) ++ bitC.enc fd.2.1))), Rg.Is (.pointer (some ⟨eb, 2, none⟩)), Rg.Is (.int .i64 fd.2.2.1), Rg.Is (.string (str (intB fd.2.2.1))), Rg.Is (.string (str ((encs numC (five fd) ++ bitC.enc fd.2.1) ++ intB fd.2.2.1))), Rg.Is (.pointer (some ⟨eb, 3, none⟩)), Rg.Is (.int .i64 fd.2.2.2.1), Rg.Is (.string (str (intB fd.2.2.2.1))), Rg.Is (.string (str (((encs numC (five fd) ++ bitC.enc fd.2.1) ++ intB fd.2.2.1) ++ intB fd.2.2.2.1))), Rg.Is (.pointer (some ⟨eb, 4, none⟩)), Rg.Is (.string (str (fd.2.2.2.2.1))), Rg.Is (.string (str (txtB fd.2.2.2.2.1))), Rg.Is (.string (str ((((encs numC (five fd) ++ bitC.enc fd.2.1) ++ intB fd.2.2.1) ++ intB fd.2.2.2.1) ++ txtB fd.2.2.2.2.1))), Rg.Is (.pointer (some ⟨eb, 5, none⟩)), Rg.Is (.slice p5 fd.2.2.2.2.2.1.length k5), Rg.Is (.int .i64 (fd.2.2.2.2.2.1.length : Int)), Rg.Is (.string (str (intB (fd.2.2.2.2.2.1.length : Int)))), Rg.Is (.string (str (((((encs numC (five fd) ++ bitC.enc fd.2.1) ++ intB fd.2.2.1) ++ intB fd.2.2.2.1) ++ txtB fd.2.2.2.2.1) ++ intB (fd.2.2.2.2.2.1.length : Int)))), Rg.Is (.string (str (((((encs numC (five fd) ++ bitC.enc fd.2.1) ++ intB fd.2.2.1) ++ intB fd.2.2.2.1) ++ txtB fd.2.2.2.2.1) ++ intB (fd.2.2.2.2.2.1.length : Int))))] (by kernel_rfl) (by kernel_rfl) (by kernel_rfl) ⟨Rg.st_is _, Rg.st_is _, Rg.st_is _, Rg.st_is _, Rg.st_is _, Rg.st_is _, Rg.st_is _, Rg.st_is _, Rg.st_is _, Rg.st_is _, Rg.st_is _, Rg.st_is _, Rg.st_is _, Rg.st_is _, Rg.st_is _, Rg.st_is _, Rg.st_is _, Rg.st_is _, Rg.st_is _, Rg.st_is _, Rg.st_is _, Rg.st_is _, Rg.st_is _, Rg.st_is _, Rg.st_is _, trivial⟩ ⟨rfl, rfl, rfl, rfl, rfl, rfl, rfl, rfl, rfl, rfl, rfl, rfl, rfl, rfl, rfl, rfl, rfl, rfl, rfl, rfl, rfl, rfl, rfl, rfl, rfl, trivial⟩ ⟨?_, ?_, ?_, ?_, ?_, ?_, ?_, ?_, ?_, ?_, ?_, ?_, ?_, ?_, ?_, ?_, ?_, ?_, ?_, ?_, ?_, ?_, ?_, ?_, ?_, trivial⟩ ?_
  · intro _ a wx hb hk
    have h1 : a.eval (.tmp 1) = .pointer (some ⟨eb, 0, none⟩) := Eq.mp (by kernel_rfl) (hk 1 (by decide))
    exact Rs.does_field _ _ h1 (show (Instr.fieldAt 86 (.pointer (some ⟨eb, 0, none⟩)) 0).run Try.prog wx = .ok (.pointer (some ⟨eb, 0, none⟩)) wx from rfl) ⟨Below.refl _ _, rfl⟩
  · intro _ a wx hb hk
    have h6 : a.eval (.tmp 6) = .pointer (some ⟨eb, 0, none⟩) := Eq.mp (by kernel_rfl) (hk 6 (by decide))
    exact Rg.does_load _ _ h6 (Ap.load_plainP (by simp [isAgg]) (cell_below hb (Nat.le_refl _) ((HC.out.cell 0).trans HV.out.1))) ⟨Below.refl _ _, rfl⟩
  · intro _ a wx hb hk
    have h7 : a.eval (.tmp 7) = .slice p0 5 k0 := Eq.mp (by kernel_rfl) (hk 7 (by decide))
    refine Rg.does_func #[.slice p0 5 k0] Try.func25 (by kernel_rfl) (by kernel_rfl) (by simp [h7]) (ref_ints_calls wx p0 k0 (five fd) (HE0.out.below (by decide) hb) HQ5.out (by have := HL.out; omega)) ?_
    rintro e w' ⟨rfl, hb'⟩
    exact ⟨_, rfl, hb', rfl⟩
  · intro _ a wx hb hk
    have h1 : a.eval (.tmp 1) = .pointer (some ⟨eb, 0, none⟩) := Eq.mp (by kernel_rfl) (hk 1 (by decide))
    exact Rs.does_field _ _ h1 (show (Instr.fieldAt 86 (.pointer (some ⟨eb, 0, none⟩)) 1).run Try.prog wx = .ok (.pointer (some ⟨eb, 1, none⟩)) wx from rfl) ⟨Below.refl _ _, rfl⟩
  · intro _ a wx hb hk
    have h9 : a.eval (.tmp 9) = .pointer (some ⟨eb, 1, none⟩) := Eq.mp (by kernel_rfl) (hk 9 (by decide))
    exact Rg.does_load _ _ h9 (Ap.load_plainP (by simp [isAgg]) (cell_below hb (Nat.le_refl _) ((HC.out.cell 1).trans HV.out.2.1))) ⟨Below.refl _ _, rfl⟩
  · intro _ a wx hb hk
    have h10 : a.eval (.tmp 10) = .bool fd.2.1 := Eq.mp (by kernel_rfl) (hk 10 (by decide))
    refine Rg.does_func #[.bool fd.2.1] Try.func26 (by kernel_rfl) (by kernel_rfl) (by simp [h10]) (ref_is_calls wx fd.2.1) ?_
    rintro e w' ⟨rfl, hb'⟩
    exact ⟨_, rfl, hb', rfl⟩
  · intro _ a wx hb hk
    have h8 : a.eval (.tmp 8) = .string (str (encs numC (five fd))) := Eq.mp (by kernel_rfl) (hk 8 (by decide))
    have h11 : a.eval (.tmp 11) = .string (str (bitC.enc fd.2.1)) := Eq.mp (by kernel_rfl) (hk 11 (by decide))
    exact Sw.does_bin_str (str (encs numC (five fd))) (str (bitC.enc fd.2.1)) _ h8 h11 (Sw.run_cat (by have h9 := HL.out; (try simp only [List.length_append]); omega)) ⟨Below.refl _ _, rfl⟩
  · intro _ a wx hb hk
    have h1 : a.eval (.tmp 1) = .pointer (some ⟨eb, 0, none⟩) := Eq.mp (by kernel_rfl) (hk 1 (by decide))
    exact Rs.does_field _ _ h1 (show (Instr.fieldAt 86 (.pointer (some ⟨eb, 0, none⟩)) 2).run Try.prog wx = .ok (.pointer (some ⟨eb, 2, none⟩)) wx from rfl) ⟨Below.refl _ _, rfl⟩
  · intro _ a wx hb hk
    have h13 : a.eval (.tmp 13) = .pointer (some ⟨eb, 2, none⟩) := Eq.mp (by kernel_rfl) (hk 13 (by decide))
    exact Rg.does_load _ _ h13 (Ap.load_plainP (by simp [isAgg]) (cell_below hb (Nat.le_refl _) ((HC.out.cell 2).trans HV.out.2.2.1))) ⟨Below.refl _ _, rfl⟩
  · intro _ a wx hb hk
    have h14 : a.eval (.tmp 14) = .int .i64 fd.2.2.1 := Eq.mp (by kernel_rfl) (hk 14 (by decide))
    refine Rg.does_func #[.int .i64 fd.2.2.1] Try.func21 (by kernel_rfl) (by kernel_rfl) (by simp [h14]) (ref_n_calls wx fd.2.2.1 HQ.out.2.2.1) ?_
    rintro e w' ⟨rfl, hb'⟩
    exact ⟨_, rfl, hb', rfl⟩
  · intro _ a wx hb hk
    have h12 : a.eval (.tmp 12) = .string (str (encs numC (five fd) ++ bitC.enc fd.2.1)) := Eq.mp (by kernel_rfl) (hk 12 (by decide))
    have h15 : a.eval (.tmp 15) = .string (str (intB fd.2.2.1)) := Eq.mp (by kernel_rfl) (hk 15 (by decide))
    exact Sw.does_bin_str (str (encs numC (five fd) ++ bitC.enc fd.2.1)) (str (intB fd.2.2.1)) _ h12 h15 (Sw.run_cat (by have h9 := HL.out; (try simp only [List.length_append]); omega)) ⟨Below.refl _ _, rfl⟩
  · intro _ a wx hb hk
    have h1 : a.eval (.tmp 1) = .pointer (some ⟨eb, 0, none⟩) := Eq.mp (by kernel_rfl) (hk 1 (by decide))
    exact Rs.does_field _ _ h1 (show (Instr.fieldAt 86 (.pointer (some ⟨eb, 0, none⟩)) 3).run Try.prog wx = .ok (.pointer (some ⟨eb, 3, none⟩)) wx from rfl) ⟨Below.refl _ _, rfl⟩
  · intro _ a wx hb hk
    have h17 : a.eval (.tmp 17) = .pointer (some ⟨eb, 3, none⟩) := Eq.mp (by kernel_rfl) (hk 17 (by decide))
    exact Rg.does_load _ _ h17 (Ap.load_plainP (by simp [isAgg]) (cell_below hb (Nat.le_refl _) ((HC.out.cell 3).trans HV.out.2.2.2.1))) ⟨Below.refl _ _, rfl⟩
  · intro _ a wx hb hk
    have h18 : a.eval (.tmp 18) = .int .i64 fd.2.2.2.1 := Eq.mp (by kernel_rfl) (hk 18 (by decide))
    refine Rg.does_func #[.int .i64 fd.2.2.2.1] Try.func21 (by kernel_rfl) (by kernel_rfl) (by simp [h18]) (ref_n_calls wx fd.2.2.2.1 HQ.out.2.2.2.1) ?_
    rintro e w' ⟨rfl, hb'⟩
    exact ⟨_, rfl, hb', rfl⟩
  · intro _ a wx hb hk
    have h16 : a.eval (.tmp 16) = .string (str ((encs numC (five fd) ++ bitC.enc fd.2.1) ++ intB fd.2.2.1)) := Eq.mp (by kernel_rfl) (hk 16 (by decide))
    have h19 : a.eval (.tmp 19) = .string (str (intB fd.2.2.2.1)) := Eq.mp (by kernel_rfl) (hk 19 (by decide))
    exact Sw.does_bin_str (str ((encs numC (five fd) ++ bitC.enc fd.2.1) ++ intB fd.2.2.1)) (str (intB fd.2.2.2.1)) _ h16 h19 (Sw.run_cat (by have h9 := HL.out; (try simp only [List.length_append]); omega)) ⟨Below.refl _ _, rfl⟩
  · intro _ a wx hb hk
    have h1 : a.eval (.tmp 1) = .pointer (some ⟨eb, 0, none⟩) := Eq.mp (by kernel_rfl) (hk 1 (by decide))
    exact Rs.does_field _ _ h1 (show (Instr.fieldAt 86 (.pointer (some ⟨eb, 0, none⟩)) 4).run Try.prog wx = .ok (.pointer (some ⟨eb, 4, none⟩)) wx from rfl) ⟨Below.refl _ _, rfl⟩
  · intro _ a wx hb hk
    have h21 : a.eval (.tmp 21) = .pointer (some ⟨eb, 4, none⟩) := Eq.mp (by kernel_rfl) (hk 21 (by decide))
    exact Rg.does_load _ _ h21 (Ap.load_plainP (by simp [isAgg]) (cell_below hb (Nat.le_refl _) ((HC.out.cell 4).trans HV.out.2.2.2.2.1))) ⟨Below.refl _ _, rfl⟩
  · intro _ a wx hb hk
    have h22 : a.eval (.tmp 22) = .string (str (fd.2.2.2.2.1)) := Eq.mp (by kernel_rfl) (hk 22 (by decide))
    refine Rg.does_func #[.string (str (fd.2.2.2.2.1))] Try.func43 (by kernel_rfl) (by kernel_rfl) (by simp [h22]) (ref_txt_calls wx fd.2.2.2.2.1 (by have h9 := HL.out; have h2 : fd.2.2.2.2.1.length ≤ (txtB fd.2.2.2.2.1).length := txt_len_in fd.2.2.2.2.1; omega)) ?_
    rintro e w' ⟨rfl, hb'⟩
    exact ⟨_, rfl, hb', rfl⟩
  · intro _ a wx hb hk
    have h20 : a.eval (.tmp 20) = .string (str (((encs numC (five fd) ++ bitC.enc fd.2.1) ++ intB fd.2.2.1) ++ intB fd.2.2.2.1)) := Eq.mp (by kernel_rfl) (hk 20 (by decide))
    have h23 : a.eval (.tmp 23) = .string (str (txtB fd.2.2.2.2.1)) := Eq.mp (by kernel_rfl) (hk 23 (by decide))
    exact Sw.does_bin_str (str (((encs numC (five fd) ++ bitC.enc fd.2.1) ++ intB fd.2.2.1) ++ intB fd.2.2.2.1)) (str (txtB fd.2.2.2.2.1)) _ h20 h23 (Sw.run_cat (by have h9 := HL.out; (try simp only [List.length_append]); omega)) ⟨Below.refl _ _, rfl⟩
  · intro _ a wx hb hk
    have h1 : a.eval (.tmp 1) = .pointer (some ⟨eb, 0, none⟩) := Eq.mp (by kernel_rfl) (hk 1 (by decide))
    exact Rs.does_field _ _ h1 (show (Instr.fieldAt 86 (.pointer (some ⟨eb, 0, none⟩)) 5).run Try.prog wx = .ok (.pointer (some ⟨eb, 5, none⟩)) wx from rfl) ⟨Below.refl _ _, rfl⟩
  · intro _ a wx hb hk
    have h25 : a.eval (.tmp 25) = .pointer (some ⟨eb, 5, none⟩) := Eq.mp (by kernel_rfl) (hk 25 (by decide))
    exact Rg.does_load _ _ h25 (Ap.load_plainP (by simp [isAgg]) (cell_below hb (Nat.le_refl _) ((HC.out.cell 5).trans HV.out.2.2.2.2.2.1))) ⟨Below.refl _ _, rfl⟩
  · intro _ a wx hb hk
    have h26 : a.eval (.tmp 26) = .slice p5 fd.2.2.2.2.2.1.length k5 := Eq.mp (by kernel_rfl) (hk 26 (by decide))
    exact Rg.does_len _ _ _ Try.underlying67 h26 ⟨Below.refl _ _, rfl⟩
  · intro _ a wx hb hk
    have h27 : a.eval (.tmp 27) = .int .i64 (fd.2.2.2.2.2.1.length : Int) := Eq.mp (by kernel_rfl) (hk 27 (by decide))
    refine Rg.does_func #[.int .i64 (fd.2.2.2.2.2.1.length : Int)] Try.func21 (by kernel_rfl) (by kernel_rfl) (by simp [h27]) (ref_n_calls wx (fd.2.2.2.2.2.1.length : Int) ⟨by have := HN5.out; omega, by have := HN5.out; omega⟩) ?_
    rintro e w' ⟨rfl, hb'⟩
    exact ⟨_, rfl, hb', rfl⟩
  · intro _ a wx hb hk
    have h24 : a.eval (.tmp 24) = .string (str ((((encs numC (five fd) ++ bitC.enc fd.2.1) ++ intB fd.2.2.1) ++ intB fd.2.2.2.1) ++ txtB fd.2.2.2.2.1)) := Eq.mp (by kernel_rfl) (hk 24 (by decide))
    have h28 : a.eval (.tmp 28) = .string (str (intB (fd.2.2.2.2.2.1.length : Int))) := Eq.mp (by kernel_rfl) (hk 28 (by decide))
    exact Sw.does_bin_str (str ((((encs numC (five fd) ++ bitC.enc fd.2.1) ++ intB fd.2.2.1) ++ intB fd.2.2.2.1) ++ txtB fd.2.2.2.2.1)) (str (intB (fd.2.2.2.2.2.1.length : Int))) _ h24 h28 (Sw.run_cat (by have h9 := HL.out; (try simp only [List.length_append]); omega)) ⟨Below.refl _ _, rfl⟩
  · intro _ a wx hb hk
    have h29 : a.eval (.tmp 29) = .string (str (((((encs numC (five fd) ++ bitC.enc fd.2.1) ++ intB fd.2.2.1) ++ intB fd.2.2.2.1) ++ txtB fd.2.2.2.2.1) ++ intB (fd.2.2.2.2.2.1.length : Int))) := Eq.mp (by kernel_rfl) (hk 29 (by decide))
    exact Rg.does_assign ⟨Below.refl _ _, h29⟩
  intro vals wD hbD hL
  obtain ⟨g0, g1, g2, g3, g4, g5, g6, g7, g8, g9, g10, g11, g12, g13, g14, g15, g16, g17, g18, g19, g20, g21, g22, g23, g24, _⟩ := hL
  have g' : vals 24 = .string (str (((((encs numC (five fd) ++ bitC.enc fd.2.1) ++ intB fd.2.2.1) ++ intB fd.2.2.2.1) ++ txtB fd.2.2.2.2.1) ++ intB (fd.2.2.2.2.2.1.length : Int))) := g24
  have HBD := Lib.hid hbD
  clear g0 g1 g2 g3 g4 g5 g6 g7 g8 g9 g10 g11 g12 g13 g14 g15 g16 g17 g18 g19 g20 g21 g22 g23 g24 hbD
  simp only [Rg.putAll, List.setIfInBounds_toArray, List.set_cons_succ, List.set_cons_zero, g']
  clear g'
  obtain ⟨pre1, hp1⟩ : ∃ x, ((((encs numC (five fd) ++ bitC.enc fd.2.1) ++ intB fd.2.2.1) ++ intB fd.2.2.2.1) ++ txtB fd.2.2.2.2.1) ++ intB (fd.2.2.2.2.2.1.length : Int) = x := ⟨_, rfl⟩
  have HP1 := Lib.hid hp1
  have HL1 : Hid (pre1.length + (encs numC fd.2.2.2.2.2.1).length + ((rowC txtC).enc fd.2.2.2.2.2.2.1).length + (intB (fd.2.2.2.2.2.2.2.1.length : Int)).length + (encs varC fd.2.2.2.2.2.2.2.1).length + (keepC.enc fd.2.2.2.2.2.2.2.2).length ≤ 100000000) := by show _ ≤ _; rw [← hp1]; simp only [List.length_append]; have := HL.out; omega
  rw [hp1]
  clear hp1
  have HCx : Hid (Cut eb vs rFT w1) := HC.out
  go_wp2_with fail
  go_loopw [3, 4] (fun va vi wr => ∃ k : Nat, k ≤ fd.2.2.2.2.2.1.length ∧ vi = .int .i64 k ∧ va = .string (str (pre1 ++ encs numC (fd.2.2.2.2.2.1.take k))) ∧ Below w1.heap.size w1 wr) (fun _ vi _ => fd.2.2.2.2.2.1.length - (intOf vi).toNat)
  case atStart => exact ⟨0, Nat.zero_le _, rfl, by rw [List.take_zero, show encs numC [] = [] from rfl, List.append_nil], HBD.out⟩
  case round =>
    obtain ⟨k, hk, rfl, rfl, hb⟩ := hrel
    have HB := Lib.hid hb
    clear hb
    have hcs : wr.cell? ⟨eb, 5, none⟩ = some (.slice p5 fd.2.2.2.2.2.1.length k5) := (HB.out.cell (p := ⟨eb, 5, none⟩) HC.out.lt).trans ((HC.out.cell 5).trans HV.out.2.2.2.2.2.1)
    by_cases hlt : k < fd.2.2.2.2.2.1.length
    · obtain ⟨b, o, hpe, hbl, hcu⟩ := HE5.out.at (by decide) hlt
      subst hpe
      have hx := fun W => row_idx Try.underlying67 1 info_el_int64 b o fd.2.2.2.2.2.1.length k5 k hlt W
      have c0 : wr.cell? ⟨b, o + k, none⟩ = some (.int .i64 fd.2.2.2.2.2.1[k]) := by
        have h1 := (HB.out.cell (p := ⟨b, o + k * 1 + 0, none⟩) hbl).trans (hcu 0 Nat.zero_lt_one)
        rw [Nat.mul_one, Nat.add_zero] at h1
        exact h1
      have HT := Lib.hid (encs_take_succ numC hlt)
      have hle := encs_take numC fd.2.2.2.2.2.1 (k + 1)
      rw [HT.out, List.length_append] at hle
      have hL := HL1.out
      have HTx := Lib.hid (ref_n_calls wr fd.2.2.2.2.2.1[k] (HQ.out.2.2.2.2.2.1 _ (List.getElem_mem hlt)))
      have HTl : Hid ((encs numC (fd.2.2.2.2.2.1.take k)).length + (intB fd.2.2.2.2.2.1[k]).length ≤ (encs numC fd.2.2.2.2.2.1).length) := hle
      clear hcu hle
      generalize fd.2.2.2.2.2.1[k] = s at *
      have hk9 : k ≤ 100000000 := by have := HN5.out; omega
      have u1 : decide ((k : Int) < (fd.2.2.2.2.2.1.length : Int)) = true := decide_eq_true (by omega)
      have u2 : (k : Int) < (fd.2.2.2.2.2.1.length : Int) := by omega
      have u3 : decide (k < fd.2.2.2.2.2.1.length) = true := decide_eq_true hlt
      have hsz1 : (str (pre1 ++ encs numC (fd.2.2.2.2.2.1.take k))).size + (str (intB s)).size ≤ 100000000 := by
        rw [str_size, str_size, List.length_append]
        have := HTl.out
        omega
      go_wp2_with fail
      refine HTx.out.mono ?_
      rintro e w2 ⟨rfl, hb2⟩
      have HB2 := Lib.hid (HB.out.trans (hb2.mono HB.out.size))
      clear hb2 HTx c0 hx hcs
      go_wp2_with fail
      go_roundw
      case rel => exact ⟨k + 1, by omega, by go_num, by rw [HT.out, ← List.append_assoc, ← str_append]; rfl, HB2.out⟩
      case measure => simp [intOf]; omega
    · obtain rfl : k = fd.2.2.2.2.2.1.length := by omega
      rw [List.take_length]
      have u1 : decide ((fd.2.2.2.2.2.1.length : Int) < (fd.2.2.2.2.2.1.length : Int)) = false := decide_eq_false (by omega)
      have u2 : ¬ ((fd.2.2.2.2.2.1.length : Int) < (fd.2.2.2.2.2.1.length : Int)) := by omega
      have u3 : decide (fd.2.2.2.2.2.1.length < fd.2.2.2.2.2.1.length) = false := decide_eq_false (by omega)
      obtain ⟨acc, hacc⟩ : ∃ x, pre1 ++ encs numC fd.2.2.2.2.2.1 = x := ⟨_, rfl⟩
      have HAc := Lib.hid hacc
      have hal : acc.length = pre1.length + (encs numC fd.2.2.2.2.2.1).length := by rw [← hacc, List.length_append]
      have HL2 : Hid (acc.length + ((rowC txtC).enc fd.2.2.2.2.2.2.1).length + (intB (fd.2.2.2.2.2.2.2.1.length : Int)).length + (encs varC fd.2.2.2.2.2.2.2.1).length + (keepC.enc fd.2.2.2.2.2.2.2.2).length ≤ 100000000) := by have := HL1.out; show _ ≤ _; omega
      rw [hacc]
      clear hacc hal
      have HCr : Hid (Cut eb vs rFT wr) := (HB.out.block eb HC.out.lt).trans HC.out
      have HEr6 := Lib.hid (HE6.out.below (by decide) HB.out)
      go_upto_region 6 with fail
      clear u1 u2 u3 hcs
      refine Rg.wp_region_rgl [] [Rg.Is (.string (str (acc))), Rg.Is (.pointer (some ⟨eb, 6, none⟩)), Rg.Is (.slice p6 fd.2.2.2.2.2.2.1.length k6), Rg.Is (.string (str ((rowC txtC).enc fd.2.2.2.2.2.2.1))), Rg.Is (.pointer (some ⟨eb, 7, none⟩)), Rg.Is (.slice p7 fd.2.2.2.2.2.2.2.1.length k7), Rg.Is (.int .i64 (fd.2.2.2.2.2.2.2.1.length : Int)), Rg.Is (.string (str (intB (fd.2.2.2.2.2.2.2.1.length : Int)))), Rg.Is (.string (str ((rowC txtC).enc fd.2.2.2.2.2.2.1 ++ intB (fd.2.2.2.2.2.2.2.1.length : Int)))), Rg.Is (.string (str (acc ++ ((rowC txtC).enc fd.2.2.2.2.2.2.1 ++ intB (fd.2.2.2.2.2.2.2.1.length : Int))))), Rg.Is (.string (str (acc ++ ((rowC txtC).enc fd.2.2.2.2.2.2.1 ++ intB (fd.2.2.2.2.2.2.2.1.length : Int)))))] (by kernel_rfl) (by kernel_rfl) (by kernel_rfl) ⟨Rg.st_is _, Rg.st_is _, Rg.st_is _, Rg.st_is _, Rg.st_is _, Rg.st_is _, Rg.st_is _, Rg.st_is _, Rg.st_is _, Rg.st_is _, Rg.st_is _, trivial⟩ ⟨rfl, rfl, rfl, rfl, rfl, rfl, rfl, rfl, rfl, rfl, rfl, trivial⟩ ⟨?_, ?_, ?_, ?_, ?_, ?_, ?_, ?_, ?_, ?_, ?_, trivial⟩ ?_
      · intro _ a wx hb hk
        have h3 : a.eval (.tmp 3) = .string (str (acc)) := Eq.mp (by kernel_rfl) (hk 3 (by decide))
        exact Rg.does_move ⟨Below.refl _ _, h3⟩
      · intro _ a wx hb hk
        have h1 : a.eval (.tmp 1) = .pointer (some ⟨eb, 0, none⟩) := Eq.mp (by kernel_rfl) (hk 1 (by decide))
        exact Rs.does_field _ _ h1 (show (Instr.fieldAt 86 (.pointer (some ⟨eb, 0, none⟩)) 6).run Try.prog wx = .ok (.pointer (some ⟨eb, 6, none⟩)) wx from rfl) ⟨Below.refl _ _, rfl⟩
      · intro _ a wx hb hk
        have h46 : a.eval (.tmp 46) = .pointer (some ⟨eb, 6, none⟩) := Eq.mp (by kernel_rfl) (hk 46 (by decide))
        exact Rg.does_load _ _ h46 (Ap.load_plainP (by simp [isAgg]) (cell_below hb (Nat.le_refl _) ((HCr.out.cell 6).trans HV.out.2.2.2.2.2.2.1))) ⟨Below.refl _ _, rfl⟩
      · intro _ a wx hb hk
        have h47 : a.eval (.tmp 47) = .slice p6 fd.2.2.2.2.2.2.1.length k6 := Eq.mp (by kernel_rfl) (hk 47 (by decide))
        refine Rg.does_func #[.slice p6 fd.2.2.2.2.2.2.1.length k6] Try.func20 (by kernel_rfl) (by kernel_rfl) (by simp [h47]) (ref_row18_calls wx p6 k6 fd.2.2.2.2.2.2.1 (HEr6.out.below (by decide) hb) (by have := HL.out; omega)) ?_
        rintro e w' ⟨rfl, hb'⟩
        exact ⟨_, rfl, hb', rfl⟩
      · intro _ a wx hb hk
        have h1 : a.eval (.tmp 1) = .pointer (some ⟨eb, 0, none⟩) := Eq.mp (by kernel_rfl) (hk 1 (by decide))
        exact Rs.does_field _ _ h1 (show (Instr.fieldAt 86 (.pointer (some ⟨eb, 0, none⟩)) 7).run Try.prog wx = .ok (.pointer (some ⟨eb, 7, none⟩)) wx from rfl) ⟨Below.refl _ _, rfl⟩
      · intro _ a wx hb hk
        have h49 : a.eval (.tmp 49) = .pointer (some ⟨eb, 7, none⟩) := Eq.mp (by kernel_rfl) (hk 49 (by decide))
        exact Rg.does_load _ _ h49 (Ap.load_plainP (by simp [isAgg]) (cell_below hb (Nat.le_refl _) ((HCr.out.cell 7).trans HV.out.2.2.2.2.2.2.2))) ⟨Below.refl _ _, rfl⟩
      · intro _ a wx hb hk
        have h50 : a.eval (.tmp 50) = .slice p7 fd.2.2.2.2.2.2.2.1.length k7 := Eq.mp (by kernel_rfl) (hk 50 (by decide))
        exact Rg.does_len _ _ _ Try.underlying84 h50 ⟨Below.refl _ _, rfl⟩
      · intro _ a wx hb hk
        have h51 : a.eval (.tmp 51) = .int .i64 (fd.2.2.2.2.2.2.2.1.length : Int) := Eq.mp (by kernel_rfl) (hk 51 (by decide))
        refine Rg.does_func #[.int .i64 (fd.2.2.2.2.2.2.2.1.length : Int)] Try.func21 (by kernel_rfl) (by kernel_rfl) (by simp [h51]) (ref_n_calls wx (fd.2.2.2.2.2.2.2.1.length : Int) ⟨by have := HN7.out; omega, by have := HN7.out; omega⟩) ?_
        rintro e w' ⟨rfl, hb'⟩
        exact ⟨_, rfl, hb', rfl⟩
      · intro _ a wx hb hk
        have h48 : a.eval (.tmp 48) = .string (str ((rowC txtC).enc fd.2.2.2.2.2.2.1)) := Eq.mp (by kernel_rfl) (hk 48 (by decide))
        have h52 : a.eval (.tmp 52) = .string (str (intB (fd.2.2.2.2.2.2.2.1.length : Int))) := Eq.mp (by kernel_rfl) (hk 52 (by decide))
        exact Sw.does_bin_str (str ((rowC txtC).enc fd.2.2.2.2.2.2.1)) (str (intB (fd.2.2.2.2.2.2.2.1.length : Int))) _ h48 h52 (Sw.run_cat (by have h9 := HL2.out; (try simp only [List.length_append]); omega)) ⟨Below.refl _ _, rfl⟩
      · intro _ a wx hb hk
        have h45 : a.eval (.tmp 45) = .string (str (acc)) := Eq.mp (by kernel_rfl) (hk 45 (by decide))
        have h53 : a.eval (.tmp 53) = .string (str ((rowC txtC).enc fd.2.2.2.2.2.2.1 ++ intB (fd.2.2.2.2.2.2.2.1.length : Int))) := Eq.mp (by kernel_rfl) (hk 53 (by decide))
        exact Sw.does_bin_str (str (acc)) (str ((rowC txtC).enc fd.2.2.2.2.2.2.1 ++ intB (fd.2.2.2.2.2.2.2.1.length : Int))) _ h45 h53 (Sw.run_cat (by have h9 := HL2.out; (try simp only [List.length_append]); omega)) ⟨Below.refl _ _, rfl⟩
      · intro _ a wx hb hk
        have h54 : a.eval (.tmp 54) = .string (str (acc ++ ((rowC txtC).enc fd.2.2.2.2.2.2.1 ++ intB (fd.2.2.2.2.2.2.2.1.length : Int)))) := Eq.mp (by kernel_rfl) (hk 54 (by decide))
        exact Rg.does_assign ⟨Below.refl _ _, h54⟩
      intro vals wD hbD hL
      obtain ⟨g0, g1, g2, g3, g4, g5, g6, g7, g8, g9, g10, _⟩ := hL
      have g' : vals 10 = .string (str (acc ++ ((rowC txtC).enc fd.2.2.2.2.2.2.1 ++ intB (fd.2.2.2.2.2.2.2.1.length : Int)))) := g10
      have HBD := Lib.hid hbD
      clear g0 g1 g2 g3 g4 g5 g6 g7 g8 g9 g10 hbD
      simp only [Rg.putAll, List.setIfInBounds_toArray, List.set_cons_succ, List.set_cons_zero, g']
      clear g'
      obtain ⟨pre2, hp2⟩ : ∃ x, acc ++ ((rowC txtC).enc fd.2.2.2.2.2.2.1 ++ intB (fd.2.2.2.2.2.2.2.1.length : Int)) = x := ⟨_, rfl⟩
      have HP2 := Lib.hid hp2
      have hp2l : pre2.length = acc.length + (((rowC txtC).enc fd.2.2.2.2.2.2.1).length + (intB (fd.2.2.2.2.2.2.2.1.length : Int)).length) := by rw [← hp2]; simp only [List.length_append]
      have HL3 : Hid ((pre2 ++ encs varC fd.2.2.2.2.2.2.2.1).length ≤ 100000000) := by show _ ≤ _; rw [List.length_append, hp2l]; have := HL2.out; omega
      have HL4 : Hid (pre2.length + (encs varC fd.2.2.2.2.2.2.2.1).length + (keepC.enc fd.2.2.2.2.2.2.2.2).length ≤ 100000000) := by show _ ≤ _; rw [hp2l]; have := HL2.out; omega
      rw [hp2]
      clear hp2 hp2l
      have HB7 := Lib.hid (HB.out.trans (HBD.out.mono HB.out.size))
      go_wp2_with fail
      go_loopw [3, 5] (fun va vi wr => ∃ k : Nat, k ≤ (fd.2.2.2.2.2.2.2.1).length ∧ vi = .int .i64 k ∧ va = .string (str (pre2 ++ encs varC ((fd.2.2.2.2.2.2.2.1).take k))) ∧ Below w1.heap.size w1 wr) (fun _ vi _ => (fd.2.2.2.2.2.2.2.1).length - (intOf vi).toNat)
      case atStart => exact ⟨0, Nat.zero_le _, rfl, by rw [List.take_zero, show encs varC [] = [] from rfl, List.append_nil], HB7.out⟩
      case round =>
        obtain ⟨k, hk, rfl, rfl, hb⟩ := hrel
        have HB := Lib.hid hb
        clear hb
        have hcs : wr.cell? ⟨eb, 7, none⟩ = some (.slice p7 (fd.2.2.2.2.2.2.2.1).length k7) := (HB.out.cell (p := ⟨eb, 7, none⟩) (HC.out).lt).trans (((HC.out).cell 7).trans HV.out.2.2.2.2.2.2.2)
        by_cases hlt : k < (fd.2.2.2.2.2.2.2.1).length
        · obtain ⟨b, o, hpe, hbl, hcu⟩ := (HE7.out).at (by decide) hlt
          subst hpe
          have HKs := Lib.hid hcs
          have HX := Lib.hid (fun W => row_idx Try.underlying84 2 (by kernel_rfl) b o (fd.2.2.2.2.2.2.2.1).length k7 k hlt W)
          have HF0 : Hid (wr.cell? ⟨b, o + k * 2, none⟩ = some (.string (str (fd.2.2.2.2.2.2.2.1)[k].1))) := (HB.out.cell (p := ⟨b, o + k * 2, none⟩) hbl).trans (hcu 0 (show 0 < 2 by decide))
          have HF1 : Hid (wr.cell? ⟨b, o + k * 2 + 1, none⟩ = some (.string (str (fd.2.2.2.2.2.2.2.1)[k].2))) := (HB.out.cell (p := ⟨b, o + k * 2 + 1, none⟩) hbl).trans (hcu 1 (show 1 < 2 by decide))
          have HT := Lib.hid (encs_take_succ varC hlt)
          have hle := encs_take varC (fd.2.2.2.2.2.2.2.1) (k + 1)
          rw [HT.out, List.length_append] at hle
          have hL := HL3.out
          rw [List.length_append] at hL
          have HEn : Hid ((varC).enc (fd.2.2.2.2.2.2.2.1)[k] = txtB (fd.2.2.2.2.2.2.2.1)[k].1 ++ (txtB (fd.2.2.2.2.2.2.2.1)[k].2)) := rfl
          rw [HEn.out] at hle
          have HQk := Lib.hid (HQ.out.2.2.2.2.2.2.2.1 _ (List.getElem_mem hlt))
          have HT2 : Hid (encs varC ((fd.2.2.2.2.2.2.2.1).take (k + 1)) = encs varC ((fd.2.2.2.2.2.2.2.1).take k) ++ (txtB (fd.2.2.2.2.2.2.2.1)[k].1 ++ (txtB (fd.2.2.2.2.2.2.2.1)[k].2))) := by show _ = _; rw [HT.out, HEn.out]
          clear hcu hcs
          generalize (fd.2.2.2.2.2.2.2.1)[k] = s at *
          obtain ⟨acc, hacc⟩ : ∃ acc, pre2 ++ encs varC ((fd.2.2.2.2.2.2.2.1).take k) = acc := ⟨_, rfl⟩
          have HAc := Lib.hid hacc
          have hal : acc.length = (pre2).length + (encs varC ((fd.2.2.2.2.2.2.2.1).take k)).length := by rw [← hacc, List.length_append]
          rw [hacc]
          simp only [List.length_append] at hle
          have HCat : Hid (acc.length + (txtB s.1).length + (txtB s.2).length ≤ 100000000) := by show _ ≤ _; omega
          have HS0 : Hid (s.1.length ≤ 100000000) := by
            have h1 := HCat.out
            have h2 : s.1.length ≤ (txtB s.1).length := txt_len_in s.1
            show _ ≤ _
            omega
          have HS1 : Hid (s.2.length ≤ 100000000) := by
            have h1 := HCat.out
            have h2 : s.2.length ≤ (txtB s.2).length := txt_len_in s.2
            show _ ≤ _
            omega
          clear hacc hal hle hL
          have u1 : decide ((k : Int) < ((fd.2.2.2.2.2.2.2.1).length : Int)) = true := decide_eq_true (by omega)
          have u2 : (k : Int) < ((fd.2.2.2.2.2.2.2.1).length : Int) := by omega
          have u3 : decide (k < (fd.2.2.2.2.2.2.2.1).length) = true := decide_eq_true hlt
          have hcs := HKs.out
          go_upto_region 10 with fail
          clear u1 u2 u3 hcs
          refine Rg.wp_region_rgl [] [Rg.Is (.string (str (acc))), Rg.Is (.pointer (some ⟨eb, 7, none⟩)), Rg.Is (.slice (some ⟨b, o, none⟩) (fd.2.2.2.2.2.2.2.1).length k7), Rg.Is (.int .i64 (k : Int)), Rg.Is (.pointer (some ⟨b, o + k * 2, none⟩)), Rg.Is (.pointer (some ⟨b, o + k * 2, none⟩)), Rg.Is (.string (str (s.1))), Rg.Is (.string (str (txtB s.1))), Rg.Is (.pointer (some ⟨eb, 7, none⟩)), Rg.Is (.slice (some ⟨b, o, none⟩) (fd.2.2.2.2.2.2.2.1).length k7), Rg.Is (.int .i64 (k : Int)), Rg.Is (.pointer (some ⟨b, o + k * 2, none⟩)), Rg.Is (.pointer (some ⟨b, o + k * 2 + 1, none⟩)), Rg.Is (.string (str (s.2))), Rg.Is (.string (str (txtB s.2))), Rg.Is (.string (str (txtB s.1 ++ txtB s.2))), Rg.Is (.string (str (acc ++ (txtB s.1 ++ txtB s.2)))), Rg.Is (.string (str (acc ++ (txtB s.1 ++ txtB s.2))))] (by kernel_rfl) (by kernel_rfl) (by kernel_rfl) ⟨Rg.st_is _, Rg.st_is _, Rg.st_is _, Rg.st_is _, Rg.st_is _, Rg.st_is _, Rg.st_is _, Rg.st_is _, Rg.st_is _, Rg.st_is _, Rg.st_is _, Rg.st_is _, Rg.st_is _, Rg.st_is _, Rg.st_is _, Rg.st_is _, Rg.st_is _, Rg.st_is _, trivial⟩ ⟨rfl, rfl, rfl, rfl, rfl, rfl, rfl, rfl, rfl, rfl, rfl, rfl, rfl, rfl, rfl, rfl, rfl, rfl, trivial⟩ ⟨?_, ?_, ?_, ?_, ?_, ?_, ?_, ?_, ?_, ?_, ?_, ?_, ?_, ?_, ?_, ?_, ?_, ?_, trivial⟩ ?_
          · intro _ a wx hb hk
            have h3 : a.eval (.tmp 3) = .string (str (acc)) := Eq.mp (by kernel_rfl) (hk 3 (by decide))
            exact Rg.does_move ⟨Below.refl _ _, h3⟩
          · intro _ a wx hb hk
            have h1 : a.eval (.tmp 1) = .pointer (some ⟨eb, 0, none⟩) := Eq.mp (by kernel_rfl) (hk 1 (by decide))
            exact Rs.does_field _ _ h1 (show (Instr.fieldAt 86 (.pointer (some ⟨eb, 0, none⟩)) 7).run Try.prog wx = .ok (.pointer (some ⟨eb, 7, none⟩)) wx from rfl) ⟨Below.refl _ _, rfl⟩
          · intro _ a wx hb hk
            have h63 : a.eval (.tmp 63) = .pointer (some ⟨eb, 7, none⟩) := Eq.mp (by kernel_rfl) (hk 63 (by decide))
            exact Rg.does_load _ _ h63 (Ap.load_plainP (by simp [isAgg]) (cell_below hb (Nat.le_refl _) HKs.out)) ⟨Below.refl _ _, rfl⟩
          · intro _ a wx hb hk
            have h5 : a.eval (.tmp 5) = .int .i64 (k : Int) := Eq.mp (by kernel_rfl) (hk 5 (by decide))
            exact Rg.does_move ⟨Below.refl _ _, h5⟩
          · intro _ a wx hb hk
            have h64 : a.eval (.tmp 64) = .slice (some ⟨b, o, none⟩) (fd.2.2.2.2.2.2.2.1).length k7 := Eq.mp (by kernel_rfl) (hk 64 (by decide))
            have h65 : a.eval (.tmp 65) = .int .i64 (k : Int) := Eq.mp (by kernel_rfl) (hk 65 (by decide))
            exact Rg.does_index _ _ _ h64 h65 (HX.out wx) ⟨Below.refl _ _, rfl⟩
          · intro _ a wx hb hk
            have h66 : a.eval (.tmp 66) = .pointer (some ⟨b, o + k * 2, none⟩) := Eq.mp (by kernel_rfl) (hk 66 (by decide))
            exact Rs.does_field _ _ h66 (show (Instr.fieldAt 93 (.pointer (some ⟨b, o + k * 2, none⟩)) 0).run Try.prog wx = .ok (.pointer (some ⟨b, o + k * 2, none⟩)) wx from rfl) ⟨Below.refl _ _, rfl⟩
          · intro _ a wx hb hk
            have h67 : a.eval (.tmp 67) = .pointer (some ⟨b, o + k * 2, none⟩) := Eq.mp (by kernel_rfl) (hk 67 (by decide))
            exact Rg.does_load _ _ h67 (Ap.load_plainP (by simp [isAgg]) (cell_below hb (Nat.le_refl _) HF0.out)) ⟨Below.refl _ _, rfl⟩
          · intro _ a wx hb hk
            have h68 : a.eval (.tmp 68) = .string (str (s.1)) := Eq.mp (by kernel_rfl) (hk 68 (by decide))
            refine Rg.does_func #[.string (str (s.1))] Try.func43 (by kernel_rfl) (by kernel_rfl) (by simp [h68]) (ref_txt_calls wx (s.1) HS0.out) ?_
            rintro e w' ⟨rfl, hb'⟩
            exact ⟨_, rfl, hb', rfl⟩
          · intro _ a wx hb hk
            have h1 : a.eval (.tmp 1) = .pointer (some ⟨eb, 0, none⟩) := Eq.mp (by kernel_rfl) (hk 1 (by decide))
            exact Rs.does_field _ _ h1 (show (Instr.fieldAt 86 (.pointer (some ⟨eb, 0, none⟩)) 7).run Try.prog wx = .ok (.pointer (some ⟨eb, 7, none⟩)) wx from rfl) ⟨Below.refl _ _, rfl⟩
          · intro _ a wx hb hk
            have h70 : a.eval (.tmp 70) = .pointer (some ⟨eb, 7, none⟩) := Eq.mp (by kernel_rfl) (hk 70 (by decide))
            exact Rg.does_load _ _ h70 (Ap.load_plainP (by simp [isAgg]) (cell_below hb (Nat.le_refl _) HKs.out)) ⟨Below.refl _ _, rfl⟩
          · intro _ a wx hb hk
            have h5 : a.eval (.tmp 5) = .int .i64 (k : Int) := Eq.mp (by kernel_rfl) (hk 5 (by decide))
            exact Rg.does_move ⟨Below.refl _ _, h5⟩
          · intro _ a wx hb hk
            have h71 : a.eval (.tmp 71) = .slice (some ⟨b, o, none⟩) (fd.2.2.2.2.2.2.2.1).length k7 := Eq.mp (by kernel_rfl) (hk 71 (by decide))
            have h72 : a.eval (.tmp 72) = .int .i64 (k : Int) := Eq.mp (by kernel_rfl) (hk 72 (by decide))
            exact Rg.does_index _ _ _ h71 h72 (HX.out wx) ⟨Below.refl _ _, rfl⟩
          · intro _ a wx hb hk
            have h73 : a.eval (.tmp 73) = .pointer (some ⟨b, o + k * 2, none⟩) := Eq.mp (by kernel_rfl) (hk 73 (by decide))
            exact Rs.does_field _ _ h73 (show (Instr.fieldAt 93 (.pointer (some ⟨b, o + k * 2, none⟩)) 1).run Try.prog wx = .ok (.pointer (some ⟨b, o + k * 2 + 1, none⟩)) wx from rfl) ⟨Below.refl _ _, rfl⟩
          · intro _ a wx hb hk
            have h74 : a.eval (.tmp 74) = .pointer (some ⟨b, o + k * 2 + 1, none⟩) := Eq.mp (by kernel_rfl) (hk 74 (by decide))
            exact Rg.does_load _ _ h74 (Ap.load_plainP (by simp [isAgg]) (cell_below hb (Nat.le_refl _) HF1.out)) ⟨Below.refl _ _, rfl⟩
          · intro _ a wx hb hk
            have h75 : a.eval (.tmp 75) = .string (str (s.2)) := Eq.mp (by kernel_rfl) (hk 75 (by decide))
            refine Rg.does_func #[.string (str (s.2))] Try.func43 (by kernel_rfl) (by kernel_rfl) (by simp [h75]) (ref_txt_calls wx (s.2) HS1.out) ?_
            rintro e w' ⟨rfl, hb'⟩
            exact ⟨_, rfl, hb', rfl⟩
          · intro _ a wx hb hk
            have h69 : a.eval (.tmp 69) = .string (str (txtB s.1)) := Eq.mp (by kernel_rfl) (hk 69 (by decide))
            have h76 : a.eval (.tmp 76) = .string (str (txtB s.2)) := Eq.mp (by kernel_rfl) (hk 76 (by decide))
            exact Sw.does_bin_str (str (txtB s.1)) (str (txtB s.2)) _ h69 h76 (Sw.run_cat (by have h9 := HCat.out; (try simp only [List.length_append]); omega)) ⟨Below.refl _ _, rfl⟩
          · intro _ a wx hb hk
            have h62 : a.eval (.tmp 62) = .string (str (acc)) := Eq.mp (by kernel_rfl) (hk 62 (by decide))
            have h77 : a.eval (.tmp 77) = .string (str (txtB s.1 ++ txtB s.2)) := Eq.mp (by kernel_rfl) (hk 77 (by decide))
            exact Sw.does_bin_str (str (acc)) (str (txtB s.1 ++ txtB s.2)) _ h62 h77 (Sw.run_cat (by have h9 := HCat.out; (try simp only [List.length_append]); omega)) ⟨Below.refl _ _, rfl⟩
          · intro _ a wx hb hk
            have h78 : a.eval (.tmp 78) = .string (str (acc ++ (txtB s.1 ++ txtB s.2))) := Eq.mp (by kernel_rfl) (hk 78 (by decide))
            exact Rg.does_assign ⟨Below.refl _ _, h78⟩
          intro vals wD hbD hL
          obtain ⟨g0, g1, g2, g3, g4, g5, g6, g7, g8, g9, g10, g11, g12, g13, g14, g15, g16, g17, _⟩ := hL
          have g' : vals 17 = .string (str (acc ++ (txtB s.1 ++ txtB s.2))) := g17
          have HBD := Lib.hid hbD
          clear g0 g1 g2 g3 g4 g5 g6 g7 g8 g9 g10 g11 g12 g13 g14 g15 g16 g17 hbD
          simp only [Rg.putAll, List.setIfInBounds_toArray, List.set_cons_succ, List.set_cons_zero, g']
          clear g'
          have HB2 := Lib.hid (HB.out.trans (HBD.out.mono HB.out.size))
          have hk9 : k ≤ 100000000 := by have := HN7.out; omega
          go_wp2_with fail
          go_roundw
          case rel =>
            refine ⟨k + 1, by omega, by go_num, ?_, HB2.out⟩
            refine congrArg (fun l => Value.string (str l)) ?_
            rw [HT2.out, ← HAc.out]
            simp only [List.append_assoc]
          case measure => simp [intOf]; omega
        · obtain rfl : k = (fd.2.2.2.2.2.2.2.1).length := by omega
          rw [List.take_length]
          have u1 : decide (((fd.2.2.2.2.2.2.2.1).length : Int) < ((fd.2.2.2.2.2.2.2.1).length : Int)) = false := decide_eq_false (by omega)
          have u2 : ¬ (((fd.2.2.2.2.2.2.2.1).length : Int) < ((fd.2.2.2.2.2.2.2.1).length : Int)) := by omega
          have u3 : decide ((fd.2.2.2.2.2.2.2.1).length < (fd.2.2.2.2.2.2.2.1).length) = false := decide_eq_false (by omega)
          have HCz : Hid (Cut eb vs rFT wr) := (HB.out.block eb HC.out.lt).trans HC.out
          have HKc := Lib.hid (ref_keep_calls wr us fd.2.2.2.2.2.2.2.2 (keepA_below HB.out HK.out) HQ.out.2.2.2.2.2.2.2.2 (by have := HL.out; omega))
          obtain ⟨dd, hdu, hdr⟩ := Option.map_eq_some_iff.1 und_rK
          have HDu := Lib.hid hdu
          have HDr := Lib.hid hdr
          clear hdu hdr
          have HRg : Hid (wr.rangeAt eb 8 us) := fun j v hv => by rw [HCz.out.cell]; exact HVs.out j v hv
          have hsz : (str (pre2 ++ encs varC fd.2.2.2.2.2.2.2.1)).size + (str (keepC.enc fd.2.2.2.2.2.2.2.2)).size ≤ 100000000 := by rw [str_size, str_size, List.length_append]; exact HL4.out
          go_wp2_with (refine wpList_load_g (by kernel_rfl) rKT (.tmp 80) rfl eb 8 rfl us dd HRg.out HDu.out HDr.out HInf.out ?_)
          refine HKc.out.mono ?_
          rintro r wz ⟨rfl, hbz⟩
          have HBz := Lib.hid (HB.out.trans (hbz.mono HB.out.size))
          clear hbz HKc
          go_wp2_with fail
          go_ret
          refine ⟨congrArg (fun l => Ending.returned (Value.string l)) ?_, HB1.out.trans (HBz.out.mono HB1.out.size)⟩
          rw [str_append]
          refine congrArg str ?_
          rw [← HP2.out, ← HAc.out, ← HP1.out, HF5.out]
          show _ = (intB fd.1.1 ++ (intB fd.1.2.1 ++ (intB fd.1.2.2.1 ++ (intB fd.1.2.2.2.1 ++ intB fd.1.2.2.2.2)))) ++ (bitC.enc fd.2.1 ++ (intB fd.2.2.1 ++ (intB fd.2.2.2.1 ++ (txtB fd.2.2.2.2.1 ++ ((intB (fd.2.2.2.2.2.1.length : Int) ++ encs numC fd.2.2.2.2.2.1) ++ ((rowC txtC).enc fd.2.2.2.2.2.2.1 ++ ((intB (fd.2.2.2.2.2.2.2.1.length : Int) ++ encs varC fd.2.2.2.2.2.2.2.1) ++ keepC.enc fd.2.2.2.2.2.2.2.2)))))))
          simp only [List.append_assoc]
end Go.Proofs.Ytnmlnaoljkhjeaa
