/-
  State: the reference: an environment. Conditions: as each contract says.
-/
import Derived.Test.YtnmlnaoljkhjeaaStRef1
set_option linter.unusedVariables false
set_option maxRecDepth 100000
namespace Go.Proofs.Ytnmlnaoljkhjeaa
open Go.RowKit Base

theorem row_len_le {α : Type} {c : Cd α} (h : Pos c) (l : List α) : l.length ≤ (intB (l.length : Int) ++ encs c l).length := Nat.le_of_succ_le (row_ge h l)
theorem envA_inv {W : World} {vs : List Value} {a : EnvD} (h : envA W vs a) : ∃ (p0 p1 : Option Addr) (k0 k1 : Nat), vs = [.slice p0 a.1.length k0, .slice p1 a.2.1.length k1, .int .i64 a.2.2.1, .string (str a.2.2.2)] ∧ RowE 2 (flatH varV) W p0 k0 a.1 ∧ RowE 1 (flatH txtV) W p1 k1 a.2.1 := by
  obtain ⟨_, _, rfl, _, ⟨p0, k0, rfl, m0, n0, e0⟩, ⟨_, _, rfl, _, ⟨p1, k1, rfl, m1, n1, e1⟩, ⟨_, _, rfl, _, rfl, rfl⟩⟩⟩ := h
  exact ⟨p0, p1, k0, k1, rfl, ⟨m0, n0, e0⟩, ⟨m1, n1, e1⟩⟩
abbrev rET : TypeId := 50
set_option maxHeartbeats 4000000 in
theorem ref_around_calls (W : World) (us : List Value) (e : EnvD) (h : envA W us e) (hq : EnvQ e) (hl : (envC.enc e).length ≤ 100000000) :
    Calls Try.prog 42 #[.agg us.toArray] W fun r w' => r = .returned (.string (str (envC.enc e))) ∧ Below W.heap.size W w' := by
  obtain ⟨p0, p1, k0, k1, rfl, e0, e1⟩ := envA_inv h
  obtain ⟨w1, hw1, hc, hb1⟩ : ∃ w1, W.alloc (.cells #[.slice p0 e.1.length k0, .slice p1 e.2.1.length k1, .int .i64 e.2.2.1, .string (str e.2.2.2)] rET) = w1 ∧ Cut W.heap.size [.slice p0 e.1.length k0, .slice p1 e.2.1.length k1, .int .i64 e.2.2.1, .string (str e.2.2.2)] rET w1 ∧ Below W.heap.size W w1 := ⟨_, rfl, heap_alloc_new W _, (Below.refl W.heap.size W).alloc (Nat.le_refl _) _⟩
  have hl1 : (intB (e.1.length : Int) ++ encs varC e.1 ++ (((rowC txtC).enc e.2.1) ++ (intB e.2.2.1 ++ txtB e.2.2.2))).length ≤ 100000000 := hl
  have HLa := Lib.hid hl1
  simp only [List.length_append] at hl1
  have HL1 : Hid ((intB (e.1.length : Int) ++ encs varC e.1).length ≤ 100000000) := by show _ ≤ _; rw [List.length_append]; omega
  have hn0 : e.1.length ≤ 100000000 := Nat.le_trans (row_len_le (c := varC) (pairC_pos txtC_pos) e.1) HL1.out
  have HN0 := Lib.hid hn0
  have HW := Lib.hid hw1
  have HC := Lib.hid hc
  have HB1 := Lib.hid hb1
  have HE0 := Lib.hid (e0.below (by decide) hb1)
  have HE1 := Lib.hid (e1.below (by decide) hb1)
  have HQ := Lib.hid hq
  have HNc := Lib.hid (ref_n_calls w1 (e.1.length : Int) ⟨by omega, by omega⟩)
  have x0 : w1.cell? ⟨W.heap.size, 0, none⟩ = some (.slice p0 e.1.length k0) := hc.cell 0
  clear h hq hl hl1 hw1 hc hb1 e0 e1
  go_enter Try.func42, Try.ntmps42
  go_upto_region 1 with fail
  rw [HW.out]
  obtain ⟨eb, heb⟩ : ∃ eb, W.heap.size = eb := ⟨_, rfl⟩
  have HEb := Lib.hid heb
  rw [heb] at HC x0 ⊢
  clear heb
  go_wp2_with fail
  refine HNc.out.mono ?_
  rintro r w2 ⟨rfl, hb2⟩
  have HB2 := Lib.hid hb2
  clear hb2 HNc x0
  go_wp2_with fail
  go_loopw [3, 4] (fun va vi wr => ∃ k : Nat, k ≤ (e.1).length ∧ vi = .int .i64 k ∧ va = .string (str (intB (e.1.length : Int) ++ encs varC ((e.1).take k))) ∧ Below w1.heap.size w1 wr) (fun _ vi _ => (e.1).length - (intOf vi).toNat)
  case atStart => exact ⟨0, Nat.zero_le _, rfl, by rw [List.take_zero, show encs varC [] = [] from rfl, List.append_nil], HB2.out⟩
  case round =>
    obtain ⟨k, hk, rfl, rfl, hb⟩ := hrel
    have HB := Lib.hid hb
    clear hb
    have hcs : wr.cell? ⟨eb, 0, none⟩ = some (.slice p0 (e.1).length k0) := (HB.out.cell (p := ⟨eb, 0, none⟩) (HC.out).lt).trans (((HC.out).cell 0).trans rfl)
    by_cases hlt : k < (e.1).length
    · obtain ⟨b, o, hpe, hbl, hcu⟩ := (HE0.out).at (by decide) hlt
      subst hpe
      have HKs := Lib.hid hcs
      have HX := Lib.hid (fun W => row_idx Try.underlying48 2 (by kernel_rfl) b o (e.1).length k0 k hlt W)
      have HF0 : Hid (wr.cell? ⟨b, o + k * 2, none⟩ = some (.string (str (e.1)[k].1))) := (HB.out.cell (p := ⟨b, o + k * 2, none⟩) hbl).trans (hcu 0 (show 0 < 2 by decide))
      have HF1 : Hid (wr.cell? ⟨b, o + k * 2 + 1, none⟩ = some (.string (str (e.1)[k].2))) := (HB.out.cell (p := ⟨b, o + k * 2 + 1, none⟩) hbl).trans (hcu 1 (show 1 < 2 by decide))
      have HT := Lib.hid (encs_take_succ varC hlt)
      have hle := encs_take varC (e.1) (k + 1)
      rw [HT.out, List.length_append] at hle
      have hL := HL1.out
      rw [List.length_append] at hL
      have HEn : Hid ((varC).enc (e.1)[k] = txtB (e.1)[k].1 ++ (txtB (e.1)[k].2)) := rfl
      rw [HEn.out] at hle
      have HQk := Lib.hid (HQ.out.1 _ (List.getElem_mem hlt))
      have HT2 : Hid (encs varC ((e.1).take (k + 1)) = encs varC ((e.1).take k) ++ (txtB (e.1)[k].1 ++ (txtB (e.1)[k].2))) := by show _ = _; rw [HT.out, HEn.out]
      clear hcu hcs
      generalize (e.1)[k] = s at *
      obtain ⟨acc, hacc⟩ : ∃ acc, intB (e.1.length : Int) ++ encs varC ((e.1).take k) = acc := ⟨_, rfl⟩
      have HAc := Lib.hid hacc
      have hal : acc.length = (intB (e.1.length : Int)).length + (encs varC ((e.1).take k)).length := by rw [← hacc, List.length_append]
      rw [hacc]
      simp only [List.length_append] at hle
      have HCat : Hid (acc.length + (txtB s.1).length + (txtB s.2).length ≤ 100000000) := by show _ ≤ _; omega
      have HS0 : Hid (s.1.length ≤ 100000000) := by
        have h1 := HCat.out
        have h2 : s.1.length ≤ (txtB s.1).length := txt_len_in s.1
        show _ ≤ _
        omega
      have HS1 : Hid (s.2.length ≤ 100000000) := by
        have h1 := HCat.out
        have h2 : s.2.length ≤ (txtB s.2).length := txt_len_in s.2
        show _ ≤ _
        omega
      clear hacc hal hle hL
      have u1 : decide ((k : Int) < ((e.1).length : Int)) = true := decide_eq_true (by omega)
      have u2 : (k : Int) < ((e.1).length : Int) := by omega
      have u3 : decide (k < (e.1).length) = true := decide_eq_true hlt
      have hcs := HKs.out
      go_upto_region 5 with fail
      clear u1 u2 u3 hcs
      refine Rg.wp_region_rgl [] [Rg.Is (.string (str (acc))), Rg.Is (.pointer (some ⟨eb, 0, none⟩)), Rg.Is (.slice (some ⟨b, o, none⟩) (e.1).length k0), Rg.Is (.int .i64 (k : Int)), Rg.Is (.pointer (some ⟨b, o + k * 2, none⟩)), Rg.Is (.pointer (some ⟨b, o + k * 2, none⟩)), Rg.Is (.string (str (s.1))), Rg.Is (.string (str (txtB s.1))), Rg.Is (.pointer (some ⟨eb, 0, none⟩)), Rg.Is (.slice (some ⟨b, o, none⟩) (e.1).length k0), Rg.Is (.int .i64 (k : Int)), Rg.Is (.pointer (some ⟨b, o + k * 2, none⟩)), Rg.Is (.pointer (some ⟨b, o + k * 2 + 1, none⟩)), Rg.Is (.string (str (s.2))), Rg.Is (.string (str (txtB s.2))), Rg.Is (.string (str (txtB s.1 ++ txtB s.2))), Rg.Is (.string (str (acc ++ (txtB s.1 ++ txtB s.2)))), Rg.Is (.string (str (acc ++ (txtB s.1 ++ txtB s.2))))] (by kernel_rfl) (by kernel_rfl) (by kernel_rfl) ⟨Rg.st_is _, Rg.st_is _, Rg.st_is _, Rg.st_is _, Rg.st_is _, Rg.st_is _, Rg.st_is _, Rg.st_is _, Rg.st_is _, Rg.st_is _, Rg.st_is _, Rg.st_is _, Rg.st_is _, Rg.st_is _, Rg.st_is _, Rg.st_is _, Rg.st_is _, Rg.st_is _, trivial⟩ ⟨rfl, rfl, rfl, rfl, rfl, rfl, rfl, rfl, rfl, rfl, rfl, rfl, rfl, rfl, rfl, rfl, rfl, rfl, trivial⟩ ⟨?_, ?_, ?_, ?_, ?_, ?_, ?_, ?_, ?_, ?_, ?_, ?_, ?_, ?_, ?_, ?_, ?_, ?_, trivial⟩ ?_
      · intro _ a wx hb hk
        have h3 : a.eval (.tmp 3) = .string (str (acc)) := Eq.mp (by kernel_rfl) (hk 3 (by decide))
        exact Rg.does_move ⟨Below.refl _ _, h3⟩
      · intro _ a wx hb hk
        have h1 : a.eval (.tmp 1) = .pointer (some ⟨eb, 0, none⟩) := Eq.mp (by kernel_rfl) (hk 1 (by decide))
        exact Rs.does_field _ _ h1 (show (Instr.fieldAt 50 (.pointer (some ⟨eb, 0, none⟩)) 0).run Try.prog wx = .ok (.pointer (some ⟨eb, 0, none⟩)) wx from rfl) ⟨Below.refl _ _, rfl⟩
      · intro _ a wx hb hk
        have h17 : a.eval (.tmp 17) = .pointer (some ⟨eb, 0, none⟩) := Eq.mp (by kernel_rfl) (hk 17 (by decide))
        exact Rg.does_load _ _ h17 (Ap.load_plainP (by simp [isAgg]) (cell_below hb (Nat.le_refl _) HKs.out)) ⟨Below.refl _ _, rfl⟩
      · intro _ a wx hb hk
        have h4 : a.eval (.tmp 4) = .int .i64 (k : Int) := Eq.mp (by kernel_rfl) (hk 4 (by decide))
        exact Rg.does_move ⟨Below.refl _ _, h4⟩
      · intro _ a wx hb hk
        have h18 : a.eval (.tmp 18) = .slice (some ⟨b, o, none⟩) (e.1).length k0 := Eq.mp (by kernel_rfl) (hk 18 (by decide))
        have h19 : a.eval (.tmp 19) = .int .i64 (k : Int) := Eq.mp (by kernel_rfl) (hk 19 (by decide))
        exact Rg.does_index _ _ _ h18 h19 (HX.out wx) ⟨Below.refl _ _, rfl⟩
      · intro _ a wx hb hk
        have h20 : a.eval (.tmp 20) = .pointer (some ⟨b, o + k * 2, none⟩) := Eq.mp (by kernel_rfl) (hk 20 (by decide))
        exact Rs.does_field _ _ h20 (show (Instr.fieldAt 133 (.pointer (some ⟨b, o + k * 2, none⟩)) 0).run Try.prog wx = .ok (.pointer (some ⟨b, o + k * 2, none⟩)) wx from rfl) ⟨Below.refl _ _, rfl⟩
      · intro _ a wx hb hk
        have h21 : a.eval (.tmp 21) = .pointer (some ⟨b, o + k * 2, none⟩) := Eq.mp (by kernel_rfl) (hk 21 (by decide))
        exact Rg.does_load _ _ h21 (Ap.load_plainP (by simp [isAgg]) (cell_below hb (Nat.le_refl _) HF0.out)) ⟨Below.refl _ _, rfl⟩
      · intro _ a wx hb hk
        have h22 : a.eval (.tmp 22) = .string (str (s.1)) := Eq.mp (by kernel_rfl) (hk 22 (by decide))
        refine Rg.does_func #[.string (str (s.1))] Try.func43 (by kernel_rfl) (by kernel_rfl) (by simp [h22]) (ref_txt_calls wx (s.1) HS0.out) ?_
        rintro e w' ⟨rfl, hb'⟩
        exact ⟨_, rfl, hb', rfl⟩
      · intro _ a wx hb hk
        have h1 : a.eval (.tmp 1) = .pointer (some ⟨eb, 0, none⟩) := Eq.mp (by kernel_rfl) (hk 1 (by decide))
        exact Rs.does_field _ _ h1 (show (Instr.fieldAt 50 (.pointer (some ⟨eb, 0, none⟩)) 0).run Try.prog wx = .ok (.pointer (some ⟨eb, 0, none⟩)) wx from rfl) ⟨Below.refl _ _, rfl⟩
      · intro _ a wx hb hk
        have h24 : a.eval (.tmp 24) = .pointer (some ⟨eb, 0, none⟩) := Eq.mp (by kernel_rfl) (hk 24 (by decide))
        exact Rg.does_load _ _ h24 (Ap.load_plainP (by simp [isAgg]) (cell_below hb (Nat.le_refl _) HKs.out)) ⟨Below.refl _ _, rfl⟩
      · intro _ a wx hb hk
        have h4 : a.eval (.tmp 4) = .int .i64 (k : Int) := Eq.mp (by kernel_rfl) (hk 4 (by decide))
        exact Rg.does_move ⟨Below.refl _ _, h4⟩
      · intro _ a wx hb hk
        have h25 : a.eval (.tmp 25) = .slice (some ⟨b, o, none⟩) (e.1).length k0 := Eq.mp (by kernel_rfl) (hk 25 (by decide))
        have h26 : a.eval (.tmp 26) = .int .i64 (k : Int) := Eq.mp (by kernel_rfl) (hk 26 (by decide))
        exact Rg.does_index _ _ _ h25 h26 (HX.out wx) ⟨Below.refl _ _, rfl⟩
      · intro _ a wx hb hk
        have h27 : a.eval (.tmp 27) = .pointer (some ⟨b, o + k * 2, none⟩) := Eq.mp (by kernel_rfl) (hk 27 (by decide))
        exact Rs.does_field _ _ h27 (show (Instr.fieldAt 133 (.pointer (some ⟨b, o + k * 2, none⟩)) 1).run Try.prog wx = .ok (.pointer (some ⟨b, o + k * 2 + 1, none⟩)) wx from rfl) ⟨Below.refl _ _, rfl⟩
      · intro _ a wx hb hk
        have h28 : a.eval (.tmp 28) = .pointer (some ⟨b, o + k * 2 + 1, none⟩) := Eq.mp (by kernel_rfl) (hk 28 (by decide))
        exact Rg.does_load _ _ h28 (Ap.load_plainP (by simp [isAgg]) (cell_below hb (Nat.le_refl _) HF1.out)) ⟨Below.refl _ _, rfl⟩
      · intro _ a wx hb hk
        have h29 : a.eval (.tmp 29) = .string (str (s.2)) := Eq.mp (by kernel_rfl) (hk 29 (by decide))
        refine Rg.does_func #[.string (str (s.2))] Try.func43 (by kernel_rfl) (by kernel_rfl) (by simp [h29]) (ref_txt_calls wx (s.2) HS1.out) ?_
        rintro e w' ⟨rfl, hb'⟩
        exact ⟨_, rfl, hb', rfl⟩
      · intro _ a wx hb hk
        have h23 : a.eval (.tmp 23) = .string (str (txtB s.1)) := Eq.mp (by kernel_rfl) (hk 23 (by decide))
        have h30 : a.eval (.tmp 30) = .string (str (txtB s.2)) := Eq.mp (by kernel_rfl) (hk 30 (by decide))
        exact Sw.does_bin_str (str (txtB s.1)) (str (txtB s.2)) _ h23 h30 (Sw.run_cat (by have h9 := HCat.out; (try simp only [List.length_append]); omega)) ⟨Below.refl _ _, rfl⟩
      · intro _ a wx hb hk
        have h16 : a.eval (.tmp 16) = .string (str (acc)) := Eq.mp (by kernel_rfl) (hk 16 (by decide))
        have h31 : a.eval (.tmp 31) = .string (str (txtB s.1 ++ txtB s.2)) := Eq.mp (by kernel_rfl) (hk 31 (by decide))
        exact Sw.does_bin_str (str (acc)) (str (txtB s.1 ++ txtB s.2)) _ h16 h31 (Sw.run_cat (by have h9 := HCat.out; (try simp only [List.length_append]); omega)) ⟨Below.refl _ _, rfl⟩
      · intro _ a wx hb hk
        have h32 : a.eval (.tmp 32) = .string (str (acc ++ (txtB s.1 ++ txtB s.2))) := Eq.mp (by kernel_rfl) (hk 32 (by decide))
        exact Rg.does_assign ⟨Below.refl _ _, h32⟩
      intro vals wD hbD hL
      obtain ⟨g0, g1, g2, g3, g4, g5, g6, g7, g8, g9, g10, g11, g12, g13, g14, g15, g16, g17, _⟩ := hL
      have g' : vals 17 = .string (str (acc ++ (txtB s.1 ++ txtB s.2))) := g17
      have HBD := Lib.hid hbD
      clear g0 g1 g2 g3 g4 g5 g6 g7 g8 g9 g10 g11 g12 g13 g14 g15 g16 g17 hbD
      simp only [Rg.putAll, List.setIfInBounds_toArray, List.set_cons_succ, List.set_cons_zero, g']
      clear g'
      have HB2 := Lib.hid (HB.out.trans (HBD.out.mono HB.out.size))
      have hk9 : k ≤ 100000000 := by have := HN0.out; omega
      go_wp2_with fail
      go_roundw
      case rel =>
        refine ⟨k + 1, by omega, by go_num, ?_, HB2.out⟩
        refine congrArg (fun l => Value.string (str l)) ?_
        rw [HT2.out, ← HAc.out]
        simp only [List.append_assoc]
      case measure => simp [intOf]; omega
    · obtain rfl : k = (e.1).length := by omega
      rw [List.take_length]
      have u1 : decide (((e.1).length : Int) < ((e.1).length : Int)) = false := decide_eq_false (by omega)
      have u2 : ¬ (((e.1).length : Int) < ((e.1).length : Int)) := by omega
      have u3 : decide ((e.1).length < (e.1).length) = false := decide_eq_false (by omega)
      have HCl : Hid (Cut eb [.slice p0 e.1.length k0, .slice p1 e.2.1.length k1, .int .i64 e.2.2.1, .string (str e.2.2.2)] rET wr) := (HB.out.block eb HC.out.lt).trans HC.out
      have HEr := Lib.hid (HE1.out.below (by decide) HB.out)
      obtain ⟨acc, hacc⟩ : ∃ acc, intB (e.1.length : Int) ++ encs varC e.1 = acc := ⟨_, rfl⟩
      have HAc := Lib.hid hacc
      have hlt := HLa.out
      rw [hacc] at hlt ⊢
      simp only [List.length_append] at hlt
      have HCat : Hid (acc.length + ((rowC txtC).enc e.2.1).length + (intB e.2.2.1).length + (txtB e.2.2.2).length ≤ 100000000) := by show _ ≤ _; omega
      have HS0 : Hid (e.2.2.2.length ≤ 100000000) := by have h2 : e.2.2.2.length ≤ (txtB e.2.2.2).length := txt_len_in e.2.2.2; show _ ≤ _; omega
      have HR0 : Hid (((rowC txtC).enc e.2.1).length ≤ 100000000) := by show _ ≤ _; omega
      clear hacc hlt
      go_upto_region 6 with fail
      clear u1 u2 u3 hcs
      refine Rg.wp_region_rgl [] [Rg.Is (.string (str (acc))), Rg.Is (.pointer (some ⟨eb, 1, none⟩)), Rg.Is (.slice p1 e.2.1.length k1), Rg.Is (.string (str ((rowC txtC).enc e.2.1))), Rg.Is (.string (str (acc ++ (rowC txtC).enc e.2.1))), Rg.Is (.pointer (some ⟨eb, 2, none⟩)), Rg.Is (.int .i64 e.2.2.1), Rg.Is (.string (str (intB e.2.2.1))), Rg.Is (.string (str ((acc ++ (rowC txtC).enc e.2.1) ++ intB e.2.2.1))), Rg.Is (.pointer (some ⟨eb, 3, none⟩)), Rg.Is (.string (str (e.2.2.2))), Rg.Is (.string (str (txtB e.2.2.2))), Rg.Is (.string (str (((acc ++ (rowC txtC).enc e.2.1) ++ intB e.2.2.1) ++ txtB e.2.2.2))), Rg.Is (.string (str (((acc ++ (rowC txtC).enc e.2.1) ++ intB e.2.2.1) ++ txtB e.2.2.2)))] (by kernel_rfl) (by kernel_rfl) (by kernel_rfl) ⟨Rg.st_is _, Rg.st_is _, Rg.st_is _, Rg.st_is _, Rg.st_is _, Rg.st_is _, Rg.st_is _, Rg.st_is _, Rg.st_is _, Rg.st_is _, Rg.st_is _, Rg.st_is _, Rg.st_is _, Rg.st_is _, trivial⟩ ⟨rfl, rfl, rfl, rfl, rfl, rfl, rfl, rfl, rfl, rfl, rfl, rfl, rfl, rfl, trivial⟩ ⟨?_, ?_, ?_, ?_, ?_, ?_, ?_, ?_, ?_, ?_, ?_, ?_, ?_, ?_, trivial⟩ ?_
      · intro _ a wx hb hk
        have h3 : a.eval (.tmp 3) = .string (str (acc)) := Eq.mp (by kernel_rfl) (hk 3 (by decide))
        exact Rg.does_move ⟨Below.refl _ _, h3⟩
      · intro _ a wx hb hk
        have h1 : a.eval (.tmp 1) = .pointer (some ⟨eb, 0, none⟩) := Eq.mp (by kernel_rfl) (hk 1 (by decide))
        exact Rs.does_field _ _ h1 (show (Instr.fieldAt 50 (.pointer (some ⟨eb, 0, none⟩)) 1).run Try.prog wx = .ok (.pointer (some ⟨eb, 1, none⟩)) wx from rfl) ⟨Below.refl _ _, rfl⟩
      · intro _ a wx hb hk
        have h34 : a.eval (.tmp 34) = .pointer (some ⟨eb, 1, none⟩) := Eq.mp (by kernel_rfl) (hk 34 (by decide))
        exact Rg.does_load _ _ h34 (Ap.load_plainP (by simp [isAgg]) (cell_below hb (Nat.le_refl _) (HCl.out.cell 1))) ⟨Below.refl _ _, rfl⟩
      · intro _ a wx hb hk
        have h35 : a.eval (.tmp 35) = .slice p1 e.2.1.length k1 := Eq.mp (by kernel_rfl) (hk 35 (by decide))
        refine Rg.does_func #[.slice p1 e.2.1.length k1] Try.func20 (by kernel_rfl) (by kernel_rfl) (by simp [h35]) (ref_row18_calls wx p1 k1 e.2.1 (HEr.out.below (by decide) hb) HR0.out) ?_
        rintro e w' ⟨rfl, hb'⟩
        exact ⟨_, rfl, hb', rfl⟩
      · intro _ a wx hb hk
        have h33 : a.eval (.tmp 33) = .string (str (acc)) := Eq.mp (by kernel_rfl) (hk 33 (by decide))
        have h36 : a.eval (.tmp 36) = .string (str ((rowC txtC).enc e.2.1)) := Eq.mp (by kernel_rfl) (hk 36 (by decide))
        exact Sw.does_bin_str (str (acc)) (str ((rowC txtC).enc e.2.1)) _ h33 h36 (Sw.run_cat (by have h9 := HCat.out; (try simp only [List.length_append]); omega)) ⟨Below.refl _ _, rfl⟩
      · intro _ a wx hb hk
        have h1 : a.eval (.tmp 1) = .pointer (some ⟨eb, 0, none⟩) := Eq.mp (by kernel_rfl) (hk 1 (by decide))
        exact Rs.does_field _ _ h1 (show (Instr.fieldAt 50 (.pointer (some ⟨eb, 0, none⟩)) 2).run Try.prog wx = .ok (.pointer (some ⟨eb, 2, none⟩)) wx from rfl) ⟨Below.refl _ _, rfl⟩
      · intro _ a wx hb hk
        have h38 : a.eval (.tmp 38) = .pointer (some ⟨eb, 2, none⟩) := Eq.mp (by kernel_rfl) (hk 38 (by decide))
        exact Rg.does_load _ _ h38 (Ap.load_plainP (by simp [isAgg]) (cell_below hb (Nat.le_refl _) (HCl.out.cell 2))) ⟨Below.refl _ _, rfl⟩
      · intro _ a wx hb hk
        have h39 : a.eval (.tmp 39) = .int .i64 e.2.2.1 := Eq.mp (by kernel_rfl) (hk 39 (by decide))
        refine Rg.does_func #[.int .i64 e.2.2.1] Try.func21 (by kernel_rfl) (by kernel_rfl) (by simp [h39]) (ref_n_calls wx e.2.2.1 HQ.out.2.2.1) ?_
        rintro e w' ⟨rfl, hb'⟩
        exact ⟨_, rfl, hb', rfl⟩
      · intro _ a wx hb hk
        have h37 : a.eval (.tmp 37) = .string (str (acc ++ (rowC txtC).enc e.2.1)) := Eq.mp (by kernel_rfl) (hk 37 (by decide))
        have h40 : a.eval (.tmp 40) = .string (str (intB e.2.2.1)) := Eq.mp (by kernel_rfl) (hk 40 (by decide))
        exact Sw.does_bin_str (str (acc ++ (rowC txtC).enc e.2.1)) (str (intB e.2.2.1)) _ h37 h40 (Sw.run_cat (by have h9 := HCat.out; (try simp only [List.length_append]); omega)) ⟨Below.refl _ _, rfl⟩
      · intro _ a wx hb hk
        have h1 : a.eval (.tmp 1) = .pointer (some ⟨eb, 0, none⟩) := Eq.mp (by kernel_rfl) (hk 1 (by decide))
        exact Rs.does_field _ _ h1 (show (Instr.fieldAt 50 (.pointer (some ⟨eb, 0, none⟩)) 3).run Try.prog wx = .ok (.pointer (some ⟨eb, 3, none⟩)) wx from rfl) ⟨Below.refl _ _, rfl⟩
      · intro _ a wx hb hk
        have h42 : a.eval (.tmp 42) = .pointer (some ⟨eb, 3, none⟩) := Eq.mp (by kernel_rfl) (hk 42 (by decide))
        exact Rg.does_load _ _ h42 (Ap.load_plainP (by simp [isAgg]) (cell_below hb (Nat.le_refl _) (HCl.out.cell 3))) ⟨Below.refl _ _, rfl⟩
      · intro _ a wx hb hk
        have h43 : a.eval (.tmp 43) = .string (str (e.2.2.2)) := Eq.mp (by kernel_rfl) (hk 43 (by decide))
        refine Rg.does_func #[.string (str (e.2.2.2))] Try.func43 (by kernel_rfl) (by kernel_rfl) (by simp [h43]) (ref_txt_calls wx e.2.2.2 HS0.out) ?_
        rintro e w' ⟨rfl, hb'⟩
        exact ⟨_, rfl, hb', rfl⟩
      · intro _ a wx hb hk
        have h41 : a.eval (.tmp 41) = .string (str ((acc ++ (rowC txtC).enc e.2.1) ++ intB e.2.2.1)) := Eq.mp (by kernel_rfl) (hk 41 (by decide))
        have h44 : a.eval (.tmp 44) = .string (str (txtB e.2.2.2)) := Eq.mp (by kernel_rfl) (hk 44 (by decide))
        exact Sw.does_bin_str (str ((acc ++ (rowC txtC).enc e.2.1) ++ intB e.2.2.1)) (str (txtB e.2.2.2)) _ h41 h44 (Sw.run_cat (by have h9 := HCat.out; (try simp only [List.length_append]); omega)) ⟨Below.refl _ _, rfl⟩
      · intro _ a wx hb hk
        have h45 : a.eval (.tmp 45) = .string (str (((acc ++ (rowC txtC).enc e.2.1) ++ intB e.2.2.1) ++ txtB e.2.2.2)) := Eq.mp (by kernel_rfl) (hk 45 (by decide))
        exact Rg.does_assign ⟨Below.refl _ _, h45⟩
      intro vals wD hbD hL
      obtain ⟨g0, g1, g2, g3, g4, g5, g6, g7, g8, g9, g10, g11, g12, g13, _⟩ := hL
      have g' : vals 13 = .string (str (((acc ++ (rowC txtC).enc e.2.1) ++ intB e.2.2.1) ++ txtB e.2.2.2)) := g13
      have HBD := Lib.hid hbD
      clear g0 g1 g2 g3 g4 g5 g6 g7 g8 g9 g10 g11 g12 g13 hbD
      simp only [Rg.putAll, List.setIfInBounds_toArray, List.set_cons_succ, List.set_cons_zero, g']
      clear g'
      go_wp2_with fail
      go_ret
      refine ⟨congrArg (fun l => Ending.returned (Value.string (str l))) ?_, HB1.out.trans ((HB.out.trans (HBD.out.mono HB.out.size)).mono HB1.out.size)⟩
      rw [← HAc.out]
      show _ = (intB (e.1.length : Int) ++ encs varC e.1) ++ ((rowC txtC).enc e.2.1 ++ (intB e.2.2.1 ++ txtB e.2.2.2))
      simp only [List.append_assoc]
end Go.Proofs.Ytnmlnaoljkhjeaa
