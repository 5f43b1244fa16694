/-
  State: the reference: a request, an answer. Conditions: as each contract says.
-/
import Derived.Test.YtnmlnaoljkhjeaaStRef2
set_option linter.unusedVariables false
set_option maxRecDepth 100000
namespace Go.Proofs.Ytnmlnaoljkhjeaa
open Go.RowKit Base

theorem reqA_inv {W : World} {vs : List Value} {a : ReqD} (h : reqA W vs a) : ∃ (p : Option Addr) (k : Nat), vs = [.int .i64 a.1, .int .i64 a.2.1, .int .i64 a.2.2.1, .string (str a.2.2.2.1), .slice p a.2.2.2.2.length k] ∧ RowE 1 (flatH txtV) W p k a.2.2.2.2 := by
  obtain ⟨_, _, rfl, _, rfl, ⟨_, _, rfl, _, rfl, ⟨_, _, rfl, _, rfl, ⟨_, _, rfl, _, rfl, ⟨p, k, rfl, m, n, e⟩⟩⟩⟩⟩ := h
  exact ⟨p, k, rfl, m, n, e⟩
theorem ansA_inv {W : World} {vs : List Value} {a : AnsD} (h : ansA W vs a) : ∃ (p : Option Addr) (k : Nat), vs = [.int .i64 a.1.1, .int .i64 a.1.2, .int .i64 a.2.1, .int .i64 a.2.2.1, .string (str a.2.2.2.1), .slice p a.2.2.2.2.1.length k, .int .i64 a.2.2.2.2.2] ∧ RowE 1 (flatH txtV) W p k a.2.2.2.2.1 := by
  obtain ⟨_, _, rfl, _, rfl, ⟨_, _, rfl, _, rfl, ⟨_, _, rfl, _, rfl, ⟨_, _, rfl, _, rfl, ⟨_, _, rfl, _, ⟨p, k, rfl, m, n, e⟩, rfl⟩⟩⟩⟩⟩ := h
  exact ⟨p, k, rfl, m, n, e⟩
set_option maxHeartbeats 4000000 in
theorem ref_request_calls (W : World) (us : List Value) (a : ReqD) (h : reqA W us a) (hq : ReqQ a) (hl : (reqC.enc a).length ≤ 100000000) :
    Calls Try.prog 23 #[.agg us.toArray] W fun r w' => r = .returned (.string (str (reqC.enc a))) ∧ Below W.heap.size W w' := by
  obtain ⟨p, kc, rfl, e0⟩ := reqA_inv h
  obtain ⟨w1, hw1, hc, hb1⟩ : ∃ w1, W.alloc (.cells #[.int .i64 a.1, .int .i64 a.2.1, .int .i64 a.2.2.1, .string (str (a.2.2.2.1)), .slice p a.2.2.2.2.length kc] 34) = w1 ∧ Cut W.heap.size [.int .i64 a.1, .int .i64 a.2.1, .int .i64 a.2.2.1, .string (str (a.2.2.2.1)), .slice p a.2.2.2.2.length kc] 34 w1 ∧ Below W.heap.size W w1 := ⟨_, rfl, heap_alloc_new W _, (Below.refl W.heap.size W).alloc (Nat.le_refl _) _⟩
  have hl1 : (intB a.1 ++ (intB a.2.1 ++ (intB a.2.2.1 ++ (txtB a.2.2.2.1 ++ ((rowC txtC).enc a.2.2.2.2))))).length ≤ 100000000 := hl
  simp only [List.length_append] at hl1
  have HCat : Hid ((intB a.1).length + (intB a.2.1).length + (intB a.2.2.1).length + (txtB a.2.2.2.1).length + ((rowC txtC).enc a.2.2.2.2).length ≤ 100000000) := by show _ ≤ _; omega
  have HW := Lib.hid hw1
  have HC := Lib.hid hc
  have HB1 := Lib.hid hb1
  have HE := Lib.hid (e0.below (by decide) hb1)
  have HQ := Lib.hid hq
  clear h hq hl hl1 hw1 hc hb1 e0
  go_enter Try.func23, Try.ntmps23
  go_upto_region 1 with fail
  rw [HW.out]
  obtain ⟨eb, heb⟩ : ∃ eb, W.heap.size = eb := ⟨_, rfl⟩
  rw [heb] at HC ⊢
  clear heb
  refine Rg.wp_region_rgl [] [Rg.Is (.pointer (some ⟨eb, 0, none⟩)), Rg.Is (.int .i64 a.1), Rg.Is (.string (str (intB a.1))), Rg.Is (.pointer (some ⟨eb, 1, none⟩)), Rg.Is (.int .i64 a.2.1), Rg.Is (.string (str (intB a.2.1))), Rg.Is (.string (str (intB a.1 ++ intB a.2.1))), Rg.Is (.pointer (some ⟨eb, 2, none⟩)), Rg.Is (.int .i64 a.2.2.1), Rg.Is (.string (str (intB a.2.2.1))), Rg.Is (.string (str ((intB a.1 ++ intB a.2.1) ++ intB a.2.2.1))), Rg.Is (.pointer (some ⟨eb, 3, none⟩)), Rg.Is (.string (str (a.2.2.2.1))), Rg.Is (.string (str (txtB a.2.2.2.1))), Rg.Is (.string (str (((intB a.1 ++ intB a.2.1) ++ intB a.2.2.1) ++ txtB a.2.2.2.1))), Rg.Is (.pointer (some ⟨eb, 4, none⟩)), Rg.Is (.slice p a.2.2.2.2.length kc), Rg.Is (.string (str ((rowC txtC).enc a.2.2.2.2))), Rg.Is (.string (str ((((intB a.1 ++ intB a.2.1) ++ intB a.2.2.1) ++ txtB a.2.2.2.1) ++ (rowC txtC).enc a.2.2.2.2))), Rg.Is (.string (str ((((intB a.1 ++ intB a.2.1) ++ intB a.2.2.1) ++ txtB a.2.2.2.1) ++ (rowC txtC).enc a.2.2.2.2)))] (by kernel_rfl) (by kernel_rfl) (by kernel_rfl) ⟨Rg.st_is _, Rg.st_is _, Rg.st_is _, Rg.st_is _, Rg.st_is _, Rg.st_is _, Rg.st_is _, Rg.st_is _, Rg.st_is _, Rg.st_is _, Rg.st_is _, Rg.st_is _, Rg.st_is _, Rg.st_is _, Rg.st_is _, Rg.st_is _, Rg.st_is _, Rg.st_is _, Rg.st_is _, Rg.st_is _, trivial⟩ ⟨rfl, rfl, rfl, rfl, rfl, rfl, rfl, rfl, rfl, rfl, rfl, rfl, rfl, rfl, rfl, rfl, rfl, rfl, rfl, rfl, trivial⟩ ⟨?_, ?_, ?_, ?_, ?_, ?_, ?_, ?_, ?_, ?_, ?_, ?_, ?_, ?_, ?_, ?_, ?_, ?_, ?_, ?_, trivial⟩ ?_
  · intro _ aa wx hb hk
    have h1 : aa.eval (.tmp 1) = .pointer (some ⟨eb, 0, none⟩) := Eq.mp (by kernel_rfl) (hk 1 (by decide))
    exact Rs.does_field _ _ h1 (show (Instr.fieldAt 34 (.pointer (some ⟨eb, 0, none⟩)) 0).run Try.prog wx = .ok (.pointer (some ⟨eb, 0, none⟩)) wx from rfl) ⟨Below.refl _ _, rfl⟩
  · intro _ aa wx hb hk
    have h3 : aa.eval (.tmp 3) = .pointer (some ⟨eb, 0, none⟩) := Eq.mp (by kernel_rfl) (hk 3 (by decide))
    exact Rg.does_load _ _ h3 (Ap.load_plainP (by simp [isAgg]) (cell_below hb (Nat.le_refl _) (HC.out.cell 0))) ⟨Below.refl _ _, rfl⟩
  · intro _ aa wx hb hk
    have h4 : aa.eval (.tmp 4) = .int .i64 a.1 := Eq.mp (by kernel_rfl) (hk 4 (by decide))
    refine Rg.does_func #[.int .i64 a.1] Try.func21 (by kernel_rfl) (by kernel_rfl) (by simp [h4]) (ref_n_calls wx a.1 HQ.out.1) ?_
    rintro e w' ⟨rfl, hb'⟩
    exact ⟨_, rfl, hb', rfl⟩
  · intro _ aa wx hb hk
    have h1 : aa.eval (.tmp 1) = .pointer (some ⟨eb, 0, none⟩) := Eq.mp (by kernel_rfl) (hk 1 (by decide))
    exact Rs.does_field _ _ h1 (show (Instr.fieldAt 34 (.pointer (some ⟨eb, 0, none⟩)) 1).run Try.prog wx = .ok (.pointer (some ⟨eb, 1, none⟩)) wx from rfl) ⟨Below.refl _ _, rfl⟩
  · intro _ aa wx hb hk
    have h6 : aa.eval (.tmp 6) = .pointer (some ⟨eb, 1, none⟩) := Eq.mp (by kernel_rfl) (hk 6 (by decide))
    exact Rg.does_load _ _ h6 (Ap.load_plainP (by simp [isAgg]) (cell_below hb (Nat.le_refl _) (HC.out.cell 1))) ⟨Below.refl _ _, rfl⟩
  · intro _ aa wx hb hk
    have h7 : aa.eval (.tmp 7) = .int .i64 a.2.1 := Eq.mp (by kernel_rfl) (hk 7 (by decide))
    refine Rg.does_func #[.int .i64 a.2.1] Try.func21 (by kernel_rfl) (by kernel_rfl) (by simp [h7]) (ref_n_calls wx a.2.1 HQ.out.2.1) ?_
    rintro e w' ⟨rfl, hb'⟩
    exact ⟨_, rfl, hb', rfl⟩
  · intro _ aa wx hb hk
    have h5 : aa.eval (.tmp 5) = .string (str (intB a.1)) := Eq.mp (by kernel_rfl) (hk 5 (by decide))
    have h8 : aa.eval (.tmp 8) = .string (str (intB a.2.1)) := Eq.mp (by kernel_rfl) (hk 8 (by decide))
    exact Sw.does_bin_str (str (intB a.1)) (str (intB a.2.1)) _ h5 h8 (Sw.run_cat (by have h9 := HCat.out; (try simp only [List.length_append]); omega)) ⟨Below.refl _ _, rfl⟩
  · intro _ aa wx hb hk
    have h1 : aa.eval (.tmp 1) = .pointer (some ⟨eb, 0, none⟩) := Eq.mp (by kernel_rfl) (hk 1 (by decide))
    exact Rs.does_field _ _ h1 (show (Instr.fieldAt 34 (.pointer (some ⟨eb, 0, none⟩)) 2).run Try.prog wx = .ok (.pointer (some ⟨eb, 2, none⟩)) wx from rfl) ⟨Below.refl _ _, rfl⟩
  · intro _ aa wx hb hk
    have h10 : aa.eval (.tmp 10) = .pointer (some ⟨eb, 2, none⟩) := Eq.mp (by kernel_rfl) (hk 10 (by decide))
    exact Rg.does_load _ _ h10 (Ap.load_plainP (by simp [isAgg]) (cell_below hb (Nat.le_refl _) (HC.out.cell 2))) ⟨Below.refl _ _, rfl⟩
  · intro _ aa wx hb hk
    have h11 : aa.eval (.tmp 11) = .int .i64 a.2.2.1 := Eq.mp (by kernel_rfl) (hk 11 (by decide))
    refine Rg.does_func #[.int .i64 a.2.2.1] Try.func21 (by kernel_rfl) (by kernel_rfl) (by simp [h11]) (ref_n_calls wx a.2.2.1 HQ.out.2.2.1) ?_
    rintro e w' ⟨rfl, hb'⟩
    exact ⟨_, rfl, hb', rfl⟩
  · intro _ aa wx hb hk
    have h9 : aa.eval (.tmp 9) = .string (str (intB a.1 ++ intB a.2.1)) := Eq.mp (by kernel_rfl) (hk 9 (by decide))
    have h12 : aa.eval (.tmp 12) = .string (str (intB a.2.2.1)) := Eq.mp (by kernel_rfl) (hk 12 (by decide))
    exact Sw.does_bin_str (str (intB a.1 ++ intB a.2.1)) (str (intB a.2.2.1)) _ h9 h12 (Sw.run_cat (by have h9 := HCat.out; (try simp only [List.length_append]); omega)) ⟨Below.refl _ _, rfl⟩
  · intro _ aa wx hb hk
    have h1 : aa.eval (.tmp 1) = .pointer (some ⟨eb, 0, none⟩) := Eq.mp (by kernel_rfl) (hk 1 (by decide))
    exact Rs.does_field _ _ h1 (show (Instr.fieldAt 34 (.pointer (some ⟨eb, 0, none⟩)) 3).run Try.prog wx = .ok (.pointer (some ⟨eb, 3, none⟩)) wx from rfl) ⟨Below.refl _ _, rfl⟩
  · intro _ aa wx hb hk
    have h14 : aa.eval (.tmp 14) = .pointer (some ⟨eb, 3, none⟩) := Eq.mp (by kernel_rfl) (hk 14 (by decide))
    exact Rg.does_load _ _ h14 (Ap.load_plainP (by simp [isAgg]) (cell_below hb (Nat.le_refl _) (HC.out.cell 3))) ⟨Below.refl _ _, rfl⟩
  · intro _ aa wx hb hk
    have h15 : aa.eval (.tmp 15) = .string (str (a.2.2.2.1)) := Eq.mp (by kernel_rfl) (hk 15 (by decide))
    refine Rg.does_func #[.string (str (a.2.2.2.1))] Try.func43 (by kernel_rfl) (by kernel_rfl) (by simp [h15]) (ref_txt_calls wx a.2.2.2.1 (by have h9 := HCat.out; have h2 : a.2.2.2.1.length ≤ (txtB a.2.2.2.1).length := txt_len_in a.2.2.2.1; omega)) ?_
    rintro e w' ⟨rfl, hb'⟩
    exact ⟨_, rfl, hb', rfl⟩
  · intro _ aa wx hb hk
    have h13 : aa.eval (.tmp 13) = .string (str ((intB a.1 ++ intB a.2.1) ++ intB a.2.2.1)) := Eq.mp (by kernel_rfl) (hk 13 (by decide))
    have h16 : aa.eval (.tmp 16) = .string (str (txtB a.2.2.2.1)) := Eq.mp (by kernel_rfl) (hk 16 (by decide))
    exact Sw.does_bin_str (str ((intB a.1 ++ intB a.2.1) ++ intB a.2.2.1)) (str (txtB a.2.2.2.1)) _ h13 h16 (Sw.run_cat (by have h9 := HCat.out; (try simp only [List.length_append]); omega)) ⟨Below.refl _ _, rfl⟩
  · intro _ aa wx hb hk
    have h1 : aa.eval (.tmp 1) = .pointer (some ⟨eb, 0, none⟩) := Eq.mp (by kernel_rfl) (hk 1 (by decide))
    exact Rs.does_field _ _ h1 (show (Instr.fieldAt 34 (.pointer (some ⟨eb, 0, none⟩)) 4).run Try.prog wx = .ok (.pointer (some ⟨eb, 4, none⟩)) wx from rfl) ⟨Below.refl _ _, rfl⟩
  · intro _ aa wx hb hk
    have h18 : aa.eval (.tmp 18) = .pointer (some ⟨eb, 4, none⟩) := Eq.mp (by kernel_rfl) (hk 18 (by decide))
    exact Rg.does_load _ _ h18 (Ap.load_plainP (by simp [isAgg]) (cell_below hb (Nat.le_refl _) (HC.out.cell 4))) ⟨Below.refl _ _, rfl⟩
  · intro _ aa wx hb hk
    have h19 : aa.eval (.tmp 19) = .slice p a.2.2.2.2.length kc := Eq.mp (by kernel_rfl) (hk 19 (by decide))
    refine Rg.does_func #[.slice p a.2.2.2.2.length kc] Try.func20 (by kernel_rfl) (by kernel_rfl) (by simp [h19]) (ref_row18_calls wx p kc a.2.2.2.2 (HE.out.below (by decide) hb) (by have h9 := HCat.out; omega)) ?_
    rintro e w' ⟨rfl, hb'⟩
    exact ⟨_, rfl, hb', rfl⟩
  · intro _ aa wx hb hk
    have h17 : aa.eval (.tmp 17) = .string (str (((intB a.1 ++ intB a.2.1) ++ intB a.2.2.1) ++ txtB a.2.2.2.1)) := Eq.mp (by kernel_rfl) (hk 17 (by decide))
    have h20 : aa.eval (.tmp 20) = .string (str ((rowC txtC).enc a.2.2.2.2)) := Eq.mp (by kernel_rfl) (hk 20 (by decide))
    exact Sw.does_bin_str (str (((intB a.1 ++ intB a.2.1) ++ intB a.2.2.1) ++ txtB a.2.2.2.1)) (str ((rowC txtC).enc a.2.2.2.2)) _ h17 h20 (Sw.run_cat (by have h9 := HCat.out; (try simp only [List.length_append]); omega)) ⟨Below.refl _ _, rfl⟩
  · intro _ aa wx hb hk
    have h21 : aa.eval (.tmp 21) = .string (str ((((intB a.1 ++ intB a.2.1) ++ intB a.2.2.1) ++ txtB a.2.2.2.1) ++ (rowC txtC).enc a.2.2.2.2)) := Eq.mp (by kernel_rfl) (hk 21 (by decide))
    exact Rg.does_assign ⟨Below.refl _ _, h21⟩
  intro vals wD hbD hL
  obtain ⟨g0, g1, g2, g3, g4, g5, g6, g7, g8, g9, g10, g11, g12, g13, g14, g15, g16, g17, g18, g19, _⟩ := hL
  have g' : vals 19 = .string (str ((((intB a.1 ++ intB a.2.1) ++ intB a.2.2.1) ++ txtB a.2.2.2.1) ++ (rowC txtC).enc a.2.2.2.2)) := g19
  have HBD := Lib.hid hbD
  clear g0 g1 g2 g3 g4 g5 g6 g7 g8 g9 g10 g11 g12 g13 g14 g15 g16 g17 g18 g19 hbD
  simp only [Rg.putAll, List.setIfInBounds_toArray, List.set_cons_succ, List.set_cons_zero, g']
  clear g'
  go_wp2_with fail
  go_ret
  refine ⟨congrArg (fun l => Ending.returned (Value.string (str l))) ?_, HB1.out.trans (HBD.out.mono HB1.out.size)⟩
  show _ = intB a.1 ++ (intB a.2.1 ++ (intB a.2.2.1 ++ (txtB a.2.2.2.1 ++ ((rowC txtC).enc a.2.2.2.2))))
  (repeat rw [List.append_assoc]) <;> rfl
set_option maxHeartbeats 4000000 in
theorem ref_answer_calls (W : World) (us : List Value) (a : AnsD) (h : ansA W us a) (hq : AnsQ a) (hl : (ansC.enc a).length ≤ 100000000) :
    Calls Try.prog 24 #[.agg us.toArray] W fun r w' => r = .returned (.string (str (ansC.enc a))) ∧ Below W.heap.size W w' := by
  obtain ⟨p, kc, rfl, e0⟩ := ansA_inv h
  obtain ⟨w1, hw1, hc, hb1⟩ : ∃ w1, W.alloc (.cells #[.int .i64 a.1.1, .int .i64 a.1.2, .int .i64 a.2.1, .int .i64 a.2.2.1, .string (str (a.2.2.2.1)), .slice p a.2.2.2.2.1.length kc, .int .i64 a.2.2.2.2.2] 36) = w1 ∧ Cut W.heap.size [.int .i64 a.1.1, .int .i64 a.1.2, .int .i64 a.2.1, .int .i64 a.2.2.1, .string (str (a.2.2.2.1)), .slice p a.2.2.2.2.1.length kc, .int .i64 a.2.2.2.2.2] 36 w1 ∧ Below W.heap.size W w1 := ⟨_, rfl, heap_alloc_new W _, (Below.refl W.heap.size W).alloc (Nat.le_refl _) _⟩
  have hl1 : ((intB a.1.1 ++ intB a.1.2) ++ (intB a.2.1 ++ (intB a.2.2.1 ++ (txtB a.2.2.2.1 ++ ((rowC txtC).enc a.2.2.2.2.1 ++ (intB a.2.2.2.2.2)))))).length ≤ 100000000 := hl
  simp only [List.length_append] at hl1
  have HCat : Hid ((intB a.1.1).length + (intB a.1.2).length + (intB a.2.1).length + (intB a.2.2.1).length + (txtB a.2.2.2.1).length + ((rowC txtC).enc a.2.2.2.2.1).length + (intB a.2.2.2.2.2).length ≤ 100000000) := by show _ ≤ _; omega
  have HW := Lib.hid hw1
  have HC := Lib.hid hc
  have HB1 := Lib.hid hb1
  have HE := Lib.hid (e0.below (by decide) hb1)
  have HQ := Lib.hid hq
  clear h hq hl hl1 hw1 hc hb1 e0
  go_enter Try.func24, Try.ntmps24
  go_upto_region 1 with fail
  rw [HW.out]
  obtain ⟨eb, heb⟩ : ∃ eb, W.heap.size = eb := ⟨_, rfl⟩
  rw [heb] at HC ⊢
  clear heb
  refine Rg.wp_region_rgl [] [Rg.Is (.pointer (some ⟨eb, 0, none⟩)), Rg.Is (.int .i64 a.1.1), Rg.Is (.string (str (intB a.1.1))), Rg.Is (.pointer (some ⟨eb, 1, none⟩)), Rg.Is (.int .i64 a.1.2), Rg.Is (.string (str (intB a.1.2))), Rg.Is (.string (str (intB a.1.1 ++ intB a.1.2))), Rg.Is (.pointer (some ⟨eb, 2, none⟩)), Rg.Is (.int .i64 a.2.1), Rg.Is (.string (str (intB a.2.1))), Rg.Is (.string (str ((intB a.1.1 ++ intB a.1.2) ++ intB a.2.1))), Rg.Is (.pointer (some ⟨eb, 3, none⟩)), Rg.Is (.int .i64 a.2.2.1), Rg.Is (.string (str (intB a.2.2.1))), Rg.Is (.string (str (((intB a.1.1 ++ intB a.1.2) ++ intB a.2.1) ++ intB a.2.2.1))), Rg.Is (.pointer (some ⟨eb, 4, none⟩)), Rg.Is (.string (str (a.2.2.2.1))), Rg.Is (.string (str (txtB a.2.2.2.1))), Rg.Is (.string (str ((((intB a.1.1 ++ intB a.1.2) ++ intB a.2.1) ++ intB a.2.2.1) ++ txtB a.2.2.2.1))), Rg.Is (.pointer (some ⟨eb, 5, none⟩)), Rg.Is (.slice p a.2.2.2.2.1.length kc), Rg.Is (.string (str ((rowC txtC).enc a.2.2.2.2.1))), Rg.Is (.string (str (((((intB a.1.1 ++ intB a.1.2) ++ intB a.2.1) ++ intB a.2.2.1) ++ txtB a.2.2.2.1) ++ (rowC txtC).enc a.2.2.2.2.1))), Rg.Is (.pointer (some ⟨eb, 6, none⟩)), Rg.Is (.int .i64 a.2.2.2.2.2), Rg.Is (.string (str (intB a.2.2.2.2.2))), Rg.Is (.string (str ((((((intB a.1.1 ++ intB a.1.2) ++ intB a.2.1) ++ intB a.2.2.1) ++ txtB a.2.2.2.1) ++ (rowC txtC).enc a.2.2.2.2.1) ++ intB a.2.2.2.2.2))), Rg.Is (.string (str ((((((intB a.1.1 ++ intB a.1.2) ++ intB a.2.1) ++ intB a.2.2.1) ++ txtB a.2.2.2.1) ++ (rowC txtC).enc a.2.2.2.2.1) ++ intB a.2.2.2.2.2)))] (by kernel_rfl) (by kernel_rfl) (by kernel_rfl) ⟨Rg.st_is _, Rg.st_is _, Rg.st_is _, Rg.st_is _, Rg.st_is _, Rg.st_is _, Rg.st_is _, Rg.st_is _, Rg.st_is _, Rg.st_is _, Rg.st_is _, Rg.st_is _, Rg.st_is _, Rg.st_is _, Rg.st_is _, Rg.st_is _, Rg.st_is _, Rg.st_is _, Rg.st_is _, Rg.st_is _, Rg.st_is _, Rg.st_is _, Rg.st_is _, Rg.st_is _, Rg.st_is _, Rg.st_is _, Rg.st_is _, Rg.st_is _, trivial⟩ ⟨rfl, rfl, rfl, rfl, rfl, rfl, rfl, rfl, rfl, rfl, rfl, rfl, rfl, rfl, rfl, rfl, rfl, rfl, rfl, rfl, rfl, rfl, rfl, rfl, rfl, rfl, rfl, rfl, trivial⟩ ⟨?_, ?_, ?_, ?_, ?_, ?_, ?_, ?_, ?_, ?_, ?_, ?_, ?_, ?_, ?_, ?_, ?_, ?_, ?_, ?_, ?_, ?_, ?_, ?_, ?_, ?_, ?_, ?_, trivial⟩ ?_
  · intro _ aa wx hb hk
    have h1 : aa.eval (.tmp 1) = .pointer (some ⟨eb, 0, none⟩) := Eq.mp (by kernel_rfl) (hk 1 (by decide))
    exact Rs.does_field _ _ h1 (show (Instr.fieldAt 36 (.pointer (some ⟨eb, 0, none⟩)) 0).run Try.prog wx = .ok (.pointer (some ⟨eb, 0, none⟩)) wx from rfl) ⟨Below.refl _ _, rfl⟩
  · intro _ aa wx hb hk
    have h3 : aa.eval (.tmp 3) = .pointer (some ⟨eb, 0, none⟩) := Eq.mp (by kernel_rfl) (hk 3 (by decide))
    exact Rg.does_load _ _ h3 (Ap.load_plainP (by simp [isAgg]) (cell_below hb (Nat.le_refl _) (HC.out.cell 0))) ⟨Below.refl _ _, rfl⟩
  · intro _ aa wx hb hk
    have h4 : aa.eval (.tmp 4) = .int .i64 a.1.1 := Eq.mp (by kernel_rfl) (hk 4 (by decide))
    refine Rg.does_func #[.int .i64 a.1.1] Try.func21 (by kernel_rfl) (by kernel_rfl) (by simp [h4]) (ref_n_calls wx a.1.1 HQ.out.1.1) ?_
    rintro e w' ⟨rfl, hb'⟩
    exact ⟨_, rfl, hb', rfl⟩
  · intro _ aa wx hb hk
    have h1 : aa.eval (.tmp 1) = .pointer (some ⟨eb, 0, none⟩) := Eq.mp (by kernel_rfl) (hk 1 (by decide))
    exact Rs.does_field _ _ h1 (show (Instr.fieldAt 36 (.pointer (some ⟨eb, 0, none⟩)) 1).run Try.prog wx = .ok (.pointer (some ⟨eb, 1, none⟩)) wx from rfl) ⟨Below.refl _ _, rfl⟩
  · intro _ aa wx hb hk
    have h6 : aa.eval (.tmp 6) = .pointer (some ⟨eb, 1, none⟩) := Eq.mp (by kernel_rfl) (hk 6 (by decide))
    exact Rg.does_load _ _ h6 (Ap.load_plainP (by simp [isAgg]) (cell_below hb (Nat.le_refl _) (HC.out.cell 1))) ⟨Below.refl _ _, rfl⟩
  · intro _ aa wx hb hk
    have h7 : aa.eval (.tmp 7) = .int .i64 a.1.2 := Eq.mp (by kernel_rfl) (hk 7 (by decide))
    refine Rg.does_func #[.int .i64 a.1.2] Try.func21 (by kernel_rfl) (by kernel_rfl) (by simp [h7]) (ref_n_calls wx a.1.2 HQ.out.1.2) ?_
    rintro e w' ⟨rfl, hb'⟩
    exact ⟨_, rfl, hb', rfl⟩
  · intro _ aa wx hb hk
    have h5 : aa.eval (.tmp 5) = .string (str (intB a.1.1)) := Eq.mp (by kernel_rfl) (hk 5 (by decide))
    have h8 : aa.eval (.tmp 8) = .string (str (intB a.1.2)) := Eq.mp (by kernel_rfl) (hk 8 (by decide))
    exact Sw.does_bin_str (str (intB a.1.1)) (str (intB a.1.2)) _ h5 h8 (Sw.run_cat (by have h9 := HCat.out; (try simp only [List.length_append]); omega)) ⟨Below.refl _ _, rfl⟩
  · intro _ aa wx hb hk
    have h1 : aa.eval (.tmp 1) = .pointer (some ⟨eb, 0, none⟩) := Eq.mp (by kernel_rfl) (hk 1 (by decide))
    exact Rs.does_field _ _ h1 (show (Instr.fieldAt 36 (.pointer (some ⟨eb, 0, none⟩)) 2).run Try.prog wx = .ok (.pointer (some ⟨eb, 2, none⟩)) wx from rfl) ⟨Below.refl _ _, rfl⟩
  · intro _ aa wx hb hk
    have h10 : aa.eval (.tmp 10) = .pointer (some ⟨eb, 2, none⟩) := Eq.mp (by kernel_rfl) (hk 10 (by decide))
    exact Rg.does_load _ _ h10 (Ap.load_plainP (by simp [isAgg]) (cell_below hb (Nat.le_refl _) (HC.out.cell 2))) ⟨Below.refl _ _, rfl⟩
  · intro _ aa wx hb hk
    have h11 : aa.eval (.tmp 11) = .int .i64 a.2.1 := Eq.mp (by kernel_rfl) (hk 11 (by decide))
    refine Rg.does_func #[.int .i64 a.2.1] Try.func21 (by kernel_rfl) (by kernel_rfl) (by simp [h11]) (ref_n_calls wx a.2.1 HQ.out.2.1) ?_
    rintro e w' ⟨rfl, hb'⟩
    exact ⟨_, rfl, hb', rfl⟩
  · intro _ aa wx hb hk
    have h9 : aa.eval (.tmp 9) = .string (str (intB a.1.1 ++ intB a.1.2)) := Eq.mp (by kernel_rfl) (hk 9 (by decide))
    have h12 : aa.eval (.tmp 12) = .string (str (intB a.2.1)) := Eq.mp (by kernel_rfl) (hk 12 (by decide))
    exact Sw.does_bin_str (str (intB a.1.1 ++ intB a.1.2)) (str (intB a.2.1)) _ h9 h12 (Sw.run_cat (by have h9 := HCat.out; (try simp only [List.length_append]); omega)) ⟨Below.refl _ _, rfl⟩
  · intro _ aa wx hb hk
    have h1 : aa.eval (.tmp 1) = .pointer (some ⟨eb, 0, none⟩) := Eq.mp (by kernel_rfl) (hk 1 (by decide))
    exact Rs.does_field _ _ h1 (show (Instr.fieldAt 36 (.pointer (some ⟨eb, 0, none⟩)) 3).run Try.prog wx = .ok (.pointer (some ⟨eb, 3, none⟩)) wx from rfl) ⟨Below.refl _ _, rfl⟩
  · intro _ aa wx hb hk
    have h14 : aa.eval (.tmp 14) = .pointer (some ⟨eb, 3, none⟩) := Eq.mp (by kernel_rfl) (hk 14 (by decide))
    exact Rg.does_load _ _ h14 (Ap.load_plainP (by simp [isAgg]) (cell_below hb (Nat.le_refl _) (HC.out.cell 3))) ⟨Below.refl _ _, rfl⟩
  · intro _ aa wx hb hk
    have h15 : aa.eval (.tmp 15) = .int .i64 a.2.2.1 := Eq.mp (by kernel_rfl) (hk 15 (by decide))
    refine Rg.does_func #[.int .i64 a.2.2.1] Try.func21 (by kernel_rfl) (by kernel_rfl) (by simp [h15]) (ref_n_calls wx a.2.2.1 HQ.out.2.2.1) ?_
    rintro e w' ⟨rfl, hb'⟩
    exact ⟨_, rfl, hb', rfl⟩
  · intro _ aa wx hb hk
    have h13 : aa.eval (.tmp 13) = .string (str ((intB a.1.1 ++ intB a.1.2) ++ intB a.2.1)) := Eq.mp (by kernel_rfl) (hk 13 (by decide))
    have h16 : aa.eval (.tmp 16) = .string (str (intB a.2.2.1)) := Eq.mp (by kernel_rfl) (hk 16 (by decide))
    exact Sw.does_bin_str (str ((intB a.1.1 ++ intB a.1.2) ++ intB a.2.1)) (str (intB a.2.2.1)) _ h13 h16 (Sw.run_cat (by have h9 := HCat.out; (try simp only [List.length_append]); omega)) ⟨Below.refl _ _, rfl⟩
  · intro _ aa wx hb hk
    have h1 : aa.eval (.tmp 1) = .pointer (some ⟨eb, 0, none⟩) := Eq.mp (by kernel_rfl) (hk 1 (by decide))
    exact Rs.does_field _ _ h1 (show (Instr.fieldAt 36 (.pointer (some ⟨eb, 0, none⟩)) 4).run Try.prog wx = .ok (.pointer (some ⟨eb, 4, none⟩)) wx from rfl) ⟨Below.refl _ _, rfl⟩
  · intro _ aa wx hb hk
    have h18 : aa.eval (.tmp 18) = .pointer (some ⟨eb, 4, none⟩) := Eq.mp (by kernel_rfl) (hk 18 (by decide))
    exact Rg.does_load _ _ h18 (Ap.load_plainP (by simp [isAgg]) (cell_below hb (Nat.le_refl _) (HC.out.cell 4))) ⟨Below.refl _ _, rfl⟩
  · intro _ aa wx hb hk
    have h19 : aa.eval (.tmp 19) = .string (str (a.2.2.2.1)) := Eq.mp (by kernel_rfl) (hk 19 (by decide))
    refine Rg.does_func #[.string (str (a.2.2.2.1))] Try.func43 (by kernel_rfl) (by kernel_rfl) (by simp [h19]) (ref_txt_calls wx a.2.2.2.1 (by have h9 := HCat.out; have h2 : a.2.2.2.1.length ≤ (txtB a.2.2.2.1).length := txt_len_in a.2.2.2.1; omega)) ?_
    rintro e w' ⟨rfl, hb'⟩
    exact ⟨_, rfl, hb', rfl⟩
  · intro _ aa wx hb hk
    have h17 : aa.eval (.tmp 17) = .string (str (((intB a.1.1 ++ intB a.1.2) ++ intB a.2.1) ++ intB a.2.2.1)) := Eq.mp (by kernel_rfl) (hk 17 (by decide))
    have h20 : aa.eval (.tmp 20) = .string (str (txtB a.2.2.2.1)) := Eq.mp (by kernel_rfl) (hk 20 (by decide))
    exact Sw.does_bin_str (str (((intB a.1.1 ++ intB a.1.2) ++ intB a.2.1) ++ intB a.2.2.1)) (str (txtB a.2.2.2.1)) _ h17 h20 (Sw.run_cat (by have h9 := HCat.out; (try simp only [List.length_append]); omega)) ⟨Below.refl _ _, rfl⟩
  · intro _ aa wx hb hk
    have h1 : aa.eval (.tmp 1) = .pointer (some ⟨eb, 0, none⟩) := Eq.mp (by kernel_rfl) (hk 1 (by decide))
    exact Rs.does_field _ _ h1 (show (Instr.fieldAt 36 (.pointer (some ⟨eb, 0, none⟩)) 5).run Try.prog wx = .ok (.pointer (some ⟨eb, 5, none⟩)) wx from rfl) ⟨Below.refl _ _, rfl⟩
  · intro _ aa wx hb hk
    have h22 : aa.eval (.tmp 22) = .pointer (some ⟨eb, 5, none⟩) := Eq.mp (by kernel_rfl) (hk 22 (by decide))
    exact Rg.does_load _ _ h22 (Ap.load_plainP (by simp [isAgg]) (cell_below hb (Nat.le_refl _) (HC.out.cell 5))) ⟨Below.refl _ _, rfl⟩
  · intro _ aa wx hb hk
    have h23 : aa.eval (.tmp 23) = .slice p a.2.2.2.2.1.length kc := Eq.mp (by kernel_rfl) (hk 23 (by decide))
    refine Rg.does_func #[.slice p a.2.2.2.2.1.length kc] Try.func20 (by kernel_rfl) (by kernel_rfl) (by simp [h23]) (ref_row18_calls wx p kc a.2.2.2.2.1 (HE.out.below (by decide) hb) (by have h9 := HCat.out; omega)) ?_
    rintro e w' ⟨rfl, hb'⟩
    exact ⟨_, rfl, hb', rfl⟩
  · intro _ aa wx hb hk
    have h21 : aa.eval (.tmp 21) = .string (str ((((intB a.1.1 ++ intB a.1.2) ++ intB a.2.1) ++ intB a.2.2.1) ++ txtB a.2.2.2.1)) := Eq.mp (by kernel_rfl) (hk 21 (by decide))
    have h24 : aa.eval (.tmp 24) = .string (str ((rowC txtC).enc a.2.2.2.2.1)) := Eq.mp (by kernel_rfl) (hk 24 (by decide))
    exact Sw.does_bin_str (str ((((intB a.1.1 ++ intB a.1.2) ++ intB a.2.1) ++ intB a.2.2.1) ++ txtB a.2.2.2.1)) (str ((rowC txtC).enc a.2.2.2.2.1)) _ h21 h24 (Sw.run_cat (by have h9 := HCat.out; (try simp only [List.length_append]); omega)) ⟨Below.refl _ _, rfl⟩
  · intro _ aa wx hb hk
    have h1 : aa.eval (.tmp 1) = .pointer (some ⟨eb, 0, none⟩) := Eq.mp (by kernel_rfl) (hk 1 (by decide))
    exact Rs.does_field _ _ h1 (show (Instr.fieldAt 36 (.pointer (some ⟨eb, 0, none⟩)) 6).run Try.prog wx = .ok (.pointer (some ⟨eb, 6, none⟩)) wx from rfl) ⟨Below.refl _ _, rfl⟩
  · intro _ aa wx hb hk
    have h26 : aa.eval (.tmp 26) = .pointer (some ⟨eb, 6, none⟩) := Eq.mp (by kernel_rfl) (hk 26 (by decide))
    exact Rg.does_load _ _ h26 (Ap.load_plainP (by simp [isAgg]) (cell_below hb (Nat.le_refl _) (HC.out.cell 6))) ⟨Below.refl _ _, rfl⟩
  · intro _ aa wx hb hk
    have h27 : aa.eval (.tmp 27) = .int .i64 a.2.2.2.2.2 := Eq.mp (by kernel_rfl) (hk 27 (by decide))
    refine Rg.does_func #[.int .i64 a.2.2.2.2.2] Try.func21 (by kernel_rfl) (by kernel_rfl) (by simp [h27]) (ref_n_calls wx a.2.2.2.2.2 HQ.out.2.2.2.2.2) ?_
    rintro e w' ⟨rfl, hb'⟩
    exact ⟨_, rfl, hb', rfl⟩
  · intro _ aa wx hb hk
    have h25 : aa.eval (.tmp 25) = .string (str (((((intB a.1.1 ++ intB a.1.2) ++ intB a.2.1) ++ intB a.2.2.1) ++ txtB a.2.2.2.1) ++ (rowC txtC).enc a.2.2.2.2.1)) := Eq.mp (by kernel_rfl) (hk 25 (by decide))
    have h28 : aa.eval (.tmp 28) = .string (str (intB a.2.2.2.2.2)) := Eq.mp (by kernel_rfl) (hk 28 (by decide))
    exact Sw.does_bin_str (str (((((intB a.1.1 ++ intB a.1.2) ++ intB a.2.1) ++ intB a.2.2.1) ++ txtB a.2.2.2.1) ++ (rowC txtC).enc a.2.2.2.2.1)) (str (intB a.2.2.2.2.2)) _ h25 h28 (Sw.run_cat (by have h9 := HCat.out; (try simp only [List.length_append]); omega)) ⟨Below.refl _ _, rfl⟩
  · intro _ aa wx hb hk
    have h29 : aa.eval (.tmp 29) = .string (str ((((((intB a.1.1 ++ intB a.1.2) ++ intB a.2.1) ++ intB a.2.2.1) ++ txtB a.2.2.2.1) ++ (rowC txtC).enc a.2.2.2.2.1) ++ intB a.2.2.2.2.2)) := Eq.mp (by kernel_rfl) (hk 29 (by decide))
    exact Rg.does_assign ⟨Below.refl _ _, h29⟩
  intro vals wD hbD hL
  obtain ⟨g0, g1, g2, g3, g4, g5, g6, g7, g8, g9, g10, g11, g12, g13, g14, g15, g16, g17, g18, g19, g20, g21, g22, g23, g24, g25, g26, g27, _⟩ := hL
  have g' : vals 27 = .string (str ((((((intB a.1.1 ++ intB a.1.2) ++ intB a.2.1) ++ intB a.2.2.1) ++ txtB a.2.2.2.1) ++ (rowC txtC).enc a.2.2.2.2.1) ++ intB a.2.2.2.2.2)) := g27
  have HBD := Lib.hid hbD
  clear g0 g1 g2 g3 g4 g5 g6 g7 g8 g9 g10 g11 g12 g13 g14 g15 g16 g17 g18 g19 g20 g21 g22 g23 g24 g25 g26 g27 hbD
  simp only [Rg.putAll, List.setIfInBounds_toArray, List.set_cons_succ, List.set_cons_zero, g']
  clear g'
  go_wp2_with fail
  go_ret
  refine ⟨congrArg (fun l => Ending.returned (Value.string (str l))) ?_, HB1.out.trans (HBD.out.mono HB1.out.size)⟩
  show _ = (intB a.1.1 ++ intB a.1.2) ++ (intB a.2.1 ++ (intB a.2.2.1 ++ (txtB a.2.2.2.1 ++ ((rowC txtC).enc a.2.2.2.2.1 ++ (intB a.2.2.2.2.2)))))
  (repeat rw [List.append_assoc]) <;> rfl
end Go.Proofs.Ytnmlnaoljkhjeaa
