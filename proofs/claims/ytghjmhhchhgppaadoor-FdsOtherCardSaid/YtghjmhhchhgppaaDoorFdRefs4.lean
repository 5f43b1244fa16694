/-
  The document's table as a text; the document's example. Conditions: the numbers fit; the rows are not too long.
-/
import Derived.Test.YtghjmhhchhgppaaDoorFdRefs3
set_option linter.unusedVariables false
set_option maxRecDepth 100000
namespace Go.Proofs.YtghjmhhchhgppaaDoor
open Go.RowKit Base

theorem refp_f0 (b o : Nat) (w : World) : (Instr.fieldAt 45 (.pointer (some ⟨b, o, none⟩)) 0).run Tryd.prog w = .ok (.pointer (some ⟨b, o, none⟩)) w := by rfl
theorem refp_f1 (b o : Nat) (w : World) : (Instr.fieldAt 45 (.pointer (some ⟨b, o, none⟩)) 1).run Tryd.prog w = .ok (.pointer (some ⟨b, o + 1, none⟩)) w := by rfl
set_option maxHeartbeats 4000000 in
theorem ref_show_calls (w : World) (a0 : Option Addr) (n c : Nat) (l : List Pr) (h : Prs w a0 n c l) (hs : Smalls l) (hl : l.length ≤ 100000) :
    Calls Tryd.prog 8 #[.slice a0 n c] w fun e w' => e = .returned (.string (str (showB l))) ∧ Below w.heap.size w w' := by
  obtain rfl := h.1
  obtain ⟨b, off, hcs, hix⟩ := refp_at h
  have HCs : Hid (∀ W, Below w.heap.size w W → ∀ j (hj : j < l.length), W.cell? ⟨b, off + j * 2, none⟩ = some (.int .i64 l[j].1) ∧ W.cell? ⟨b, off + j * 2 + 1, none⟩ = some (.int .i64 l[j].2)) := fun W hb j hj => ⟨cell_below hb (Nat.le_refl _) (hcs j hj).1, cell_below hb (Nat.le_refl _) (hcs j hj).2⟩
  have HIx := Lib.hid hix
  have HS := Lib.hid hs
  clear h hcs hix hs
  go_enter Tryd.func8, Tryd.ntmps8
  go_wp2_with fail
  go_loopw [3, 4] (fun v3 v4 wr => ∃ k : Nat, k ≤ l.length ∧ v4 = .int .i64 k ∧ v3 = .string (str (showB (l.take k))) ∧ Below w.heap.size w wr) (fun _ v4 _ => l.length - (intOf v4).toNat)
  case atStart => exact ⟨0, Nat.zero_le _, rfl, rfl, Below.refl _ _⟩
  case round =>
    obtain ⟨k, hk, rfl, rfl, hb⟩ := hrel
    have HB := Lib.hid hb
    clear hb
    by_cases hlt : k < l.length
    · have hlen := show_len (l.take k) (smalls_take k HS.out)
      have hl2 : (showB (l.take k)).length ≤ 42 * 100000 := by have := List.length_take_le k l; omega
      have HX := Lib.hid fun W => HIx.out .i64 k W hlt
      have C0 := Lib.hid (HCs.out wr HB.out k hlt).1
      have C1 := Lib.hid (HCs.out wr HB.out k hlt).2
      have HT := Lib.hid (show_take l k hlt)
      have HSm := Lib.hid (HS.out l[k] (List.getElem_mem hlt))
      generalize l[k]'hlt = p at *
      generalize off + k * 2 = q at *
      generalize showB (l.take k) = pre at *
      have HL := Lib.hid hl2
      have HP : Hid ((pairT p).length ≤ 41) := pairT_len HSm.out
      have HI1 := Lib.hid (itoa_len HSm.out.1)
      have HI2 := Lib.hid (itoa_len HSm.out.2)
      have HPt : Hid (pairT p = Lib.itoa p.1 ++ 61 :: Lib.itoa p.2) := rfl
      clear hlen hl2
      have u3 : decide (k < l.length) = true := decide_eq_true (by omega)
      have u1 : decide ((k : Int) < (l.length : Int)) = true := decide_eq_true (by omega)
      have u2 : (k : Int) < (l.length : Int) := by omega
      by_cases hk0 : k = 0
      · have d1 : decide ((0 : Int) < (k : Int)) = false := decide_eq_false (by omega)
        have d2 : ¬ ((0 : Int) < (k : Int)) := by omega
        have d3 : ¬ (0 < k) := by omega
        have HT2 : Hid (showB (l.take (k + 1)) = pre ++ pairT p) := by show _ = _; rw [HT.out, if_pos hk0, List.nil_append]
        have HK0 := Lib.hid hk0
        clear hk0
        go_wp2_with fail
        refine Rg.wp_region_rgl [] [Rg.Is (.string (str (pre))), Rg.Is (.slice a0 l.length c), Rg.Is (.int .i64 (k : Int)), Rg.Is (.pointer (some ⟨b, q, none⟩)), Rg.Is (.pointer (some ⟨b, q, none⟩)), Rg.Is (.int .i64 p.1), Rg.Is (.string (str (Lib.itoa p.1))), Rg.Is (.string (str (Lib.itoa p.1 ++ [61]))), Rg.Is (.slice a0 l.length c), Rg.Is (.int .i64 (k : Int)), Rg.Is (.pointer (some ⟨b, q, none⟩)), Rg.Is (.pointer (some ⟨b, q + 1, none⟩)), Rg.Is (.int .i64 p.2), Rg.Is (.string (str (Lib.itoa p.2))), Rg.Is (.string (str (pairT p))), Rg.Is (.string (str ((pre) ++ pairT p))), Rg.Is (.string (str ((pre) ++ pairT p)))] (by kernel_rfl) (by kernel_rfl) (by kernel_rfl) ⟨Rg.st_is _, Rg.st_is _, Rg.st_is _, Rg.st_is _, Rg.st_is _, Rg.st_is _, Rg.st_is _, Rg.st_is _, Rg.st_is _, Rg.st_is _, Rg.st_is _, Rg.st_is _, Rg.st_is _, Rg.st_is _, Rg.st_is _, Rg.st_is _, Rg.st_is _, trivial⟩ ⟨rfl, rfl, rfl, rfl, rfl, rfl, rfl, rfl, rfl, rfl, rfl, rfl, rfl, rfl, rfl, rfl, rfl, trivial⟩ ⟨?_, ?_, ?_, ?_, ?_, ?_, ?_, ?_, ?_, ?_, ?_, ?_, ?_, ?_, ?_, ?_, ?_, trivial⟩ ?_
        · intro _ a wx hb hk
          have h3 : a.eval (.tmp 3) = .string (str (pre)) := Eq.mp (by kernel_rfl) (hk 3 (by decide))
          exact Rg.does_move ⟨Below.refl _ _, h3⟩
        · intro _ a wx hb hk
          have h0 : a.eval (.tmp 0) = .slice a0 l.length c := Eq.mp (by kernel_rfl) (hk 0 (by decide))
          exact Rg.does_move ⟨Below.refl _ _, h0⟩
        · intro _ a wx hb hk
          have h4 : a.eval (.tmp 4) = .int .i64 (k : Int) := Eq.mp (by kernel_rfl) (hk 4 (by decide))
          exact Rg.does_move ⟨Below.refl _ _, h4⟩
        · intro _ a wx hb hk
          have h16 : a.eval (.tmp 16) = .slice a0 l.length c := Eq.mp (by kernel_rfl) (hk 16 (by decide))
          have h17 : a.eval (.tmp 17) = .int .i64 (k : Int) := Eq.mp (by kernel_rfl) (hk 17 (by decide))
          exact Rg.does_index _ _ _ h16 h17 (HX.out wx) ⟨Below.refl _ _, rfl⟩
        · intro _ a wx hb hk
          have h18 : a.eval (.tmp 18) = .pointer (some ⟨b, q, none⟩) := Eq.mp (by kernel_rfl) (hk 18 (by decide))
          exact Rs.does_field _ _ h18 (refp_f0 _ _ wx) ⟨Below.refl _ _, rfl⟩
        · intro _ a wx hb hk
          have h19 : a.eval (.tmp 19) = .pointer (some ⟨b, q, none⟩) := Eq.mp (by kernel_rfl) (hk 19 (by decide))
          exact Rg.does_load _ _ h19 (load_intP (cell_below hb (Nat.le_refl _) C0.out)) ⟨Below.refl _ _, rfl⟩
        · intro _ a wx hb hk
          have h20 : a.eval (.tmp 20) = .int .i64 p.1 := Eq.mp (by kernel_rfl) (hk 20 (by decide))
          refine Rg.does_func #[.int .i64 p.1] Tryd.func16 (by kernel_rfl) (by kernel_rfl) (by simp [h20]) (ref_number_calls wx p.1 HSm.out.1) ?_
          rintro e w' ⟨rfl, hb'⟩
          exact ⟨_, rfl, hb', rfl⟩
        · intro _ a wx hb hk
          have h21 : a.eval (.tmp 21) = .string (str (Lib.itoa p.1)) := Eq.mp (by kernel_rfl) (hk 21 (by decide))
          exact Sw.does_bin_str _ _ _ h21 rfl (Sw.run_cat (m := [61]) (by have := HI1.out; simp; omega)) ⟨Below.refl _ _, rfl⟩
        · intro _ a wx hb hk
          have h0 : a.eval (.tmp 0) = .slice a0 l.length c := Eq.mp (by kernel_rfl) (hk 0 (by decide))
          exact Rg.does_move ⟨Below.refl _ _, h0⟩
        · intro _ a wx hb hk
          have h4 : a.eval (.tmp 4) = .int .i64 (k : Int) := Eq.mp (by kernel_rfl) (hk 4 (by decide))
          exact Rg.does_move ⟨Below.refl _ _, h4⟩
        · intro _ a wx hb hk
          have h23 : a.eval (.tmp 23) = .slice a0 l.length c := Eq.mp (by kernel_rfl) (hk 23 (by decide))
          have h24 : a.eval (.tmp 24) = .int .i64 (k : Int) := Eq.mp (by kernel_rfl) (hk 24 (by decide))
          exact Rg.does_index _ _ _ h23 h24 (HX.out wx) ⟨Below.refl _ _, rfl⟩
        · intro _ a wx hb hk
          have h25 : a.eval (.tmp 25) = .pointer (some ⟨b, q, none⟩) := Eq.mp (by kernel_rfl) (hk 25 (by decide))
          exact Rs.does_field _ _ h25 (refp_f1 _ _ wx) ⟨Below.refl _ _, rfl⟩
        · intro _ a wx hb hk
          have h26 : a.eval (.tmp 26) = .pointer (some ⟨b, q + 1, none⟩) := Eq.mp (by kernel_rfl) (hk 26 (by decide))
          exact Rg.does_load _ _ h26 (load_i64P (cell_below hb (Nat.le_refl _) C1.out)) ⟨Below.refl _ _, rfl⟩
        · intro _ a wx hb hk
          have h27 : a.eval (.tmp 27) = .int .i64 p.2 := Eq.mp (by kernel_rfl) (hk 27 (by decide))
          refine Rg.does_func #[.int .i64 p.2] Tryd.func16 (by kernel_rfl) (by kernel_rfl) (by simp [h27]) (ref_number_calls wx p.2 HSm.out.2) ?_
          rintro e w' ⟨rfl, hb'⟩
          exact ⟨_, rfl, hb', rfl⟩
        · intro _ a wx hb hk
          have h22 : a.eval (.tmp 22) = .string (str (Lib.itoa p.1 ++ [61])) := Eq.mp (by kernel_rfl) (hk 22 (by decide))
          have h28 : a.eval (.tmp 28) = .string (str (Lib.itoa p.2)) := Eq.mp (by kernel_rfl) (hk 28 (by decide))
          exact Sw.does_bin_str _ _ _ h22 h28 (Sw.run_cat (by have := HI1.out; have := HI2.out; simp; omega)) ⟨Below.refl _ _, by rw [HPt.out]; simp; rfl⟩
        · intro _ a wx hb hk
          have h15 : a.eval (.tmp 15) = .string (str (pre)) := Eq.mp (by kernel_rfl) (hk 15 (by decide))
          have h29 : a.eval (.tmp 29) = .string (str (pairT p)) := Eq.mp (by kernel_rfl) (hk 29 (by decide))
          exact Sw.does_bin_str _ _ _ h15 h29 (Sw.run_cat (by have := HL.out; have := HP.out; simp; omega)) ⟨Below.refl _ _, rfl⟩
        · intro _ a wx hb hk
          have h30 : a.eval (.tmp 30) = .string (str ((pre) ++ pairT p)) := Eq.mp (by kernel_rfl) (hk 30 (by decide))
          exact Rg.does_assign ⟨Below.refl _ _, h30⟩
        intro vals wD hbD hL
        obtain ⟨g0, g1, g2, g3, g4, g5, g6, g7, g8, g9, g10, g11, g12, g13, g14, g15, g16, _⟩ := hL
        have g16' : vals 16 = .string (str ((pre) ++ pairT p)) := g16
        have HBD := Lib.hid hbD
        clear g0 g1 g2 g3 g4 g5 g6 g7 g8 g9 g10 g11 g12 g13 g14 g15 g16 hbD
        simp only [Rg.putAll, List.setIfInBounds_toArray, List.set_cons_succ, List.set_cons_zero, g16']
        clear g16'
        go_wp2_with fail
        go_roundw
        case rel => exact ⟨k + 1, by omega, by go_num, by rw [HT2.out], HB.out.trans (HBD.out.mono HB.out.size)⟩
        case measure => simp [intOf]; omega
      · have d1 : decide ((0 : Int) < (k : Int)) = true := decide_eq_true (by omega)
        have d2 : (0 : Int) < (k : Int) := by omega
        have d3 : 0 < k := by omega
        have HT2 : Hid (showB (l.take (k + 1)) = (pre ++ [32]) ++ pairT p) := by show _ = _; rw [HT.out, if_neg hk0, List.append_assoc]
        have HK0 := Lib.hid hk0
        have hov : ¬ 9223372036854775807 < (str pre).size + (⟨#[32]⟩ : ByteArray).size := by rw [str_size]; have := HL.out; show ¬ _ < _ + 1; omega
        have hap : str pre ++ (⟨#[32]⟩ : ByteArray) = str (pre ++ [32]) := by rw [show (⟨#[32]⟩ : ByteArray) = str [32] from rfl, str_append]
        clear hk0
        go_wp2_with fail
        refine Rg.wp_region_rgl [] [Rg.Is (.string (str (pre ++ [32]))), Rg.Is (.slice a0 l.length c), Rg.Is (.int .i64 (k : Int)), Rg.Is (.pointer (some ⟨b, q, none⟩)), Rg.Is (.pointer (some ⟨b, q, none⟩)), Rg.Is (.int .i64 p.1), Rg.Is (.string (str (Lib.itoa p.1))), Rg.Is (.string (str (Lib.itoa p.1 ++ [61]))), Rg.Is (.slice a0 l.length c), Rg.Is (.int .i64 (k : Int)), Rg.Is (.pointer (some ⟨b, q, none⟩)), Rg.Is (.pointer (some ⟨b, q + 1, none⟩)), Rg.Is (.int .i64 p.2), Rg.Is (.string (str (Lib.itoa p.2))), Rg.Is (.string (str (pairT p))), Rg.Is (.string (str ((pre ++ [32]) ++ pairT p))), Rg.Is (.string (str ((pre ++ [32]) ++ pairT p)))] (by kernel_rfl) (by kernel_rfl) (by kernel_rfl) ⟨Rg.st_is _, Rg.st_is _, Rg.st_is _, Rg.st_is _, Rg.st_is _, Rg.st_is _, Rg.st_is _, Rg.st_is _, Rg.st_is _, Rg.st_is _, Rg.st_is _, Rg.st_is _, Rg.st_is _, Rg.st_is _, Rg.st_is _, Rg.st_is _, Rg.st_is _, trivial⟩ ⟨rfl, rfl, rfl, rfl, rfl, rfl, rfl, rfl, rfl, rfl, rfl, rfl, rfl, rfl, rfl, rfl, rfl, trivial⟩ ⟨?_, ?_, ?_, ?_, ?_, ?_, ?_, ?_, ?_, ?_, ?_, ?_, ?_, ?_, ?_, ?_, ?_, trivial⟩ ?_
        · intro _ a wx hb hk
          have h3 : a.eval (.tmp 3) = .string (str (pre ++ [32])) := Eq.mp (by kernel_rfl) (hk 3 (by decide))
          exact Rg.does_move ⟨Below.refl _ _, h3⟩
        · intro _ a wx hb hk
          have h0 : a.eval (.tmp 0) = .slice a0 l.length c := Eq.mp (by kernel_rfl) (hk 0 (by decide))
          exact Rg.does_move ⟨Below.refl _ _, h0⟩
        · intro _ a wx hb hk
          have h4 : a.eval (.tmp 4) = .int .i64 (k : Int) := Eq.mp (by kernel_rfl) (hk 4 (by decide))
          exact Rg.does_move ⟨Below.refl _ _, h4⟩
        · intro _ a wx hb hk
          have h16 : a.eval (.tmp 16) = .slice a0 l.length c := Eq.mp (by kernel_rfl) (hk 16 (by decide))
          have h17 : a.eval (.tmp 17) = .int .i64 (k : Int) := Eq.mp (by kernel_rfl) (hk 17 (by decide))
          exact Rg.does_index _ _ _ h16 h17 (HX.out wx) ⟨Below.refl _ _, rfl⟩
        · intro _ a wx hb hk
          have h18 : a.eval (.tmp 18) = .pointer (some ⟨b, q, none⟩) := Eq.mp (by kernel_rfl) (hk 18 (by decide))
          exact Rs.does_field _ _ h18 (refp_f0 _ _ wx) ⟨Below.refl _ _, rfl⟩
        · intro _ a wx hb hk
          have h19 : a.eval (.tmp 19) = .pointer (some ⟨b, q, none⟩) := Eq.mp (by kernel_rfl) (hk 19 (by decide))
          exact Rg.does_load _ _ h19 (load_intP (cell_below hb (Nat.le_refl _) C0.out)) ⟨Below.refl _ _, rfl⟩
        · intro _ a wx hb hk
          have h20 : a.eval (.tmp 20) = .int .i64 p.1 := Eq.mp (by kernel_rfl) (hk 20 (by decide))
          refine Rg.does_func #[.int .i64 p.1] Tryd.func16 (by kernel_rfl) (by kernel_rfl) (by simp [h20]) (ref_number_calls wx p.1 HSm.out.1) ?_
          rintro e w' ⟨rfl, hb'⟩
          exact ⟨_, rfl, hb', rfl⟩
        · intro _ a wx hb hk
          have h21 : a.eval (.tmp 21) = .string (str (Lib.itoa p.1)) := Eq.mp (by kernel_rfl) (hk 21 (by decide))
          exact Sw.does_bin_str _ _ _ h21 rfl (Sw.run_cat (m := [61]) (by have := HI1.out; simp; omega)) ⟨Below.refl _ _, rfl⟩
        · intro _ a wx hb hk
          have h0 : a.eval (.tmp 0) = .slice a0 l.length c := Eq.mp (by kernel_rfl) (hk 0 (by decide))
          exact Rg.does_move ⟨Below.refl _ _, h0⟩
        · intro _ a wx hb hk
          have h4 : a.eval (.tmp 4) = .int .i64 (k : Int) := Eq.mp (by kernel_rfl) (hk 4 (by decide))
          exact Rg.does_move ⟨Below.refl _ _, h4⟩
        · intro _ a wx hb hk
          have h23 : a.eval (.tmp 23) = .slice a0 l.length c := Eq.mp (by kernel_rfl) (hk 23 (by decide))
          have h24 : a.eval (.tmp 24) = .int .i64 (k : Int) := Eq.mp (by kernel_rfl) (hk 24 (by decide))
          exact Rg.does_index _ _ _ h23 h24 (HX.out wx) ⟨Below.refl _ _, rfl⟩
        · intro _ a wx hb hk
          have h25 : a.eval (.tmp 25) = .pointer (some ⟨b, q, none⟩) := Eq.mp (by kernel_rfl) (hk 25 (by decide))
          exact Rs.does_field _ _ h25 (refp_f1 _ _ wx) ⟨Below.refl _ _, rfl⟩
        · intro _ a wx hb hk
          have h26 : a.eval (.tmp 26) = .pointer (some ⟨b, q + 1, none⟩) := Eq.mp (by kernel_rfl) (hk 26 (by decide))
          exact Rg.does_load _ _ h26 (load_i64P (cell_below hb (Nat.le_refl _) C1.out)) ⟨Below.refl _ _, rfl⟩
        · intro _ a wx hb hk
          have h27 : a.eval (.tmp 27) = .int .i64 p.2 := Eq.mp (by kernel_rfl) (hk 27 (by decide))
          refine Rg.does_func #[.int .i64 p.2] Tryd.func16 (by kernel_rfl) (by kernel_rfl) (by simp [h27]) (ref_number_calls wx p.2 HSm.out.2) ?_
          rintro e w' ⟨rfl, hb'⟩
          exact ⟨_, rfl, hb', rfl⟩
        · intro _ a wx hb hk
          have h22 : a.eval (.tmp 22) = .string (str (Lib.itoa p.1 ++ [61])) := Eq.mp (by kernel_rfl) (hk 22 (by decide))
          have h28 : a.eval (.tmp 28) = .string (str (Lib.itoa p.2)) := Eq.mp (by kernel_rfl) (hk 28 (by decide))
          exact Sw.does_bin_str _ _ _ h22 h28 (Sw.run_cat (by have := HI1.out; have := HI2.out; simp; omega)) ⟨Below.refl _ _, by rw [HPt.out]; simp; rfl⟩
        · intro _ a wx hb hk
          have h15 : a.eval (.tmp 15) = .string (str (pre ++ [32])) := Eq.mp (by kernel_rfl) (hk 15 (by decide))
          have h29 : a.eval (.tmp 29) = .string (str (pairT p)) := Eq.mp (by kernel_rfl) (hk 29 (by decide))
          exact Sw.does_bin_str _ _ _ h15 h29 (Sw.run_cat (by have := HL.out; have := HP.out; simp; omega)) ⟨Below.refl _ _, rfl⟩
        · intro _ a wx hb hk
          have h30 : a.eval (.tmp 30) = .string (str ((pre ++ [32]) ++ pairT p)) := Eq.mp (by kernel_rfl) (hk 30 (by decide))
          exact Rg.does_assign ⟨Below.refl _ _, h30⟩
        intro vals wD hbD hL
        obtain ⟨g0, g1, g2, g3, g4, g5, g6, g7, g8, g9, g10, g11, g12, g13, g14, g15, g16, _⟩ := hL
        have g16' : vals 16 = .string (str ((pre ++ [32]) ++ pairT p)) := g16
        have HBD := Lib.hid hbD
        clear g0 g1 g2 g3 g4 g5 g6 g7 g8 g9 g10 g11 g12 g13 g14 g15 g16 hbD
        simp only [Rg.putAll, List.setIfInBounds_toArray, List.set_cons_succ, List.set_cons_zero, g16']
        clear g16'
        go_wp2_with fail
        go_roundw
        case rel => exact ⟨k + 1, by omega, by go_num, by rw [HT2.out], HB.out.trans (HBD.out.mono HB.out.size)⟩
        case measure => simp [intOf]; omega
    · obtain rfl : k = l.length := by omega
      have u3 : decide (l.length < l.length) = false := decide_eq_false (by omega)
      have u1 : decide ((l.length : Int) < (l.length : Int)) = false := decide_eq_false (by omega)
      have u2 : ¬ ((l.length : Int) < (l.length : Int)) := by omega
      rw [List.take_length]
      go_wp2_with fail
      go_ret
      exact ⟨rfl, HB.out⟩
end Go.Proofs.YtghjmhhchhgppaaDoor
