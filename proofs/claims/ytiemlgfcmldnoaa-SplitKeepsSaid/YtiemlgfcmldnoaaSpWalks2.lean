/-
  The fields of a row: separator, add. Conditions: as the contracts say.
-/
import Derived.Test.YtiemlgfcmldnoaaSpWalks1
set_option linter.unusedVariables false
set_option maxRecDepth 100000
namespace Go.Proofs.Ytiemlgfcmldnoaa
open Go.RowKit Base

theorem sepS_t1 {st : SpSt} (h : st.begun = true) (b : Bool) : sepS st b = endS st b := by unfold sepS; cases b <;> simp [h]
theorem sepS_t2 {st : SpSt} (h : st.begun = false) : sepS st true = st := by unfold sepS; simp [h]
theorem sepS_t3 {st : SpSt} (h : st.begun = false) (h2 : st.blank = true) : sepS st false = endS st false := by unfold sepS; simp [h, h2]
theorem sepS_t4 {st : SpSt} (h : st.begun = false) (h2 : st.blank = false) : sepS st false = endS ⟨st.l, st.now, true, st.blank⟩ false := by unfold sepS; simp [h, h2]
theorem FAt.set3 {x : World} {F B : Nat} {st : SpSt} {v : Value} (h : FAt x F B st v) (hFB : F < B) (b : Bool) : FAt (x.setCell ⟨F, 3, none⟩ (.bool b)) F B ⟨st.l, st.now, b, st.blank⟩ v :=
  ⟨heap_setCell_same _ F 3 _ _ _ h.1, own_setF h.2 hFB⟩
set_option maxHeartbeats 2000000 in
theorem sp_sep_calls (w : World) (F B : Nat) (st : SpSt) (v : Value) (b : Bool) (h : FAt w F B st v) (hFB : F < B) (hBw : B ≤ w.heap.size) (hs : st.l.length ≤ 1000000) :
    Calls Try.prog 20 #[.pointer (some ⟨F, 0, none⟩), .bool b] w (EndPost F B (sepS st b) w) := by
  obtain ⟨⟨c0, c1, c2, c3, c4⟩, f0, f1, f2, f3, f4⟩ := h.cells
  have HEnd := Lib.hid fun b => sp_end_calls w F B st v b h hFB hBw hs
  by_cases hbeg : st.begun = true
  · have hsep := fun b => sepS_t1 hbeg b
    rw [hsep]
    rw [hbeg] at c3
    have HF := Lib.hid h
    clear h hbeg hsep
    cases b
    all_goals
      go_enter Try.func20, Try.ntmps20
      go_wp2_with fail
      refine (HEnd.out _).mono ?_
      rintro e w' ⟨rfl, h1, h2⟩
      go_wp2_with fail
      refine bodyPost_end (v := .tuple #[]) (results_none rfl _ _ _) rfl ?_
      exact ⟨rfl, h1, h2⟩
  · have hb' : st.begun = false := by simpa using hbeg
    rw [hb'] at c3
    clear hbeg
    cases b with
    | true =>
      rw [sepS_t2 hb']
      have HF := Lib.hid h
      clear h hb'
      go_enter Try.func20, Try.ntmps20
      go_wp2_with fail
      refine bodyPost_end (v := .tuple #[]) (results_none rfl _ _ _) rfl ?_
      exact ⟨rfl, ⟨v, HF.out⟩, Upd.refl _ _ _⟩
    | false =>
      by_cases hbl : st.blank = true
      · rw [sepS_t3 hb' hbl]
        rw [hbl] at c4
        have HF := Lib.hid h
        clear h hb' hbl
        go_enter Try.func20, Try.ntmps20
        go_wp2_with fail
        refine (HEnd.out _).mono ?_
        rintro e w' ⟨rfl, h1, h2⟩
        go_wp2_with fail
        refine bodyPost_end (v := .tuple #[]) (results_none rfl _ _ _) rfl ?_
        exact ⟨rfl, h1, h2⟩
      · have hbl' : st.blank = false := by simpa using hbl
        rw [sepS_t4 hb' hbl']
        have HEnd2 := Lib.hid (sp_end_calls (w.setCell ⟨F, 3, none⟩ (.bool true)) F B ⟨st.l, st.now, true, st.blank⟩ v false (h.set3 hFB true) hFB (by simpa using hBw) hs)
        have HF := Lib.hid h
        have HU := Lib.hid ((Upd.refl F B w).set 3 (.bool true))
        generalize endS ⟨st.l, st.now, true, st.blank⟩ false = st2 at *
        rw [hbl'] at c4
        clear h hb' hbl hbl' HEnd
        go_enter Try.func20, Try.ntmps20
        go_wp2_with fail
        refine (HEnd2.out).mono ?_
        rintro e w' ⟨rfl, h1, h2⟩
        go_wp2_with fail
        refine bodyPost_end (v := .tuple #[]) (results_none rfl _ _ _) rfl ?_
        exact ⟨rfl, h1, HU.out.trans h2⟩
def pairV (x : UInt8 × UInt8) : Value := .agg #[.int .u8 (x.1.toNat : Int), .int .u8 (x.2.toNat : Int)]
theorem build_row (w : World) (a b : ByteArray) : (Instr.build 23 #[(0, .string a), (1, .string b)]).run Try.prog w = .ok (.agg #[.string a, .string b]) w := by
  refine run_build w _ _ _ ?_
  kernel_rfl
theorem text_snoc (r : SRow) (x : UInt8 × UInt8) : textS (r ++ [x]) = textS r ++ [x.1] := by unfold textS; simp
theorem mask_snoc (r : SRow) (x : UInt8 × UInt8) : maskS (r ++ [x]) = maskS r ++ [x.2] := by unfold maskS; simp
theorem text_len (r : SRow) : (textS r).length = r.length := by unfold textS; simp
theorem mask_len (r : SRow) : (maskS r).length = r.length := by unfold maskS; simp
theorem slice_pair_h (w : World) (A : Nat) : (Instr.sliceAt 48 (.pointer (some ⟨A, 0, none⟩)) none (some (.int .i64 1)) none).run Try.prog w = .ok (.slice (some ⟨A, 0, none⟩) 1 2) w := by rfl
theorem slice_pair_l (w : World) (A : Nat) : (Instr.sliceAt 48 (.pointer (some ⟨A, 0, none⟩)) (some (.int .i64 1)) none none).run Try.prog w = .ok (.slice (some ⟨A, 1, none⟩) 1 1) w := by rfl
theorem bytes_cell {w : World} {A o c : Nat} {x : UInt8} (h : w.cell? ⟨A, o, none⟩ = some (.int .u8 (x.toNat : Int))) (hc : 1 ≤ c) (hc2 : c ≤ maxLen) : Bytes w (some ⟨A, o, none⟩) 1 c [x] := by
  refine ⟨rfl, hc, hc2, A, o, .inr rfl, fun k hk => ?_⟩
  have : k = 0 := by simpa using hk
  subst this
  exact h
set_option maxHeartbeats 2000000 in
theorem sp_add_calls (w : World) (r : SRow) (x : UInt8 × UInt8) (hs : r.length ≤ 1000000) :
    Calls Try.prog 22 #[rowV r, pairV x] w fun e w' => e = .returned (rowV (r ++ [x])) ∧ Below w.heap.size w w' := by
  obtain ⟨c, m⟩ := x
  have ht := text_len r
  have hm := mask_len r
  unfold rowV pairV
  rw [text_snoc, mask_snoc]
  have hA := Ap.heap3 w (.cells #[.string (str (textS r)), .string (str (maskS r))] 23) (.cells #[.int .u8 (c.toNat : Int), .int .u8 (m.toNat : Int)] 48) (.cells #[.string ⟨#[]⟩, .string ⟨#[]⟩] 23)
  have hB := (((Below.refl w.heap.size w).alloc (Nat.le_refl _) (.cells #[.string (str (textS r)), .string (str (maskS r))] 23)).alloc (by simp) (.cells #[.int .u8 (c.toNat : Int), .int .u8 (m.toNat : Int)] 48)).alloc (by simp; omega) (.cells #[.string ⟨#[]⟩, .string ⟨#[]⟩] 23)
  generalize textS r = t at *
  generalize maskS r = k at *
  obtain ⟨hA0, hA1, hA2⟩ := hA
  have HA0 := Lib.hid hA0
  have HA1 := Lib.hid hA1
  have HA2 := Lib.hid hA2
  have HB := Lib.hid hB
  clear hA0 hA1 hA2 hB
  go_enter Try.func22, Try.ntmps22
  go_upto_region 1 with fail
  generalize ((w.alloc (.cells #[.string (str t), .string (str k)] 23)).alloc (.cells #[.int .u8 (c.toNat : Int), .int .u8 (m.toNat : Int)] 48)).alloc (.cells #[.string ⟨#[]⟩, .string ⟨#[]⟩] 23) = wl at *
  have K0 : Hid (wl.cell? ⟨w.heap.size, 0, none⟩ = some (.string (str t))) := by show _ = _; have := HA0.out; simp [World.cell?, this]
  have K1 : Hid (wl.cell? ⟨w.heap.size, 1, none⟩ = some (.string (str k))) := by show _ = _; have := HA0.out; simp [World.cell?, this]
  have K2 : Hid (wl.cell? ⟨w.heap.size + 1, 0, none⟩ = some (.int .u8 (c.toNat : Int))) := by show _ = _; have := HA1.out; simp [World.cell?, this]
  have K3 : Hid (wl.cell? ⟨w.heap.size + 1, 1, none⟩ = some (.int .u8 (m.toNat : Int))) := by show _ = _; have := HA1.out; simp [World.cell?, this]
  refine Rg.wp_region_rgt 11 [] [Rg.Is (.pointer (some ⟨w.heap.size, 0, none⟩)), Rg.Is (.string (str t)), Rg.Is (.slice (some ⟨w.heap.size + 1, 0, none⟩) 1 2), Rg.Is (.string (str [c])), Rg.Is (.string (str (t ++ [c]))), Rg.Is (.pointer (some ⟨w.heap.size, 1, none⟩)), Rg.Is (.string (str k)), Rg.Is (.slice (some ⟨w.heap.size + 1, 1, none⟩) 1 1), Rg.Is (.string (str [m])), Rg.Is (.string (str (k ++ [m]))), Rg.Is (.agg #[.string (str (t ++ [c])), .string (str (k ++ [m]))])] (by kernel_rfl) (by kernel_rfl) (of_decide_eq_true (by kernel_rfl)) (by kernel_rfl) (by kernel_rfl) ⟨Rg.st_is _, Rg.st_is _, Rg.st_is _, Rg.st_is _, Rg.st_is _, Rg.st_is _, Rg.st_is _, Rg.st_is _, Rg.st_is _, Rg.st_is _, Rg.st_is _, trivial⟩ ⟨rfl, rfl, rfl, rfl, rfl, rfl, rfl, rfl, rfl, rfl, rfl, trivial⟩ ⟨?_, ?_, ?_, ?_, ?_, ?_, ?_, ?_, ?_, ?_, ?_, trivial⟩ ?_
  · intro _ a wx hb hk
    have h2 : a.eval (.tmp 2) = .pointer (some ⟨w.heap.size, 0, none⟩) := Eq.mp (by kernel_rfl) (hk 2 (by decide))
    exact Rs.does_field _ _ h2 (row_f0 w.heap.size 0 wx) ⟨Below.refl _ _, rfl⟩
  · intro _ a wx hb hk
    have h5 : a.eval (.tmp 5) = .pointer (some ⟨w.heap.size, 0, none⟩) := Eq.mp (by kernel_rfl) (hk 5 (by decide))
    exact Rg.does_load _ _ h5 (load_sp_str (cell_below hb (Nat.le_refl _) K0.out)) ⟨Below.refl _ _, rfl⟩
  · intro _ a wx hb hk
    have h3 : a.eval (.tmp 3) = .pointer (some ⟨w.heap.size + 1, 0, none⟩) := Eq.mp (by kernel_rfl) (hk 3 (by decide))
    refine Rg.does_slice _ (by rw [h3]; exact slice_pair_h wx (w.heap.size + 1)) ⟨Below.refl _ _, rfl⟩
  · intro _ a wx hb hk
    have h7 : a.eval (.tmp 7) = .slice (some ⟨w.heap.size + 1, 0, none⟩) 1 2 := Eq.mp (by kernel_rfl) (hk 7 (by decide))
    exact Rg.does_convert _ _ h7 (run_string_bytes (bytes_cell (cell_below hb (Nat.le_refl _) K2.out) (by omega) (by unfold maxLen; omega)) _ _ _ Try.underlying54 Try.underlying5 Try.underlying9) ⟨Below.refl _ _, rfl⟩
  · intro _ a wx hb hk
    have h6 : a.eval (.tmp 6) = .string (str t) := Eq.mp (by kernel_rfl) (hk 6 (by decide))
    have h8 : a.eval (.tmp 8) = .string (str [c]) := Eq.mp (by kernel_rfl) (hk 8 (by decide))
    exact Sw.does_bin_str _ _ _ h6 h8 (Sw.run_cat (by simp; omega)) ⟨Below.refl _ _, rfl⟩
  · intro _ a wx hb hk
    have h2 : a.eval (.tmp 2) = .pointer (some ⟨w.heap.size, 0, none⟩) := Eq.mp (by kernel_rfl) (hk 2 (by decide))
    exact Rs.does_field _ _ h2 (row_f1 w.heap.size 0 wx) ⟨Below.refl _ _, rfl⟩
  · intro _ a wx hb hk
    have h10 : a.eval (.tmp 10) = .pointer (some ⟨w.heap.size, 1, none⟩) := Eq.mp (by kernel_rfl) (hk 10 (by decide))
    exact Rg.does_load _ _ h10 (load_sp_str (cell_below hb (Nat.le_refl _) K1.out)) ⟨Below.refl _ _, rfl⟩
  · intro _ a wx hb hk
    have h3 : a.eval (.tmp 3) = .pointer (some ⟨w.heap.size + 1, 0, none⟩) := Eq.mp (by kernel_rfl) (hk 3 (by decide))
    refine Rg.does_slice _ (by rw [h3]; exact slice_pair_l wx (w.heap.size + 1)) ⟨Below.refl _ _, rfl⟩
  · intro _ a wx hb hk
    have h12 : a.eval (.tmp 12) = .slice (some ⟨w.heap.size + 1, 1, none⟩) 1 1 := Eq.mp (by kernel_rfl) (hk 12 (by decide))
    exact Rg.does_convert _ _ h12 (run_string_bytes (bytes_cell (cell_below hb (Nat.le_refl _) K3.out) (by omega) (by unfold maxLen; omega)) _ _ _ Try.underlying54 Try.underlying5 Try.underlying9) ⟨Below.refl _ _, rfl⟩
  · intro _ a wx hb hk
    have h11 : a.eval (.tmp 11) = .string (str k) := Eq.mp (by kernel_rfl) (hk 11 (by decide))
    have h13 : a.eval (.tmp 13) = .string (str [m]) := Eq.mp (by kernel_rfl) (hk 13 (by decide))
    exact Sw.does_bin_str _ _ _ h11 h13 (Sw.run_cat (by simp; omega)) ⟨Below.refl _ _, rfl⟩
  · intro _ a wx hb hk
    have h9 : a.eval (.tmp 9) = .string (str (t ++ [c])) := Eq.mp (by kernel_rfl) (hk 9 (by decide))
    have h14 : a.eval (.tmp 14) = .string (str (k ++ [m])) := Eq.mp (by kernel_rfl) (hk 14 (by decide))
    exact Ap.does_buildS #[(0, .string (str (t ++ [c]))), (1, .string (str (k ++ [m])))] _ (by simp [h9, h14]) (build_row wx _ _) ⟨Below.refl _ _, rfl⟩
  intro vals wD hbD hL
  obtain ⟨g0, g1, g2, g3, g4, g5, g6, g7, g8, g9, g10, _⟩ := hL
  have g10' : vals 10 = .agg #[.string (str (t ++ [c])), .string (str (k ++ [m]))] := g10
  have HBD := Lib.hid hbD
  have HR := Lib.hid ((hbD.block _ (Array.getElem?_eq_some_iff.1 HA2.out).1).trans HA2.out)
  clear g0 g1 g2 g3 g4 g5 g6 g7 g8 g9 g10 hbD
  simp only [Rg.putAll, List.take_succ_cons, List.take_zero, List.drop_succ_cons, List.drop_zero, List.setIfInBounds_toArray, List.set_cons_succ, List.set_cons_zero, g10']
  clear g10'
  have z0 : wD.cell? ⟨w.heap.size + 1 + 1, 0, none⟩ = some (.string ⟨#[]⟩) := by have := HR.out; simp [World.cell?, this]
  have z1 : wD.cell? ⟨w.heap.size + 1 + 1, 1, none⟩ = some (.string ⟨#[]⟩) := by have := HR.out; simp [World.cell?, this]
  have z2 : wD.frozen? ⟨w.heap.size + 1 + 1, 0, none⟩ = false := by have := HR.out; simp [World.frozen?, this]
  have z3 : wD.frozen? ⟨w.heap.size + 1 + 1, 1, none⟩ = false := by have := HR.out; simp [World.frozen?, this]
  go_wp2_with fail
  have hz : ((wD.setCell ⟨w.heap.size + 1 + 1, 0, none⟩ (.string (str (t ++ [c])))).setCell ⟨w.heap.size + 1 + 1, 1, none⟩ (.string (str (k ++ [m])))).heap[w.heap.size + 1 + 1]? = some (.cells #[.string (str (t ++ [c])), .string (str (k ++ [m]))] 23) := heap_setCell_same _ _ 1 _ _ _ (heap_setCell_same _ _ 0 _ _ _ HR.out)
  have y0 : ((wD.setCell ⟨w.heap.size + 1 + 1, 0, none⟩ (.string (str (t ++ [c])))).setCell ⟨w.heap.size + 1 + 1, 1, none⟩ (.string (str (k ++ [m])))).cell? ⟨w.heap.size + 1 + 1, 0, none⟩ = some (.string (str (t ++ [c]))) := by simp only [World.cell?, hz]; rfl
  have y1 : ((wD.setCell ⟨w.heap.size + 1 + 1, 0, none⟩ (.string (str (t ++ [c])))).setCell ⟨w.heap.size + 1 + 1, 1, none⟩ (.string (str (k ++ [m])))).cell? ⟨w.heap.size + 1 + 1, 1, none⟩ = some (.string (str (k ++ [m]))) := by simp only [World.cell?, hz]; rfl
  refine bodyPost_ret (v := .agg #[.string (str (t ++ [c])), .string (str (k ++ [m]))]) (by simp [results, Try.results22, go_sem, y0, y1]) rfl ?_
  exact ⟨rfl, ((HB.out.trans (HBD.out.mono HB.out.size)).setCell (by simp; omega) _).setCell (by simp; omega) _⟩
end Go.Proofs.Ytiemlgfcmldnoaa
