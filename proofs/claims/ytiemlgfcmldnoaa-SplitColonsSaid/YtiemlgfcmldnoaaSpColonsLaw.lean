/-
  SplitColons: between separators that are no blanks stands a field each: the walk.
-/
import Derived.Test.YtiemlgfcmldnoaaSpStrs
set_option linter.unusedVariables false
set_option maxRecDepth 100000
namespace Go.Proofs.Ytiemlgfcmldnoaa
open Go.RowKit Base

theorem sep_colon : (⟨#[58]⟩ : ByteArray) = str [58] := rfl
set_option maxHeartbeats 4000000 in
theorem split_colons (w : World) (a0 : Option Addr) (n cap : Nat) (l : List (List UInt8)) (h0 : Strs w a0 n cap l) : Calls Try.prog 7 #[.slice a0 n cap] w fun e w' => e = .returned (.bool true) ∧ Below w.heap.size w w' := by
  obtain rfl := h0.len
  have hcap := h0.2.2.1
  have hncap := h0.2.1
  unfold maxLen at hcap
  have H0 := Lib.hid h0
  clear h0
  go_enter Try.func7, Try.ntmps7
  go_wp2_with fail
  refine (awake_calls w).mono ?_
  rintro e w1 ⟨rfl, hb1⟩
  obtain ⟨b, off, hrow, hidx⟩ := at_strs (H0.out.below stable_strAt hb1)
  have HRow := Lib.hid hrow
  have HIdx := Lib.hid hidx
  have HB1 := Lib.hid hb1
  clear hb1 hrow hidx H0
  by_cases hbig : 30 < l.length
  · have a1 : decide ((30 : Int) < (l.length : Int)) = true := decide_eq_true (by omega)
    have a2 : (30 : Int) < (l.length : Int) := by omega
    go_wp2_with fail
    go_ret
    exact ⟨rfl, HB1.out⟩
  have a1 : decide ((30 : Int) < (l.length : Int)) = false := decide_eq_false (by omega)
  have a2 : ¬ ((30 : Int) < (l.length : Int)) := by omega
  go_wp2_with fail
  go_loopw [4, 5] (fun v4 v5 wr => ∃ k : Nat, k ≤ l.length ∧ v5 = .int .i64 k ∧ v4 = .string (str (colons (l.take k))) ∧ (∀ x ∈ l.take k, x.length ≤ 20 ∧ (58 : UInt8) ∉ x) ∧ w1 = wr) (fun _ v5 _ => l.length - (intOf v5).toNat)
  case atStart => exact ⟨0, Nat.zero_le _, rfl, rfl, by simp, rfl⟩
  case round =>
    obtain ⟨k, hk, rfl, rfl, hall, rfl⟩ := hrel
    have HA := Lib.hid hall
    clear hall
    by_cases hlt : k < l.length
    · have hc := HRow.out k hlt
      have hix := fun W => HIdx.out .i64 k W hlt
      have HT := Lib.hid (colons_take l k hlt)
      have HN : Hid ((58 : UInt8) ∉ l[k] → l[k].length ≤ 20 → ∀ x ∈ l.take (k + 1), x.length ≤ 20 ∧ (58 : UInt8) ∉ x) := by
        show _ → _ → _
        intro h1 h2 x hx
        rw [List.take_succ_eq_append_getElem hlt] at hx
        rcases List.mem_append.1 hx with hx | hx
        · exact HA.out x hx
        · rw [List.mem_singleton.1 hx]; exact ⟨h2, h1⟩
      have hlen : (colons (l.take k)).length ≤ 30 * 21 := Nat.le_trans (colons_len (l.take k) 20 (fun x hx => (HA.out x hx).1)) (Nat.mul_le_mul_right _ (by rw [List.length_take]; omega))
      generalize l[k]'hlt = x at *
      generalize colons (l.take k) = pre at *
      have HLen := Lib.hid hlen
      clear hlen
      have hxs : (str x).size = x.length := rfl
      have u3 : decide (k < l.length) = true := decide_eq_true (by omega)
      have u1 : decide ((k : Int) < (l.length : Int)) = true := decide_eq_true (by omega)
      have u2 : (k : Int) < (l.length : Int) := by omega
      by_cases hx : 20 < x.length
      · have v1 : decide ((20 : Int) < ((str x).size : Int)) = true := decide_eq_true (by omega)
        have v2 : (20 : Int) < ((str x).size : Int) := by omega
        go_wp2_with fail
        go_ret
        exact ⟨rfl, HB1.out⟩
      have v1 : decide ((20 : Int) < ((str x).size : Int)) = false := decide_eq_false (by omega)
      have v2 : ¬ ((20 : Int) < ((str x).size : Int)) := by omega
      go_wp2_with fail
      go_loopw [6] (fun v6 wr => ∃ q : Nat, q ≤ x.length ∧ v6 = .int .i64 q ∧ (58 : UInt8) ∉ x.take q ∧ w1 = wr) (fun v6 _ => x.length - (intOf v6).toNat)
      case atStart => exact ⟨0, Nat.zero_le _, rfl, by simp, rfl⟩
      case round =>
        obtain ⟨q, hq, rfl, hno, rfl⟩ := hrel
        have HNo := Lib.hid hno
        clear hno
        by_cases hql : q < x.length
        · have hat := fun W => Sw.run_at (P := Try.prog) (w := W) Try.underlying9 x .i64 q hql
          have HTk := Lib.hid (List.take_succ_eq_append_getElem hql)
          generalize x[q]'hql = c at *
          have y3 : decide (q < (str x).size) = true := decide_eq_true (by omega)
          have y1 : decide ((q : Int) < ((str x).size : Int)) = true := decide_eq_true (by omega)
          have y2 : (q : Int) < ((str x).size : Int) := by omega
          by_cases h58 : c = 58
          · have d1 : decide ((c.toNat : Int) = 58) = true := by subst h58; rfl
            have d2 : (c.toNat : Int) = 58 := by subst h58; rfl
            clear h58
            go_wp2_with fail
            go_ret
            exact ⟨rfl, HB1.out⟩
          · have d1 : decide ((c.toNat : Int) = 58) = false := decide_eq_false (fun h => h58 (u8_eq (b := 58).1 h))
            have d2 : ¬ (c.toNat : Int) = 58 := fun h => h58 (u8_eq (b := 58).1 h)
            have HF : Hid ((58 : UInt8) ∉ x.take (q + 1)) := by
              show (58 : UInt8) ∉ _
              rw [HTk.out]
              simp only [List.mem_append, List.mem_singleton, not_or]
              exact ⟨HNo.out, fun h => h58 h.symm⟩
            clear h58
            go_wp2_with fail
            go_roundw
            case rel => exact ⟨q + 1, by omega, by go_num, HF.out, trivial⟩
            case measure => simp [intOf]; omega
        · obtain rfl : q = x.length := by omega
          have y3 : decide (x.length < (str x).size) = false := decide_eq_false (by omega)
          have y1 : decide ((x.length : Int) < ((str x).size : Int)) = false := decide_eq_false (by omega)
          have y2 : ¬ ((x.length : Int) < ((str x).size : Int)) := by omega
          have hno1 : ¬ 9223372036854775807 < (str x).size + (⟨#[58]⟩ : ByteArray).size := by rw [str_size]; show ¬ _ < _ + 1; omega
          have hno2 : ¬ 9223372036854775807 < (str pre).size + (str (x ++ [58])).size := by rw [str_size, str_size, List.length_append]; have := HLen.out; simp; omega
          have hap : str x ++ (⟨#[58]⟩ : ByteArray) = str (x ++ [58]) := by rw [sep_colon, str_append]
          go_wp2_with fail
          go_roundw
          case rel => exact ⟨k + 1, by omega, by go_num, by rw [str_append, HT.out], HN.out (by have := HNo.out; rwa [List.take_length] at this) (by omega), trivial⟩
          case measure => simp [intOf]; omega
    · obtain rfl : k = l.length := by omega
      have u3 : decide (l.length < l.length) = false := decide_eq_false (by omega)
      have u1 : decide ((l.length : Int) < (l.length : Int)) = false := decide_eq_false (by omega)
      have u2 : ¬ ((l.length : Int) < (l.length : Int)) := by omega
      rw [List.take_length] at *
      have hlen : (colons l).length ≤ 30 * 21 := Nat.le_trans (colons_len l 20 (fun x hx => (HA.out x hx).1)) (Nat.mul_le_mul_right _ (by omega))
      have HL : Hid (∀ x ∈ l, (58 : UInt8) ∉ x) := fun x hx => (HA.out x hx).2
      clear HA
      have HOf := Lib.hid fun W => of_calls2 W (colons l) 115 (by omega)
      have HSp := Lib.hid fun W => split_of_calls W (colons l) [58] 115 (by omega)
      rw [colons_split l HL.out] at HSp
      have HOf2 := Lib.hid fun W => of_calls2 W (colons l) 113 (by omega)
      have HSp2 := Lib.hid fun W => split_of_calls W (colons l) [58] 113 (by omega)
      rw [quoted_split] at HSp2
      clear hlen HL
      generalize colons l = s at *
      go_wp2_with fail
      refine (HOf.out w1).mono ?_
      rintro e w2 ⟨rfl, hb2⟩
      have HB2 := Lib.hid (HB1.out.trans (hb2.mono HB1.out.size))
      have HC2 : Hid (∀ k (hk : k < l.length), w2.cell? ⟨b, off + k, none⟩ = some (.string (str l[k]))) := fun k hk => cell_below hb2 (Nat.le_refl _) (HRow.out k hk)
      clear hb2 HB1 HRow
      go_wp2_with fail
      refine (HSp.out w2).mono ?_
      rintro e w3 ⟨v, rfl, hown, hb3⟩
      obtain ⟨a1, k1, rfl, hrow1⟩ := Ap.own_cells (f := rowCells) (by decide) rowCells_len hown
      have HB3 := Lib.hid (HB2.out.trans (hb3.mono HB2.out.size))
      have HC3 : Hid (∀ k (hk : k < l.length), w3.cell? ⟨b, off + k, none⟩ = some (.string (str l[k]))) := fun k hk => cell_below hb3 (Nat.le_refl _) (HC2.out k hk)
      simp only [List.length_map] at hrow1 ⊢
      obtain ⟨b1, o1, hcs, hix1⟩ := rows_at hrow1
      have HD3 : Hid (∀ k (hk : k < l.length), w3.cell? ⟨b1, o1 + k * 2, none⟩ = some (.string (str l[k]))) := fun k hk => by
        have h1 := (hcs k (by rw [List.length_map]; exact hk)).1
        rw [List.getElem_map, ofS_text] at h1
        exact h1
      have HI1 := Lib.hid hix1
      clear hown hb3 hrow1 hcs hix1 HC2 HB2 HOf HSp
      go_wp2_with fail
      go_loopw [8] (fun v8 wr => ∃ k : Nat, k ≤ l.length ∧ v8 = .int .i64 k ∧ Below w3.heap.size w3 wr) (fun v8 _ => l.length - (intOf v8).toNat)
      case atStart => exact ⟨0, Nat.zero_le _, rfl, Below.refl _ _⟩
      case round =>
        obtain ⟨k, hk, rfl, hb⟩ := hrel
        have HB := Lib.hid hb
        clear hb
        by_cases hlt : k < l.length
        · have HX1 := Lib.hid fun W => HI1.out .i64 k W hlt
          have HX2 := Lib.hid fun W => HIdx.out .i64 k W hlt
          have A0 := Lib.hid (cell_below HB.out (Nat.le_refl _) (HD3.out k hlt))
          have B0 := Lib.hid (cell_below HB.out (Nat.le_refl _) (HC3.out k hlt))
          generalize l[k]'hlt = x at *
          generalize o1 + k * 2 = q1 at *
          generalize off + k = q2 at *
          have u3 : decide (k < l.length) = true := decide_eq_true (by omega)
          have u1 : decide ((k : Int) < (l.length : Int)) = true := decide_eq_true (by omega)
          have u2 : (k : Int) < (l.length : Int) := by omega
          go_wp2_with fail
          refine Rg.wp_region_rgl [] [Rg.Is (.slice a1 l.length k1), Rg.Is (.int .i64 (k : Int)), Rg.Is (.pointer (some ⟨b1, q1, none⟩)), Rg.Is (.pointer (some ⟨b1, q1, none⟩)), Rg.Is (.string (str x)), Rg.Is (.slice a0 l.length cap), Rg.Is (.int .i64 (k : Int)), Rg.Is (.pointer (some ⟨b, q2, none⟩)), Rg.Is (.string (str x)), Rg.Is (.bool false)] (by kernel_rfl) (by kernel_rfl) (by kernel_rfl) ⟨Rg.st_is _, Rg.st_is _, Rg.st_is _, Rg.st_is _, Rg.st_is _, Rg.st_is _, Rg.st_is _, Rg.st_is _, Rg.st_is _, Rg.st_is _, trivial⟩ ⟨rfl, rfl, rfl, rfl, rfl, rfl, rfl, rfl, rfl, rfl, trivial⟩ ⟨?_, ?_, ?_, ?_, ?_, ?_, ?_, ?_, ?_, ?_, trivial⟩ ?_
          · intro _ a wx hb hk
            have h7 : a.eval (.tmp 7) = .slice a1 l.length k1 := Eq.mp (by kernel_rfl) (hk 7 (by decide))
            exact Rg.does_move ⟨Below.refl _ _, h7⟩
          · intro _ a wx hb hk
            have h8 : a.eval (.tmp 8) = .int .i64 (k : Int) := Eq.mp (by kernel_rfl) (hk 8 (by decide))
            exact Rg.does_move ⟨Below.refl _ _, h8⟩
          · intro _ a wx hb hk
            have h65 : a.eval (.tmp 65) = .slice a1 l.length k1 := Eq.mp (by kernel_rfl) (hk 65 (by decide))
            have h66 : a.eval (.tmp 66) = .int .i64 (k : Int) := Eq.mp (by kernel_rfl) (hk 66 (by decide))
            exact Rg.does_index _ _ _ h65 h66 (HX1.out wx) ⟨Below.refl _ _, rfl⟩
          · intro _ a wx hb hk
            have h67 : a.eval (.tmp 67) = .pointer (some ⟨b1, q1, none⟩) := Eq.mp (by kernel_rfl) (hk 67 (by decide))
            exact Rs.does_field _ _ h67 (row_f0 _ _ wx) ⟨Below.refl _ _, rfl⟩
          · intro _ a wx hb hk
            have h68 : a.eval (.tmp 68) = .pointer (some ⟨b1, q1, none⟩) := Eq.mp (by kernel_rfl) (hk 68 (by decide))
            exact Rg.does_load _ _ h68 (load_sp_str (cell_below hb (Nat.le_refl _) A0.out)) ⟨Below.refl _ _, rfl⟩
          · intro _ a wx hb hk
            have h0 : a.eval (.tmp 0) = .slice a0 l.length cap := Eq.mp (by kernel_rfl) (hk 0 (by decide))
            exact Rg.does_move ⟨Below.refl _ _, h0⟩
          · intro _ a wx hb hk
            have h8 : a.eval (.tmp 8) = .int .i64 (k : Int) := Eq.mp (by kernel_rfl) (hk 8 (by decide))
            exact Rg.does_move ⟨Below.refl _ _, h8⟩
          · intro _ a wx hb hk
            have h70 : a.eval (.tmp 70) = .slice a0 l.length cap := Eq.mp (by kernel_rfl) (hk 70 (by decide))
            have h71 : a.eval (.tmp 71) = .int .i64 (k : Int) := Eq.mp (by kernel_rfl) (hk 71 (by decide))
            exact Rg.does_index _ _ _ h70 h71 (HX2.out wx) ⟨Below.refl _ _, rfl⟩
          · intro _ a wx hb hk
            have h72 : a.eval (.tmp 72) = .pointer (some ⟨b, q2, none⟩) := Eq.mp (by kernel_rfl) (hk 72 (by decide))
            exact Rg.does_load _ _ h72 (load_sp_str (cell_below hb (Nat.le_refl _) B0.out)) ⟨Below.refl _ _, rfl⟩
          · intro _ a wx hb hk
            have h69 : a.eval (.tmp 69) = .string (str x) := Eq.mp (by kernel_rfl) (hk 69 (by decide))
            have h73 : a.eval (.tmp 73) = .string (str x) := Eq.mp (by kernel_rfl) (hk 73 (by decide))
            exact Sw.does_bin_str _ _ _ h69 h73 (neq_str_same _ wx) ⟨Below.refl _ _, rfl⟩
          intro vals wD hbD hL
          obtain ⟨g0, g1, g2, g3, g4, g5, g6, g7, g8, g9, _⟩ := hL
          have g9' : vals 9 = .bool false := g9
          have HBD := Lib.hid hbD
          clear g0 g1 g2 g3 g4 g5 g6 g7 g8 g9 hbD
          simp only [Rg.putAll, List.setIfInBounds_toArray, List.set_cons_succ, List.set_cons_zero, g9']
          clear g9'
          go_wp2_with fail
          go_roundw
          case rel => exact ⟨k + 1, by omega, by go_num, HB.out.trans (HBD.out.mono HB.out.size)⟩
          case measure => simp [intOf]; omega
        · obtain rfl : k = l.length := by omega
          have u3 : decide (l.length < l.length) = false := decide_eq_false (by omega)
          have u1 : decide ((l.length : Int) < (l.length : Int)) = false := decide_eq_false (by omega)
          have u2 : ¬ ((l.length : Int) < (l.length : Int)) := by omega
          have HB4 := Lib.hid (HB3.out.trans (HB.out.mono HB3.out.size))
          clear HB HB3 HC3 HD3 HI1
          go_wp2_with fail
          refine (HOf2.out wr).mono ?_
          rintro e w4 ⟨rfl, hb4⟩
          have HB5 := Lib.hid (HB4.out.trans (hb4.mono HB4.out.size))
          clear hb4 HB4
          have hst : (str s).toList = s := str_toList s
          by_cases hs : s = []
          · rw [if_pos hs] at HSp2
            subst hs
            have t4 : (str []).toList.isEmpty = true := by rw [str_toList]; rfl
            go_wp2_with fail
            refine (HSp2.out w4).mono ?_
            rintro e w5 ⟨v, rfl, hown, hb5⟩
            obtain ⟨a2, k2, rfl, hrow2⟩ := Ap.own_cells (f := rowCells) (by decide) rowCells_len hown
            have HB6 := Lib.hid (HB5.out.trans (hb5.mono HB5.out.size))
            clear hb5 hown hrow2 HB5
            simp only [List.length_nil]
            go_wp2_with fail
            go_ret
            exact ⟨rfl, HB6.out⟩
          · rw [if_neg hs] at HSp2
            have t4 : (str s).toList.isEmpty = false := by rw [str_toList]; simpa using hs
            have t5 : s.isEmpty = false := by simpa using hs
            have t6 : (s == []) = false := by simpa using hs
            clear hs
            go_wp2_with fail
            refine (HSp2.out w4).mono ?_
            rintro e w5 ⟨v, rfl, hown, hb5⟩
            obtain ⟨a2, k2, rfl, hrow2⟩ := Ap.own_cells (f := rowCells) (by decide) rowCells_len hown
            have HB6 := Lib.hid (HB5.out.trans (hb5.mono HB5.out.size))
            obtain ⟨b2, o2, hcs, hix2⟩ := rows_at hrow2
            have c0 : w5.cell? ⟨b2, o2, none⟩ = some (.string (str s)) := by have := (hcs 0 (by simp)).1; rw [show ([ofS s 113] : List SRow)[0] = ofS s 113 from rfl, ofS_text] at this; simpa using this
            have x0 : ∀ W, Sem.run Try.prog (Instr.indexAt 25 (.slice a2 1 k2) (.int .i64 0)) W = .ok (.pointer (some ⟨b2, o2, none⟩)) W := fun W => by have := hix2 .i64 0 W (by simp); simpa using this
            clear hb5 hown hrow2 HB5 hcs hix2
            simp only [List.length_cons, List.length_nil]
            go_wp2_with fail
            go_ret
            exact ⟨rfl, HB6.out⟩
end Go.Proofs.Ytiemlgfcmldnoaa
