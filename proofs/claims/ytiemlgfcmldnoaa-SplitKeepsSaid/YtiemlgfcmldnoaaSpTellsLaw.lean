/-
  SplitTells: the fields of any row are the document's: the walk.
-/
import Derived.Test.YtiemlgfcmldnoaaSpAwake
set_option linter.unusedVariables false
set_option maxRecDepth 100000
namespace Go.Proofs.Ytiemlgfcmldnoaa
open Go.RowKit Base

theorem neq_ref {t m t2 m2 : ByteArray} (h : t = t2) (h2 : m = m2) (w : World) : (binOp .neq 29 (.agg #[.string t, .string m]) (.agg #[.string t2, .string m2])).run Try.prog w = .ok (.bool false) w := by
  subst h; subst h2
  rw [run_neq_struct, eq_ref]
  simp [Result.andThen]
theorem load_rref {w : World} {b o : Nat} {x y : Value} (h0 : w.cell? ⟨b, o, none⟩ = some x) (h1 : w.cell? ⟨b, o + 1, none⟩ = some y) : (Instr.loadAt 29 (.pointer (some ⟨b, o, none⟩))).run Try.prog w = .ok (.agg #[x, y]) w := by
  go_simp
theorem does_bin_agg {P : Program} {a : Act} {w : World} {post : Value → World → Prop} {dst : Option Tmp} {op : BinOp} {x y : Operand} {t u : TypeId} {ty : TypeId} {pos : String} {after : Array Edge} {guard : Option (Nat × Bool)} (xs ys : Array Value) (v : Value)
    (hx : a.eval x = .agg xs) (hy : a.eval y = .agg ys) (hm2 : P.eqGuardType P.depth t = false) (hr : (binOp op t (.agg xs) (.agg ys)).run P w = .ok v w) (hp : post v w) : Rg.does P { dst, op := .binOp op t x y u, type := ty, pos, after, guard } a w post := by
  refine Rg.does_value (v := v) ?_ hp
  simp [execOp, hx, hy, run_eqGuard_agg, hm2, hr, Result.andThen]
set_option maxHeartbeats 4000000 in
theorem split_tells (w : World) (t m ifs : ByteArray) : Calls Try.prog 3 #[.agg #[.string t, .string m], .string ifs] w fun e w' => e = .returned (.bool true) ∧ Below w.heap.size w w' := by
  obtain ⟨t, rfl⟩ : ∃ l, t = str l := ⟨t.data.toList, (str_of t).symm⟩
  obtain ⟨m, rfl⟩ : ∃ l, m = str l := ⟨m.data.toList, (str_of m).symm⟩
  obtain ⟨ifs, rfl⟩ : ∃ l, ifs = str l := ⟨ifs.data.toList, (str_of ifs).symm⟩
  have e1 : (str t).size = t.length := rfl
  have e2 : (str m).size = m.length := rfl
  have e3 : (str ifs).size = ifs.length := rfl
  have HA := Lib.hid (heap_alloc_new w (.cells #[.string (str t), .string (str m)] 23))
  have HB := Lib.hid ((Below.refl w.heap.size w).alloc (Nat.le_refl _) (.cells #[.string (str t), .string (str m)] 23))
  go_enter Try.func3, Try.ntmps3
  go_wp2_with fail
  generalize w.alloc (.cells #[.string (str t), .string (str m)] 23) = w1 at *
  refine (awake_calls w1).mono ?_
  rintro e w2 ⟨rfl, hb2⟩
  have HA2 := Lib.hid ((hb2.block _ (Array.getElem?_eq_some_iff.1 HA.out).1).trans HA.out)
  have HB2 := Lib.hid (HB.out.trans (hb2.mono HB.out.size))
  clear hb2 HA HB
  obtain ⟨c0, c1, y0, y1⟩ := row_facts HA2.out
  by_cases h1 : 200 < t.length
  · have a1 : decide ((200 : Int) < ((str t).size : Int)) = true := decide_eq_true (by omega)
    have a2 : (200 : Int) < ((str t).size : Int) := by omega
    go_wp2_with fail
    go_ret
    exact ⟨rfl, HB2.out⟩
  have a1 : decide ((200 : Int) < ((str t).size : Int)) = false := decide_eq_false (by omega)
  have a2 : ¬ ((200 : Int) < ((str t).size : Int)) := by omega
  by_cases h2 : 200 < m.length
  · have b1 : decide ((200 : Int) < ((str m).size : Int)) = true := decide_eq_true (by omega)
    have b2 : (200 : Int) < ((str m).size : Int) := by omega
    go_wp2_with fail
    go_ret
    exact ⟨rfl, HB2.out⟩
  have b1 : decide ((200 : Int) < ((str m).size : Int)) = false := decide_eq_false (by omega)
  have b2 : ¬ ((200 : Int) < ((str m).size : Int)) := by omega
  by_cases h3 : 30 < ifs.length
  · have d1 : decide ((30 : Int) < ((str ifs).size : Int)) = true := decide_eq_true (by omega)
    have d2 : (30 : Int) < ((str ifs).size : Int) := by omega
    go_wp2_with fail
    go_ret
    exact ⟨rfl, HB2.out⟩
  have d1 : decide ((30 : Int) < ((str ifs).size : Int)) = false := decide_eq_false (by omega)
  have d2 : ¬ ((30 : Int) < ((str ifs).size : Int)) := by omega
  have HSp := Lib.hid fun W => sp_split_calls W t m ifs (by omega) (by omega)
  have HRf := Lib.hid fun W => ref_split_calls W t m ifs (by omega) (by omega) (by omega)
  generalize splitB ifs (t.zip m) = L at *
  go_wp2_with fail
  refine (HSp.out w2).mono ?_
  rintro e w3 ⟨v, rfl, hown, hb3⟩
  obtain ⟨a1, k1, rfl, hrow⟩ := Ap.own_cells (f := rowCells) (by decide) rowCells_len hown
  have HA3 := Lib.hid ((hb3.block _ (Array.getElem?_eq_some_iff.1 HA2.out).1).trans HA2.out)
  have HB3 := Lib.hid (HB2.out.trans (hb3.mono HB2.out.size))
  have HRow := Lib.hid hrow
  clear hown hb3 hrow c0 c1 y0 y1
  obtain ⟨c0, c1, y0, y1⟩ := row_facts HA3.out
  go_wp2_with fail
  refine (of_calls w3 (str t) (str m)).mono ?_
  rintro e w4 ⟨rfl, hb4⟩
  have HB4 := Lib.hid (HB3.out.trans (hb4.mono HB3.out.size))
  have HRow4 := Lib.hid (HRow.out.below (Ap.stable_cellsAt rowCells) hb4)
  clear hb4 c0 c1 y0 y1 HRow
  go_wp2_with fail
  refine (HRf.out w4).mono ?_
  rintro e w5 ⟨v, rfl, hown, hb5⟩
  obtain ⟨a2, k2, rfl, hrow2⟩ := Ap.own_cells (f := rowCells) (by decide) rowCells_len hown
  have HB5 := Lib.hid (HB4.out.trans (hb5.mono HB4.out.size))
  have HRow5 := Lib.hid (HRow4.out.below (Ap.stable_cellsAt rowCells) hb5)
  have HRow2 := Lib.hid hrow2
  have hL : L.length ≤ 9223372036854775807 := by have h1 := HRow4.out.2.1; have h2 := HRow4.out.2.2.1; unfold maxLen at h2; omega
  clear hown hb5 hrow2 HRow4 HSp HRf
  go_wp2_with fail
  go_loopw [8] (fun v8 wr => ∃ k : Nat, k ≤ L.length ∧ v8 = .int .i64 k ∧ Below w5.heap.size w5 wr) (fun v8 _ => L.length - (intOf v8).toNat)
  case atStart => exact ⟨0, Nat.zero_le _, rfl, Below.refl _ _⟩
  case round =>
    obtain ⟨k, hk, rfl, hb⟩ := hrel
    have HB := Lib.hid hb
    clear hb
    by_cases hlt : k < L.length
    · obtain ⟨i0, hi, hi2⟩ := info_rowI
      obtain ⟨j0, hj, hj2, hj3, hj4⟩ := info_parts info_rref
      obtain ⟨b1, o1, hc1, hx1⟩ := (HRow5.out.below (Ap.stable_cellsAt rowCells) HB.out).at (P := Try.prog)
      obtain ⟨b2, o2, hc2, hx2⟩ := (HRow2.out.below (Ap.stable_cellsAt rowCells) HB.out).at (P := Try.prog)
      have HX1 := Lib.hid fun W => hx1 25 23 i0 Try.underlying25 hi hi2 .i64 k W hlt
      have HX2 := Lib.hid fun W => hx2 27 29 j0 Try.underlying27 hj hj3 .i64 k W hlt
      have hr1 := hc1 k hlt
      have hr2 := hc2 k hlt
      clear hc1 hc2 hx1 hx2 hi hi2 hj hj2 hj3 hj4
      generalize L[k]'hlt = x at *
      have A0 := Lib.hid (hr1 0 _ rfl)
      have A1 := Lib.hid (hr1 1 _ rfl)
      have B0 := Lib.hid (hr2 0 _ rfl)
      have B1 := Lib.hid (hr2 1 _ rfl)
      clear hr1 hr2
      generalize o1 + k * 2 = q1 at *
      generalize o2 + k * 2 = q2 at *
      have u3 : decide (k < L.length) = true := decide_eq_true (by omega)
      have u1 : decide ((k : Int) < (L.length : Int)) = true := decide_eq_true (by omega)
      have u2 : (k : Int) < (L.length : Int) := by omega
      go_wp2_with fail
      refine Rg.wp_region_rgt 10 [] [Rg.Is (.slice a1 L.length k1), Rg.Is (.int .i64 (k : Int)), Rg.Is (.pointer (some ⟨b1, q1, none⟩)), Rg.Is (.agg #[.string (str (textS x)), .string (str (maskS x))]), Rg.Is (.agg #[.string (str (textS x)), .string (str (maskS x))]), Rg.Is (.slice a2 L.length k2), Rg.Is (.int .i64 (k : Int)), Rg.Is (.pointer (some ⟨b2, q2, none⟩)), Rg.Is (.agg #[.string (str (textS x)), .string (str (maskS x))]), Rg.Is (.bool false)] (by kernel_rfl) (by kernel_rfl) (of_decide_eq_true (by kernel_rfl)) (by kernel_rfl) (by kernel_rfl) ⟨Rg.st_is _, Rg.st_is _, Rg.st_is _, Rg.st_is _, Rg.st_is _, Rg.st_is _, Rg.st_is _, Rg.st_is _, Rg.st_is _, Rg.st_is _, trivial⟩ ⟨rfl, rfl, rfl, rfl, rfl, rfl, rfl, rfl, rfl, rfl, trivial⟩ ⟨?_, ?_, ?_, ?_, ?_, ?_, ?_, ?_, ?_, ?_, trivial⟩ ?_
      · intro _ a wx hb hk
        have h6 : a.eval (.tmp 6) = .slice a1 L.length k1 := Eq.mp (by kernel_rfl) (hk 6 (by decide))
        exact Rg.does_move ⟨Below.refl _ _, h6⟩
      · intro _ a wx hb hk
        have h8 : a.eval (.tmp 8) = .int .i64 (k : Int) := Eq.mp (by kernel_rfl) (hk 8 (by decide))
        exact Rg.does_move ⟨Below.refl _ _, h8⟩
      · intro _ a wx hb hk
        have h45 : a.eval (.tmp 45) = .slice a1 L.length k1 := Eq.mp (by kernel_rfl) (hk 45 (by decide))
        have h46 : a.eval (.tmp 46) = .int .i64 (k : Int) := Eq.mp (by kernel_rfl) (hk 46 (by decide))
        exact Rg.does_index _ _ _ h45 h46 (HX1.out wx) ⟨Below.refl _ _, rfl⟩
      · intro _ a wx hb hk
        have h47 : a.eval (.tmp 47) = .pointer (some ⟨b1, q1, none⟩) := Eq.mp (by kernel_rfl) (hk 47 (by decide))
        exact Rg.does_load _ _ h47 (load_row (cell_below hb (Nat.le_refl _) A0.out) (cell_below hb (Nat.le_refl _) A1.out)) ⟨Below.refl _ _, rfl⟩
      · intro _ a wx hb hk
        have h48 : a.eval (.tmp 48) = .agg #[.string (str (textS x)), .string (str (maskS x))] := Eq.mp (by kernel_rfl) (hk 48 (by decide))
        refine Rg.does_func #[.agg #[.string (str (textS x)), .string (str (maskS x))]] Try.func11 (by kernel_rfl) (by kernel_rfl) (by simp [h48]) (of_calls wx (str (textS x)) (str (maskS x))) ?_
        rintro e w' ⟨rfl, hb'⟩
        exact ⟨_, rfl, hb', rfl⟩
      · intro _ a wx hb hk
        have h7 : a.eval (.tmp 7) = .slice a2 L.length k2 := Eq.mp (by kernel_rfl) (hk 7 (by decide))
        exact Rg.does_move ⟨Below.refl _ _, h7⟩
      · intro _ a wx hb hk
        have h8 : a.eval (.tmp 8) = .int .i64 (k : Int) := Eq.mp (by kernel_rfl) (hk 8 (by decide))
        exact Rg.does_move ⟨Below.refl _ _, h8⟩
      · intro _ a wx hb hk
        have h50 : a.eval (.tmp 50) = .slice a2 L.length k2 := Eq.mp (by kernel_rfl) (hk 50 (by decide))
        have h51 : a.eval (.tmp 51) = .int .i64 (k : Int) := Eq.mp (by kernel_rfl) (hk 51 (by decide))
        exact Rg.does_index _ _ _ h50 h51 (HX2.out wx) ⟨Below.refl _ _, rfl⟩
      · intro _ a wx hb hk
        have h52 : a.eval (.tmp 52) = .pointer (some ⟨b2, q2, none⟩) := Eq.mp (by kernel_rfl) (hk 52 (by decide))
        exact Rg.does_load _ _ h52 (load_rref (cell_below hb (Nat.le_refl _) B0.out) (cell_below hb (Nat.le_refl _) B1.out)) ⟨Below.refl _ _, rfl⟩
      · intro _ a wx hb hk
        have h49 : a.eval (.tmp 49) = .agg #[.string (str (textS x)), .string (str (maskS x))] := Eq.mp (by kernel_rfl) (hk 49 (by decide))
        have h53 : a.eval (.tmp 53) = .agg #[.string (str (textS x)), .string (str (maskS x))] := Eq.mp (by kernel_rfl) (hk 53 (by decide))
        exact does_bin_agg _ _ _ h49 h53 (by kernel_rfl) (neq_ref rfl rfl wx) ⟨Below.refl _ _, rfl⟩
      intro vals wD hbD hL
      obtain ⟨g0, g1, g2, g3, g4, g5, g6, g7, g8, g9, _⟩ := hL
      have g9' : vals 9 = .bool false := g9
      have HBD := Lib.hid hbD
      clear g0 g1 g2 g3 g4 g5 g6 g7 g8 g9 hbD
      simp only [Rg.putAll, List.take_succ_cons, List.take_zero, List.drop_succ_cons, List.drop_zero, List.setIfInBounds_toArray, List.set_cons_succ, List.set_cons_zero, g9']
      clear g9'
      go_wp2_with fail
      go_roundw
      case rel => exact ⟨k + 1, by omega, by go_num, HB.out.trans (HBD.out.mono HB.out.size)⟩
      case measure => simp [intOf]; omega
    · obtain rfl : k = L.length := by omega
      have u3 : decide (L.length < L.length) = false := decide_eq_false (by omega)
      have u1 : decide ((L.length : Int) < (L.length : Int)) = false := decide_eq_false (by omega)
      have u2 : ¬ ((L.length : Int) < (L.length : Int)) := by omega
      go_wp2_with fail
      go_ret
      exact ⟨rfl, HB5.out.trans (HB.out.mono HB5.out.size)⟩
end Go.Proofs.Ytiemlgfcmldnoaa
