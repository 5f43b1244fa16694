/-
  A variable is set. Conditions: the row rises, and is not too long.
-/
import Derived.Test.YtchmpkgjjkfjcaaDoorEnWalks2
set_option linter.unusedVariables false
set_option maxRecDepth 100000
namespace Go.Proofs.YtchmpkgjjkfjcaaDoor
open Go.RowKit Base

def setB (s x : Nm) (l : List Vr) : List Vr := if nameB s = true then withB s x l else l
/-- The new variables lie in rows of the call's own, or in those that came in. -/
def SetPost (w : World) (v : Value) (l l' : List Vr) (g : Value) (st : Int) (fl : Nm) (e : Ending) (w' : World) : Prop := ∃ v', e = .returned (.agg #[v', g, .int .i64 st, .string (str fl)]) ∧ (∀ base, base ≤ w.heap.size → OwnV w base v l → OwnV w' base v' l') ∧ Below w.heap.size w w'
theorem own_box0 {w : World} {B : Nat} {v : Value} {l : List Vr} (h : OwnV w (B + 2) v l) (u0 u1 u2 u3 : Value) : OwnV ((((w.setCell ⟨B, 0, none⟩ u0).setCell ⟨B, 1, none⟩ u1).setCell ⟨B, 2, none⟩ u2).setCell ⟨B, 3, none⟩ u3) (B + 2) v l := by
  show World.ownsRow _ _ _ _ _ _ _
  have hh : w.ownsRow (B + 2) 36 2 v l.length (l.flatMap vrC) := h
  exact ownsRow_setCell_below (ownsRow_setCell_below (ownsRow_setCell_below (ownsRow_setCell_below hh (by show B < _; omega) _) (by show B < _; omega) _) (by show B < _; omega) _) (by show B < _; omega) _
set_option maxHeartbeats 2000000 in
theorem en_set_calls (w : World) (a : Option Addr) (n c : Nat) (l : List Vr) (st : Int) (fl s x : Nm) (ga : Option Addr) (gn gc : Nat) (h : Vrs w a n c l) (hr : Rises l) (hl : l.length ≤ 900000) (hs : s.length ≤ 9223372036854775807) :
    Calls Tryd.prog 8 #[.agg #[.slice a n c, .slice ga gn gc, .int .i64 st, .string (str fl)], .string (str s), .string (str x)] w (SetPost w (.slice a n c) l (setB s x l) (.slice ga gn gc) st fl) := by
  obtain rfl := h.1
  have HN := Lib.hid fun W => name_calls W s hs
  have HU := Lib.hid fun W (hv : Vrs W a l.length c l) => en_unset_calls W a l.length c l st fl s ga gn gc hv hr (by omega)
  have hr2 := rises_without s hr
  have hl2 : (withoutB l s).length ≤ 900000 := Nat.le_trans (without_len s l) hl
  have HF := Lib.hid fun W a c (hv : Vrs W a (withoutB l s).length c (withoutB l s)) => en_find_calls W a _ c (withoutB l s) (.slice ga gn gc) st fl s ga gn gc hv hr2 (by omega)
  have HP := Lib.hid (parts_low hr2 s)
  have HE := Lib.hid (insert_eq s x hr2 HP.out)
  have HL := Lib.hid hl2
  have HI := Lib.hid (parts_low hr2 s).1
  have H := Lib.hid h
  clear h hr hl hr2 hl2
  go_enter Tryd.func8, Tryd.ntmps8
  go_wp2_with fail
  obtain ⟨hb0, hb1, hbB, hbs⟩ := two_boxes w (.cells #[.slice a l.length c, .slice ga gn gc, .int .i64 st, .string (str fl)] 28) (.cells #[.slice none 0 0, .slice none 0 0, .int .i64 0, .string ⟨#[]⟩] 28)
  generalize (w.alloc (.cells #[.slice a l.length c, .slice ga gn gc, .int .i64 st, .string (str fl)] 28)).alloc (.cells #[.slice none 0 0, .slice none 0 0, .int .i64 0, .string ⟨#[]⟩] 28) = w1 at *
  refine (HN.out w1).mono ?_
  rintro e w2 ⟨rfl, rfl⟩
  have HK0 := Lib.hid hb0
  have HK1 := Lib.hid hb1
  have HB1 := Lib.hid hbB
  have HS1 := Lib.hid (show w.heap.size + 2 ≤ w1.heap.size by omega)
  obtain ⟨⟨c0, c1, c2, c3⟩, f0, f1, f2, f3⟩ := env4 hb0
  by_cases hn : nameB s = true
  · have HSet : Hid (withB s x l = setB s x l) := by show _ = _; unfold setB; rw [if_pos hn]
    rw [hn]
    clear hn hb0 hb1 hbB hbs
    go_wp2_with fail
    refine (HU.out w1 (H.out.below (Ap.stable_cellsAt vrC) HB1.out)).mono ?_
    rintro e w2 ⟨v, rfl, hown, hb2⟩
    obtain ⟨a1, q1, rfl, hv1⟩ := vrs_of_own hown
    have k0 := (hb2.block w.heap.size (by have := HS1.out; omega)).trans HK0.out
    have k1 := (hb2.block (w.heap.size + 1) (by have := HS1.out; omega)).trans HK1.out
    have HB2 := Lib.hid (HB1.out.trans (hb2.mono HB1.out.size))
    have HO2 : Hid (OwnV w2 (w.heap.size + 2) (.slice a1 (withoutB l s).length q1) (withoutB l s)) := by
      show World.ownsRow _ _ _ _ _ _ _
      exact own_base hown HS1.out
    have HS2 := Lib.hid (Nat.le_trans HS1.out hb2.size)
    clear c0 c1 c2 c3 f0 f1 f2 f3 hb2 hown HU HK0 HK1 HB1 HS1 hv1
    obtain ⟨⟨c0, c1, c2, c3⟩, f0, f1, f2, f3⟩ := env4 k0
    generalize withoutB l s = m at *
    generalize hlow : lowB m s = i at *
    generalize hasB m s = is at *
    clear hlow HP
    go_upto_region 4 with fail
    have k0 := env4_set k0 (.slice a1 m.length q1) (.slice ga gn gc) (.int .i64 st) (.string (str fl))
    have k1 := (set_other _ w.heap.size 3 (.string (str fl)) (w.heap.size + 1) (by omega)).trans ((set_other _ w.heap.size 2 (.int .i64 st) (w.heap.size + 1) (by omega)).trans ((set_other _ w.heap.size 1 (.slice ga gn gc) (w.heap.size + 1) (by omega)).trans ((set_other w2 w.heap.size 0 (.slice a1 m.length q1) (w.heap.size + 1) (by omega)).trans k1)))
    have hB3 := (((HB2.out.setCell (p := ⟨w.heap.size, 0, none⟩) (Nat.le_refl _) (.slice a1 m.length q1)).setCell (p := ⟨w.heap.size, 1, none⟩) (Nat.le_refl _) (.slice ga gn gc)).setCell (p := ⟨w.heap.size, 2, none⟩) (Nat.le_refl _) (.int .i64 st)).setCell (p := ⟨w.heap.size, 3, none⟩) (Nat.le_refl _) (.string (str fl))
    have hO3 := own_box0 HO2.out (.slice a1 m.length q1) (.slice ga gn gc) (.int .i64 st) (.string (str fl))
    have hs3 : w.heap.size + 2 ≤ ((((w2.setCell ⟨w.heap.size, 0, none⟩ (.slice a1 m.length q1)).setCell ⟨w.heap.size, 1, none⟩ (.slice ga gn gc)).setCell ⟨w.heap.size, 2, none⟩ (.int .i64 st)).setCell ⟨w.heap.size, 3, none⟩ (.string (str fl))).heap.size := by simp; exact HS2.out
    clear c0 c1 c2 c3 f0 f1 f2 f3 HO2 HB2 HS2
    generalize (((w2.setCell ⟨w.heap.size, 0, none⟩ (.slice a1 m.length q1)).setCell ⟨w.heap.size, 1, none⟩ (.slice ga gn gc)).setCell ⟨w.heap.size, 2, none⟩ (.int .i64 st)).setCell ⟨w.heap.size, 3, none⟩ (.string (str fl)) = w3 at *
    obtain ⟨⟨c0, c1, c2, c3⟩, f0, f1, f2, f3⟩ := env4 k0
    obtain ⟨_, _, hv, hv3⟩ := vrs_of_own hO3
    cases hv
    have HK0 := Lib.hid k0
    have HK1 := Lib.hid k1
    have HB3 := Lib.hid hB3
    have HO3 := Lib.hid hO3
    have HS3 := Lib.hid hs3
    clear k0 k1 hB3 hO3 hs3
    go_wp2_with fail
    refine (HF.out w3 a1 q1 hv3).mono ?_
    rintro e w4 ⟨rfl, hb4⟩
    have k0 := (hb4.block w.heap.size (by have := HS3.out; omega)).trans HK0.out
    have k1 := (hb4.block (w.heap.size + 1) (by have := HS3.out; omega)).trans HK1.out
    have HB4 := Lib.hid (HB3.out.trans (hb4.mono HB3.out.size))
    have HO4 : Hid (OwnV w4 (w.heap.size + 2) (.slice a1 m.length q1) m) := by
      show World.ownsRow _ _ _ _ _ _ _
      exact ownsRow_below HO3.out hb4
    have HS4 := Lib.hid (Nat.le_trans HS3.out hb4.size)
    clear c0 c1 c2 c3 f0 f1 f2 f3 hb4 HF HK0 HK1 HB3 HO3 HS3 hv3
    obtain ⟨⟨c0, c1, c2, c3⟩, f0, f1, f2, f3⟩ := env4 k0
    have HB5 := Lib.hid (HB4.out.alloc HB4.out.size (.cells (vrC (s, x)).toArray 36))
    have hO5 := World.ownsRow.alloc HO4.out (.cells (vrC (s, x)).toArray 36)
    have HO5 : Hid (OwnV (w4.alloc (.cells (vrC (s, x)).toArray 36)) (w.heap.size + 2) (.slice a1 m.length q1) m) := hO5
    have HX := Lib.hid (heap_alloc_new w4 (.cells (vrC (s, x)).toArray 36))
    have hz5 : (w4.alloc (.cells (vrC (s, x)).toArray 36)).heap.size = w4.heap.size + 1 := World.size_alloc ..
    have hal := (Below.refl w4.heap.size w4).alloc (Nat.le_refl _) (.cells (vrC (s, x)).toArray 36)
    have HK0 := Lib.hid ((hal.block w.heap.size (by have := HS4.out; omega)).trans k0)
    have HK1 := Lib.hid ((hal.block (w.heap.size + 1) (by have := HS4.out; omega)).trans k1)
    have HIn := Lib.hid (en_insert_calls (w4.alloc (.cells (vrC (s, x)).toArray 36)) (w.heap.size + 2) (.slice a1 m.length q1) m i (s, x) w4.heap.size HO5.out HI.out (by have := HL.out; omega) (by have := HS4.out; omega)
      (fun e => by have := (HO4.out.lt _ e).2; omega) HX.out)
    have HS5 := Lib.hid (show w.heap.size + 2 ≤ (w4.alloc (.cells (vrC (s, x)).toArray 36)).heap.size by have := HS4.out; omega)
    clear hO5 hz5 hal k0 k1 HX
    unfold vrC at HIn HB5 HK0 HK1 HO5 HS5
    go_wp2_with fail
    refine HIn.out.mono ?_
    rintro e w6 ⟨v6, rfl, hown6, hg6⟩
    obtain ⟨a6, q6, rfl, _⟩ := vrs_of_own hown6
    have hlt : ∀ j, (Value.slice a1 m.length q1).ownBlock = some j → w.heap.size + 2 ≤ j := fun j hj => (HO5.out.lt j hj).1
    have k0 := (hg6.block w.heap.size (by have := HS5.out; omega) (fun e => by have := hlt _ e.symm; omega)).trans HK0.out
    have k1 := (hg6.block (w.heap.size + 1) (by have := HS5.out; omega) (fun e => by have := hlt _ e.symm; omega)).trans HK1.out
    have HB6 := Lib.hid (HB5.out.grown hg6 HB5.out.size (fun j hj => by have := hlt _ hj; omega))
    have HO6 := Lib.hid hown6
    clear c0 c1 c2 c3 f0 f1 f2 f3 HK0 HK1 HB5 HO5 HO4 HB4 HIn hown6 hg6 hlt HS5
    obtain ⟨⟨c0, c1, c2, c3⟩, f0, f1, f2, f3⟩ := env4 k0
    have HK0 := Lib.hid k0
    have HK1 := Lib.hid k1
    clear k0 k1
    go_upto_region 6 with fail
    have k0 := env4_set0 HK0.out (.slice a6 (m.insertIdx i (s, x)).length q6)
    have k1 := (set_other w6 w.heap.size 0 (.slice a6 (m.insertIdx i (s, x)).length q6) (w.heap.size + 1) (by omega)).trans HK1.out
    have HB7 := Lib.hid (HB6.out.setCell (p := ⟨w.heap.size, 0, none⟩) (Nat.le_refl _) (.slice a6 (m.insertIdx i (s, x)).length q6))
    have HO7 : Hid (OwnV (w6.setCell ⟨w.heap.size, 0, none⟩ (.slice a6 (m.insertIdx i (s, x)).length q6)) (w.heap.size + 2) (.slice a6 (m.insertIdx i (s, x)).length q6) (m.insertIdx i (s, x))) := by
      show World.ownsRow _ _ _ _ _ _ _
      exact ownsRow_setCell_below HO6.out (by show w.heap.size < _; omega) _
    clear c0 c1 c2 c3 f0 f1 f2 f3 HK0 HK1 HB6 HO6
    generalize w6.setCell ⟨w.heap.size, 0, none⟩ (.slice a6 (m.insertIdx i (s, x)).length q6) = w7 at *
    obtain ⟨⟨c0, c1, c2, c3⟩, f0, f1, f2, f3⟩ := env4 k0
    obtain ⟨⟨d0, d1, d2, d3⟩, e0, e1, e2, e3⟩ := env4 k1
    have HK1 := Lib.hid k1
    clear k0 k1
    go_wp2_with fail
    obtain ⟨⟨y0, y1, y2, y3⟩, _⟩ := env4 (env4_set HK1.out (.slice a6 (m.insertIdx i (s, x)).length q6) (.slice ga gn gc) (.int .i64 st) (.string (str fl)))
    refine bodyPost_ret (v := .agg #[.slice a6 (m.insertIdx i (s, x)).length q6, .slice ga gn gc, .int .i64 st, .string (str fl)]) (by simp [results, Tryd.results8, go_sem, y0, y1, y2, y3]) rfl ?_
    refine ⟨_, rfl, fun base hb _ => ?_, (((HB7.out.setCell (Nat.le_succ _) _).setCell (Nat.le_succ _) _).setCell (Nat.le_succ _) _).setCell (Nat.le_succ _) _⟩
    rw [← HSet.out, ← HE.out]
    show World.ownsRow _ _ _ _ _ _ _
    exact own_base (own_box HO7.out _ _ _ _) hb
  · have HSet : Hid (l = setB s x l) := by show _ = _; unfold setB; rw [if_neg hn]
    have hn2 : nameB s = false := by simpa using hn
    obtain ⟨⟨d0, d1, d2, d3⟩, e0, e1, e2, e3⟩ := env4 hb1
    rw [hn2]
    clear hn hn2 hb0 hb1 hbB hbs
    go_wp2_with fail
    obtain ⟨⟨y0, y1, y2, y3⟩, _⟩ := env4 (env4_set HK1.out (.slice a l.length c) (.slice ga gn gc) (.int .i64 st) (.string (str fl)))
    refine bodyPost_ret (v := .agg #[.slice a l.length c, .slice ga gn gc, .int .i64 st, .string (str fl)]) (by simp [results, Tryd.results8, go_sem, y0, y1, y2, y3]) rfl ?_
    have hb := (((HB1.out.setCell (p := ⟨w.heap.size + 1, 0, none⟩) (Nat.le_succ _) (.slice a l.length c)).setCell (p := ⟨w.heap.size + 1, 1, none⟩) (Nat.le_succ _) (.slice ga gn gc)).setCell (p := ⟨w.heap.size + 1, 2, none⟩) (Nat.le_succ _) (.int .i64 st)).setCell (p := ⟨w.heap.size + 1, 3, none⟩) (Nat.le_succ _) (.string (str fl))
    refine ⟨_, rfl, fun base _ ho => ?_, hb⟩
    rw [← HSet.out]
    show World.ownsRow _ _ _ _ _ _ _
    exact ownsRow_below ho hb
end Go.Proofs.YtchmpkgjjkfjcaaDoor
