/-
  Variables: found, taken out, put in. Conditions: the row rises, and is not too long.
-/
import Derived.Test.YtchmpkgjjkfjcaaDoorEnWalks1
import Derived.Laws.EntriesVeiled
set_option linter.unusedVariables false
set_option maxRecDepth 100000
namespace Go.Proofs.YtchmpkgjjkfjcaaDoor
open Go.RowKit Base

/-! ### What lies in a box of four -/
theorem env4 {x : World} {b : Nat} {t : TypeId} {v0 v1 v2 v3 : Value} (h : x.heap[b]? = some (.cells #[v0, v1, v2, v3] t)) :
    (x.cell? ⟨b, 0, none⟩ = some v0 ∧ x.cell? ⟨b, 1, none⟩ = some v1 ∧ x.cell? ⟨b, 2, none⟩ = some v2 ∧ x.cell? ⟨b, 3, none⟩ = some v3) ∧
    (x.frozen? ⟨b, 0, none⟩ = false ∧ x.frozen? ⟨b, 1, none⟩ = false ∧ x.frozen? ⟨b, 2, none⟩ = false ∧ x.frozen? ⟨b, 3, none⟩ = false) := by
  refine ⟨⟨?_, ?_, ?_, ?_⟩, ?_, ?_, ?_, ?_⟩ <;> simp [World.cell?, World.frozen?, h]
theorem env4_set {x : World} {b : Nat} {t : TypeId} {v0 v1 v2 v3 : Value} (h : x.heap[b]? = some (.cells #[v0, v1, v2, v3] t)) (u0 u1 u2 u3 : Value) :
    ((((x.setCell ⟨b, 0, none⟩ u0).setCell ⟨b, 1, none⟩ u1).setCell ⟨b, 2, none⟩ u2).setCell ⟨b, 3, none⟩ u3).heap[b]? = some (.cells #[u0, u1, u2, u3] t) :=
  heap_setCell_same _ _ 3 _ _ _ (heap_setCell_same _ _ 2 _ _ _ (heap_setCell_same _ _ 1 _ _ _ (heap_setCell_same _ _ 0 _ _ _ h)))
theorem env4_set0 {x : World} {b : Nat} {t : TypeId} {v0 v1 v2 v3 : Value} (h : x.heap[b]? = some (.cells #[v0, v1, v2, v3] t)) (u0 : Value) :
    (x.setCell ⟨b, 0, none⟩ u0).heap[b]? = some (.cells #[u0, v1, v2, v3] t) := heap_setCell_same _ _ 0 _ _ _ h
theorem set_other (w : World) (F j : Nat) (u : Value) (k : Nat) (hk : k ≠ F) : (w.setCell ⟨F, j, none⟩ u).heap[k]? = w.heap[k]? := Below.heap_setCell w ⟨F, j, none⟩ u k (by first | exact hk | exact hk.symm)
/-- An Env in a box, and a box for what is told behind it. -/
abbrev envT : TypeId := 28
theorem two_boxes (w : World) (o1 o2 : Obj) : ((w.alloc o1).alloc o2).heap[w.heap.size]? = some o1 ∧ ((w.alloc o1).alloc o2).heap[w.heap.size + 1]? = some o2 ∧ Below w.heap.size w ((w.alloc o1).alloc o2) ∧ ((w.alloc o1).alloc o2).heap.size = w.heap.size + 2 := by
  have hs : (w.alloc o1).heap.size = w.heap.size + 1 := World.size_alloc ..
  have h1 := (Below.refl w.heap.size w).alloc (Nat.le_refl _) o1
  have h2 := h1.alloc (by omega) o2
  refine ⟨?_, ?_, h2, by rw [World.size_alloc, hs]⟩
  · exact (((Below.refl (w.alloc o1).heap.size (w.alloc o1)).alloc (Nat.le_refl _) o2).block _ (by omega)).trans (heap_alloc_new w o1)
  · have := heap_alloc_new (w.alloc o1) o2
    rw [hs] at this
    exact this
set_option maxHeartbeats 1000000 in
theorem en_find_calls (w : World) (a : Option Addr) (n c : Nat) (l : List Vr) (g : Value) (st : Int) (fl s : Nm) (ga : Option Addr) (gn gc : Nat) (h : Vrs w a n c l) (hr : Rises l) (hl : l.length ≤ 1000000) :
    Calls Tryd.prog 25 #[.agg #[.slice a n c, .slice ga gn gc, .int .i64 st, .string (str fl)], .string (str s)] w fun e w' => e = .returned (.tuple #[.int .i64 (lowB l s : Int), .bool (hasB l s)]) ∧ Below w.heap.size w w' := by
  have HC := Lib.hid fun W f (hv : Vrs W a n c l) hf hfb => en_search_calls W a n c l s f hv hf hfb hr hl
  have H := Lib.hid h
  clear h hr hl
  go_enter Tryd.func25, Tryd.ntmps25
  go_wp2_with fail
  obtain ⟨hb0, hb1, hbB, hbs⟩ := two_boxes w (.cells #[.slice a n c, .slice ga gn gc, .int .i64 st, .string (str fl)] 28) (.cells #[.func (.func 40) #[] #[]] 73)
  have hf : ((w.alloc (.cells #[.slice a n c, .slice ga gn gc, .int .i64 st, .string (str fl)] 28)).alloc (.cells #[.func (.func 40) #[] #[]] 73)).cell? ⟨w.heap.size + 1, 0, none⟩ = some (.func (.func 40) #[] #[]) := by simp only [World.cell?, hb1]; rfl
  have HB := Lib.hid hbB
  refine (HC.out _ (w.heap.size + 1) (H.out.below (Ap.stable_cellsAt vrC) hbB) hf (by omega)).mono ?_
  rintro e w2 ⟨rfl, hb2⟩
  have HB2 := Lib.hid (HB.out.trans (hb2.mono HB.out.size))
  clear hb0 hb1 hbB hbs hf hb2
  go_wp2_with fail
  go_ret2
  exact ⟨rfl, HB2.out⟩
def EnvPost (w : World) (l : List Vr) (g : Value) (st : Int) (fl : Nm) (e : Ending) (w' : World) : Prop := ∃ v, e = .returned (.agg #[v, g, .int .i64 st, .string (str fl)]) ∧ OwnV w' w.heap.size v l ∧ Below w.heap.size w w'
theorem own_base {w : World} {b1 b2 : Nat} {e : TypeId} {k : Nat} {v : Value} {n : Nat} {xs : List Value} (h : w.ownsRow b2 e k v n xs) (hb : b1 ≤ b2) : w.ownsRow b1 e k v n xs := by
  refine ⟨h.1, ?_⟩
  rcases h.2 with h2 | ⟨g, cap, cur, h1, h2, h3⟩
  · exact .inl h2
  · exact .inr ⟨g, cap, cur, h1, by omega, h3⟩
theorem vrs_of_own {w : World} {base : Nat} {v : Value} {l : List Vr} (h : OwnV w base v l) : ∃ a c, v = .slice a l.length c ∧ Vrs w a l.length c l := Ap.own_cells (by decide) vrC_len h
theorem own_box {w : World} {B : Nat} {v : Value} {l : List Vr} (h : OwnV w (B + 2) v l) (u0 u1 u2 u3 : Value) : OwnV ((((w.setCell ⟨B + 1, 0, none⟩ u0).setCell ⟨B + 1, 1, none⟩ u1).setCell ⟨B + 1, 2, none⟩ u2).setCell ⟨B + 1, 3, none⟩ u3) B v l := by
  show World.ownsRow _ _ _ _ _ _ _
  have hh : w.ownsRow (B + 2) 36 2 v l.length (l.flatMap vrC) := h
  exact own_base (ownsRow_setCell_below (ownsRow_setCell_below (ownsRow_setCell_below (ownsRow_setCell_below hh (by show B + 1 < _; omega) _) (by show B + 1 < _; omega) _) (by show B + 1 < _; omega) _) (by show B + 1 < _; omega) _) (by omega)
set_option maxHeartbeats 2000000 in
theorem en_unset_calls (w : World) (a : Option Addr) (n c : Nat) (l : List Vr) (st : Int) (fl s : Nm) (ga : Option Addr) (gn gc : Nat) (h : Vrs w a n c l) (hr : Rises l) (hl : l.length ≤ 1000000) :
    Calls Tryd.prog 10 #[.agg #[.slice a n c, .slice ga gn gc, .int .i64 st, .string (str fl)], .string (str s)] w (EnvPost w (withoutB l s) (.slice ga gn gc) st fl) := by
  obtain rfl := h.1
  have HC := Lib.hid fun W (hv : Vrs W a l.length c l) => en_find_calls W a l.length c l (.slice ga gn gc) st fl s ga gn gc hv hr hl
  have HCl := Lib.hid fun W (hv : Vrs W a l.length c l) => en_clone_calls W a l.length c l hv hl
  have H := Lib.hid h
  have HR := Lib.hid hr
  have HP := Lib.hid (parts_low hr s)
  have HL := Lib.hid hl
  clear h hr hl
  generalize hlow : lowB l s = i at *
  clear hlow
  go_enter Tryd.func10, Tryd.ntmps10
  go_wp2_with fail
  obtain ⟨hb0, hb1, hbB, hbs⟩ := two_boxes w (.cells #[.slice a l.length c, .slice ga gn gc, .int .i64 st, .string (str fl)] 28) (.cells #[.slice none 0 0, .slice none 0 0, .int .i64 0, .string ⟨#[]⟩] 28)
  generalize (w.alloc (.cells #[.slice a l.length c, .slice ga gn gc, .int .i64 st, .string (str fl)] 28)).alloc (.cells #[.slice none 0 0, .slice none 0 0, .int .i64 0, .string ⟨#[]⟩] 28) = w1 at *
  refine (HC.out w1 (H.out.below (Ap.stable_cellsAt vrC) hbB)).mono ?_
  rintro e w2 ⟨rfl, hb2⟩
  have k0 := (hb2.block w.heap.size (by omega)).trans hb0
  have k1 := (hb2.block (w.heap.size + 1) (by omega)).trans hb1
  have hB2 := hbB.trans (hb2.mono (by omega))
  have hs2 := hb2.size
  rw [hbs] at hs2
  have HB2 := Lib.hid hB2
  have HK0 := Lib.hid k0
  have HK1 := Lib.hid k1
  have HS2 := Lib.hid hs2
  obtain ⟨⟨c0, c1, c2, c3⟩, f0, f1, f2, f3⟩ := env4 k0
  clear hb0 hb1 hbB hbs hb2 k0 k1 hB2 hs2 HC
  go_wp2_with fail
  refine (HCl.out w2 (H.out.below (Ap.stable_cellsAt vrC) HB2.out)).mono ?_
  rintro e w3 ⟨v, rfl, hown, hb3⟩
  obtain ⟨a1, q1, rfl, _⟩ := vrs_of_own hown
  have k0 := (hb3.block w.heap.size (by have := HS2.out; omega)).trans HK0.out
  have k1 := (hb3.block (w.heap.size + 1) (by have := HS2.out; omega)).trans HK1.out
  have HB3 := Lib.hid (HB2.out.trans (hb3.mono HB2.out.size))
  have HO : Hid (OwnV w3 (w.heap.size + 2) (.slice a1 l.length q1) l) := by
    show World.ownsRow _ _ _ _ _ _ _
    exact own_base hown HS2.out
  have HS3 := Lib.hid (Nat.le_trans HS2.out hb3.size)
  clear c0 c1 c2 c3 f0 f1 f2 f3 hb3 hown HCl HK0 HK1 HB2 HS2
  obtain ⟨⟨c0, c1, c2, c3⟩, f0, f1, f2, f3⟩ := env4 k0
  have HK0 := Lib.hid k0
  have HK1 := Lib.hid k1
  clear k0 k1
  by_cases hh : hasB l s = true
  · obtain ⟨hi, he⟩ := (has_at HR.out HP.out).1 hh
    have HE := Lib.hid (erase_eq HR.out hi he)
    have HI := Lib.hid hi
    have hl1 := HL.out
    rw [hh]
    clear he hh
    go_upto_region 4 with fail
    have k0 := env4_set0 HK0.out (.slice a1 l.length q1)
    have k1 := (set_other w3 w.heap.size 0 (.slice a1 l.length q1) (w.heap.size + 1) (by omega)).trans HK1.out
    have HB4 := Lib.hid (HB3.out.setCell (p := ⟨w.heap.size, 0, none⟩) (Nat.le_refl _) (.slice a1 l.length q1))
    have HO4 : Hid (OwnV (w3.setCell ⟨w.heap.size, 0, none⟩ (.slice a1 l.length q1)) (w.heap.size + 2) (.slice a1 l.length q1) l) := by
      show World.ownsRow _ _ _ _ _ _ _
      exact ownsRow_setCell_below HO.out (by show w.heap.size < _; omega) _
    have HS4 := Lib.hid (show w.heap.size + 2 ≤ (w3.setCell ⟨w.heap.size, 0, none⟩ (.slice a1 l.length q1)).heap.size by simp; exact HS3.out)
    clear c0 c1 c2 c3 f0 f1 f2 f3 HK0 HK1 HB3 HO HS3
    generalize w3.setCell ⟨w.heap.size, 0, none⟩ (.slice a1 l.length q1) = w4 at *
    obtain ⟨⟨c0, c1, c2, c3⟩, f0, f1, f2, f3⟩ := env4 k0
    have HK0 := Lib.hid k0
    have HK1 := Lib.hid k1
    clear k0 k1
    have hd1 := HI.out
    go_wp2_with fail
    refine (en_delete_calls w4 (w.heap.size + 2) (.slice a1 l.length q1) l i HO4.out HI.out HL.out).mono ?_
    rintro e w5 ⟨v5, rfl, hown5, hg5⟩
    obtain ⟨a5, q5, rfl, _⟩ := vrs_of_own hown5
    have hlt : ∀ j, (Value.slice a1 l.length q1).ownBlock = some j → w.heap.size + 2 ≤ j := fun j hj => (HO4.out.lt j hj).1
    have k0 := (hg5.block w.heap.size (by have := HS4.out; omega) (fun e => by have := hlt _ e.symm; omega)).trans HK0.out
    have k1 := (hg5.block (w.heap.size + 1) (by have := HS4.out; omega) (fun e => by have := hlt _ e.symm; omega)).trans HK1.out
    have HB5 := Lib.hid (HB4.out.grown hg5 HB4.out.size (fun j hj => by have := hlt _ hj; omega))
    have HO5 := Lib.hid hown5
    clear c0 c1 c2 c3 f0 f1 f2 f3 HK0 HK1 HB4 HO4 hown5 hg5 hlt
    obtain ⟨⟨c0, c1, c2, c3⟩, f0, f1, f2, f3⟩ := env4 k0
    have HK0 := Lib.hid k0
    have HK1 := Lib.hid k1
    clear k0 k1
    go_upto_region 5 with fail
    have k0 := env4_set0 HK0.out (.slice a5 (l.eraseIdx i).length q5)
    have k1 := (set_other w5 w.heap.size 0 (.slice a5 (l.eraseIdx i).length q5) (w.heap.size + 1) (by omega)).trans HK1.out
    have HB7 := Lib.hid (HB5.out.setCell (p := ⟨w.heap.size, 0, none⟩) (Nat.le_refl _) (.slice a5 (l.eraseIdx i).length q5))
    have HO7 : Hid (OwnV (w5.setCell ⟨w.heap.size, 0, none⟩ (.slice a5 (l.eraseIdx i).length q5)) (w.heap.size + 2) (.slice a5 (l.eraseIdx i).length q5) (l.eraseIdx i)) := by
      show World.ownsRow _ _ _ _ _ _ _
      exact ownsRow_setCell_below HO5.out (by show w.heap.size < _; omega) _
    clear c0 c1 c2 c3 f0 f1 f2 f3 HK0 HK1 HB5 HO5
    generalize w5.setCell ⟨w.heap.size, 0, none⟩ (.slice a5 (l.eraseIdx i).length q5) = w7 at *
    obtain ⟨⟨c0, c1, c2, c3⟩, f0, f1, f2, f3⟩ := env4 k0
    obtain ⟨⟨d0, d1, d2, d3⟩, e0, e1, e2, e3⟩ := env4 k1
    have HK1 := Lib.hid k1
    clear k0 k1
    go_wp2_with fail
    obtain ⟨⟨y0, y1, y2, y3⟩, _⟩ := env4 (env4_set HK1.out (.slice a5 (l.eraseIdx i).length q5) (.slice ga gn gc) (.int .i64 st) (.string (str fl)))
    refine bodyPost_ret (v := .agg #[.slice a5 (l.eraseIdx i).length q5, .slice ga gn gc, .int .i64 st, .string (str fl)]) (by simp [results, Tryd.results10, go_sem, y0, y1, y2, y3]) rfl ?_
    refine ⟨_, rfl, ?_, (((HB7.out.setCell (Nat.le_succ _) _).setCell (Nat.le_succ _) _).setCell (Nat.le_succ _) _).setCell (Nat.le_succ _) _⟩
    rw [← HE.out]
    exact own_box HO7.out _ _ _ _
  · have hh2 : hasB l s = false := by simpa using hh
    have HE := Lib.hid (without_none hh2)
    rw [hh2]
    clear hh hh2
    go_upto_region 5 with fail
    have k0 := env4_set0 HK0.out (.slice a1 l.length q1)
    have k1 := (set_other w3 w.heap.size 0 (.slice a1 l.length q1) (w.heap.size + 1) (by omega)).trans HK1.out
    have HB7 := Lib.hid (HB3.out.setCell (p := ⟨w.heap.size, 0, none⟩) (Nat.le_refl _) (.slice a1 l.length q1))
    have HO7 : Hid (OwnV (w3.setCell ⟨w.heap.size, 0, none⟩ (.slice a1 l.length q1)) (w.heap.size + 2) (.slice a1 l.length q1) (l)) := by
      show World.ownsRow _ _ _ _ _ _ _
      exact ownsRow_setCell_below HO.out (by show w.heap.size < _; omega) _
    clear c0 c1 c2 c3 f0 f1 f2 f3 HK0 HK1 HB3 HO
    generalize w3.setCell ⟨w.heap.size, 0, none⟩ (.slice a1 l.length q1) = w7 at *
    obtain ⟨⟨c0, c1, c2, c3⟩, f0, f1, f2, f3⟩ := env4 k0
    obtain ⟨⟨d0, d1, d2, d3⟩, e0, e1, e2, e3⟩ := env4 k1
    have HK1 := Lib.hid k1
    clear k0 k1
    go_wp2_with fail
    obtain ⟨⟨y0, y1, y2, y3⟩, _⟩ := env4 (env4_set HK1.out (.slice a1 l.length q1) (.slice ga gn gc) (.int .i64 st) (.string (str fl)))
    refine bodyPost_ret (v := .agg #[.slice a1 l.length q1, .slice ga gn gc, .int .i64 st, .string (str fl)]) (by simp [results, Tryd.results10, go_sem, y0, y1, y2, y3]) rfl ?_
    refine ⟨_, rfl, ?_, (((HB7.out.setCell (Nat.le_succ _) _).setCell (Nat.le_succ _) _).setCell (Nat.le_succ _) _).setCell (Nat.le_succ _) _⟩
    rw [HE.out]
    exact own_box HO7.out _ _ _ _
end Go.Proofs.YtchmpkgjjkfjcaaDoor
