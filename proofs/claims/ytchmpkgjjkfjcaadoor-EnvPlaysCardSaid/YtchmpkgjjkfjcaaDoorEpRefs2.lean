/-
  The document's Env: a variable is unset, and set. Conditions: the rows are not too long.
-/
import Derived.Test.YtchmpkgjjkfjcaaDoorEpRefs1
set_option linter.unusedVariables false
set_option maxRecDepth 100000
namespace Go.Proofs.YtchmpkgjjkfjcaaDoor
open Go.RowKit Base

/-- The document's Env, with rows of the call's own. -/
def RefE (w : World) (l : List Vr) (g : Value) (st : Int) (fl : Nm) (e : Ending) (w' : World) : Prop := ∃ v, e = .returned (.agg #[v, g, .int .i64 st, .string (str fl)]) ∧ OwnRv w' w.heap.size v l ∧ Below w.heap.size w w'
theorem own_boxR {w : World} {B : Nat} {v : Value} {l : List Vr} (h : OwnRv w (B + 2) v l) (u0 u1 u2 u3 : Value) : OwnRv ((((w.setCell ⟨B + 1, 0, none⟩ u0).setCell ⟨B + 1, 1, none⟩ u1).setCell ⟨B + 1, 2, none⟩ u2).setCell ⟨B + 1, 3, none⟩ u3) B v l := by
  show World.ownsRow _ _ _ _ _ _ _
  have hh : w.ownsRow (B + 2) 67 2 v l.length (l.flatMap vrC) := h
  exact own_base (ownsRow_setCell_below (ownsRow_setCell_below (ownsRow_setCell_below (ownsRow_setCell_below hh (by show B + 1 < _; omega) _) (by show B + 1 < _; omega) _) (by show B + 1 < _; omega) _) (by show B + 1 < _; omega) _) (by omega)
/-- What lies where, while rows are gone through: both boxes. -/
structure BxI (w : World) (v g : Value) (st : Int) (fl : Nm) (A : World) : Prop where
  k0 : A.heap[w.heap.size]? = some (.cells #[v, g, .int .i64 st, .string (str fl)] 41)
  k1 : A.heap[w.heap.size + 1]? = some (.cells #[.slice none 0 0, .slice none 0 0, .int .i64 0, .string ⟨#[]⟩] 41)
  low : Below w.heap.size w A
  size : w.heap.size + 2 ≤ A.heap.size
theorem BxI.below {w : World} {v g : Value} {st : Int} {fl : Nm} {A A' : World} (h : BxI w v g st fl A) (hb : Below A.heap.size A A') : BxI w v g st fl A' :=
  have hs := h.size
  ⟨(hb.block _ (by omega)).trans h.k0, (hb.block _ (by omega)).trans h.k1, h.low.trans (hb.mono h.low.size), Nat.le_trans h.size hb.size⟩
theorem BxI.grown {w : World} {v g : Value} {st : Int} {fl : Nm} {A A' : World} {q : Option Nat} (h : BxI w v g st fl A) (hb : A.grownBy A' q) (hq : ∀ j, q = some j → w.heap.size + 2 ≤ j) : BxI w v g st fl A' :=
  have hs := h.size
  ⟨(hb.block _ (by omega) (fun e => by have := hq _ e.symm; omega)).trans h.k0, (hb.block _ (by omega) (fun e => by have := hq _ e.symm; omega)).trans h.k1, h.low.grown hb h.low.size (fun j hj => by have := hq j hj; omega), Nat.le_trans h.size hb.size⟩
theorem BxI.start (w : World) (v g : Value) (st : Int) (fl : Nm) : BxI w v g st fl ((w.alloc (.cells #[v, g, .int .i64 st, .string (str fl)] 41)).alloc (.cells #[.slice none 0 0, .slice none 0 0, .int .i64 0, .string ⟨#[]⟩] 41)) := by
  obtain ⟨h0, h1, h2, h3⟩ := two_boxes w (.cells #[v, g, .int .i64 st, .string (str fl)] 41) (.cells #[.slice none 0 0, .slice none 0 0, .int .i64 0, .string ⟨#[]⟩] 41)
  exact ⟨h0, h1, h2, by omega⟩
theorem BxI.set0 {w : World} {v g : Value} {st : Int} {fl : Nm} {A : World} (h : BxI w v g st fl A) (u : Value) : BxI w u g st fl (A.setCell ⟨w.heap.size, 0, none⟩ u) := by
  refine ⟨env4_set0 h.k0 u, (set_other A w.heap.size 0 u (w.heap.size + 1) (by omega)).trans h.k1, h.low.setCell (p := ⟨w.heap.size, 0, none⟩) (Nat.le_refl _) u, ?_⟩
  simp
  exact h.size
theorem own_set0 {w A : World} {v : Value} {l : List Vr} (h : OwnRv A (w.heap.size + 2) v l) (u : Value) : OwnRv (A.setCell ⟨w.heap.size, 0, none⟩ u) (w.heap.size + 2) v l := by
  show World.ownsRow _ _ _ _ _ _ _
  have hh : A.ownsRow (w.heap.size + 2) 67 2 v l.length (l.flatMap vrC) := h
  exact ownsRow_setCell_below hh (by show w.heap.size < _; omega) _
theorem load_rv {w : World} {b o : Nat} {x y : Value} (h0 : w.cell? ⟨b, o, none⟩ = some x) (h1 : w.cell? ⟨b, o + 1, none⟩ = some y) : (Instr.loadAt 67 (.pointer (some ⟨b, o, none⟩))).run Tryd.prog w = .ok (.agg #[x, y]) w := by
  go_simp
set_option maxHeartbeats 4000000 in
theorem ref_unset_calls (w : World) (a : Option Addr) (n c : Nat) (l : List Vr) (st : Int) (fl s : Nm) (ga : Option Addr) (gn gc : Nat) (h : Vrs w a n c l) (hl : l.length ≤ 1000000) :
    Calls Tryd.prog 13 #[.agg #[.slice a n c, .slice ga gn gc, .int .i64 st, .string (str fl)], .string (str s)] w (RefE w (withoutB l s) (.slice ga gn gc) st fl) := by
  obtain ⟨i0, hi0, hz0, hz1, hz2⟩ := info_parts info_rv
  obtain rfl := h.1
  have H := Lib.hid h
  have HI := Lib.hid (BxI.start w (.slice a l.length c) (.slice ga gn gc) st fl)
  clear h
  go_enter Tryd.func13, Tryd.ntmps13
  go_upto_region 1 with fail
  generalize (w.alloc (.cells #[.slice a l.length c, .slice ga gn gc, .int .i64 st, .string (str fl)] 41)).alloc (.cells #[.slice none 0 0, .slice none 0 0, .int .i64 0, .string ⟨#[]⟩] 41) = w1 at *
  go_wp2_with fail
  go_loopw [5, 6] (fun v5 v6 wr => ∃ (k : Nat) (v : Value), v = v5 ∧ k ≤ l.length ∧ v6 = .int .i64 k ∧ OwnRv wr (w.heap.size + 2) v (withoutB (l.take k) s) ∧ BxI w (.slice a l.length c) (.slice ga gn gc) st fl wr) (fun _ v6 _ => l.length - (intOf v6).toNat)
  case atStart => exact ⟨0, _, rfl, Nat.zero_le _, rfl, World.ownsRow_nil _ _ _ _, HI.out⟩
  case round =>
    obtain ⟨k, v, rfl, hk, rfl, hown, hI⟩ := hrel
    have HI2 := Lib.hid hI
    obtain ⟨⟨b0, b1, b2, b3⟩, f0, f1, f2, f3⟩ := env4 hI.k0
    by_cases hlt : k < l.length
    · obtain ⟨b, off, hcs, hix⟩ := rv_at (H.out.below (Ap.stable_cellsAt vrC) hI.low)
      have hx := fun W => hix .i64 k W hlt
      obtain ⟨c0, c1⟩ := hcs k hlt
      have hT : withoutB (l.take (k + 1)) s = withoutB (l.take k) s ++ withoutB [l[k]] s := by unfold withoutB; rw [List.take_succ_eq_append_getElem hlt, List.filter_append]
      have hml : (withoutB (l.take k) s).length ≤ k := Nat.le_trans (without_len s _) (List.length_take_le _ _)
      generalize l[k]'hlt = p at *
      generalize off + k * 2 = q at *
      have HT := Lib.hid hT
      have HO := Lib.hid (show wr.ownsRow (w.heap.size + 2) 67 2 v (withoutB (l.take k) s).length ((withoutB (l.take k) s).flatMap vrC) from hown)
      have HM := Lib.hid hml
      clear hcs hix hT hown hI hml
      generalize withoutB (l.take k) s = m at *
      have u3 : decide (k < l.length) = true := decide_eq_true (by omega)
      have u1 : decide ((k : Int) < (l.length : Int)) = true := decide_eq_true (by omega)
      have u2 : (k : Int) < (l.length : Int) := by omega
      by_cases he : p.1 = s
      · have d1 : ((str p.1).toList == (str s).toList) = true := by rw [he]; exact beq_self_eq_true _
        have HF : Hid (withoutB (l.take (k + 1)) s = m) := by show _ = _; rw [HT.out, without_cons, if_pos he]; exact List.append_nil _
        clear he
        go_wp2_with fail
        go_roundw
        case rel => exact ⟨k + 1, v, rfl, by omega, by go_num, by rw [HF.out]; exact HO.out, HI2.out⟩
        case measure => simp [intOf]; omega
      · have d1 : ((str p.1).toList == (str s).toList) = false := by rw [str_toList, str_toList]; simpa using he
        have HF : Hid (withoutB (l.take (k + 1)) s = m ++ [p]) := by show _ = _; rw [HT.out, without_cons, if_neg he]; rfl
        have hal := (Below.refl wr.heap.size wr).alloc (Nat.le_refl _) (.cells (vrC p).toArray 67)
        have HA := Lib.hid (HI2.out.below hal)
        have HOA := Lib.hid (HO.out.alloc (.cells (vrC p).toArray 67))
        have HS := Lib.hid (Ap.src_cellsAt (P := Tryd.prog) vrC_len vrC_one (heap_alloc_new wr (.cells (vrC p).toArray 67)) 1)
        unfold vrC at HA HOA HS
        have hml := HM.out
        clear he hal
        go_wp2_with (at_builtin; refine wpList_append_src rfl (.tmp 22) (.tmp 28) 39 39 rfl (w.heap.size + 2) 67 i0 (.agg #[.string ⟨#[]⟩, .string ⟨#[]⟩]) 2 32 Tryd.underlying39 append_rv hi0 hz0 hz1 hz2 rfl (by decide) (by decide) _ m.length _ rfl HOA.out _ 1 _ rfl HS.out ?_ ?_ ?_ ?_)
        case _ => unfold maxLen; omega
        case _ => omega
        case _ => first | exact HA.out.size | (have := HA.out.size; rw [World.size_alloc] at this; exact this)
        intro v' w' h1 h2 _
        have HB' := Lib.hid (HA.out.grown h2 (fun j hj => (HOA.out.lt j hj).1))
        have H1 : Hid (OwnRv w' (w.heap.size + 2) v' (withoutB (l.take (k + 1)) s)) := by
          show World.ownsRow _ _ _ _ _ _ _
          rw [HF.out, List.flatMap_append, List.length_append]
          exact h1
        clear h1 h2
        go_wp2_with fail
        go_roundw
        case rel => exact ⟨k + 1, v', rfl, by omega, by go_num, H1.out, HB'.out⟩
        case measure => simp [intOf]; omega
    · obtain rfl : k = l.length := by omega
      rw [List.take_length] at hown
      have HO := Lib.hid hown
      obtain ⟨a5, q5, rfl, _⟩ := rv_of_own hown
      have u3 : decide (l.length < l.length) = false := decide_eq_false (by omega)
      have u1 : decide ((l.length : Int) < (l.length : Int)) = false := decide_eq_false (by omega)
      have u2 : ¬ ((l.length : Int) < (l.length : Int)) := by omega
      clear hown hI
      generalize withoutB l s = m at *
      go_upto_region 8 with fail
      have HI3 := Lib.hid (HI2.out.set0 (.slice a5 m.length q5))
      have HO3 := Lib.hid (own_set0 HO.out (.slice a5 m.length q5))
      clear b0 b1 b2 b3 f0 f1 f2 f3 HI2 HO
      generalize wr.setCell ⟨w.heap.size, 0, none⟩ (.slice a5 m.length q5) = w7 at *
      obtain ⟨⟨c0, c1, c2, c3⟩, f0, f1, f2, f3⟩ := env4 HI3.out.k0
      obtain ⟨⟨d0, d1, d2, d3⟩, e0, e1, e2, e3⟩ := env4 HI3.out.k1
      go_wp2_with fail
      obtain ⟨⟨y0, y1, y2, y3⟩, _⟩ := env4 (env4_set HI3.out.k1 (.slice a5 m.length q5) (.slice ga gn gc) (.int .i64 st) (.string (str fl)))
      refine bodyPost_ret (v := .agg #[.slice a5 m.length q5, .slice ga gn gc, .int .i64 st, .string (str fl)]) (by simp [results, Tryd.results13, go_sem, y0, y1, y2, y3]) rfl ?_
      exact ⟨_, rfl, own_boxR HO3.out _ _ _ _, (((HI3.out.low.setCell (Nat.le_succ _) _).setCell (Nat.le_succ _) _).setCell (Nat.le_succ _) _).setCell (Nat.le_succ _) _⟩
end Go.Proofs.YtchmpkgjjkfjcaaDoor
