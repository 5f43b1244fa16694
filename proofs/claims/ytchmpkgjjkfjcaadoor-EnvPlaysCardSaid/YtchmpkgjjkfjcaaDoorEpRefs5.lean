/-
  The document's Env: a flag, on or off; an Env as the document has it. Conditions: the rows are not too long.
-/
import Derived.Test.YtchmpkgjjkfjcaaDoorEpRefs4
set_option linter.unusedVariables false
set_option maxRecDepth 100000
namespace Go.Proofs.YtchmpkgjjkfjcaaDoor
open Go.RowKit Base

theorem BxI.set3 {w : World} {v g : Value} {st : Int} {fl : Nm} {A : World} (h : BxI w v g st fl A) (x : Nm) : BxI w v g st x (A.setCell ⟨w.heap.size, 3, none⟩ (.string (str x))) := by
  refine ⟨heap_setCell_same _ _ 3 _ _ _ h.k0, (set_other A w.heap.size 3 _ (w.heap.size + 1) (by omega)).trans h.k1, h.low.setCell (p := ⟨w.heap.size, 3, none⟩) (Nat.le_refl _) _, ?_⟩
  simp
  exact h.size
theorem flags_at {k : Nat} (h : k < 4) : ∃ f, flagsL[k]? = some f := ⟨_, List.getElem?_eq_getElem (l := flagsL) h⟩
theorem flags_index {k : Nat} {f : UInt8} (h : flagsL[k]? = some f) (W : World) : (Instr.index 9 (.string { data := #[101, 102, 117, 120] }) (.int .i64 (k : Int))).run Tryd.prog W = .ok (.int .u8 (f.toNat : Int)) W := by
  obtain ⟨hk, rfl⟩ := List.getElem?_eq_some_iff.1 h
  exact Sw.run_at (P := Tryd.prog) (w := W) Tryd.underlying9 flagsL .i64 k hk
theorem flags_piece {k : Nat} {f : UInt8} (h : flagsL[k]? = some f) (w' : World) : (Instr.sliceAt 9 (.string { data := #[101, 102, 117, 120] }) (some (.int .i64 (k : Int))) (some (.int .i64 ((k : Int) + 1))) none).run Tryd.prog w' = .ok (.string (str [f])) w' := by
  obtain ⟨hk, rfl⟩ := List.getElem?_eq_some_iff.1 h
  have h1 := Sw.run_sub_lh (P := Tryd.prog) (w := w') Tryd.underlying9 flagsL .i64 .i64 k (k + 1) (by omega) hk
  have e : (flagsL.take (k + 1)).drop k = [flagsL[k]] := by
    rw [List.take_succ_eq_append_getElem hk, List.drop_append, List.drop_eq_nil_of_le (by rw [List.length_take]; omega), List.nil_append]
    rw [show k - (flagsL.take k).length = 0 by rw [List.length_take]; omega]
    rfl
  rw [e] at h1
  exact h1
set_option maxHeartbeats 4000000 in
theorem ref_flag_calls (w : World) (a1 : Option Addr) (n q : Nat) (st : Int) (fl : Nm) (ga : Option Addr) (gn gc : Nat) (c : UInt8) (on : Bool) (hf : fl.length ≤ 1000000) :
    Calls Tryd.prog 15 #[.agg #[.slice a1 n q, .slice ga gn gc, .int .i64 st, .string (str fl)], .int .u8 (c.toNat : Int), .bool on] w fun e w' => e = .returned (.agg #[.slice a1 n q, .slice ga gn gc, .int .i64 st, .string (str (flagB fl c on))]) ∧ Below w.heap.size w w' := by
  have HI := Lib.hid (BxI.start w (.slice a1 n q) (.slice ga gn gc) st fl)
  go_enter Tryd.func15, Tryd.ntmps15
  go_upto_region 1 with fail
  generalize (w.alloc (.cells #[.slice a1 n q, .slice ga gn gc, .int .i64 st, .string (str fl)] 41)).alloc (.cells #[.slice none 0 0, .slice none 0 0, .int .i64 0, .string ⟨#[]⟩] 41) = w1 at *
  go_wp2_with fail
  go_loopw [8, 9, 10] (fun v8 v9 _ wr => ∃ k : Nat, k ≤ 4 ∧ v9 = .int .i64 k ∧ v8 = .string (str (flagTo fl c on k)) ∧ BxI w (.slice a1 n q) (.slice ga gn gc) st fl wr) (fun _ v9 _ _ => 4 - (intOf v9).toNat)
  case atStart => exact ⟨0, by decide, rfl, rfl, HI.out⟩
  case round =>
    clear HI
    obtain ⟨k, hk, rfl, rfl, hI⟩ := hrel
    have HI2 := Lib.hid hI
    obtain ⟨⟨x0, x1, x2, x3⟩, f0, f1, f2, f3⟩ := env4 hI.k0
    by_cases hlt : k < 4
    · obtain ⟨f, hf1⟩ := flags_at hlt
      have HT := Lib.hid (flagTo_succ fl c on k f hf1)
      have HIx := Lib.hid (flags_index hf1)
      have HPc := Lib.hid (flags_piece hf1)
      have hx : (flagTo fl c on k).length ≤ 4 := flagTo_len fl c on k
      have d0 : decide ((k : Int) < 4) = true := decide_eq_true (by omega)
      have d0' : (k : Int) < 4 := by omega
      have HX := Lib.hid (And.intro (⟨x0, x1, x2, x3⟩ : _ ∧ _ ∧ _ ∧ _) trivial)
      clear hI hf1
      generalize flagTo fl c on k = X at *
      have hno : ¬ 9223372036854775807 < (str X).size + (str [f]).size := by rw [str_size, str_size]; simp; omega
      have HNo := Lib.hid hno
      clear hx hno x0 x1 x2 x3 f0 f1 f2 f3
      go_upto_region 6 with fail
      refine Rg.wp_region_rgt 6 [] [Rg.Is (.agg #[.slice a1 n q, .slice ga gn gc, .int .i64 st, .string (str fl)]), Rg.Is (.string { data := #[101, 102, 117, 120] }), Rg.Is (.int .i64 (k : Int)), Rg.Is (.int .u8 (f.toNat : Int)), Rg.Is (.bool (hasFl fl f)), Rg.Is (.bool (hasFl fl f))] (by kernel_rfl) (by kernel_rfl) (of_decide_eq_true (by kernel_rfl)) (by kernel_rfl) (by kernel_rfl) ⟨Rg.st_is _, Rg.st_is _, Rg.st_is _, Rg.st_is _, Rg.st_is _, Rg.st_is _, trivial⟩ ⟨rfl, rfl, rfl, rfl, rfl, rfl, trivial⟩ ⟨?_, ?_, ?_, ?_, ?_, ?_, trivial⟩ ?_
      · intro _ a wx hb hk
        have h3 : a.eval (.tmp 3) = .pointer (some ⟨w.heap.size, 0, none⟩) := Eq.mp (by kernel_rfl) (hk 3 (by decide))
        exact Rg.does_load _ _ h3 (load_rE (cell_below hb (Nat.le_refl _) HX.out.1.1) (cell_below hb (Nat.le_refl _) HX.out.1.2.1) (cell_below hb (Nat.le_refl _) HX.out.1.2.2.1) (cell_below hb (Nat.le_refl _) HX.out.1.2.2.2)) ⟨Below.refl _ _, rfl⟩
      · intro _ a wx hb hk
        have h7 : a.eval (.tmp 7) = .string { data := #[101, 102, 117, 120] } := Eq.mp (by kernel_rfl) (hk 7 (by decide))
        exact Rg.does_move ⟨Below.refl _ _, h7⟩
      · intro _ a wx hb hk
        have h9 : a.eval (.tmp 9) = .int .i64 (k : Int) := Eq.mp (by kernel_rfl) (hk 9 (by decide))
        exact Rg.does_move ⟨Below.refl _ _, h9⟩
      · intro _ a wx hb hk
        have h16 : a.eval (.tmp 16) = .string { data := #[101, 102, 117, 120] } := Eq.mp (by kernel_rfl) (hk 16 (by decide))
        have h17 : a.eval (.tmp 17) = .int .i64 (k : Int) := Eq.mp (by kernel_rfl) (hk 17 (by decide))
        exact Sw.does_idx _ _ _ h16 h17 (HIx.out wx) ⟨Below.refl _ _, rfl⟩
      · intro _ a wx hb hk
        have h15 : a.eval (.tmp 15) = .agg #[.slice a1 n q, .slice ga gn gc, .int .i64 st, .string (str fl)] := Eq.mp (by kernel_rfl) (hk 15 (by decide))
        have h18 : a.eval (.tmp 18) = .int .u8 (f.toNat : Int) := Eq.mp (by kernel_rfl) (hk 18 (by decide))
        refine Rg.does_func #[.agg #[.slice a1 n q, .slice ga gn gc, .int .i64 st, .string (str fl)], .int .u8 (f.toNat : Int)] Tryd.func23 (by kernel_rfl) (by kernel_rfl) (by simp [h15, h18]) (ref_has_calls wx _ _ st fl f a1 n q ga gn gc rfl rfl hf) ?_
        rintro e w' ⟨rfl, hb'⟩
        exact ⟨_, rfl, hb', rfl⟩
      · intro _ a wx hb hk
        have h19 : a.eval (.tmp 19) = .bool (hasFl fl f) := Eq.mp (by kernel_rfl) (hk 19 (by decide))
        exact Rg.does_assign ⟨Below.refl _ _, h19⟩
      intro vals wD hbD hL
      obtain ⟨g0, g1, g2, g3, g4, g5, _⟩ := hL
      have g5' : vals 5 = .bool (hasFl fl f) := g5
      have HI3 := Lib.hid (HI2.out.below hbD)
      clear g0 g1 g2 g3 g4 g5 hbD HI2 HX
      simp only [Rg.putAll, List.take_succ_cons, List.take_zero, List.drop_succ_cons, List.drop_zero, List.setIfInBounds_toArray, List.set_cons_succ, List.set_cons_zero, g5']
      clear g5'
      have hix := HIx.out
      have hpc := HPc.out
      by_cases e : f = c
      · have HOn : Hid (flOn fl c on f = on) := by show _ = _; simp [flOn, e]
        subst e
        cases on with
        | true =>
          have HT2 : Hid (flagTo fl f true (k + 1) = X ++ [f]) := by show _ = _; rw [HT.out, HOn.out, if_pos rfl]
          have hno := HNo.out
          go_wp2_with fail
          go_roundw
          case rel => exact ⟨k + 1, by omega, by go_num, by rw [HT2.out, str_append], HI3.out⟩
          case measure => simp [intOf]; omega
        | false =>
          have HT2 : Hid (flagTo fl f false (k + 1) = X) := by show _ = _; rw [HT.out, HOn.out, if_neg (by decide), List.append_nil]
          go_wp2_with fail
          go_roundw
          case rel => exact ⟨k + 1, by omega, by go_num, by rw [HT2.out], HI3.out⟩
          case measure => simp [intOf]; omega
      · have hne : ¬ (f.toNat : Int) = (c.toNat : Int) := fun h => e (UInt8.toNat_inj.1 (by omega))
        have d1 : decide ((f.toNat : Int) = (c.toNat : Int)) = false := decide_eq_false hne
        have d2 : ((f.toNat : Int) == (c.toNat : Int)) = false := by simpa using hne
        have HOn : Hid (flOn fl c on f = hasFl fl f) := by show _ = _; simp [flOn, e]
        clear e hne
        by_cases hh : hasFl fl f = true
        · have HT2 : Hid (flagTo fl c on (k + 1) = X ++ [f]) := by show _ = _; rw [HT.out, HOn.out, if_pos hh]
          have hno := HNo.out
          rw [hh]
          clear hh
          go_wp2_with fail
          go_roundw
          case rel => exact ⟨k + 1, by omega, by go_num, by rw [HT2.out, str_append], HI3.out⟩
          case measure => simp [intOf]; omega
        · have hh2 : hasFl fl f = false := by simpa using hh
          have HT2 : Hid (flagTo fl c on (k + 1) = X) := by show _ = _; rw [HT.out, HOn.out, if_neg hh, List.append_nil]
          rw [hh2]
          clear hh hh2
          go_wp2_with fail
          go_roundw
          case rel => exact ⟨k + 1, by omega, by go_num, by rw [HT2.out], HI3.out⟩
          case measure => simp [intOf]; omega
    · obtain rfl : k = 4 := by omega
      have HX : Hid (flagTo fl c on 4 = flagB fl c on) := flagTo_all fl c on
      clear hI
      generalize flagTo fl c on 4 = X at *
      have u1 : decide ((4 : Int) < 4) = false := decide_eq_false (by omega)
      have u2 : ¬ ((4 : Int) < 4) := by omega
      go_upto_region 12 with fail
      have HI3 := Lib.hid (HI2.out.set3 X)
      clear x0 x1 x2 x3 f0 f1 f2 f3 HI2
      generalize wr.setCell ⟨w.heap.size, 3, none⟩ (.string (str X)) = w7 at *
      obtain ⟨⟨c0, c1, c2, c3⟩, f0, f1, f2, f3⟩ := env4 HI3.out.k0
      obtain ⟨⟨d0, d1, d2, d3⟩, e0, e1, e2, e3⟩ := env4 HI3.out.k1
      go_wp2_with fail
      obtain ⟨⟨y0, y1, y2, y3⟩, _⟩ := env4 (env4_set HI3.out.k1 (.slice a1 n q) (.slice ga gn gc) (.int .i64 st) (.string (str X)))
      refine bodyPost_ret (v := .agg #[.slice a1 n q, .slice ga gn gc, .int .i64 st, .string (str X)]) (by simp [results, Tryd.results15, go_sem, y0, y1, y2, y3]) rfl ?_
      rw [HX.out]
      exact ⟨rfl, (((HI3.out.low.setCell (Nat.le_succ _) _).setCell (Nat.le_succ _) _).setCell (Nat.le_succ _) _).setCell (Nat.le_succ _) _⟩
/-- What lies where, while an Env is told as the document has it. -/
structure OfI (w : World) (v0 g : Value) (st : Int) (fl : Nm) (v : Value) (A : World) : Prop where
  k0 : A.heap[w.heap.size]? = some (.cells #[v0, g, .int .i64 st, .string (str fl)] 28)
  k1 : A.heap[w.heap.size + 1]? = some (.cells #[.slice none 0 0, .slice none 0 0, .int .i64 0, .string ⟨#[]⟩] 41)
  k2 : A.heap[w.heap.size + 2]? = some (.cells #[v, g, .int .i64 st, .string (str fl)] 41)
  low : Below w.heap.size w A
  size : w.heap.size + 3 ≤ A.heap.size
theorem OfI.below {w : World} {v0 g : Value} {st : Int} {fl : Nm} {v : Value} {A A' : World} (h : OfI w v0 g st fl v A) (hb : Below A.heap.size A A') : OfI w v0 g st fl v A' :=
  have hs := h.size
  ⟨(hb.block _ (by omega)).trans h.k0, (hb.block _ (by omega)).trans h.k1, (hb.block _ (by omega)).trans h.k2, h.low.trans (hb.mono h.low.size), Nat.le_trans h.size hb.size⟩
theorem OfI.grown {w : World} {v0 g : Value} {st : Int} {fl : Nm} {v : Value} {A A' : World} {q : Option Nat} (h : OfI w v0 g st fl v A) (hb : A.grownBy A' q) (hq : ∀ j, q = some j → w.heap.size + 3 ≤ j) : OfI w v0 g st fl v A' :=
  have hs := h.size
  ⟨(hb.block _ (by omega) (fun e => by have := hq _ e.symm; omega)).trans h.k0, (hb.block _ (by omega) (fun e => by have := hq _ e.symm; omega)).trans h.k1, (hb.block _ (by omega) (fun e => by have := hq _ e.symm; omega)).trans h.k2, h.low.grown hb h.low.size (fun j hj => by have := hq j hj; omega), Nat.le_trans h.size hb.size⟩
theorem OfI.set0 {w : World} {v0 g : Value} {st : Int} {fl : Nm} {v : Value} {A : World} (h : OfI w v0 g st fl v A) (u : Value) : OfI w v0 g st fl u (A.setCell ⟨w.heap.size + 2, 0, none⟩ u) := by
  refine ⟨(set_other A (w.heap.size + 2) 0 u w.heap.size (by omega)).trans h.k0, (set_other A (w.heap.size + 2) 0 u (w.heap.size + 1) (by omega)).trans h.k1, env4_set0 h.k2 u, h.low.setCell (p := ⟨w.heap.size + 2, 0, none⟩) (by show w.heap.size ≤ w.heap.size + 2; omega) u, ?_⟩
  simp
  exact h.size
theorem own_set2 {w A : World} {v : Value} {l : List Vr} (h : OwnRv A (w.heap.size + 3) v l) (u : Value) : OwnRv (A.setCell ⟨w.heap.size + 2, 0, none⟩ u) (w.heap.size + 3) v l := by
  show World.ownsRow _ _ _ _ _ _ _
  have hh : A.ownsRow (w.heap.size + 3) 67 2 v l.length (l.flatMap vrC) := h
  exact ownsRow_setCell_below hh (by show w.heap.size + 2 < _; omega) _
theorem own_boxO {w : World} {B : Nat} {v : Value} {l : List Vr} (h : OwnRv w (B + 3) v l) (u0 u1 u2 u3 : Value) : OwnRv ((((w.setCell ⟨B + 1, 0, none⟩ u0).setCell ⟨B + 1, 1, none⟩ u1).setCell ⟨B + 1, 2, none⟩ u2).setCell ⟨B + 1, 3, none⟩ u3) B v l := by
  show World.ownsRow _ _ _ _ _ _ _
  have hh : w.ownsRow (B + 3) 67 2 v l.length (l.flatMap vrC) := h
  exact own_base (ownsRow_setCell_below (ownsRow_setCell_below (ownsRow_setCell_below (ownsRow_setCell_below hh (by show B + 1 < _; omega) _) (by show B + 1 < _; omega) _) (by show B + 1 < _; omega) _) (by show B + 1 < _; omega) _) (by omega)
theorem load_vrs {w : World} {ad : Addr} {v : Value} (h : w.cell? ad = some v) : (Instr.loadAt 25 (.pointer (some ad))).run Tryd.prog w = .ok v w := by
  go_simp
theorem ar_f0 (b o : Nat) (w : World) : (Instr.fieldAt 36 (.pointer (some ⟨b, o, none⟩)) 0).run Tryd.prog w = .ok (.pointer (some ⟨b, o, none⟩)) w := by rfl
theorem ar_f1 (b o : Nat) (w : World) : (Instr.fieldAt 36 (.pointer (some ⟨b, o, none⟩)) 1).run Tryd.prog w = .ok (.pointer (some ⟨b, o + 1, none⟩)) w := by rfl
theorem ev_f0 (b : Nat) (w : World) : (Instr.fieldAt 28 (.pointer (some ⟨b, 0, none⟩)) 0).run Tryd.prog w = .ok (.pointer (some ⟨b, 0, none⟩)) w := by rfl
theorem build_rv (x y : ByteArray) (w : World) : (Instr.build 67 #[(0, .string x), (1, .string y)]).run Tryd.prog w = .ok (.agg #[.string x, .string y]) w := by
  refine run_build w _ _ _ ?_
  kernel_rfl
set_option maxHeartbeats 4000000 in
theorem of_calls (w : World) (a1 : Option Addr) (n c : Nat) (l : List Vr) (st : Int) (fl : Nm) (ga : Option Addr) (gn gc : Nat) (h : Vrs w a1 n c l) (hl : l.length ≤ 1000000) :
    Calls Tryd.prog 18 #[.agg #[.slice a1 n c, .slice ga gn gc, .int .i64 st, .string (str fl)]] w (RefE w l (.slice ga gn gc) st fl) := by
  obtain ⟨i0, hi0, hz0, hz1, hz2⟩ := info_parts info_rv
  obtain rfl := h.1
  have H := Lib.hid h
  clear h
  go_enter Tryd.func18, Tryd.ntmps18
  go_upto_region 2 with fail
  rw [show w.heap.size + 1 + 1 = w.heap.size + 2 from rfl]
  have HI : Hid (OfI w (.slice a1 l.length c) (.slice ga gn gc) st fl (.slice none 0 0) (((w.alloc (.cells #[.slice a1 l.length c, .slice ga gn gc, .int .i64 st, .string (str fl)] 28)).alloc (.cells #[.slice none 0 0, .slice none 0 0, .int .i64 0, .string ⟨#[]⟩] 41)).alloc (.cells #[.slice none 0 0, .slice ga gn gc, .int .i64 st, .string (str fl)] 41))) := by
    obtain ⟨h0, h1, h2⟩ := Ap.heap3 w (.cells #[.slice a1 l.length c, .slice ga gn gc, .int .i64 st, .string (str fl)] 28) (.cells #[.slice none 0 0, .slice none 0 0, .int .i64 0, .string ⟨#[]⟩] 41) (.cells #[.slice none 0 0, .slice ga gn gc, .int .i64 st, .string (str fl)] 41)
    refine ⟨h0, h1, h2, (((Below.refl w.heap.size w).alloc (Nat.le_refl _) _).alloc (by rw [World.size_alloc]; omega) _).alloc (by rw [World.size_alloc, World.size_alloc]; omega) _, ?_⟩
    rw [World.size_alloc, World.size_alloc, World.size_alloc]
    omega
  generalize ((w.alloc (.cells #[.slice a1 l.length c, .slice ga gn gc, .int .i64 st, .string (str fl)] 28)).alloc (.cells #[.slice none 0 0, .slice none 0 0, .int .i64 0, .string ⟨#[]⟩] 41)).alloc (.cells #[.slice none 0 0, .slice ga gn gc, .int .i64 st, .string (str fl)] 41) = w1 at *
  go_wp2_with fail
  go_loopw [4] (fun v4 wr => ∃ (k : Nat) (v : Value), k ≤ l.length ∧ v4 = .int .i64 k ∧ OwnRv wr (w.heap.size + 3) v (l.take k) ∧ OfI w (.slice a1 l.length c) (.slice ga gn gc) st fl v wr) (fun v4 _ => l.length - (intOf v4).toNat)
  case atStart => exact ⟨0, _, Nat.zero_le _, rfl, World.ownsRow_nil _ _ _ _, HI.out⟩
  case round =>
    clear HI
    obtain ⟨k, v3, hk, rfl, hown, hI⟩ := hrel
    have HI := Lib.hid hI
    obtain ⟨⟨x0, x1, x2, x3⟩, f0, f1, f2, f3⟩ := env4 hI.k0
    by_cases hlt : k < l.length
    · obtain ⟨b1, off, hcs, hix⟩ := vrs_at (H.out.below (Ap.stable_cellsAt vrC) hI.low)
      have HIx := Lib.hid fun W => hix 25 Tryd.underlying25 .i64 k W hlt
      have HC := Lib.hid (hcs k hlt)
      have HTk := Lib.hid (List.take_succ_eq_append_getElem hlt)
      have hO : wr.ownsRow (w.heap.size + 3) 67 2 v3 k ((l.take k).flatMap vrC) := by
        have h1 : wr.ownsRow (w.heap.size + 3) 67 2 v3 (l.take k).length ((l.take k).flatMap vrC) := hown
        rw [show (l.take k).length = k by rw [List.length_take]; omega] at h1
        exact h1
      have HOA := Lib.hid hO
      have HX0 := Lib.hid x0
      have HY0 : Hid (wr.cell? ⟨w.heap.size + 2, 0, none⟩ = some v3) := (env4 hI.k2).1.1
      clear hcs hix hO hown hI
      generalize l[k]'hlt = p at *
      generalize off + k * 2 = o1 at *
      generalize l.take k = old at *
      have u3 : decide (k < l.length) = true := decide_eq_true (by omega)
      have u1 : decide ((k : Int) < (l.length : Int)) = true := decide_eq_true (by omega)
      have u2 : (k : Int) < (l.length : Int) := by omega
      go_upto_region 5 with fail
      have hszr := HI.out.size
      clear x0 x1 x2 x3 f0 f1 f2 f3
      refine Rt.wp_region_rkt 17 [] [Rg.Is (.pointer (some ⟨w.heap.size + 2, 0, none⟩)), Rg.Is (v3), Rg.Is (.pointer (some ⟨w.heap.size, 0, none⟩)), Rg.Is (.slice a1 l.length c), Rg.Is (.int .i64 (k : Int)), Rg.Is (.pointer (some ⟨b1, o1, none⟩)), Rg.Is (.pointer (some ⟨b1, o1, none⟩)), Rg.Is (.string (str p.1)), Rg.Is (.pointer (some ⟨w.heap.size, 0, none⟩)), Rg.Is (.slice a1 l.length c), Rg.Is (.int .i64 (k : Int)), Rg.Is (.pointer (some ⟨b1, o1, none⟩)), Rg.Is (.pointer (some ⟨b1, o1 + 1, none⟩)), Rg.Is (.string (str p.2)), Rg.Is (.agg #[.string (str p.1), .string (str p.2)]), (fun u x => ∃ g, u = .slice (some ⟨g, 0, none⟩) 1 1 ∧ wr.heap.size ≤ g ∧ x.heap[g]? = some (.cells (vrC p).toArray 67)), (fun u x => x.ownsRow (w.heap.size + 3) 67 2 u (k + 1) (old.flatMap vrC ++ vrC p) ∧ OfI w (.slice a1 l.length c) (.slice ga gn gc) st fl v3 x)] (fun _ _ => True) (fun ls x => ls 16 = false → Below wr.heap.size wr x) (fun k x y => if k = 16 then x.grownBy y (Value.ownBlock (v3)) else Below x.heap.size x y) (by kernel_rfl) (by kernel_rfl) (of_decide_eq_true (by kernel_rfl)) (by kernel_rfl) (by kernel_rfl) trivial (fun _ => ⟨rfl, rfl, rfl, Nat.le_refl _, fun _ _ => rfl⟩) (fun ls ls' x e h1 h2 => h1 (by rw [e]; exact h2)) (fun _ _ _ _ _ => trivial) (fun i ls x _ h1 => by rw [show ([] : List Bool).getD i true = true from rfl] at h1; cases h1) ?_ ⟨rfl, rfl, rfl, rfl, rfl, rfl, rfl, rfl, rfl, rfl, rfl, rfl, rfl, rfl, rfl, rfl, rfl, trivial⟩ ⟨?_, ?_, ?_, ?_, ?_, ?_, ?_, ?_, ?_, ?_, ?_, ?_, ?_, ?_, ?_, ?_, ?_, trivial⟩ ?_
      · intro i k u x y hik _ h1 hK
        match i, h1, hik with
        | 0, h1, _ => exact h1
        | 1, h1, _ => exact h1
        | 2, h1, _ => exact h1
        | 3, h1, _ => exact h1
        | 4, h1, _ => exact h1
        | 5, h1, _ => exact h1
        | 6, h1, _ => exact h1
        | 7, h1, _ => exact h1
        | 8, h1, _ => exact h1
        | 9, h1, _ => exact h1
        | 10, h1, _ => exact h1
        | 11, h1, _ => exact h1
        | 12, h1, _ => exact h1
        | 13, h1, _ => exact h1
        | 14, h1, _ => exact h1
        | 15, h1, hik =>
          obtain ⟨g, h2, h3, h4⟩ := h1
          refine ⟨g, h2, h3, ?_⟩
          have hg := (Array.getElem?_eq_some_iff.1 h4).1
          by_cases hk : k = 16
          · subst hk
            rw [if_pos rfl] at hK
            exact (hK.block g hg (fun e => by have := (HOA.out.lt _ e.symm).2; omega)).trans h4
          · rw [if_neg hk] at hK
            exact (hK.block g hg).trans h4
        | 16, h1, hik =>
          rw [if_neg (fun e => hik e.symm)] at hK
          exact ⟨ownsRow_below h1.1 hK, h1.2.below hK⟩
        | _ + 17, _, _ => trivial
      · intro _ b x ls hR hS hself hup hdn hk
        have h3 : b.eval (.tmp 3) = .pointer (some ⟨w.heap.size + 2, 0, none⟩) := Eq.mp (by kernel_rfl) (hk 3 (by decide))
        have lA : ls 16 = false := hdn [1] 16 _ rfl (by kernel_rfl)
        have hb := hS lA
        exact Rs.does_field _ _ h3 (rE_f0 (w.heap.size + 2) x) ⟨by rw [if_neg (by decide)]; exact Below.refl _ _, rfl, fun hh => hS hh⟩
      · intro _ b x ls hR hS hself hup hdn hk
        have h19 : b.eval (.tmp 19) = .pointer (some ⟨w.heap.size + 2, 0, none⟩) := Eq.mp (by kernel_rfl) (hk 19 (by decide))
        have lA : ls 16 = false := hdn [] 16 _ rfl (by kernel_rfl)
        have hb := hS lA
        exact Rg.does_load _ _ h19 (load_rvs (cell_below hb (Nat.le_refl _) HY0.out)) ⟨by rw [if_neg (by decide)]; exact Below.refl _ _, rfl, fun hh => hS hh⟩
      · intro _ b x ls hR hS hself hup hdn hk
        have h1 : b.eval (.tmp 1) = .pointer (some ⟨w.heap.size, 0, none⟩) := Eq.mp (by kernel_rfl) (hk 1 (by decide))
        have lA : ls 16 = false := hdn [15, 14, 7, 6, 5, 3] 16 _ rfl (by kernel_rfl)
        have hb := hS lA
        exact Rs.does_field _ _ h1 (ev_f0 w.heap.size x) ⟨by rw [if_neg (by decide)]; exact Below.refl _ _, rfl, fun hh => hS hh⟩
      · intro _ b x ls hR hS hself hup hdn hk
        have h21 : b.eval (.tmp 21) = .pointer (some ⟨w.heap.size, 0, none⟩) := Eq.mp (by kernel_rfl) (hk 21 (by decide))
        have lA : ls 16 = false := hdn [15, 14, 7, 6, 5] 16 _ rfl (by kernel_rfl)
        have hb := hS lA
        exact Rg.does_load _ _ h21 (load_vrs (cell_below hb (Nat.le_refl _) HX0.out)) ⟨by rw [if_neg (by decide)]; exact Below.refl _ _, rfl, fun hh => hS hh⟩
      · intro _ b x ls hR hS hself hup hdn hk
        have h4 : b.eval (.tmp 4) = .int .i64 (k : Int) := Eq.mp (by kernel_rfl) (hk 4 (by decide))
        have lA : ls 16 = false := hdn [15, 14, 7, 6, 5] 16 _ rfl (by kernel_rfl)
        have hb := hS lA
        exact Rg.does_move ⟨by rw [if_neg (by decide)]; exact Below.refl _ _, h4, fun hh => hS hh⟩
      · intro _ b x ls hR hS hself hup hdn hk
        have h22 : b.eval (.tmp 22) = .slice a1 l.length c := Eq.mp (by kernel_rfl) (hk 22 (by decide))
        have h23 : b.eval (.tmp 23) = .int .i64 (k : Int) := Eq.mp (by kernel_rfl) (hk 23 (by decide))
        have lA : ls 16 = false := hdn [15, 14, 7, 6] 16 _ rfl (by kernel_rfl)
        have hb := hS lA
        exact Rg.does_index _ _ _ h22 h23 (HIx.out x) ⟨by rw [if_neg (by decide)]; exact Below.refl _ _, rfl, fun hh => hS hh⟩
      · intro _ b x ls hR hS hself hup hdn hk
        have h24 : b.eval (.tmp 24) = .pointer (some ⟨b1, o1, none⟩) := Eq.mp (by kernel_rfl) (hk 24 (by decide))
        have lA : ls 16 = false := hdn [15, 14, 7] 16 _ rfl (by kernel_rfl)
        have hb := hS lA
        exact Rs.does_field _ _ h24 (ar_f0 b1 o1 x) ⟨by rw [if_neg (by decide)]; exact Below.refl _ _, rfl, fun hh => hS hh⟩
      · intro _ b x ls hR hS hself hup hdn hk
        have h25 : b.eval (.tmp 25) = .pointer (some ⟨b1, o1, none⟩) := Eq.mp (by kernel_rfl) (hk 25 (by decide))
        have lA : ls 16 = false := hdn [15, 14] 16 _ rfl (by kernel_rfl)
        have hb := hS lA
        exact Rg.does_load _ _ h25 (load_txt (cell_below hb (Nat.le_refl _) HC.out.1)) ⟨by rw [if_neg (by decide)]; exact Below.refl _ _, rfl, fun hh => hS hh⟩
      · intro _ b x ls hR hS hself hup hdn hk
        have h1 : b.eval (.tmp 1) = .pointer (some ⟨w.heap.size, 0, none⟩) := Eq.mp (by kernel_rfl) (hk 1 (by decide))
        have lA : ls 16 = false := hdn [15, 14, 13, 12, 11, 9] 16 _ rfl (by kernel_rfl)
        have hb := hS lA
        exact Rs.does_field _ _ h1 (ev_f0 w.heap.size x) ⟨by rw [if_neg (by decide)]; exact Below.refl _ _, rfl, fun hh => hS hh⟩
      · intro _ b x ls hR hS hself hup hdn hk
        have h27 : b.eval (.tmp 27) = .pointer (some ⟨w.heap.size, 0, none⟩) := Eq.mp (by kernel_rfl) (hk 27 (by decide))
        have lA : ls 16 = false := hdn [15, 14, 13, 12, 11] 16 _ rfl (by kernel_rfl)
        have hb := hS lA
        exact Rg.does_load _ _ h27 (load_vrs (cell_below hb (Nat.le_refl _) HX0.out)) ⟨by rw [if_neg (by decide)]; exact Below.refl _ _, rfl, fun hh => hS hh⟩
      · intro _ b x ls hR hS hself hup hdn hk
        have h4 : b.eval (.tmp 4) = .int .i64 (k : Int) := Eq.mp (by kernel_rfl) (hk 4 (by decide))
        have lA : ls 16 = false := hdn [15, 14, 13, 12, 11] 16 _ rfl (by kernel_rfl)
        have hb := hS lA
        exact Rg.does_move ⟨by rw [if_neg (by decide)]; exact Below.refl _ _, h4, fun hh => hS hh⟩
      · intro _ b x ls hR hS hself hup hdn hk
        have h28 : b.eval (.tmp 28) = .slice a1 l.length c := Eq.mp (by kernel_rfl) (hk 28 (by decide))
        have h29 : b.eval (.tmp 29) = .int .i64 (k : Int) := Eq.mp (by kernel_rfl) (hk 29 (by decide))
        have lA : ls 16 = false := hdn [15, 14, 13, 12] 16 _ rfl (by kernel_rfl)
        have hb := hS lA
        exact Rg.does_index _ _ _ h28 h29 (HIx.out x) ⟨by rw [if_neg (by decide)]; exact Below.refl _ _, rfl, fun hh => hS hh⟩
      · intro _ b x ls hR hS hself hup hdn hk
        have h30 : b.eval (.tmp 30) = .pointer (some ⟨b1, o1, none⟩) := Eq.mp (by kernel_rfl) (hk 30 (by decide))
        have lA : ls 16 = false := hdn [15, 14, 13] 16 _ rfl (by kernel_rfl)
        have hb := hS lA
        exact Rs.does_field _ _ h30 (ar_f1 b1 o1 x) ⟨by rw [if_neg (by decide)]; exact Below.refl _ _, rfl, fun hh => hS hh⟩
      · intro _ b x ls hR hS hself hup hdn hk
        have h31 : b.eval (.tmp 31) = .pointer (some ⟨b1, o1 + 1, none⟩) := Eq.mp (by kernel_rfl) (hk 31 (by decide))
        have lA : ls 16 = false := hdn [15, 14] 16 _ rfl (by kernel_rfl)
        have hb := hS lA
        exact Rg.does_load _ _ h31 (load_txt (cell_below hb (Nat.le_refl _) HC.out.2)) ⟨by rw [if_neg (by decide)]; exact Below.refl _ _, rfl, fun hh => hS hh⟩
      · intro _ b x ls hR hS hself hup hdn hk
        have h26 : b.eval (.tmp 26) = .string (str p.1) := Eq.mp (by kernel_rfl) (hk 26 (by decide))
        have h32 : b.eval (.tmp 32) = .string (str p.2) := Eq.mp (by kernel_rfl) (hk 32 (by decide))
        have lA : ls 16 = false := hdn [15] 16 _ rfl (by kernel_rfl)
        have hb := hS lA
        exact Ap.does_buildS #[(0, .string (str p.1)), (1, .string (str p.2))] _ (by simp [h26, h32]) (build_rv _ _ x) ⟨by rw [if_neg (by decide)]; exact Below.refl _ _, rfl, fun hh => hS hh⟩
      · intro _ b x ls hR hS hself hup hdn hk
        have h33 : b.eval (.tmp 33) = .agg #[.string (str p.1), .string (str p.2)] := Eq.mp (by kernel_rfl) (hk 33 (by decide))
        have lA : ls 16 = false := hdn [] 16 _ rfl (by kernel_rfl)
        have hb := hS lA
        have hal := (Below.refl x.heap.size x).alloc (Nat.le_refl _) (.cells (vrC p).toArray 67)
        exact Rg.does_build #[(0, .agg #[.string (str p.1), .string (str p.2)])] _ (by simp [h33]) (by go_simp; rfl) ⟨by rw [if_neg (by decide)]; exact hal, ⟨x.heap.size, rfl, hb.size, heap_alloc_new x _⟩, fun hh => hb.trans (hal.mono hb.size)⟩
      · intro _ b x ls hR hS hself hup hdn hk
        have h20 : b.eval (.tmp 20) = v3 := Eq.mp (by kernel_rfl) (hk 20 (by decide))
        have h34 : (fun u x => ∃ g, u = .slice (some ⟨g, 0, none⟩) 1 1 ∧ wr.heap.size ≤ g ∧ x.heap[g]? = some (.cells (vrC p).toArray 67)) (b.eval (.tmp 34)) x := Eq.mp (by kernel_rfl) (hk 34 (by decide))
        have hb := hS hself
        obtain ⟨g, h2, h3, h4⟩ := h34
        have hown : x.ownsRow (w.heap.size + 3) 67 2 v3 k (old.flatMap vrC) := ownsRow_below HOA.out hb
        obtain ⟨v', w', hrun, hown', hgr, hat⟩ := Ap.run_append_at (P := Tryd.prog) x (w.heap.size + 3) 39 39 39 67 i0 _ 2 32 Tryd.underlying39 append_rv hi0 hz0 hz1 hz2 rfl (by omega) (by omega) v3 _ _ hown (b.eval (.tmp 34)) 1 (vrC p) (by rw [h2]; exact Ap.src_cellsAt vrC_len vrC_one h4 1) (by unfold maxLen; omega) (by omega) (by have := hb.size; omega)
        exact Ap.does_append v3 _ v' w' h20 rfl hrun ⟨by rw [if_pos rfl]; exact hgr, ⟨hown', (HI.out.below hb).grown hgr (fun j hj => (HOA.out.lt j hj).1)⟩, fun hh => by simp [Rs.upd] at hh⟩
      · intro vals wD ls _ hSD _ hL
        obtain ⟨g0, g1, g2, g3, g4, g5, g6, g7, g8, g9, g10, g11, g12, g13, g14, g15, g16, _⟩ := hL
        obtain ⟨hown, hbel⟩ : wD.ownsRow (w.heap.size + 3) 67 2 (vals 16) (k + 1) (old.flatMap vrC ++ vrC p) ∧ OfI w (.slice a1 l.length c) (.slice ga gn gc) st fl v3 wD := g16
        clear g0 g1 g2 g3 g4 g5 g6 g7 g8 g9 g10 g11 g12 g13 g14 g15
        simp only [Rg.putAll, List.take_succ_cons, List.take_zero, List.drop_succ_cons, List.drop_zero, List.setIfInBounds_toArray, List.set_cons_succ, List.set_cons_zero]
        generalize vals 16 = u3 at *
        have HI3 := Lib.hid (hbel.set0 u3)
        have HOD : Hid (OwnRv (wD.setCell ⟨w.heap.size + 2, 0, none⟩ u3) (w.heap.size + 3) u3 (l.take (k + 1))) := by
          have h1 : wD.ownsRow (w.heap.size + 3) 67 2 u3 (k + 1) ((l.take (k + 1)).flatMap vrC) := by
            rw [HTk.out, List.flatMap_append]
            exact hown
          have h2 : OwnRv wD (w.heap.size + 3) u3 (l.take (k + 1)) := by
            show World.ownsRow _ _ _ _ _ _ _
            rw [show (l.take (k + 1)).length = k + 1 by rw [List.length_take]; omega]
            exact h1
          exact own_set2 h2 u3
        obtain ⟨⟨x0, x1, x2, x3⟩, f0, f1, f2, f3⟩ := env4 hbel.k2
        obtain ⟨_, _, rfl, _⟩ := ownsRow_slice hown
        clear hown hbel
        go_wp2_with fail
        go_roundw
        case rel => exact ⟨k + 1, _, by omega, by go_num, HOD.out, HI3.out⟩
        case measure => simp [intOf]; omega
    · obtain rfl : k = l.length := by omega
      rw [List.take_length] at hown
      obtain ⟨a3, c3, rfl, _⟩ := rv_of_own hown
      have HO := Lib.hid hown
      obtain ⟨⟨y0, y1, y2, y3⟩, e0, e1, e2, e3⟩ := env4 hI.k1
      obtain ⟨⟨z0, z1, z2, z3⟩, j0, j1, j2, j3⟩ := env4 hI.k2
      clear hown hI
      have u3 : decide (l.length < l.length) = false := decide_eq_false (by omega)
      have u1 : decide ((l.length : Int) < (l.length : Int)) = false := decide_eq_false (by omega)
      have u2 : ¬ ((l.length : Int) < (l.length : Int)) := by omega
      go_wp2_with fail
      obtain ⟨⟨y0, y1, y2, y3⟩, _⟩ := env4 (env4_set HI.out.k1 (.slice a3 l.length c3) (.slice ga gn gc) (.int .i64 st) (.string (str fl)))
      refine bodyPost_ret (v := .agg #[.slice a3 l.length c3, .slice ga gn gc, .int .i64 st, .string (str fl)]) (by simp [results, Tryd.results18, go_sem, y0, y1, y2, y3]) rfl ?_
      exact ⟨_, rfl, own_boxO HO.out _ _ _ _, (((HI.out.low.setCell (Nat.le_succ _) _).setCell (Nat.le_succ _) _).setCell (Nat.le_succ _) _).setCell (Nat.le_succ _) _⟩
end Go.Proofs.YtchmpkgjjkfjcaaDoor
