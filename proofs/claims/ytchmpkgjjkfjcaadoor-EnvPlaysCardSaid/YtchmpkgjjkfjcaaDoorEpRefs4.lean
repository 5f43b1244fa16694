/-
  The document's Env: whether two are the same; a flag, on or off. Conditions: the rows are not too long.
-/
import Derived.Test.YtchmpkgjjkfjcaaDoorEpRefs3
set_option linter.unusedVariables false
set_option maxRecDepth 100000
namespace Go.Proofs.YtchmpkgjjkfjcaaDoor
open Go.RowKit Base

theorem rE_f0 (b : Nat) (w : World) : (Instr.fieldAt 41 (.pointer (some ⟨b, 0, none⟩)) 0).run Tryd.prog w = .ok (.pointer (some ⟨b, 0, none⟩)) w := by rfl
theorem rE_f1 (b : Nat) (w : World) : (Instr.fieldAt 41 (.pointer (some ⟨b, 0, none⟩)) 1).run Tryd.prog w = .ok (.pointer (some ⟨b, 1, none⟩)) w := by rfl
theorem rv_f0 (b o : Nat) (w : World) : (Instr.fieldAt 67 (.pointer (some ⟨b, o, none⟩)) 0).run Tryd.prog w = .ok (.pointer (some ⟨b, o, none⟩)) w := by rfl
theorem load_rvs {w : World} {ad : Addr} {v : Value} (h : w.cell? ad = some v) : (Instr.loadAt 39 (.pointer (some ad))).run Tryd.prog w = .ok v w := by
  go_simp
theorem load_rE {w : World} {b : Nat} {v0 v1 v2 v3 : Value} (h0 : w.cell? ⟨b, 0, none⟩ = some v0) (h1 : w.cell? ⟨b, 1, none⟩ = some v1) (h2 : w.cell? ⟨b, 2, none⟩ = some v2) (h3 : w.cell? ⟨b, 3, none⟩ = some v3) : (Instr.loadAt 41 (.pointer (some ⟨b, 0, none⟩))).run Tryd.prog w = .ok (.agg #[v0, v1, v2, v3]) w := by
  go_simp
theorem eq_rv (a b c d : ByteArray) (w : World) : (Op.equalIn 10000 67 (.agg #[.string a, .string b]) (.agg #[.string c, .string d])).run Tryd.prog w = .ok (a.toList == c.toList && b.toList == d.toList) w := by
  have u9 := Tryd.underlying9
  have hS : Tryd.prog.underlying 67 = some (.struct (Tryd.prog.fieldsOf 67)) := by kernel_rfl
  have hp : Tryd.prog.stoodInHeld 67 = false := by kernel_rfl
  rw [show (10000 : Nat) = 9999 + 1 from rfl, run_equalIn_agg w 9999 67 _ _ hS hp]
  simp only [Program.fieldsOf, Tryd.underlying67]
  go_simp
  by_cases h1 : a.toList = c.toList <;> by_cases h2 : b.toList = d.toList <;> simp [h1, h2]
theorem neq_rv (x y : Vr) (w : World) : (binOp .neq 67 (.agg #[.string (str x.1), .string (str x.2)]) (.agg #[.string (str y.1), .string (str y.2)])).run Tryd.prog w = .ok (.bool (!decide (x = y))) w := by
  rw [run_neq_struct, eq_rv, str_toList, str_toList, str_toList, str_toList]
  have : (x.1 == y.1 && x.2 == y.2) = decide (x = y) := by
    rw [Bool.eq_iff_iff]
    simp [Prod.ext_iff]
  rw [this]
  rfl
theorem same_l {l m : List Vr} {A B : List Nm} {st : Int} {fl fl2 : Nm} (h : l ≠ m) : sameB l m A B st st fl fl2 = false := by
  unfold sameB
  rw [decide_eq_false h]; rfl
theorem same_A {l m : List Vr} {A B : List Nm} {st : Int} {fl fl2 : Nm} (h : A ≠ B) : sameB l m A B st st fl fl2 = false := by
  unfold sameB
  rw [decide_eq_false h, Bool.and_false]; rfl
theorem same_fl {l m : List Vr} {A B : List Nm} {st : Int} {fl fl2 : Nm} (h : fl ≠ fl2) : sameB l m A B st st fl fl2 = false := by
  unfold sameB
  rw [decide_eq_false h, Bool.and_false]
theorem len_ne {α : Type} {l m : List α} (h : ¬ l.length = m.length) : l ≠ m := fun e => h (by rw [e])
/-- Two Envs in two boxes. -/
structure TwoE (w : World) (v g : Value) (st : Int) (fl : Nm) (v2 g2 : Value) (fl2 : Nm) (A : World) : Prop where
  k0 : A.heap[w.heap.size]? = some (.cells #[v, g, .int .i64 st, .string (str fl)] 41)
  k1 : A.heap[w.heap.size + 1]? = some (.cells #[v2, g2, .int .i64 st, .string (str fl2)] 41)
  low : Below w.heap.size w A
  size : w.heap.size + 2 ≤ A.heap.size
theorem TwoE.below {w : World} {v g : Value} {st : Int} {fl : Nm} {v2 g2 : Value} {fl2 : Nm} {A A' : World} (h : TwoE w v g st fl v2 g2 fl2 A) (hb : Below A.heap.size A A') : TwoE w v g st fl v2 g2 fl2 A' :=
  have hs := h.size
  ⟨(hb.block _ (by omega)).trans h.k0, (hb.block _ (by omega)).trans h.k1, h.low.trans (hb.mono h.low.size), Nat.le_trans h.size hb.size⟩
set_option maxHeartbeats 8000000 in
theorem ref_same_calls (w : World) (a1 : Option Addr) (n1 c1 : Nat) (l : List Vr) (a2 : Option Addr) (n2 c2 : Nat) (m : List Vr) (g1 : Option Addr) (p1 q1 : Nat) (A : List Nm) (g2 : Option Addr) (p2 q2 : Nat) (B : List Nm) (st : Int) (fl fl2 : Nm)
    (h1 : Vrs w a1 n1 c1 l) (h2 : Vrs w a2 n2 c2 m) (hA : Sts w g1 p1 q1 A) (hB : Sts w g2 p2 q2 B) (hl : l.length ≤ 1000000) (hm : m.length ≤ 1000000) (hlA : A.length ≤ 1000000) (hlB : B.length ≤ 1000000) :
    Calls Tryd.prog 17 #[.agg #[.slice a1 n1 c1, .slice g1 p1 q1, .int .i64 st, .string (str fl)], .agg #[.slice a2 n2 c2, .slice g2 p2 q2, .int .i64 st, .string (str fl2)]] w fun e w' => e = .returned (.bool (sameB l m A B st st fl fl2)) ∧ Below w.heap.size w w' := by
  obtain rfl := h1.1
  obtain rfl := h2.1
  obtain rfl := hA.1
  obtain rfl := hB.1
  obtain ⟨hb0, hb1, hbB, hbs⟩ := two_boxes w (.cells #[.slice a1 l.length c1, .slice g1 A.length q1, .int .i64 st, .string (str fl)] 41) (.cells #[.slice a2 m.length c2, .slice g2 B.length q2, .int .i64 st, .string (str fl2)] 41)
  have HI : Hid (TwoE w (.slice a1 l.length c1) (.slice g1 A.length q1) st fl (.slice a2 m.length c2) (.slice g2 B.length q2) fl2 ((w.alloc (.cells #[.slice a1 l.length c1, .slice g1 A.length q1, .int .i64 st, .string (str fl)] 41)).alloc (.cells #[.slice a2 m.length c2, .slice g2 B.length q2, .int .i64 st, .string (str fl2)] 41))) := ⟨hb0, hb1, hbB, by omega⟩
  have H1 := Lib.hid h1
  have H2 := Lib.hid h2
  have HA := Lib.hid hA
  have HB := Lib.hid hB
  clear h1 h2 hA hB hb0 hb1 hbB hbs
  go_enter Tryd.func17, Tryd.ntmps17
  go_upto_region 1 with fail
  generalize (w.alloc (.cells #[.slice a1 l.length c1, .slice g1 A.length q1, .int .i64 st, .string (str fl)] 41)).alloc (.cells #[.slice a2 m.length c2, .slice g2 B.length q2, .int .i64 st, .string (str fl2)] 41) = w1 at *
  obtain ⟨⟨x0, x1, x2, x3⟩, f0, f1, f2, f3⟩ := env4 HI.out.k0
  obtain ⟨⟨y0, y1, y2, y3⟩, e0, e1, e2, e3⟩ := env4 HI.out.k1
  by_cases hnm : l.length = m.length
  rotate_left
  · have HE := Lib.hid (same_l (A := A) (B := B) (st := st) (fl := fl) (fl2 := fl2) (len_ne hnm))
    have d1 : decide ((l.length : Int) = (m.length : Int)) = false := decide_eq_false (by omega)
    have d2 : ((l.length : Int) == (m.length : Int)) = false := by rw [beq_eq_false_iff_ne]; omega
    have d3 : ((l.length : Int) != (m.length : Int)) = true := by rw [bne_iff_ne]; omega
    clear hnm
    go_wp2_with fail
    go_ret
    rw [HE.out]
    exact ⟨rfl, HI.out.low⟩
  have d1 : decide ((l.length : Int) = (m.length : Int)) = true := decide_eq_true (by omega)
  have d2 : ((l.length : Int) == (m.length : Int)) = true := by rw [beq_iff_eq]; omega
  have d3 : ((l.length : Int) != (m.length : Int)) = false := by rw [bne_eq_false_iff_eq]; omega
  have HNM := Lib.hid hnm
  clear hnm
  by_cases hab : A.length = B.length
  rotate_left
  · have HE := Lib.hid (same_A (l := l) (m := m) (st := st) (fl := fl) (fl2 := fl2) (len_ne hab))
    have b1 : decide ((A.length : Int) = (B.length : Int)) = false := decide_eq_false (by omega)
    have b2 : ((A.length : Int) == (B.length : Int)) = false := by rw [beq_eq_false_iff_ne]; omega
    have b3 : ((A.length : Int) != (B.length : Int)) = true := by rw [bne_iff_ne]; omega
    clear hab
    go_wp2_with fail
    go_ret
    rw [HE.out]
    exact ⟨rfl, HI.out.low⟩
  have b1 : decide ((A.length : Int) = (B.length : Int)) = true := decide_eq_true (by omega)
  have b2 : ((A.length : Int) == (B.length : Int)) = true := by rw [beq_iff_eq]; omega
  have b3 : ((A.length : Int) != (B.length : Int)) = false := by rw [bne_eq_false_iff_eq]; omega
  have HAB := Lib.hid hab
  clear hab
  by_cases hfl : fl = fl2
  rotate_left
  · have HE := Lib.hid (same_fl (l := l) (m := m) (A := A) (B := B) (st := st) hfl)
    have z1 : ((str fl).toList == (str fl2).toList) = false := by rw [str_toList, str_toList]; simpa using hfl
    clear hfl
    go_wp2_with fail
    go_ret
    rw [HE.out]
    exact ⟨rfl, HI.out.low⟩
  have z1 : ((str fl).toList == (str fl2).toList) = true := by rw [hfl]; exact beq_self_eq_true _
  have HFl := Lib.hid hfl
  clear hfl
  go_upto_region 3 with fail
  clear d1 d2 d3 b1 b2 b3 z1 x0 x1 x2 x3 f0 f1 f2 f3 y0 y1 y2 y3 e0 e1 e2 e3
  go_wp2_with fail
  go_loopw [5] (fun v5 wr => ∃ k : Nat, k ≤ l.length ∧ v5 = .int .i64 k ∧ Hid (l.take k = m.take k) ∧ TwoE w (.slice a1 l.length c1) (.slice g1 A.length q1) st fl (.slice a2 m.length c2) (.slice g2 B.length q2) fl2 wr) (fun v5 _ => l.length - (intOf v5).toNat)
  case atStart => exact ⟨0, Nat.zero_le _, rfl, Lib.hid rfl, HI.out⟩
  case round =>
    clear HI
    obtain ⟨k, hk, rfl, HT, hI⟩ := hrel
    have HI := Lib.hid hI
    obtain ⟨⟨x0, x1, x2, x3⟩, f0, f1, f2, f3⟩ := env4 hI.k0
    obtain ⟨⟨y0, y1, y2, y3⟩, e0, e1, e2, e3⟩ := env4 hI.k1
    by_cases hlt : k < l.length
    · have hlt2 : k < m.length := by have := HNM.out; omega
      obtain ⟨b1, off1, hc1, hx1⟩ := rv_at (H1.out.below (Ap.stable_cellsAt vrC) hI.low)
      obtain ⟨b2, off2, hc2, hx2⟩ := rv_at (H2.out.below (Ap.stable_cellsAt vrC) hI.low)
      have HX1 := Lib.hid fun W => hx1 .i64 k W hlt
      have HX2 := Lib.hid fun W => hx2 .i64 k W hlt2
      have HC1 := Lib.hid (hc1 k hlt)
      have HC2 := Lib.hid (hc2 k hlt2)
      have HEq := Lib.hid fun h => take_step HT.out hlt hlt2 h
      have HNe := Lib.hid fun h => ne_step hlt hlt2 h
      have HX0 := Lib.hid x0
      have HY0 := Lib.hid y0
      clear hc1 hc2 hx1 hx2 hI
      generalize l[k]'hlt = x at *
      generalize m[k]'hlt2 = y at *
      generalize off1 + k * 2 = o1 at *
      generalize off2 + k * 2 = o2 at *
      have u3 : decide (k < l.length) = true := decide_eq_true (by omega)
      have u1 : decide ((k : Int) < (l.length : Int)) = true := decide_eq_true (by omega)
      have u2 : (k : Int) < (l.length : Int) := by omega
      go_upto_region 6 with fail
      refine Rg.wp_region_rgt 11 [] [Rg.Is (.pointer (some ⟨w.heap.size, 0, none⟩)), Rg.Is (.slice a1 l.length c1), Rg.Is (.int .i64 (k : Int)), Rg.Is (.pointer (some ⟨b1, o1, none⟩)), Rg.Is (.agg #[.string (str x.1), .string (str x.2)]), Rg.Is (.pointer (some ⟨w.heap.size + 1, 0, none⟩)), Rg.Is (.slice a2 m.length c2), Rg.Is (.int .i64 (k : Int)), Rg.Is (.pointer (some ⟨b2, o2, none⟩)), Rg.Is (.agg #[.string (str y.1), .string (str y.2)]), Rg.Is (.bool (!decide (x = y)))] (by kernel_rfl) (by kernel_rfl) (of_decide_eq_true (by kernel_rfl)) (by kernel_rfl) (by kernel_rfl) ⟨Rg.st_is _, Rg.st_is _, Rg.st_is _, Rg.st_is _, Rg.st_is _, Rg.st_is _, Rg.st_is _, Rg.st_is _, Rg.st_is _, Rg.st_is _, Rg.st_is _, trivial⟩ ⟨rfl, rfl, rfl, rfl, rfl, rfl, rfl, rfl, rfl, rfl, rfl, trivial⟩ ⟨?_, ?_, ?_, ?_, ?_, ?_, ?_, ?_, ?_, ?_, ?_, trivial⟩ ?_
      · intro _ a wx hb hk
        have h2 : a.eval (.tmp 2) = .pointer (some ⟨w.heap.size, 0, none⟩) := Eq.mp (by kernel_rfl) (hk 2 (by decide))
        exact Rs.does_field _ _ h2 (rE_f0 w.heap.size wx) ⟨Below.refl _ _, rfl⟩
      · intro _ a wx hb hk
        have h44 : a.eval (.tmp 44) = .pointer (some ⟨w.heap.size, 0, none⟩) := Eq.mp (by kernel_rfl) (hk 44 (by decide))
        exact Rg.does_load _ _ h44 (load_rvs (cell_below hb (Nat.le_refl _) HX0.out)) ⟨Below.refl _ _, rfl⟩
      · intro _ a wx hb hk
        have h5 : a.eval (.tmp 5) = .int .i64 (k : Int) := Eq.mp (by kernel_rfl) (hk 5 (by decide))
        exact Rg.does_move ⟨Below.refl _ _, h5⟩
      · intro _ a wx hb hk
        have h45 : a.eval (.tmp 45) = .slice a1 l.length c1 := Eq.mp (by kernel_rfl) (hk 45 (by decide))
        have h46 : a.eval (.tmp 46) = .int .i64 (k : Int) := Eq.mp (by kernel_rfl) (hk 46 (by decide))
        exact Rg.does_index _ _ _ h45 h46 (HX1.out wx) ⟨Below.refl _ _, rfl⟩
      · intro _ a wx hb hk
        have h47 : a.eval (.tmp 47) = .pointer (some ⟨b1, o1, none⟩) := Eq.mp (by kernel_rfl) (hk 47 (by decide))
        exact Rg.does_load _ _ h47 (load_rv (cell_below hb (Nat.le_refl _) HC1.out.1) (cell_below hb (Nat.le_refl _) HC1.out.2)) ⟨Below.refl _ _, rfl⟩
      · intro _ a wx hb hk
        have h3 : a.eval (.tmp 3) = .pointer (some ⟨w.heap.size + 1, 0, none⟩) := Eq.mp (by kernel_rfl) (hk 3 (by decide))
        exact Rs.does_field _ _ h3 (rE_f0 (w.heap.size + 1) wx) ⟨Below.refl _ _, rfl⟩
      · intro _ a wx hb hk
        have h49 : a.eval (.tmp 49) = .pointer (some ⟨w.heap.size + 1, 0, none⟩) := Eq.mp (by kernel_rfl) (hk 49 (by decide))
        exact Rg.does_load _ _ h49 (load_rvs (cell_below hb (Nat.le_refl _) HY0.out)) ⟨Below.refl _ _, rfl⟩
      · intro _ a wx hb hk
        have h5 : a.eval (.tmp 5) = .int .i64 (k : Int) := Eq.mp (by kernel_rfl) (hk 5 (by decide))
        exact Rg.does_move ⟨Below.refl _ _, h5⟩
      · intro _ a wx hb hk
        have h50 : a.eval (.tmp 50) = .slice a2 m.length c2 := Eq.mp (by kernel_rfl) (hk 50 (by decide))
        have h51 : a.eval (.tmp 51) = .int .i64 (k : Int) := Eq.mp (by kernel_rfl) (hk 51 (by decide))
        exact Rg.does_index _ _ _ h50 h51 (HX2.out wx) ⟨Below.refl _ _, rfl⟩
      · intro _ a wx hb hk
        have h52 : a.eval (.tmp 52) = .pointer (some ⟨b2, o2, none⟩) := Eq.mp (by kernel_rfl) (hk 52 (by decide))
        exact Rg.does_load _ _ h52 (load_rv (cell_below hb (Nat.le_refl _) HC2.out.1) (cell_below hb (Nat.le_refl _) HC2.out.2)) ⟨Below.refl _ _, rfl⟩
      · intro _ a wx hb hk
        have h48 : a.eval (.tmp 48) = .agg #[.string (str x.1), .string (str x.2)] := Eq.mp (by kernel_rfl) (hk 48 (by decide))
        have h53 : a.eval (.tmp 53) = .agg #[.string (str y.1), .string (str y.2)] := Eq.mp (by kernel_rfl) (hk 53 (by decide))
        exact does_bin_agg _ _ _ h48 h53 (by kernel_rfl) (neq_rv x y wx) ⟨Below.refl _ _, rfl⟩
      intro vals wD hbD hL
      obtain ⟨g0, g1, g2, g3, g4, g5, g6, g7, g8, g9, g10, _⟩ := hL
      have g8' : vals 10 = .bool (!decide (x = y)) := g10
      have HI2 := Lib.hid (HI.out.below hbD)
      clear g0 g1 g2 g3 g4 g5 g6 g7 g8 g9 g10 hbD x0 x1 x2 x3 f0 f1 f2 f3 y0 y1 y2 y3 e0 e1 e2 e3
      simp only [Rg.putAll, List.take_succ_cons, List.take_zero, List.drop_succ_cons, List.drop_zero, List.setIfInBounds_toArray, List.set_cons_succ, List.set_cons_zero, g8']
      clear g8'
      by_cases e : x = y
      · have HE2 := Lib.hid (HEq.out e)
        have dd : (!decide (x = y)) = false := by rw [decide_eq_true e]; rfl
        rw [dd]
        clear e dd
        go_wp2_with fail
        go_roundw
        case rel => exact ⟨k + 1, by omega, by go_num, HE2, HI2.out⟩
        case measure => simp [intOf]; omega
      · have HE2 := Lib.hid (same_l (A := A) (B := B) (st := st) (fl := fl) (fl2 := fl2) (HNe.out e))
        have dd : (!decide (x = y)) = true := by rw [decide_eq_false e]; rfl
        rw [dd]
        clear e dd
        go_wp2_with fail
        go_ret
        rw [HE2.out]
        exact ⟨rfl, HI2.out.low⟩
    · obtain rfl : k = l.length := by omega
      have HEV := Lib.hid (all_step HNM.out HT.out)
      have u3 : decide (l.length < l.length) = false := decide_eq_false (by omega)
      have u1 : decide ((l.length : Int) < (l.length : Int)) = false := decide_eq_false (by omega)
      have u2 : ¬ ((l.length : Int) < (l.length : Int)) := by omega
      go_upto_region 8 with fail
      clear u1 u2 u3 hI hlt hk x0 x1 x2 x3 f0 f1 f2 f3 y0 y1 y2 y3 e0 e1 e2 e3
      go_wp2_with fail
      go_loopw [6] (fun v6 wz => ∃ k : Nat, k ≤ A.length ∧ v6 = .int .i64 k ∧ Hid (A.take k = B.take k) ∧ TwoE w (.slice a1 l.length c1) (.slice g1 A.length q1) st fl (.slice a2 m.length c2) (.slice g2 B.length q2) fl2 wz) (fun v6 _ => A.length - (intOf v6).toNat)
      case atStart => exact ⟨0, Nat.zero_le _, rfl, Lib.hid rfl, HI.out⟩
      case round =>
        clear HI HT
        obtain ⟨k, hk, rfl, HT, hI⟩ := hrel
        have HI := Lib.hid hI
        obtain ⟨⟨x0, x1, x2, x3⟩, f0, f1, f2, f3⟩ := env4 hI.k0
        obtain ⟨⟨y0, y1, y2, y3⟩, e0, e1, e2, e3⟩ := env4 hI.k1
        by_cases hlt : k < A.length
        · have hlt2 : k < B.length := by have := HAB.out; omega
          obtain ⟨b1, off1, hc1, hx1⟩ := sts_at (HA.out.below (Ap.stable_cellsAt stC) hI.low)
          obtain ⟨b2, off2, hc2, hx2⟩ := sts_at (HB.out.below (Ap.stable_cellsAt stC) hI.low)
          have HX1 := Lib.hid fun W => hx1 26 Tryd.underlying26 .i64 k W hlt
          have HX2 := Lib.hid fun W => hx2 26 Tryd.underlying26 .i64 k W hlt2
          have HC1 := Lib.hid (hc1 k hlt)
          have HC2 := Lib.hid (hc2 k hlt2)
          have HEq := Lib.hid fun h => take_step HT.out hlt hlt2 h
          have HNe := Lib.hid fun h => ne_step hlt hlt2 h
          have HX0 := Lib.hid x1
          have HY0 := Lib.hid y1
          clear hc1 hc2 hx1 hx2 hI
          generalize A[k]'hlt = x at *
          generalize B[k]'hlt2 = y at *
          generalize off1 + k = o1 at *
          generalize off2 + k = o2 at *
          have u3 : decide (k < A.length) = true := decide_eq_true (by omega)
          have u1 : decide ((k : Int) < (A.length : Int)) = true := decide_eq_true (by omega)
          have u2 : (k : Int) < (A.length : Int) := by omega
          go_upto_region 11 with fail
          refine Rg.wp_region_rgt 11 [] [Rg.Is (.pointer (some ⟨w.heap.size, 1, none⟩)), Rg.Is (.slice g1 A.length q1), Rg.Is (.int .i64 (k : Int)), Rg.Is (.pointer (some ⟨b1, o1, none⟩)), Rg.Is (.string (str x)), Rg.Is (.pointer (some ⟨w.heap.size + 1, 1, none⟩)), Rg.Is (.slice g2 B.length q2), Rg.Is (.int .i64 (k : Int)), Rg.Is (.pointer (some ⟨b2, o2, none⟩)), Rg.Is (.string (str y)), Rg.Is (.bool (!decide (x = y)))] (by kernel_rfl) (by kernel_rfl) (of_decide_eq_true (by kernel_rfl)) (by kernel_rfl) (by kernel_rfl) ⟨Rg.st_is _, Rg.st_is _, Rg.st_is _, Rg.st_is _, Rg.st_is _, Rg.st_is _, Rg.st_is _, Rg.st_is _, Rg.st_is _, Rg.st_is _, Rg.st_is _, trivial⟩ ⟨rfl, rfl, rfl, rfl, rfl, rfl, rfl, rfl, rfl, rfl, rfl, trivial⟩ ⟨?_, ?_, ?_, ?_, ?_, ?_, ?_, ?_, ?_, ?_, ?_, trivial⟩ ?_
          · intro _ a wx hb hk
            have h2 : a.eval (.tmp 2) = .pointer (some ⟨w.heap.size, 0, none⟩) := Eq.mp (by kernel_rfl) (hk 2 (by decide))
            exact Rs.does_field _ _ h2 (rE_f1 w.heap.size wx) ⟨Below.refl _ _, rfl⟩
          · intro _ a wx hb hk
            have h62 : a.eval (.tmp 62) = .pointer (some ⟨w.heap.size, 1, none⟩) := Eq.mp (by kernel_rfl) (hk 62 (by decide))
            exact Rg.does_load _ _ h62 (load_strs (cell_below hb (Nat.le_refl _) HX0.out)) ⟨Below.refl _ _, rfl⟩
          · intro _ a wx hb hk
            have h6 : a.eval (.tmp 6) = .int .i64 (k : Int) := Eq.mp (by kernel_rfl) (hk 6 (by decide))
            exact Rg.does_move ⟨Below.refl _ _, h6⟩
          · intro _ a wx hb hk
            have h63 : a.eval (.tmp 63) = .slice g1 A.length q1 := Eq.mp (by kernel_rfl) (hk 63 (by decide))
            have h64 : a.eval (.tmp 64) = .int .i64 (k : Int) := Eq.mp (by kernel_rfl) (hk 64 (by decide))
            exact Rg.does_index _ _ _ h63 h64 (HX1.out wx) ⟨Below.refl _ _, rfl⟩
          · intro _ a wx hb hk
            have h65 : a.eval (.tmp 65) = .pointer (some ⟨b1, o1, none⟩) := Eq.mp (by kernel_rfl) (hk 65 (by decide))
            exact Rg.does_load _ _ h65 (load_txt (cell_below hb (Nat.le_refl _) HC1.out)) ⟨Below.refl _ _, rfl⟩
          · intro _ a wx hb hk
            have h3 : a.eval (.tmp 3) = .pointer (some ⟨w.heap.size + 1, 0, none⟩) := Eq.mp (by kernel_rfl) (hk 3 (by decide))
            exact Rs.does_field _ _ h3 (rE_f1 (w.heap.size + 1) wx) ⟨Below.refl _ _, rfl⟩
          · intro _ a wx hb hk
            have h67 : a.eval (.tmp 67) = .pointer (some ⟨w.heap.size + 1, 1, none⟩) := Eq.mp (by kernel_rfl) (hk 67 (by decide))
            exact Rg.does_load _ _ h67 (load_strs (cell_below hb (Nat.le_refl _) HY0.out)) ⟨Below.refl _ _, rfl⟩
          · intro _ a wx hb hk
            have h6 : a.eval (.tmp 6) = .int .i64 (k : Int) := Eq.mp (by kernel_rfl) (hk 6 (by decide))
            exact Rg.does_move ⟨Below.refl _ _, h6⟩
          · intro _ a wx hb hk
            have h68 : a.eval (.tmp 68) = .slice g2 B.length q2 := Eq.mp (by kernel_rfl) (hk 68 (by decide))
            have h69 : a.eval (.tmp 69) = .int .i64 (k : Int) := Eq.mp (by kernel_rfl) (hk 69 (by decide))
            exact Rg.does_index _ _ _ h68 h69 (HX2.out wx) ⟨Below.refl _ _, rfl⟩
          · intro _ a wx hb hk
            have h70 : a.eval (.tmp 70) = .pointer (some ⟨b2, o2, none⟩) := Eq.mp (by kernel_rfl) (hk 70 (by decide))
            exact Rg.does_load _ _ h70 (load_txt (cell_below hb (Nat.le_refl _) HC2.out)) ⟨Below.refl _ _, rfl⟩
          · intro _ a wx hb hk
            have h66 : a.eval (.tmp 66) = .string (str x) := Eq.mp (by kernel_rfl) (hk 66 (by decide))
            have h71 : a.eval (.tmp 71) = .string (str y) := Eq.mp (by kernel_rfl) (hk 71 (by decide))
            exact Sw.does_bin_str _ _ _ h66 h71 (neq_txt x y _ wx) ⟨Below.refl _ _, rfl⟩
          intro vals wD hbD hL
          obtain ⟨g0, g1, g2, g3, g4, g5, g6, g7, g8, g9, g10, _⟩ := hL
          have g8' : vals 10 = .bool (!decide (x = y)) := g10
          have HI2 := Lib.hid (HI.out.below hbD)
          clear g0 g1 g2 g3 g4 g5 g6 g7 g8 g9 g10 hbD x0 x1 x2 x3 f0 f1 f2 f3 y0 y1 y2 y3 e0 e1 e2 e3
          simp only [Rg.putAll, List.take_succ_cons, List.take_zero, List.drop_succ_cons, List.drop_zero, List.setIfInBounds_toArray, List.set_cons_succ, List.set_cons_zero, g8']
          clear g8'
          by_cases e : x = y
          · have HE2 := Lib.hid (HEq.out e)
            have dd : (!decide (x = y)) = false := by rw [decide_eq_true e]; rfl
            rw [dd]
            clear e dd
            go_wp2_with fail
            go_roundw
            case rel => exact ⟨k + 1, by omega, by go_num, HE2, HI2.out⟩
            case measure => simp [intOf]; omega
          · have HE2 := Lib.hid (same_A (l := l) (m := m) (st := st) (fl := fl) (fl2 := fl2) (HNe.out e))
            have dd : (!decide (x = y)) = true := by rw [decide_eq_false e]; rfl
            rw [dd]
            clear e dd
            go_wp2_with fail
            go_ret
            rw [HE2.out]
            exact ⟨rfl, HI2.out.low⟩
        · obtain rfl : k = A.length := by omega
          have HE2 : Hid (sameB l m A B st st fl fl2 = true) := by
            show _ = _
            unfold sameB
            rw [decide_eq_true HEV.out, decide_eq_true (all_step HAB.out HT.out), decide_eq_true HFl.out]
            simp
          have u3 : decide (A.length < A.length) = false := decide_eq_false (by omega)
          have u1 : decide ((A.length : Int) < (A.length : Int)) = false := decide_eq_false (by omega)
          have u2 : ¬ ((A.length : Int) < (A.length : Int)) := by omega
          go_wp2_with fail
          go_ret
          rw [HE2.out]
          exact ⟨rfl, HI.out.low⟩
end Go.Proofs.YtchmpkgjjkfjcaaDoor
