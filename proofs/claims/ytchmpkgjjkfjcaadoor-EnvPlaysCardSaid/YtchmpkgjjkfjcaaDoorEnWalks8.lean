/-
  Whether two Envs are the same. Conditions: rows are not too long.
-/
import Derived.Test.YtchmpkgjjkfjcaaDoorEnWalks7
set_option linter.unusedVariables false
set_option maxRecDepth 100000
namespace Go.Proofs.YtchmpkgjjkfjcaaDoor
open Go.RowKit Base

def sameB (l m : List Vr) (A B : List Nm) (st st2 : Int) (fl fl2 : Nm) : Bool := decide (l = m) && decide (A = B) && decide (st = st2) && decide (fl = fl2)
set_option maxHeartbeats 4000000 in
theorem en_same_calls (w : World) (a1 : Option Addr) (n1 c1 : Nat) (l : List Vr) (a2 : Option Addr) (n2 c2 : Nat) (m : List Vr) (g1 : Option Addr) (p1 q1 : Nat) (A : List Nm) (g2 : Option Addr) (p2 q2 : Nat) (B : List Nm) (st st2 : Int) (fl fl2 : Nm)
    (h1 : Vrs w a1 n1 c1 l) (h2 : Vrs w a2 n2 c2 m) (hA : Sts w g1 p1 q1 A) (hB : Sts w g2 p2 q2 B) (hl : l.length ≤ 1000000) (hm : m.length ≤ 1000000) (hlA : A.length ≤ 1000000) (hlB : B.length ≤ 1000000) :
    Calls Tryd.prog 11 #[.agg #[.slice a1 n1 c1, .slice g1 p1 q1, .int .i64 st, .string (str fl)], .agg #[.slice a2 n2 c2, .slice g2 p2 q2, .int .i64 st2, .string (str fl2)]] w fun e w' => e = .returned (.bool (sameB l m A B st st2 fl fl2)) ∧ Below w.heap.size w w' := by
  have HV := Lib.hid fun W u1 u2 => en_equal_calls W a1 n1 c1 l a2 n2 c2 m u1 u2 hl hm
  have HS := Lib.hid fun W u1 u2 => st_equal_calls W g1 p1 q1 A g2 p2 q2 B u1 u2 hlA hlB
  have H1 := Lib.hid h1
  have H2 := Lib.hid h2
  have HA := Lib.hid hA
  have HB := Lib.hid hB
  clear h1 h2 hA hB hl hm hlA hlB
  obtain ⟨hb0, hb1, hbB, hbs⟩ := two_boxes w (.cells #[.slice a1 n1 c1, .slice g1 p1 q1, .int .i64 st, .string (str fl)] 28) (.cells #[.slice a2 n2 c2, .slice g2 p2 q2, .int .i64 st2, .string (str fl2)] 28)
  go_enter Tryd.func11, Tryd.ntmps11
  go_upto_region 1 with fail
  generalize (w.alloc (.cells #[.slice a1 n1 c1, .slice g1 p1 q1, .int .i64 st, .string (str fl)] 28)).alloc (.cells #[.slice a2 n2 c2, .slice g2 p2 q2, .int .i64 st2, .string (str fl2)] 28) = w1 at *
  have HBl := Lib.hid hbB
  obtain ⟨⟨c0, c1, c2, c3⟩, f0, f1, f2, f3⟩ := env4 hb0
  obtain ⟨⟨d0, d1, d2, d3⟩, e0, e1, e2, e3⟩ := env4 hb1
  have HK0 := Lib.hid hb0
  have HK1 := Lib.hid hb1
  have HSz := Lib.hid hbs
  clear hb0 hb1 hbB hbs
  go_wp2_with fail
  refine (HV.out w1 (H1.out.below (Ap.stable_cellsAt vrC) HBl.out) (H2.out.below (Ap.stable_cellsAt vrC) HBl.out)).mono ?_
  rintro e w2 ⟨rfl, hb2⟩
  have HB2 := Lib.hid (HBl.out.trans (hb2.mono HBl.out.size))
  have k0 := (hb2.block w.heap.size (by have := HSz.out; omega)).trans HK0.out
  have k1 := (hb2.block (w.heap.size + 1) (by have := HSz.out; omega)).trans HK1.out
  have HS2 := Lib.hid (show w.heap.size + 2 ≤ w2.heap.size by have := HSz.out; have := hb2.size; omega)
  clear c0 c1 c2 c3 f0 f1 f2 f3 d0 d1 d2 d3 e0 e1 e2 e3 HK0 HK1 HSz hb2 HBl
  by_cases e1 : l = m
  · have x1 : decide (l = m) = true := decide_eq_true e1
    have HX1 := Lib.hid x1
    rw [x1]
    clear e1 x1
    obtain ⟨⟨c0, c1, c2, c3⟩, f0, f1, f2, f3⟩ := env4 k0
    obtain ⟨⟨d0, d1, d2, d3⟩, e0, e1, e2, e3⟩ := env4 k1
    have HK0 := Lib.hid k0
    have HK1 := Lib.hid k1
    clear k0 k1
    go_wp2_with fail
    refine (HS.out w2 (HA.out.below (Ap.stable_cellsAt stC) HB2.out) (HB.out.below (Ap.stable_cellsAt stC) HB2.out)).mono ?_
    rintro e w3 ⟨rfl, hb3⟩
    have HB3 := Lib.hid (HB2.out.trans (hb3.mono HB2.out.size))
    have k0 := (hb3.block w.heap.size (by have := HS2.out; omega)).trans HK0.out
    have k1 := (hb3.block (w.heap.size + 1) (by have := HS2.out; omega)).trans HK1.out
    clear c0 c1 c2 c3 f0 f1 f2 f3 d0 d1 d2 d3 e0 e1 e2 e3 HK0 HK1 hb3
    by_cases e1 : A = B
    · have x1 : decide (A = B) = true := decide_eq_true e1
      have HX2 := Lib.hid x1
      rw [x1]
      clear e1 x1
      obtain ⟨⟨c0, c1, c2, c3⟩, f0, f1, f2, f3⟩ := env4 k0
      obtain ⟨⟨d0, d1, d2, d3⟩, e0, e1, e2, e3⟩ := env4 k1
      clear k0 k1
      by_cases e1 : st = st2
      · have x1 : decide (st = st2) = true := decide_eq_true e1
        have x2 : (st == st2) = true := by rw [beq_iff_eq]; exact e1
        have HX3 := Lib.hid x1
        clear e1
        by_cases e1 : fl = fl2
        · have x3 : ((str fl).toList == (str fl2).toList) = true := by rw [e1]; exact beq_self_eq_true _
          have HR : Hid (sameB l m A B st st2 fl fl2 = true) := by show _ = _; unfold sameB; rw [HX1.out, HX2.out, HX3.out, decide_eq_true e1]; rfl
          clear e1
          go_wp2_with fail
          go_ret
          rw [HR.out]
          exact ⟨rfl, HB3.out⟩
        · have x3 : ((str fl).toList == (str fl2).toList) = false := by rw [str_toList, str_toList]; simpa using e1
          have HR : Hid (sameB l m A B st st2 fl fl2 = false) := by show _ = _; unfold sameB; rw [decide_eq_false e1, Bool.and_false]
          clear e1
          go_wp2_with fail
          go_ret
          rw [HR.out]
          exact ⟨rfl, HB3.out⟩
      · have x1 : decide (st = st2) = false := decide_eq_false e1
        have x2 : (st == st2) = false := by rw [beq_eq_false_iff_ne]; exact e1
        have HR : Hid (sameB l m A B st st2 fl fl2 = false) := by show _ = _; unfold sameB; rw [x1, Bool.and_false]; rfl
        go_wp2_with fail
        go_ret
        rw [HR.out]
        exact ⟨rfl, HB3.out⟩
    · have x1 : decide (A = B) = false := decide_eq_false e1
      have HR : Hid (sameB l m A B st st2 fl fl2 = false) := by show _ = _; unfold sameB; rw [x1, Bool.and_false]; rfl
      rw [x1]
      clear e1 x1 k0 k1
      go_wp2_with fail
      go_ret
      rw [HR.out]
      exact ⟨rfl, HB3.out⟩
  · have x1 : decide (l = m) = false := decide_eq_false e1
    have HR : Hid (sameB l m A B st st2 fl fl2 = false) := by show _ = _; unfold sameB; rw [x1]; rfl
    rw [x1]
    clear e1 x1 k0 k1
    go_wp2_with fail
    go_ret
    rw [HR.out]
    exact ⟨rfl, HB2.out⟩
end Go.Proofs.YtchmpkgjjkfjcaaDoor
