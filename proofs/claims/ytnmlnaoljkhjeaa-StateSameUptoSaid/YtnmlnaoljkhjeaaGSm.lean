/-
  State: a state that differs in one field: its cells, its bytes' length. No program stands here. Conditions: as each law says.
  State: the statement StateSame, walked. Conditions: as each contract says.
-/
import Derived.Test.YtnmlnaoljkhjeaaStCutsLaw
/-! StSameMod -/
set_option linter.unusedVariables false
set_option maxRecDepth 100000
namespace Go.Proofs.Ytnmlnaoljkhjeaa
open Go.RowKit Base

theorem stateA_mk {W : World} {a : StateD} {p0 p1 p4 p5 p6 p7 p8 p13 p19 p21 : Option Addr} {k0 k1 k4 k5 k6 k7 k8 k13 k19 k21 : Nat} (E0 : RowE 2 (flatH varV) W p0 k0 a.1.1.1) (E1 : RowE 1 (flatH txtV) W p1 k1 a.1.1.2.1) (E4 : RowE 3 (flatH fnV) W p4 k4 a.1.2.1) (E5 : RowE 2 (flatH trapV) W p5 k5 a.1.2.2.1) (E6 : RowE 2 (flatH prV) W p6 k6 a.1.2.2.2) (E7 : RowE 1 (flatH txtV) W p7 k7 a.2.1) (E8 : RowE 19 frameA W p8 k8 a.2.2.1) (E13 : RowE 1 (flatH txtV) W p13 k13 a.2.2.2.1.2.2.2.2) (E19 : RowE 1 (flatH txtV) W p19 k19 a.2.2.2.2.1.2.2.2.2.1) (E21 : RowE 1 (flatH numV) W p21 k21 a.2.2.2.2.2.1) : stateA W [.slice p0 a.1.1.1.length k0, .slice p1 a.1.1.2.1.length k1, .int .i64 a.1.1.2.2.1, .string (str a.1.1.2.2.2), .slice p4 a.1.2.1.length k4, .slice p5 a.1.2.2.1.length k5, .slice p6 a.1.2.2.2.length k6, .slice p7 a.2.1.length k7, .slice p8 a.2.2.1.length k8, .int .i64 a.2.2.2.1.1, .int .i64 a.2.2.2.1.2.1, .int .i64 a.2.2.2.1.2.2.1, .string (str a.2.2.2.1.2.2.2.1), .slice p13 a.2.2.2.1.2.2.2.2.length k13, .int .i64 a.2.2.2.2.1.1.1, .int .i64 a.2.2.2.2.1.1.2, .int .i64 a.2.2.2.2.1.2.1, .int .i64 a.2.2.2.2.1.2.2.1, .string (str a.2.2.2.2.1.2.2.2.1), .slice p19 a.2.2.2.2.1.2.2.2.2.1.length k19, .int .i64 a.2.2.2.2.1.2.2.2.2.2, .slice p21 a.2.2.2.2.2.1.length k21, .int .i64 a.2.2.2.2.2.2.1.1, .int .i64 a.2.2.2.2.2.2.1.2.1, .int .i64 a.2.2.2.2.2.2.1.2.2, .bool a.2.2.2.2.2.2.2.1.1, .bool a.2.2.2.2.2.2.2.1.2.1, .bool a.2.2.2.2.2.2.2.1.2.2, .int .i64 a.2.2.2.2.2.2.2.2] a := by
  exact ⟨[.slice p0 a.1.1.1.length k0, .slice p1 a.1.1.2.1.length k1, .int .i64 a.1.1.2.2.1, .string (str a.1.1.2.2.2), .slice p4 a.1.2.1.length k4, .slice p5 a.1.2.2.1.length k5, .slice p6 a.1.2.2.2.length k6], _, rfl, rfl, ⟨[.slice p0 a.1.1.1.length k0, .slice p1 a.1.1.2.1.length k1, .int .i64 a.1.1.2.2.1, .string (str a.1.1.2.2.2)], _, rfl, rfl, ⟨[.slice p0 a.1.1.1.length k0], _, rfl, rfl, ⟨_, _, rfl, E0.1, E0.2.1, E0.2.2⟩, [.slice p1 a.1.1.2.1.length k1], _, rfl, rfl, ⟨_, _, rfl, E1.1, E1.2.1, E1.2.2⟩, [.int .i64 a.1.1.2.2.1], _, rfl, rfl, rfl, rfl⟩, [.slice p4 a.1.2.1.length k4], _, rfl, rfl, ⟨_, _, rfl, E4.1, E4.2.1, E4.2.2⟩, [.slice p5 a.1.2.2.1.length k5], _, rfl, rfl, ⟨_, _, rfl, E5.1, E5.2.1, E5.2.2⟩, ⟨_, _, rfl, E6.1, E6.2.1, E6.2.2⟩⟩, [.slice p7 a.2.1.length k7], _, rfl, rfl, ⟨_, _, rfl, E7.1, E7.2.1, E7.2.2⟩, [.slice p8 a.2.2.1.length k8], _, rfl, rfl, ⟨_, _, rfl, E8.1, E8.2.1, E8.2.2⟩, [.int .i64 a.2.2.2.1.1, .int .i64 a.2.2.2.1.2.1, .int .i64 a.2.2.2.1.2.2.1, .string (str a.2.2.2.1.2.2.2.1), .slice p13 a.2.2.2.1.2.2.2.2.length k13], _, rfl, rfl, ⟨[.int .i64 a.2.2.2.1.1], _, rfl, rfl, rfl, [.int .i64 a.2.2.2.1.2.1], _, rfl, rfl, rfl, [.int .i64 a.2.2.2.1.2.2.1], _, rfl, rfl, rfl, [.string (str a.2.2.2.1.2.2.2.1)], _, rfl, rfl, rfl, ⟨_, _, rfl, E13.1, E13.2.1, E13.2.2⟩⟩, [.int .i64 a.2.2.2.2.1.1.1, .int .i64 a.2.2.2.2.1.1.2, .int .i64 a.2.2.2.2.1.2.1, .int .i64 a.2.2.2.2.1.2.2.1, .string (str a.2.2.2.2.1.2.2.2.1), .slice p19 a.2.2.2.2.1.2.2.2.2.1.length k19, .int .i64 a.2.2.2.2.1.2.2.2.2.2], _, rfl, rfl, ⟨[.int .i64 a.2.2.2.2.1.1.1, .int .i64 a.2.2.2.2.1.1.2], _, rfl, rfl, rfl, [.int .i64 a.2.2.2.2.1.2.1], _, rfl, rfl, rfl, [.int .i64 a.2.2.2.2.1.2.2.1], _, rfl, rfl, rfl, [.string (str a.2.2.2.2.1.2.2.2.1)], _, rfl, rfl, rfl, [.slice p19 a.2.2.2.2.1.2.2.2.2.1.length k19], _, rfl, rfl, ⟨_, _, rfl, E19.1, E19.2.1, E19.2.2⟩, rfl⟩, [.slice p21 a.2.2.2.2.2.1.length k21], _, rfl, rfl, ⟨_, _, rfl, E21.1, E21.2.1, E21.2.2⟩, [.int .i64 a.2.2.2.2.2.2.1.1, .int .i64 a.2.2.2.2.2.2.1.2.1, .int .i64 a.2.2.2.2.2.2.1.2.2], _, rfl, rfl, rfl, [.bool a.2.2.2.2.2.2.2.1.1, .bool a.2.2.2.2.2.2.2.1.2.1, .bool a.2.2.2.2.2.2.2.1.2.2], _, rfl, rfl, rfl, rfl⟩
def mod0 (s : StateD) (x : Bool) : StateD := ((s.1), s.2.1, s.2.2.1, s.2.2.2.1, s.2.2.2.2.1, s.2.2.2.2.2.1, s.2.2.2.2.2.2.1, (s.2.2.2.2.2.2.2.1.1, s.2.2.2.2.2.2.2.1.2.1, x), s.2.2.2.2.2.2.2.2)
theorem mod0_ne {s : StateD} {x : Bool} (h : x ≠ s.2.2.2.2.2.2.2.1.2.2) : s ≠ mod0 s x := fun e => h (congrArg (fun t : StateD => t.2.2.2.2.2.2.2.1.2.2) e).symm
theorem mod0_A {W : World} {vs : List Value} {s : StateD} (x : Bool) (h : stateA W vs s) : stateA W (vs.set 27 (.bool x)) (mod0 s x) := by
  obtain ⟨p0, p1, p4, p5, p6, p7, p8, p13, p19, p21, k0, k1, k4, k5, k6, k7, k8, k13, k19, k21, rfl, E0, E1, E4, E5, E6, E7, E8, E13, E19, E21⟩ := stateA_inv h
  exact stateA_mk (a := mod0 s x) E0 E1 E4 E5 E6 E7 E8 E13 E19 E21
theorem mod0_Q {s : StateD} {x : Bool} (hx : True) (h : StateQ s) : StateQ (mod0 s x) := by
  obtain ⟨⟨⟨e1, e2, e3, e4⟩, q5, q6, q7⟩, q2, q3, ⟨r1, r2, r3, r4, r5⟩, ⟨⟨a1, a2⟩, a3, a4, a5, a6, a7⟩, q8, ⟨n1, n2, n3⟩, ⟨b1, b2, b3⟩, q9⟩ := h
  exact ⟨⟨⟨e1, e2, e3, e4⟩, q5, q6, q7⟩, q2, q3, ⟨r1, r2, r3, r4, r5⟩, ⟨⟨a1, a2⟩, a3, a4, a5, a6, a7⟩, q8, ⟨n1, n2, n3⟩, ⟨b1, b2, hx⟩, q9⟩
theorem mod0_len (s : StateD) (x : Bool) (n : Nat) (hx : (bitC.enc x).length ≤ (bitC.enc s.2.2.2.2.2.2.2.1.2.2).length + n) : (stateC.enc (mod0 s x)).length ≤ (stateC.enc s).length + n := by
  unfold stateC keepC envC reqC ansC mod0
  simp only [pairC_len]
  omega
def mod1 (s : StateD) (x : Int) : StateD := (((s.1.1.1, s.1.1.2.1, x, s.1.1.2.2.2), s.1.2), s.2)
theorem mod1_ne {s : StateD} {x : Int} (h : x ≠ s.1.1.2.2.1) : s ≠ mod1 s x := fun e => h (congrArg (fun t : StateD => t.1.1.2.2.1) e).symm
theorem mod1_A {W : World} {vs : List Value} {s : StateD} (x : Int) (h : stateA W vs s) : stateA W (vs.set 2 (.int .i64 x)) (mod1 s x) := by
  obtain ⟨p0, p1, p4, p5, p6, p7, p8, p13, p19, p21, k0, k1, k4, k5, k6, k7, k8, k13, k19, k21, rfl, E0, E1, E4, E5, E6, E7, E8, E13, E19, E21⟩ := stateA_inv h
  exact stateA_mk (a := mod1 s x) E0 E1 E4 E5 E6 E7 E8 E13 E19 E21
theorem mod1_Q {s : StateD} {x : Int} (hx : I64 x) (h : StateQ s) : StateQ (mod1 s x) := by
  obtain ⟨⟨⟨e1, e2, e3, e4⟩, q5, q6, q7⟩, q2, q3, ⟨r1, r2, r3, r4, r5⟩, ⟨⟨a1, a2⟩, a3, a4, a5, a6, a7⟩, q8, ⟨n1, n2, n3⟩, ⟨b1, b2, b3⟩, q9⟩ := h
  exact ⟨⟨⟨e1, e2, hx, e4⟩, q5, q6, q7⟩, q2, q3, ⟨r1, r2, r3, r4, r5⟩, ⟨⟨a1, a2⟩, a3, a4, a5, a6, a7⟩, q8, ⟨n1, n2, n3⟩, ⟨b1, b2, b3⟩, q9⟩
theorem mod1_len (s : StateD) (x : Int) (n : Nat) (hx : (numC.enc x).length ≤ (numC.enc s.1.1.2.2.1).length + n) : (stateC.enc (mod1 s x)).length ≤ (stateC.enc s).length + n := by
  unfold stateC keepC envC reqC ansC mod1
  simp only [pairC_len]
  omega
def mod2 (s : StateD) (x : Int) : StateD := (s.1, s.2.1, s.2.2.1, s.2.2.2.1, s.2.2.2.2.1, s.2.2.2.2.2.1, s.2.2.2.2.2.2.1, s.2.2.2.2.2.2.2.1, x)
theorem mod2_ne {s : StateD} {x : Int} (h : x ≠ s.2.2.2.2.2.2.2.2) : s ≠ mod2 s x := fun e => h (congrArg (fun t : StateD => t.2.2.2.2.2.2.2.2) e).symm
theorem mod2_A {W : World} {vs : List Value} {s : StateD} (x : Int) (h : stateA W vs s) : stateA W (vs.set 28 (.int .i64 x)) (mod2 s x) := by
  obtain ⟨p0, p1, p4, p5, p6, p7, p8, p13, p19, p21, k0, k1, k4, k5, k6, k7, k8, k13, k19, k21, rfl, E0, E1, E4, E5, E6, E7, E8, E13, E19, E21⟩ := stateA_inv h
  exact stateA_mk (a := mod2 s x) E0 E1 E4 E5 E6 E7 E8 E13 E19 E21
theorem mod2_Q {s : StateD} {x : Int} (hx : I64 x) (h : StateQ s) : StateQ (mod2 s x) := by
  obtain ⟨⟨⟨e1, e2, e3, e4⟩, q5, q6, q7⟩, q2, q3, ⟨r1, r2, r3, r4, r5⟩, ⟨⟨a1, a2⟩, a3, a4, a5, a6, a7⟩, q8, ⟨n1, n2, n3⟩, ⟨b1, b2, b3⟩, q9⟩ := h
  exact ⟨⟨⟨e1, e2, e3, e4⟩, q5, q6, q7⟩, q2, q3, ⟨r1, r2, r3, r4, r5⟩, ⟨⟨a1, a2⟩, a3, a4, a5, a6, a7⟩, q8, ⟨n1, n2, n3⟩, ⟨b1, b2, b3⟩, hx⟩
theorem mod2_len (s : StateD) (x : Int) (n : Nat) (hx : (numC.enc x).length ≤ (numC.enc s.2.2.2.2.2.2.2.2).length + n) : (stateC.enc (mod2 s x)).length ≤ (stateC.enc s).length + n := by
  unfold stateC keepC envC reqC ansC mod2
  simp only [pairC_len]
  omega
def mod3 (s : StateD) (x : Nm) : StateD := (s.1, s.2.1, s.2.2.1, (s.2.2.2.1.1, s.2.2.2.1.2.1, s.2.2.2.1.2.2.1, x, s.2.2.2.1.2.2.2.2), s.2.2.2.2)
theorem mod3_ne {s : StateD} {x : Nm} (h : x ≠ s.2.2.2.1.2.2.2.1) : s ≠ mod3 s x := fun e => h (congrArg (fun t : StateD => t.2.2.2.1.2.2.2.1) e).symm
theorem mod3_A {W : World} {vs : List Value} {s : StateD} (x : Nm) (h : stateA W vs s) : stateA W (vs.set 12 (.string (str x))) (mod3 s x) := by
  obtain ⟨p0, p1, p4, p5, p6, p7, p8, p13, p19, p21, k0, k1, k4, k5, k6, k7, k8, k13, k19, k21, rfl, E0, E1, E4, E5, E6, E7, E8, E13, E19, E21⟩ := stateA_inv h
  exact stateA_mk (a := mod3 s x) E0 E1 E4 E5 E6 E7 E8 E13 E19 E21
theorem mod3_Q {s : StateD} {x : Nm} (hx : Lt64 x.length) (h : StateQ s) : StateQ (mod3 s x) := by
  obtain ⟨⟨⟨e1, e2, e3, e4⟩, q5, q6, q7⟩, q2, q3, ⟨r1, r2, r3, r4, r5⟩, ⟨⟨a1, a2⟩, a3, a4, a5, a6, a7⟩, q8, ⟨n1, n2, n3⟩, ⟨b1, b2, b3⟩, q9⟩ := h
  exact ⟨⟨⟨e1, e2, e3, e4⟩, q5, q6, q7⟩, q2, q3, ⟨r1, r2, r3, hx, r5⟩, ⟨⟨a1, a2⟩, a3, a4, a5, a6, a7⟩, q8, ⟨n1, n2, n3⟩, ⟨b1, b2, b3⟩, q9⟩
theorem mod3_len (s : StateD) (x : Nm) (n : Nat) (hx : (txtC.enc x).length ≤ (txtC.enc s.2.2.2.1.2.2.2.1).length + n) : (stateC.enc (mod3 s x)).length ≤ (stateC.enc s).length + n := by
  unfold stateC keepC envC reqC ansC mod3
  simp only [pairC_len]
  omega
def mod4 (s : StateD) (x : Int) : StateD := (s.1, s.2.1, s.2.2.1, s.2.2.2.1, (s.2.2.2.2.1.1, x, s.2.2.2.2.1.2.2), s.2.2.2.2.2)
theorem mod4_ne {s : StateD} {x : Int} (h : x ≠ s.2.2.2.2.1.2.1) : s ≠ mod4 s x := fun e => h (congrArg (fun t : StateD => t.2.2.2.2.1.2.1) e).symm
theorem mod4_A {W : World} {vs : List Value} {s : StateD} (x : Int) (h : stateA W vs s) : stateA W (vs.set 16 (.int .i64 x)) (mod4 s x) := by
  obtain ⟨p0, p1, p4, p5, p6, p7, p8, p13, p19, p21, k0, k1, k4, k5, k6, k7, k8, k13, k19, k21, rfl, E0, E1, E4, E5, E6, E7, E8, E13, E19, E21⟩ := stateA_inv h
  exact stateA_mk (a := mod4 s x) E0 E1 E4 E5 E6 E7 E8 E13 E19 E21
theorem mod4_Q {s : StateD} {x : Int} (hx : I64 x) (h : StateQ s) : StateQ (mod4 s x) := by
  obtain ⟨⟨⟨e1, e2, e3, e4⟩, q5, q6, q7⟩, q2, q3, ⟨r1, r2, r3, r4, r5⟩, ⟨⟨a1, a2⟩, a3, a4, a5, a6, a7⟩, q8, ⟨n1, n2, n3⟩, ⟨b1, b2, b3⟩, q9⟩ := h
  exact ⟨⟨⟨e1, e2, e3, e4⟩, q5, q6, q7⟩, q2, q3, ⟨r1, r2, r3, r4, r5⟩, ⟨⟨a1, a2⟩, hx, a4, a5, a6, a7⟩, q8, ⟨n1, n2, n3⟩, ⟨b1, b2, b3⟩, q9⟩
theorem mod4_len (s : StateD) (x : Int) (n : Nat) (hx : (numC.enc x).length ≤ (numC.enc s.2.2.2.2.1.2.1).length + n) : (stateC.enc (mod4 s x)).length ≤ (stateC.enc s).length + n := by
  unfold stateC keepC envC reqC ansC mod4
  simp only [pairC_len]
  omega
def mod5 (s : StateD) (x : Int) : StateD := (s.1, s.2.1, s.2.2.1, s.2.2.2.1, s.2.2.2.2.1, s.2.2.2.2.2.1, (s.2.2.2.2.2.2.1.1, s.2.2.2.2.2.2.1.2.1, x), s.2.2.2.2.2.2.2)
theorem mod5_ne {s : StateD} {x : Int} (h : x ≠ s.2.2.2.2.2.2.1.2.2) : s ≠ mod5 s x := fun e => h (congrArg (fun t : StateD => t.2.2.2.2.2.2.1.2.2) e).symm
theorem mod5_A {W : World} {vs : List Value} {s : StateD} (x : Int) (h : stateA W vs s) : stateA W (vs.set 24 (.int .i64 x)) (mod5 s x) := by
  obtain ⟨p0, p1, p4, p5, p6, p7, p8, p13, p19, p21, k0, k1, k4, k5, k6, k7, k8, k13, k19, k21, rfl, E0, E1, E4, E5, E6, E7, E8, E13, E19, E21⟩ := stateA_inv h
  exact stateA_mk (a := mod5 s x) E0 E1 E4 E5 E6 E7 E8 E13 E19 E21
theorem mod5_Q {s : StateD} {x : Int} (hx : I64 x) (h : StateQ s) : StateQ (mod5 s x) := by
  obtain ⟨⟨⟨e1, e2, e3, e4⟩, q5, q6, q7⟩, q2, q3, ⟨r1, r2, r3, r4, r5⟩, ⟨⟨a1, a2⟩, a3, a4, a5, a6, a7⟩, q8, ⟨n1, n2, n3⟩, ⟨b1, b2, b3⟩, q9⟩ := h
  exact ⟨⟨⟨e1, e2, e3, e4⟩, q5, q6, q7⟩, q2, q3, ⟨r1, r2, r3, r4, r5⟩, ⟨⟨a1, a2⟩, a3, a4, a5, a6, a7⟩, q8, ⟨n1, n2, hx⟩, ⟨b1, b2, b3⟩, q9⟩
theorem mod5_len (s : StateD) (x : Int) (n : Nat) (hx : (numC.enc x).length ≤ (numC.enc s.2.2.2.2.2.2.1.2.2).length + n) : (stateC.enc (mod5 s x)).length ≤ (stateC.enc s).length + n := by
  unfold stateC keepC envC reqC ansC mod5
  simp only [pairC_len]
  omega
def mod6 (s : StateD) (x : Nm) : StateD := (((s.1.1.1, s.1.1.2.1, s.1.1.2.2.1, x), s.1.2), s.2)
theorem mod6_ne {s : StateD} {x : Nm} (h : x ≠ s.1.1.2.2.2) : s ≠ mod6 s x := fun e => h (congrArg (fun t : StateD => t.1.1.2.2.2) e).symm
theorem mod6_A {W : World} {vs : List Value} {s : StateD} (x : Nm) (h : stateA W vs s) : stateA W (vs.set 3 (.string (str x))) (mod6 s x) := by
  obtain ⟨p0, p1, p4, p5, p6, p7, p8, p13, p19, p21, k0, k1, k4, k5, k6, k7, k8, k13, k19, k21, rfl, E0, E1, E4, E5, E6, E7, E8, E13, E19, E21⟩ := stateA_inv h
  exact stateA_mk (a := mod6 s x) E0 E1 E4 E5 E6 E7 E8 E13 E19 E21
theorem mod6_Q {s : StateD} {x : Nm} (hx : Lt64 x.length) (h : StateQ s) : StateQ (mod6 s x) := by
  obtain ⟨⟨⟨e1, e2, e3, e4⟩, q5, q6, q7⟩, q2, q3, ⟨r1, r2, r3, r4, r5⟩, ⟨⟨a1, a2⟩, a3, a4, a5, a6, a7⟩, q8, ⟨n1, n2, n3⟩, ⟨b1, b2, b3⟩, q9⟩ := h
  exact ⟨⟨⟨e1, e2, e3, hx⟩, q5, q6, q7⟩, q2, q3, ⟨r1, r2, r3, r4, r5⟩, ⟨⟨a1, a2⟩, a3, a4, a5, a6, a7⟩, q8, ⟨n1, n2, n3⟩, ⟨b1, b2, b3⟩, q9⟩
theorem mod6_len (s : StateD) (x : Nm) (n : Nat) (hx : (txtC.enc x).length ≤ (txtC.enc s.1.1.2.2.2).length + n) : (stateC.enc (mod6 s x)).length ≤ (stateC.enc s).length + n := by
  unfold stateC keepC envC reqC ansC mod6
  simp only [pairC_len]
  omega
def mod7 (s : StateD) (x : List Int) : StateD := (s.1, s.2.1, s.2.2.1, s.2.2.2.1, s.2.2.2.2.1, x, s.2.2.2.2.2.2)
theorem mod7_ne {s : StateD} {x : List Int} (h : x ≠ s.2.2.2.2.2.1) : s ≠ mod7 s x := fun e => h (congrArg (fun t : StateD => t.2.2.2.2.2.1) e).symm
theorem mod7_Q {s : StateD} {x : List Int} (hx : ∀ z ∈ x, I64 z) (h : StateQ s) : StateQ (mod7 s x) := by
  obtain ⟨⟨⟨e1, e2, e3, e4⟩, q5, q6, q7⟩, q2, q3, ⟨r1, r2, r3, r4, r5⟩, ⟨⟨a1, a2⟩, a3, a4, a5, a6, a7⟩, q8, ⟨n1, n2, n3⟩, ⟨b1, b2, b3⟩, q9⟩ := h
  exact ⟨⟨⟨e1, e2, e3, e4⟩, q5, q6, q7⟩, q2, q3, ⟨r1, r2, r3, r4, r5⟩, ⟨⟨a1, a2⟩, a3, a4, a5, a6, a7⟩, hx, ⟨n1, n2, n3⟩, ⟨b1, b2, b3⟩, q9⟩
theorem mod7_len (s : StateD) (x : List Int) (n : Nat) (hx : ((rowC numC).enc x).length ≤ ((rowC numC).enc s.2.2.2.2.2.1).length + n) : (stateC.enc (mod7 s x)).length ≤ (stateC.enc s).length + n := by
  unfold stateC keepC envC reqC ansC mod7
  simp only [pairC_len]
  omega
end Go.Proofs.Ytnmlnaoljkhjeaa

/-! StSameLaw -/
set_option linter.unusedVariables false
set_option maxRecDepth 100000
namespace Go.Proofs.Ytnmlnaoljkhjeaa
open Go.RowKit Base

/-- Where the two states stand. -/
structure Two2 (W : World) (tb t2 : Nat) (vs : List Value) (s : StateD) (us : List Value) (t : StateD) (w : World) : Prop where
  c1 : Cut tb vs stT w
  c2 : Cut t2 us stT w
  l2 : us.length = 29
  p2 : PkArg w us t
  P2 : StateP t
  e2 : (stateC.enc t).length ≤ 100000000
  ne : s ≠ t
  bel : Below W.heap.size W w
theorem two2_flat {W w5 : World} {tb t2 : Nat} {vs : List Value} {s t : StateD} (hc1 : Cut tb vs stT w5) (hc2 : Cut t2 vs stT w5) (ht : tb < t2) (hl : vs.length = 29) (hB : Below W.heap.size W w5) (hW : W.heap.size ≤ tb) (idx : Nat) (val : Value)
    (hA : stateA W (vs.set idx val) t) (P2 : StateP t) (e2 : (stateC.enc t).length ≤ 100000000) (ne : s ≠ t) : ∃ us t', Two2 W tb t2 vs s us t' (w5.setCell ⟨t2, idx, none⟩ val) := by
  have hB2 : Below W.heap.size W (w5.setCell ⟨t2, idx, none⟩ val) := hB.setCell (by show _ ≤ t2; omega) _
  have hl2 : (vs.set idx val).length = 29 := by rw [List.length_set]; exact hl
  exact ⟨_, t, (set_other w5 t2 idx val tb (by omega)).trans hc1, hc2.set idx val, hl2, PkArg.ofA (stateA_below hB2 hA) hl2, P2, e2, ne, hB2⟩
theorem num_le (x z : Int) (h : I64 x) : (numC.enc x).length ≤ (numC.enc z).length + 10 := Nat.le_trans (intB_len h) (Nat.le_add_left _ _)
theorem txt_le (x : Nm) (h : Lt64 (x ++ [120]).length) : (txtC.enc (x ++ [120])).length ≤ (txtC.enc x).length + 20 := by
  show (VarPlain.num (x ++ [120]).length ++ (x ++ [120])).length ≤ (VarPlain.num x.length ++ x).length + 20
  have := num_len _ h
  simp only [List.length_append, List.length_cons, List.length_nil] at *
  omega
theorem row_le (l : List Int) (h : I64 ((1 :: l).length : Int)) : ((rowC numC).enc (1 :: l)).length ≤ ((rowC numC).enc l).length + 20 := by
  show (intB ((1 :: l).length : Int) ++ encs numC (1 :: l)).length ≤ (intB (l.length : Int) ++ encs numC l).length + 20
  have h1 := intB_len h
  have h2 : (numC.enc 1).length ≤ 10 := intB_len ⟨by decide, by decide⟩
  rw [encs_cons]
  simp only [List.length_append] at *
  omega
theorem txt_in (x : Nm) : x.length ≤ (txtC.enc x).length := by
  show x.length ≤ (VarPlain.num x.length ++ x).length
  rw [List.length_append]
  omega
theorem txt3_in (s : StateD) : s.2.2.2.1.2.2.2.1.length ≤ (stateC.enc s).length := by
  unfold stateC reqC
  simp only [pairC_len]
  have := txt_in s.2.2.2.1.2.2.2.1
  omega
theorem txt6_in (s : StateD) : s.1.1.2.2.2.length ≤ (stateC.enc s).length := by
  unfold stateC keepC envC
  simp only [pairC_len]
  have := txt_in s.1.1.2.2.2
  omega
theorem nums_in (s : StateD) : s.2.2.2.2.2.1.length ≤ (stateC.enc s).length := by
  unfold stateC
  simp only [pairC_len]
  have := row_ge numC_pos s.2.2.2.2.2.1
  omega
theorem app_ne (x : Nm) : x ++ [120] ≠ x := fun h => by
  have := congrArg List.length h
  simp at this
theorem bit_le (x z : Bool) : (bitC.enc x).length ≤ (bitC.enc z).length + 10 := Nat.le_trans (intB_len (bit_i64 x)) (Nat.le_add_left _ _)
theorem wrap_ne {x : Int} (h : I64 x) : wrap64 (x + 1) ≠ x ∧ I64 (wrap64 (x + 1)) := by
  obtain ⟨h1, h2⟩ := h
  unfold wrap64 I64
  omega
set_option maxHeartbeats 4000000 in
theorem st_same (W : World) (vs : List Value) (s : StateD) (hs : InS W vs s) (wh : Nat) (hwh : wh ≤ 255) :
    Calls Try.prog 6 #[.agg vs.toArray, .int .u8 (wh : Int)] W fun r W' => r = .returned (.bool true) ∧ Below W.heap.size W W' := by
  obtain ⟨w1, hw1, hc1, hb1⟩ : ∃ w1, W.alloc (.cells vs.toArray stT) = w1 ∧ Cut W.heap.size vs stT w1 ∧ Below W.heap.size W w1 := ⟨_, rfl, heap_alloc_new W _, (Below.refl W.heap.size W).alloc (Nat.le_refl _) _⟩
  have HW := Lib.hid hw1
  have HS := Lib.hid hs
  have HV : Hid (vs.length = 29) := hs.len
  obtain ⟨dd, hdu, hdr⟩ := Option.map_eq_some_iff.1 und_st
  have HDu := Lib.hid hdu
  have HDr := Lib.hid hdr
  have HInf : Hid ((Try.prog.info? stT).map (fun i => i.size) = some vs.length) := by show _ = _; rw [HV.out]; exact info_st
  have HC1 := Lib.hid hc1
  have HB1 := Lib.hid hb1
  clear hw1 hc1 hb1 hs hdu hdr
  go_enter Try.func6, Try.ntmps6
  go_upto_region 1 with fail
  rw [HW.out]
  obtain ⟨tb, htb⟩ : ∃ tb, W.heap.size = tb := ⟨_, rfl⟩
  have HTb : Hid (W.heap.size ≤ tb) := Nat.le_of_eq htb
  rw [htb] at HC1 ⊢
  clear htb
  go_wp2_with fail
  refine (awake_calls w1).mono ?_
  rintro r w2 ⟨rfl, hb2⟩
  have HB2 := Lib.hid (HB1.out.trans (hb2.mono HB1.out.size))
  have HC2 := Lib.hid (cut_below HC1.out hb2)
  clear hb2
  have HFw := Lib.hid (few_calls w2 vs s (HS.out.below HB2.out).a (Nat.le_trans HS.out.enc (by decide)))
  go_wp2_with (refine wpList_load_g (by kernel_rfl) stT (.tmp 2) rfl tb 0 rfl vs dd (cut_range HC2.out) HDu.out HDr.out HInf.out ?_)
  refine HFw.out.mono ?_
  rintro r w3 ⟨rfl, hb3⟩
  have HB3 := Lib.hid (HB2.out.trans (hb3.mono HB2.out.size))
  have HC3 := Lib.hid (cut_below HC2.out hb3)
  clear hb3 HFw
  by_cases hf : fewN s ≤ 300
  case neg =>
    rw [decide_eq_false hf]
    go_wp2_with fail
    go_ret
    exact ⟨rfl, HB3.out⟩
  rw [decide_eq_true hf]
  have HP := Lib.hid (state_few hf HS.out.q)
  have HF := Lib.hid hf
  clear hf
  obtain ⟨t2, w4, hw4, ht2, hc4, hb4⟩ := new_box w3
  have HW4 : Hid (w3.alloc (.cells #[.slice none 0 0, .slice none 0 0, .int .i64 0, .string ⟨#[]⟩, .slice none 0 0, .slice none 0 0, .slice none 0 0, .slice none 0 0, .slice none 0 0, .int .i64 0, .int .i64 0, .int .i64 0, .string ⟨#[]⟩, .slice none 0 0, .int .i64 0, .int .i64 0, .int .i64 0, .int .i64 0, .string ⟨#[]⟩, .slice none 0 0, .int .i64 0, .slice none 0 0, .int .i64 0, .int .i64 0, .int .i64 0, .bool false, .bool false, .bool false, .int .i64 0] stT) = w4) := hw4
  have HT2 := Lib.hid ht2
  have HC4 := Lib.hid hc4
  have HOne := Lib.hid HS.out.one
  have HTt : Hid (tb < t2) := by have := HC3.out.lt; show _ < _; omega
  have HC5 : Hid (Cut t2 vs stT (w4.setCells t2 0 vs)) := set_cut hc4 (by rw [HV.out]; rfl)
  have hgs := Sl.setCells_grown t2 vs 0 w4
  have HB5 : Hid (Below W.heap.size W (w4.setCells t2 0 vs)) := (HB3.out.trans (hb4.mono HB3.out.size)).grown hgs (Nat.le_trans HB3.out.size hb4.size) (fun j hj => by have := Option.some.inj hj; have := HB3.out.size; omega)
  have HC5b : Hid (Cut tb vs stT (w4.setCells t2 0 vs)) := (hgs.block tb (Nat.lt_of_lt_of_le HC3.out.lt hb4.size) (fun e => by have := Option.some.inj e; have := HTt.out; omega)).trans (cut_below HC3.out hb4)
  clear hw4 ht2 hc4 hb4 hgs
  go_upto_block 0 with (first | (refine wpList_load_g (by kernel_rfl) stT (.tmp 2) rfl tb 0 rfl vs dd (cut_range HC3.out) HDu.out HDr.out HInf.out ?_) | (refine wpList_store_mid rfl stT (.tmp 7) (.tmp 15) rfl w3.heap.size 0 vs.toArray rfl rfl (by rw [HW4.out, HT2.out]; exact there_cut HC4.out _ (by rw [List.size_toArray, HV.out]; exact Nat.le_refl _)) (by rw [List.size_toArray, HV.out]; exact info_st) (all_oneCell_toArray HOne.out) ?_))
  rw [HW4.out, HT2.out]
  change Code.wp _ _ _ _ (w4.setCells t2 0 vs)
  generalize w4.setCells t2 0 vs = w5 at *
  obtain ⟨m, hm⟩ : ∃ m, wh % 8 = m := ⟨_, rfl⟩
  have hm8 : m < 8 := by omega
  have hr1 : (wh : Int) % 8 = (m : Int) := by omega
  have hr2 : Int.tmod (wh : Int) 8 = (m : Int) := by rw [Int.tmod_eq_emod_of_nonneg (by omega)]; exact hr1
  clear hm
  go_cut [17] (fun s17 wx => ∃ us t, Two2 W tb t2 vs s us t wx)
  case first =>
    have hcase : m = 0 ∨ m = 1 ∨ m = 2 ∨ m = 3 ∨ m = 4 ∨ m = 5 ∨ m = 6 ∨ m = 7 := by omega
    obtain ⟨p0, p1, p4, p5, p6, p7, p8, p13, p19, p21, k0, k1, k4, k5, k6, k7, k8, k13, k19, k21, hvs, E⟩ := stateA_inv HS.out.a
    have HE := Lib.hid E.2.2.2.2.2.2.2.2.2
    have HVs := Lib.hid hvs
    clear E
    have cell : ∀ b l, Cut b l stT w5 → ∀ j v, l[j]? = some v → w5.cell? ⟨b, j, none⟩ = some v ∧ w5.frozen? ⟨b, j, none⟩ = false := fun b l hb j v hv => ⟨(hb.cell j).trans hv, hb.frozen j⟩
    have hX := HC5b.out
    have hY := HC5.out
    rw [hvs] at hX hY
    clear hvs
    rcases hcase with rfl | rfl | rfl | rfl | rfl | rfl | rfl | rfl
    · obtain ⟨x0, x1⟩ := cell _ _ hX 27 _ rfl
      obtain ⟨y0, y1⟩ := cell _ _ hY 27 _ rfl
      clear cell hX hY
      go_wp2_with fail
      go_meet
      exact two2_flat HC5b.out HC5.out HTt.out HV.out HB5.out HTb.out 27 _ (mod0_A _ HS.out.a) (state_few (show fewN (mod0 s _) ≤ 300 from HF.out) (mod0_Q (trivial) HS.out.q)) (Nat.le_trans (mod0_len s _ 10 (bit_le _ _)) (by have := HS.out.enc; omega)) (mod0_ne (by generalize s.2.2.2.2.2.2.2.1.2.2 = b; cases b <;> simp))
    · obtain ⟨x0, x1⟩ := cell _ _ hX 2 _ rfl
      obtain ⟨y0, y1⟩ := cell _ _ hY 2 _ rfl
      clear cell hX hY
      go_wp2_with fail
      go_meet
      exact two2_flat HC5b.out HC5.out HTt.out HV.out HB5.out HTb.out 2 _ (mod1_A _ HS.out.a) (state_few (show fewN (mod1 s _) ≤ 300 from HF.out) (mod1_Q ((wrap_ne HS.out.q.1.1.2.2.1).2) HS.out.q)) (Nat.le_trans (mod1_len s _ 10 (num_le _ _ (wrap_ne HS.out.q.1.1.2.2.1).2)) (by have := HS.out.enc; omega)) (mod1_ne ((wrap_ne HS.out.q.1.1.2.2.1).1))
    · obtain ⟨x0, x1⟩ := cell _ _ hX 28 _ rfl
      obtain ⟨y0, y1⟩ := cell _ _ hY 28 _ rfl
      clear cell hX hY
      go_wp2_with fail
      go_meet
      exact two2_flat HC5b.out HC5.out HTt.out HV.out HB5.out HTb.out 28 _ (mod2_A _ HS.out.a) (state_few (show fewN (mod2 s _) ≤ 300 from HF.out) (mod2_Q ((wrap_ne HS.out.q.2.2.2.2.2.2.2.2).2) HS.out.q)) (Nat.le_trans (mod2_len s _ 10 (num_le _ _ (wrap_ne HS.out.q.2.2.2.2.2.2.2.2).2)) (by have := HS.out.enc; omega)) (mod2_ne ((wrap_ne HS.out.q.2.2.2.2.2.2.2.2).1))
    · obtain ⟨x0, x1⟩ := cell _ _ hX 12 _ rfl
      obtain ⟨y0, y1⟩ := cell _ _ hY 12 _ rfl
      clear cell hX hY
      have hsz : (str s.2.2.2.1.2.2.2.1).size ≤ 10485760 := Nat.le_trans (txt3_in s) HS.out.enc
      have h64 : Lt64 (s.2.2.2.1.2.2.2.1 ++ [120]).length := by
        rw [str_size] at hsz
        rw [List.length_append]
        show _ + 1 < _
        omega
      have H64 := Lib.hid h64
      clear h64
      go_wp2_with fail
      go_meet
      rw [show str s.2.2.2.1.2.2.2.1 ++ ⟨#[120]⟩ = str (s.2.2.2.1.2.2.2.1 ++ [120]) from str_append _ [120]]
      exact two2_flat HC5b.out HC5.out HTt.out HV.out HB5.out HTb.out 12 _ (mod3_A _ HS.out.a) (state_few (show fewN (mod3 s _) ≤ 300 from HF.out) (mod3_Q H64.out HS.out.q)) (Nat.le_trans (mod3_len s _ 20 (txt_le _ H64.out)) (by have := HS.out.enc; omega)) (mod3_ne (app_ne _))
    · obtain ⟨x0, x1⟩ := cell _ _ hX 16 _ rfl
      obtain ⟨y0, y1⟩ := cell _ _ hY 16 _ rfl
      clear cell hX hY
      go_wp2_with fail
      go_meet
      exact two2_flat HC5b.out HC5.out HTt.out HV.out HB5.out HTb.out 16 _ (mod4_A _ HS.out.a) (state_few (show fewN (mod4 s _) ≤ 300 from HF.out) (mod4_Q ((wrap_ne HS.out.q.2.2.2.2.1.2.1).2) HS.out.q)) (Nat.le_trans (mod4_len s _ 10 (num_le _ _ (wrap_ne HS.out.q.2.2.2.2.1.2.1).2)) (by have := HS.out.enc; omega)) (mod4_ne ((wrap_ne HS.out.q.2.2.2.2.1.2.1).1))
    · obtain ⟨x0, x1⟩ := cell _ _ hX 24 _ rfl
      obtain ⟨y0, y1⟩ := cell _ _ hY 24 _ rfl
      clear cell hX hY
      go_wp2_with fail
      go_meet
      exact two2_flat HC5b.out HC5.out HTt.out HV.out HB5.out HTb.out 24 _ (mod5_A _ HS.out.a) (state_few (show fewN (mod5 s _) ≤ 300 from HF.out) (mod5_Q ((wrap_ne HS.out.q.2.2.2.2.2.2.1.2.2).2) HS.out.q)) (Nat.le_trans (mod5_len s _ 10 (num_le _ _ (wrap_ne HS.out.q.2.2.2.2.2.2.1.2.2).2)) (by have := HS.out.enc; omega)) (mod5_ne ((wrap_ne HS.out.q.2.2.2.2.2.2.1.2.2).1))
    · obtain ⟨x0, x1⟩ := cell _ _ hX 3 _ rfl
      obtain ⟨y0, y1⟩ := cell _ _ hY 3 _ rfl
      clear cell hX hY
      have hsz : (str s.1.1.2.2.2).size ≤ 10485760 := Nat.le_trans (txt6_in s) HS.out.enc
      have h64 : Lt64 (s.1.1.2.2.2 ++ [120]).length := by
        rw [str_size] at hsz
        rw [List.length_append]
        show _ + 1 < _
        omega
      have H64 := Lib.hid h64
      clear h64
      go_wp2_with fail
      go_meet
      rw [show str s.1.1.2.2.2 ++ ⟨#[120]⟩ = str (s.1.1.2.2.2 ++ [120]) from str_append _ [120]]
      exact two2_flat HC5b.out HC5.out HTt.out HV.out HB5.out HTb.out 3 _ (mod6_A _ HS.out.a) (state_few (show fewN (mod6 s _) ≤ 300 from HF.out) (mod6_Q H64.out HS.out.q)) (Nat.le_trans (mod6_len s _ 20 (txt_le _ H64.out)) (by have := HS.out.enc; omega)) (mod6_ne (app_ne _))
    · obtain ⟨x0, x1⟩ := cell _ _ hX 21 _ rfl
      obtain ⟨y0, y1⟩ := cell _ _ hY 21 _ rfl
      clear cell hX hY
      obtain ⟨i0, hi0, hz0, hz1, hz2⟩ := info_parts info_z_int
      have hln : s.2.2.2.2.2.1.length ≤ 10485760 := Nat.le_trans (nums_in s) HS.out.enc
      have HLn := Lib.hid hln
      have hEW := HE.out
      have HOA : Hid ((w5.alloc (.cells #[.int .i64 1] 3)).ownsRow w5.heap.size 3 1 (.slice (some ⟨w5.heap.size, 0, none⟩) 1 1) 1 [.int .i64 1]) := ⟨rfl, .inr ⟨w5.heap.size, 1, _, rfl, Nat.le_refl _, heap_alloc_new w5 _, Nat.le_refl _, by unfold maxLen; decide, rfl, rfl⟩⟩
      have hbA := (Below.refl w5.heap.size w5).alloc (Nat.le_refl _) (.cells #[.int .i64 1] 3)
      have HSr : Hid (Base.Src Try.prog (w5.alloc (.cells #[.int .i64 1] 3)) 1 (.slice p21 s.2.2.2.2.2.1.length k21) s.2.2.2.2.2.1.length (s.2.2.2.2.2.1.map iv)) := by
        rcases hEW.2.2 with h0 | ⟨b, o, rfl, hel⟩
        · refine src_cells (b := 0) (off := 0) (by rw [List.length_map, Nat.mul_one]) (fun u hu => by obtain ⟨x, _, rfl⟩ := List.mem_map.1 hu; rfl) (.inl (by rw [h0]; rfl)) (fun j u hu => ?_)
          rw [h0] at hu
          cases hu
        · refine src_cells (b := b) (off := o) (by rw [List.length_map, Nat.mul_one]) (fun u hu => by obtain ⟨x, _, rfl⟩ := List.mem_map.1 hu; rfl) (.inr rfl) (fun j u hu => ?_)
          rw [List.getElem?_map] at hu
          obtain ⟨x, hx, rfl⟩ := Option.map_eq_some_iff.1 hu
          obtain ⟨hj, hxe⟩ := List.getElem?_eq_some_iff.1 hx
          obtain ⟨us, hl1, hcu, _, hA⟩ := hel j hj
          have hA' : us = [iv s.2.2.2.2.2.1[j]] := hA
          subst hA'
          have h1 := hcu 0 Nat.zero_lt_one
          rw [Nat.mul_one, Nat.add_zero] at h1
          have hbl : b < W.heap.size := World.block_lt_of_cell? W _ h1
          have h2 := ((HB5.out.trans (hbA.mono HB5.out.size)).cell (p := ⟨b, o + j, none⟩) hbl).trans h1
          rw [← hxe]
          exact h2
      have HBA := Lib.hid hbA
      have xa : (w5.alloc (.cells #[.int .i64 1] 3)).cell? ⟨tb, 21, none⟩ = some (.slice p21 s.2.2.2.2.2.1.length k21) := (hbA.cell (p := ⟨tb, 21, none⟩) HC5b.out.lt).trans x0
      clear hbA hEW
      go_wp2_with (at_builtin; refine Ap.wpList_append_at rfl (.tmp 74) (.tmp 76) 37 37 rfl w5.heap.size 3 i0 _ 1 8 Try.underlying37 (append_side Try.underlying37) hi0 hz0 hz1 hz2 rfl (by decide) (by decide) (.slice (some ⟨w5.heap.size, 0, none⟩) 1 1) 1 [.int .i64 1] rfl HOA.out _ s.2.2.2.2.2.1.length (s.2.2.2.2.2.1.map iv) rfl HSr.out ?_ ?_ ?_ ?_)
      case _ => unfold maxLen; omega
      case _ => omega
      case _ => exact HBA.out.size
      intro u6 w6 hown6 hg6 hat6
      obtain ⟨a6, c6, rfl, _, _, _, _⟩ := ownsRow_slice hown6
      have HB6 : Hid (Below w5.heap.size w5 w6) := HBA.out.grown hg6 HBA.out.size (fun j hj => by have := (HOA.out.lt j hj).1; omega)
      have HC6a : Hid (Cut tb vs stT w6) := cut_below HC5b.out HB6.out
      have HC6b : Hid (Cut t2 vs stT w6) := cut_below HC5.out HB6.out
      have HO6 := Lib.hid hown6
      have hl6 : (1 :: s.2.2.2.2.2.1).length = 1 + s.2.2.2.2.2.1.length := by rw [List.length_cons]; omega
      have z0 : w6.cell? ⟨t2, 21, none⟩ = some (.slice p21 s.2.2.2.2.2.1.length k21) := (HB6.out.cell (p := ⟨t2, 21, none⟩) HC5.out.lt).trans y0
      have z1 : w6.frozen? ⟨t2, 21, none⟩ = false := HC6b.out.frozen 21
      clear hown6 hg6 hat6 x0 x1 y0 y1 xa
      go_wp2_with fail
      go_meet
      have hB6 : Below W.heap.size W w6 := HB5.out.trans (HB6.out.mono HB5.out.size)
      have hB7 : Below W.heap.size W (w6.setCell ⟨t2, 21, none⟩ (.slice a6 (1 + s.2.2.2.2.2.1.length) c6)) := hB6.setCell (by have := HTb.out; have := HTt.out; show _ ≤ t2; omega) _
      have hgs := Ap.grown_set w6 t2 21 (.slice a6 (1 + s.2.2.2.2.2.1.length) c6)
      have hO7 : (w6.setCell ⟨t2, 21, none⟩ (.slice a6 (1 + s.2.2.2.2.2.1.length) c6)).ownsRow w5.heap.size 3 1 (.slice a6 (1 + s.2.2.2.2.2.1.length) c6) (1 + s.2.2.2.2.2.1.length) ([.int .i64 1] ++ s.2.2.2.2.2.1.map iv) := own_other HO6.out hgs (fun j hj e => by have := Option.some.inj hj; have := (HO6.out.lt _ e).1; have := HC5.out.lt; omega)
      have hrow : intsH (w6.setCell ⟨t2, 21, none⟩ (.slice a6 (1 + s.2.2.2.2.2.1.length) c6)) [.slice a6 (1 + s.2.2.2.2.2.1.length) c6] (1 :: s.2.2.2.2.2.1) := by
        refine ⟨_, [Value.int .i64 1] ++ s.2.2.2.2.2.1.map iv, rfl, ?_, ?_⟩
        · rw [hl6]; exact own_base hO7 (Nat.zero_le _)
        · have e : [Value.int .i64 1] ++ s.2.2.2.2.2.1.map iv = (1 :: s.2.2.2.2.2.1).map iv := rfl
          rw [e]
          refine ⟨by rw [List.length_map, Nat.mul_one], fun j hj => ?_⟩
          show _ = [iv _]
          rw [Nat.mul_one]
          apply List.ext_getElem?
          intro i
          match i with
          | 0 => rw [List.getElem?_take, if_pos (by decide), List.getElem?_drop, Nat.add_zero, List.getElem?_map, List.getElem?_eq_getElem hj]; rfl
          | i + 1 => rw [List.getElem?_take, if_neg (by omega)]; rfl
      have hk1 : Cut tb vs stT (w6.setCell ⟨t2, 21, none⟩ (.slice a6 (1 + s.2.2.2.2.2.1.length) c6)) := (set_other w6 t2 21 _ tb (by have := HTt.out; omega)).trans HC6a.out
      have hk2 := HC6b.out.set 21 (.slice a6 (1 + s.2.2.2.2.2.1.length) c6)
      clear hgs hO7
      generalize w6.setCell ⟨t2, 21, none⟩ (.slice a6 (1 + s.2.2.2.2.2.1.length) c6) = w7 at *
      obtain ⟨pq, kq, hpe, he1, he2, he3⟩ := row_HA (A := flatH numV) flat_HA hrow
      have hst := stateA_below hB7 HS.out.a
      obtain ⟨p0', p1', p4', p5', p6', p7', p8', p13', p19', p21', k0', k1', k4', k5', k6', k7', k8', k13', k19', k21', hvs', E0, E1, E4, E5, E6, E7, E8, E13, E19, E21⟩ := stateA_inv hst
      have hA7 : stateA w7 (vs.set 21 (.slice a6 (1 + s.2.2.2.2.2.1.length) c6)) (mod7 s (1 :: s.2.2.2.2.2.1)) := by
        rw [hvs', (List.cons.inj hpe).1]
        exact stateA_mk (a := mod7 s (1 :: s.2.2.2.2.2.1)) E0 E1 E4 E5 E6 E7 E8 E13 E19 ⟨he1, he2, he3⟩
      have hQ7 : ∀ z ∈ (1 :: s.2.2.2.2.2.1), I64 z := fun z hz => by
        rcases List.mem_cons.1 hz with rfl | hz
        · exact ⟨by decide, by decide⟩
        · exact HS.out.q.2.2.2.2.2.1 z hz
      have hP7 : StateP (mod7 s (1 :: s.2.2.2.2.2.1)) := by
        have h1 := state_few HF.out HS.out.q
        obtain ⟨g1, g2, g3, g4, g5, g6, g7, g8, g9⟩ := h1
        exact ⟨g1, g2, g3, g4, g5, ⟨by show (1 :: s.2.2.2.2.2.1).length ≤ 100000; rw [hl6]; have := HF.out; unfold fewN headN at this; omega, hQ7⟩, g7, g8, g9⟩
      have hl2 : (vs.set 21 (.slice a6 (1 + s.2.2.2.2.2.1.length) c6)).length = 29 := by rw [List.length_set]; exact HV.out
      exact ⟨_, _, hk1, hk2, hl2, PkArg.ofA hA7 hl2, hP7, Nat.le_trans (mod7_len s _ 20 (row_le _ (by rw [hl6]; exact ⟨by omega, by omega⟩))) (by have := HS.out.enc; omega), mod7_ne (fun h => by have := congrArg List.length h; rw [hl6] at this; omega), hB7⟩
  case rest =>
    obtain ⟨us, t, hT⟩ := hcut
    have HT := Lib.hid hT
    have HInf2 : Hid ((Try.prog.info? stT).map (fun i => i.size) = some us.length) := by show _ = _; rw [HT.out.l2]; exact info_st
    have HP1 := Lib.hid (PkArg.ofA (HS.out.below HT.out.bel).a HV.out)
    have hE1 : (stateC.enc s).length ≤ 100000000 := Nat.le_trans HS.out.enc (by decide)
    have HS1 := Lib.hid (same_calls wc vs vs s s HP1.out HP1.out HP.out HP.out hE1 hE1)
    rw [decide_eq_true (rfl : stateC.enc s = stateC.enc s)] at HS1
    have HCa := Lib.hid HT.out.c1
    have HCb := Lib.hid HT.out.c2
    have HE1 := Lib.hid hE1
    clear hT hE1
    go_wp2_with (first | (refine wpList_load_g (by kernel_rfl) stT (.tmp 2) rfl tb 0 rfl vs dd (cut_range HCa.out) HDu.out HDr.out HInf.out ?_) | (refine wpList_load_g (by kernel_rfl) stT (.tmp 7) rfl t2 0 rfl us dd (cut_range HCb.out) HDu.out HDr.out HInf2.out ?_))
    refine HS1.out.mono ?_
    rintro r w7 ⟨rfl, hb7⟩
    have HB7 := Lib.hid hb7
    have HCa7 := Lib.hid (cut_below HCa.out hb7)
    have HCb7 := Lib.hid (cut_below HCb.out hb7)
    clear hb7 HS1
    have HS2 := Lib.hid (same_calls w7 vs us s t (HP1.out.below HB7.out) (HT.out.p2.below HB7.out) HP.out HT.out.P2 HE1.out HT.out.e2)
    rw [enc_ne stateC_ok HP.out HT.out.P2 HT.out.ne] at HS2
    go_wp2_with (first | (refine wpList_load_g (by kernel_rfl) stT (.tmp 2) rfl tb 0 rfl vs dd (cut_range HCa7.out) HDu.out HDr.out HInf.out ?_) | (refine wpList_load_g (by kernel_rfl) stT (.tmp 7) rfl t2 0 rfl us dd (cut_range HCb7.out) HDu.out HDr.out HInf2.out ?_))
    refine HS2.out.mono ?_
    rintro r w8 ⟨rfl, hb8⟩
    have HB8 := Lib.hid (HB7.out.trans (hb8.mono HB7.out.size))
    have HCa8 := Lib.hid (cut_below HCa7.out hb8)
    have HCb8 := Lib.hid (cut_below HCb7.out hb8)
    clear hb8 HS2
    have HS3 := Lib.hid (same_calls w8 us vs t s (HT.out.p2.below HB8.out) (HP1.out.below HB8.out) HT.out.P2 HP.out HT.out.e2 HE1.out)
    rw [enc_ne stateC_ok HT.out.P2 HP.out (Ne.symm HT.out.ne)] at HS3
    go_wp2_with (first | (refine wpList_load_g (by kernel_rfl) stT (.tmp 2) rfl tb 0 rfl vs dd (cut_range HCa8.out) HDu.out HDr.out HInf.out ?_) | (refine wpList_load_g (by kernel_rfl) stT (.tmp 7) rfl t2 0 rfl us dd (cut_range HCb8.out) HDu.out HDr.out HInf2.out ?_))
    refine HS3.out.mono ?_
    rintro r w9 ⟨rfl, hb9⟩
    have HB9 := Lib.hid (HB8.out.trans (hb9.mono HB8.out.size))
    clear hb9 HS3
    go_wp2_with fail
    go_ret
    exact ⟨rfl, HT.out.bel.trans (HB9.out.mono HT.out.bel.size)⟩
end Go.Proofs.Ytnmlnaoljkhjeaa
