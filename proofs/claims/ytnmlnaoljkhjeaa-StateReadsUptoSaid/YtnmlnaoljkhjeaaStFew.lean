/-
  State: the law's 'few'. Conditions: as each law says.
-/
import Derived.Test.YtnmlnaoljkhjeaaStOpen
import Derived.Deep.MidRow
set_option linter.unusedVariables false
set_option maxRecDepth 100000
namespace Go.Proofs.Ytnmlnaoljkhjeaa
open Go.RowKit Base

/-- The elements of a row that came in. -/
def RowE {α : Type} (k : Nat) (A : World → List Value → α → Prop) (W : World) (p : Option Addr) (cap : Nat) (zs : List α) : Prop :=
  zs.length ≤ cap ∧ cap ≤ maxLen ∧ (zs = [] ∨ ∃ b o, p = some ⟨b, o, none⟩ ∧ ∀ j (hj : j < zs.length), ∃ us, us.length = k ∧ CellsAt W b (o + j * k) us ∧ (∀ i, i < k → W.frozen? ⟨b, o + j * k + i, none⟩ = false) ∧ A W us zs[j])
theorem frameA_inv {W : World} {vs : List Value} {a : FrameD} (h : frameA W vs a) : ∃ (p9 p10 p11 p12 p13 p16 p17 p18 : Option Addr) (k9 k10 k11 k12 k13 k16 k17 k18 : Nat), vs = [.int .i64 a.1.1, .int .i64 a.1.2.1, .int .i64 a.1.2.2.1, .int .i64 a.1.2.2.2.1, .int .i64 a.1.2.2.2.2, .bool a.2.1, .int .i64 a.2.2.1, .int .i64 a.2.2.2.1, .string (str a.2.2.2.2.1), .slice p9 a.2.2.2.2.2.1.length k9, .slice p10 a.2.2.2.2.2.2.1.length k10, .slice p11 a.2.2.2.2.2.2.2.1.length k11, .slice p12 a.2.2.2.2.2.2.2.2.1.1.length k12, .slice p13 a.2.2.2.2.2.2.2.2.1.2.1.length k13, .int .i64 a.2.2.2.2.2.2.2.2.1.2.2.1, .string (str a.2.2.2.2.2.2.2.2.1.2.2.2), .slice p16 a.2.2.2.2.2.2.2.2.2.1.length k16, .slice p17 a.2.2.2.2.2.2.2.2.2.2.1.length k17, .slice p18 a.2.2.2.2.2.2.2.2.2.2.2.length k18] ∧ RowE 1 (flatH numV) W p9 k9 a.2.2.2.2.2.1 ∧ RowE 1 (flatH txtV) W p10 k10 a.2.2.2.2.2.2.1 ∧ RowE 2 (flatH varV) W p11 k11 a.2.2.2.2.2.2.2.1 ∧ RowE 2 (flatH varV) W p12 k12 a.2.2.2.2.2.2.2.2.1.1 ∧ RowE 1 (flatH txtV) W p13 k13 a.2.2.2.2.2.2.2.2.1.2.1 ∧ RowE 3 (flatH fnV) W p16 k16 a.2.2.2.2.2.2.2.2.2.1 ∧ RowE 2 (flatH trapV) W p17 k17 a.2.2.2.2.2.2.2.2.2.2.1 ∧ RowE 2 (flatH prV) W p18 k18 a.2.2.2.2.2.2.2.2.2.2.2 := by
  obtain ⟨_, _, rfl, _, rfl, ⟨_, _, rfl, _, rfl, ⟨_, _, rfl, _, rfl, ⟨_, _, rfl, _, rfl, ⟨_, _, rfl, _, rfl, ⟨_, _, rfl, _, ⟨p9, k9, rfl, m9, n9, e9⟩, ⟨_, _, rfl, _, ⟨p10, k10, rfl, m10, n10, e10⟩, ⟨_, _, rfl, _, ⟨p11, k11, rfl, m11, n11, e11⟩, ⟨_, _, rfl, _, ⟨_, _, rfl, _, ⟨p12, k12, rfl, m12, n12, e12⟩, ⟨_, _, rfl, _, ⟨p13, k13, rfl, m13, n13, e13⟩, ⟨_, _, rfl, _, rfl, rfl⟩⟩⟩, ⟨_, _, rfl, _, ⟨p16, k16, rfl, m16, n16, e16⟩, ⟨_, _, rfl, _, ⟨p17, k17, rfl, m17, n17, e17⟩, ⟨p18, k18, rfl, m18, n18, e18⟩⟩⟩⟩⟩⟩⟩⟩⟩⟩⟩⟩ := h
  exact ⟨p9, p10, p11, p12, p13, p16, p17, p18, k9, k10, k11, k12, k13, k16, k17, k18, rfl, ⟨m9, n9, e9⟩, ⟨m10, n10, e10⟩, ⟨m11, n11, e11⟩, ⟨m12, n12, e12⟩, ⟨m13, n13, e13⟩, ⟨m16, n16, e16⟩, ⟨m17, n17, e17⟩, ⟨m18, n18, e18⟩⟩
theorem stateA_inv {W : World} {vs : List Value} {a : StateD} (h : stateA W vs a) : ∃ (p0 p1 p4 p5 p6 p7 p8 p13 p19 p21 : Option Addr) (k0 k1 k4 k5 k6 k7 k8 k13 k19 k21 : Nat), vs = [.slice p0 a.1.1.1.length k0, .slice p1 a.1.1.2.1.length k1, .int .i64 a.1.1.2.2.1, .string (str a.1.1.2.2.2), .slice p4 a.1.2.1.length k4, .slice p5 a.1.2.2.1.length k5, .slice p6 a.1.2.2.2.length k6, .slice p7 a.2.1.length k7, .slice p8 a.2.2.1.length k8, .int .i64 a.2.2.2.1.1, .int .i64 a.2.2.2.1.2.1, .int .i64 a.2.2.2.1.2.2.1, .string (str a.2.2.2.1.2.2.2.1), .slice p13 a.2.2.2.1.2.2.2.2.length k13, .int .i64 a.2.2.2.2.1.1.1, .int .i64 a.2.2.2.2.1.1.2, .int .i64 a.2.2.2.2.1.2.1, .int .i64 a.2.2.2.2.1.2.2.1, .string (str a.2.2.2.2.1.2.2.2.1), .slice p19 a.2.2.2.2.1.2.2.2.2.1.length k19, .int .i64 a.2.2.2.2.1.2.2.2.2.2, .slice p21 a.2.2.2.2.2.1.length k21, .int .i64 a.2.2.2.2.2.2.1.1, .int .i64 a.2.2.2.2.2.2.1.2.1, .int .i64 a.2.2.2.2.2.2.1.2.2, .bool a.2.2.2.2.2.2.2.1.1, .bool a.2.2.2.2.2.2.2.1.2.1, .bool a.2.2.2.2.2.2.2.1.2.2, .int .i64 a.2.2.2.2.2.2.2.2] ∧ RowE 2 (flatH varV) W p0 k0 a.1.1.1 ∧ RowE 1 (flatH txtV) W p1 k1 a.1.1.2.1 ∧ RowE 3 (flatH fnV) W p4 k4 a.1.2.1 ∧ RowE 2 (flatH trapV) W p5 k5 a.1.2.2.1 ∧ RowE 2 (flatH prV) W p6 k6 a.1.2.2.2 ∧ RowE 1 (flatH txtV) W p7 k7 a.2.1 ∧ RowE 19 frameA W p8 k8 a.2.2.1 ∧ RowE 1 (flatH txtV) W p13 k13 a.2.2.2.1.2.2.2.2 ∧ RowE 1 (flatH txtV) W p19 k19 a.2.2.2.2.1.2.2.2.2.1 ∧ RowE 1 (flatH numV) W p21 k21 a.2.2.2.2.2.1 := by
  obtain ⟨_, _, rfl, _, ⟨_, _, rfl, _, ⟨_, _, rfl, _, ⟨p0, k0, rfl, m0, n0, e0⟩, ⟨_, _, rfl, _, ⟨p1, k1, rfl, m1, n1, e1⟩, ⟨_, _, rfl, _, rfl, rfl⟩⟩⟩, ⟨_, _, rfl, _, ⟨p4, k4, rfl, m4, n4, e4⟩, ⟨_, _, rfl, _, ⟨p5, k5, rfl, m5, n5, e5⟩, ⟨p6, k6, rfl, m6, n6, e6⟩⟩⟩⟩, ⟨_, _, rfl, _, ⟨p7, k7, rfl, m7, n7, e7⟩, ⟨_, _, rfl, _, ⟨p8, k8, rfl, m8, n8, e8⟩, ⟨_, _, rfl, _, ⟨_, _, rfl, _, rfl, ⟨_, _, rfl, _, rfl, ⟨_, _, rfl, _, rfl, ⟨_, _, rfl, _, rfl, ⟨p13, k13, rfl, m13, n13, e13⟩⟩⟩⟩⟩, ⟨_, _, rfl, _, ⟨_, _, rfl, _, rfl, ⟨_, _, rfl, _, rfl, ⟨_, _, rfl, _, rfl, ⟨_, _, rfl, _, rfl, ⟨_, _, rfl, _, ⟨p19, k19, rfl, m19, n19, e19⟩, rfl⟩⟩⟩⟩⟩, ⟨_, _, rfl, _, ⟨p21, k21, rfl, m21, n21, e21⟩, ⟨_, _, rfl, _, rfl, ⟨_, _, rfl, _, rfl, rfl⟩⟩⟩⟩⟩⟩⟩⟩ := h
  exact ⟨p0, p1, p4, p5, p6, p7, p8, p13, p19, p21, k0, k1, k4, k5, k6, k7, k8, k13, k19, k21, rfl, ⟨m0, n0, e0⟩, ⟨m1, n1, e1⟩, ⟨m4, n4, e4⟩, ⟨m5, n5, e5⟩, ⟨m6, n6, e6⟩, ⟨m7, n7, e7⟩, ⟨m8, n8, e8⟩, ⟨m13, n13, e13⟩, ⟨m19, n19, e19⟩, ⟨m21, n21, e21⟩⟩
/-! ### Bytes are no fewer than things -/
def Pos {α : Type} (c : Cd α) : Prop := ∀ a, 0 < (c.enc a).length
theorem numC_pos : Pos numC := fun a => num_pos _
theorem txtC_pos : Pos txtC := fun a => by
  show 0 < (VarPlain.num _ ++ _).length
  have := num_pos a.length
  rw [List.length_append]
  omega
theorem pairC_pos {α β : Type} {c : Cd α} {d : Cd β} (h : Pos c) : Pos (pairC c d) := fun a => by
  show 0 < (c.enc a.1 ++ d.enc a.2).length
  have := h a.1
  rw [List.length_append]
  omega
theorem pairC_len {α β : Type} (c : Cd α) (d : Cd β) (a : α × β) : ((pairC c d).enc a).length = (c.enc a.1).length + (d.enc a.2).length := by
  show (c.enc a.1 ++ d.enc a.2).length = _
  rw [List.length_append]
theorem encs_ge {α : Type} (c : Cd α) (f : α → Nat) (h : ∀ a, f a + 1 ≤ (c.enc a).length) : ∀ l : List α, l.length + (l.map f).sum ≤ (encs c l).length
  | [] => Nat.zero_le _
  | x :: r => by
    have h1 := h x
    have h2 := encs_ge c f h r
    rw [encs_cons, List.length_append, List.length_cons, List.map_cons, List.sum_cons]
    omega
theorem row_ge {α : Type} {c : Cd α} (h : Pos c) (l : List α) : l.length + 1 ≤ ((rowC c).enc l).length := by
  have h1 := encs_ge c (fun _ => 0) (fun a => h a) l
  have h2 := numC_pos (l.length : Int)
  show _ ≤ (intB (l.length : Int) ++ encs c l).length
  rw [List.length_append]
  have h3 : 0 < (intB (l.length : Int)).length := h2
  omega
theorem row_ge2 {α : Type} (c : Cd α) (f : α → Nat) (h : ∀ a, f a + 1 ≤ (c.enc a).length) (l : List α) : l.length + (l.map f).sum ≤ ((rowC c).enc l).length := by
  have h1 := encs_ge c f h l
  show _ ≤ (intB (l.length : Int) ++ encs c l).length
  rw [List.length_append]
  omega
theorem keep_ge (k : KeepD) : keepN k ≤ (keepC.enc k).length := by
  unfold keepN keepC envC
  simp only [pairC_len]
  have h1 := row_ge (c := varC) (pairC_pos txtC_pos) k.1.1
  have h2 := row_ge txtC_pos k.1.2.1
  have h3 := row_ge (c := fnC) (pairC_pos txtC_pos) k.2.1
  have h4 := row_ge (c := trapC) (pairC_pos numC_pos) k.2.2.1
  have h5 := row_ge (c := prC) (pairC_pos numC_pos) k.2.2.2
  omega
theorem frame_ge (f : FrameD) : frameN f + 1 ≤ (frameC.enc f).length := by
  unfold frameN frameC
  simp only [pairC_len]
  have h1 := row_ge numC_pos f.2.2.2.2.2.1
  have h2 := row_ge txtC_pos f.2.2.2.2.2.2.1
  have h3 := row_ge (c := varC) (pairC_pos txtC_pos) f.2.2.2.2.2.2.2.1
  have h4 := keep_ge f.2.2.2.2.2.2.2.2
  omega
theorem few_ge (s : StateD) : fewN s ≤ (stateC.enc s).length := by
  unfold fewN headN stateC reqC ansC framesN
  simp only [pairC_len]
  have h1 := keep_ge s.1
  have h2 := row_ge txtC_pos s.2.1
  have h3 := row_ge2 frameC frameN frame_ge s.2.2.1
  have h4 := row_ge txtC_pos s.2.2.2.1.2.2.2.2
  have h5 := row_ge txtC_pos s.2.2.2.2.1.2.2.2.2.1
  have h6 := row_ge numC_pos s.2.2.2.2.2.1
  omega
end Go.Proofs.Ytnmlnaoljkhjeaa
