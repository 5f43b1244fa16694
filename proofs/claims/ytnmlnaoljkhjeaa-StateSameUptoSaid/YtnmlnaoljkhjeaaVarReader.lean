/-
  The reader of package varint: each method computes what the plain mathematics says of the bytes left and the first error. Conditions: the reader is there; as each contract says.
-/
import Derived.Test.YtnmlnaoljkhjeaaVarRefTake
set_option linter.unusedVariables false
namespace Go.Proofs.Ytnmlnaoljkhjeaa
open Go.RowKit Base

/-- Block q is a reader with the bytes l left and the error e. -/
def Rd (w : World) (q : Nat) (l : List UInt8) (e : Int) : Prop := ∃ a n cap, w.heap[q]? = some (.cells #[.slice a n cap, .int .i64 e] 119) ∧ Bytes w a n cap l

theorem Rd.below {w w' : World} {q : Nat} {l : List UInt8} {e : Int} (h : Rd w q l e) (hb : Below w.heap.size w w') : Rd w' q l e := by
  obtain ⟨a, n, cap, h1, h2⟩ := h
  exact ⟨a, n, cap, by rw [hb.block q (Array.getElem?_eq_some_iff.1 h1).1]; exact h1, h2.below stable_byteAt hb⟩

theorem Rd.cells {w : World} {q : Nat} {a : Option Addr} {n cap : Nat} {e : Int} {t : TypeId} (h : w.heap[q]? = some (.cells #[.slice a n cap, .int .i64 e] t)) :
    w.cell? ⟨q, 0, none⟩ = some (.slice a n cap) ∧ w.cell? ⟨q, 1, none⟩ = some (.int .i64 e) ∧ w.frozen? ⟨q, 0, none⟩ = false ∧ w.frozen? ⟨q, 1, none⟩ = false := by
  refine ⟨?_, ?_, ?_, ?_⟩ <;> simp [World.cell?, World.frozen?, h]


set_option maxRecDepth 100000 in
theorem rd_err_calls (w : World) (q : Nat) (l : List UInt8) (e : Int) (h : Rd w q l e) :
    Calls Try.prog 61 #[.pointer (some ⟨q, 0, none⟩)] w fun r w' => r = .returned (.int .i64 e) ∧ w = w' := by
  obtain ⟨a, n, cap, h1, h2⟩ := h
  obtain ⟨c0, c1, f0, f1⟩ := Rd.cells h1
  clear h1 h2
  go_enter Try.func61, Try.ntmps61
  go_wp2_with fail
  go_ret
  exact ⟨rfl, rfl⟩
set_option maxRecDepth 100000 in
theorem rd_left_calls (w : World) (q : Nat) (l : List UInt8) (e : Int) (h : Rd w q l e) :
    Calls Try.prog 17 #[.pointer (some ⟨q, 0, none⟩)] w fun r w' => r = .returned (.int .i64 (l.length : Int)) ∧ w = w' := by
  obtain ⟨a, n, cap, h1, h2⟩ := h
  obtain ⟨c0, c1, f0, f1⟩ := Rd.cells h1
  have Hn := Lib.hid h2.1
  clear h1 h2
  go_enter Try.func17, Try.ntmps17
  go_wp2_with fail
  go_ret
  exact ⟨by rw [← Hn.out]; rfl, rfl⟩
set_option maxRecDepth 100000 in
theorem rd_nil_err_calls (w : World) : Calls Try.prog 61 #[.pointer none] w fun r w' => r = .returned (.int .i64 10) ∧ w = w' := by
  go_enter Try.func61, Try.ntmps61
  go_wp2_with fail
  go_ret
  exact ⟨rfl, rfl⟩
set_option maxRecDepth 100000 in
theorem rd_nil_left_calls (w : World) : Calls Try.prog 17 #[.pointer none] w fun r w' => r = .returned (.int .i64 0) ∧ w = w' := by
  go_enter Try.func17, Try.ntmps17
  go_wp2_with fail
  go_ret
  exact ⟨rfl, rfl⟩

/-- The error that End tells. -/
def endE (l : List UInt8) (e : Int) : Int := if e ≠ 0 ∨ l = [] then e else 14
end Go.Proofs.Ytnmlnaoljkhjeaa
