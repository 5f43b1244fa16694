/-
  The reference's Take computes what the plain mathematics says. Conditions: the text can be read.
-/
import Derived.Test.YtnmlnaoljkhjeaaVarTake
set_option linter.unusedVariables false
namespace Go.Proofs.Ytnmlnaoljkhjeaa
open Go.RowKit Base

theorem val_drop_le (l : List UInt8) : ∀ j, VarPlain.val (l.drop j) ≤ VarPlain.val l := by
  induction l with
  | nil => intro j; simp
  | cons c r ih =>
    intro j
    cases j with
    | zero => simp
    | succ j =>
      have := ih j
      rw [List.drop_succ_cons]
      simp only [VarPlain.val]
      omega
theorem val_drop_step (l : List UInt8) (p : Nat) (h : p < l.length) : VarPlain.val (l.drop p) = l[p].toNat % 128 + 128 * VarPlain.val (l.drop (p + 1)) := by
  rw [List.drop_eq_getElem_cons h, VarPlain.val]

/-- What is known behind the first loop. -/
def LeadInv (l : List UInt8) (k : Nat) : Prop := ∀ j, j < k → ∀ hj : j < l.length, 128 ≤ l[j].toNat

end Go.Proofs.Ytnmlnaoljkhjeaa
