/-
  What the reference's reader reads, and what the requests and answers are, as plain mathematics: the same. Conditions: none.
-/
import Derived.Test.YtgbnfipbedlmhaaEvReads1
set_option linter.unusedVariables false
namespace Go.Proofs.Ytgbnfipbedlmhaa
open Go.RowKit Base

theorem read_ask (b : List UInt8) : readL b 3 false = ⟨[(q1 b).1, (q2 b).1, (q3 b).1], (q4 b).1, if (q5 b).1.1 = false then [] else (q5 b).1.2, !(q5 b).1.1, (q5 b).2.1, (q5 b).2.2⟩ := by
  have e : readL b 3 false = tailL [(q1 b).1, (q2 b).1, (q3 b).1] (q4 b).1 (q5 b) false := rfl
  rw [e]
  unfold tailL
  cases h : (q5 b).1.1 <;> simp
theorem read_tell (b : List UInt8) : readL b 4 true = ⟨if (t6 b).1.1 = false then [(t1 b).1, (t2 b).1, (t3 b).1, (t4 b).1] else [(t1 b).1, (t2 b).1, (t3 b).1, (t4 b).1, (t7 b).1], (t5 b).1, if (t6 b).1.1 = false then [] else (t6 b).1.2, !(t6 b).1.1, (t7 b).2.1, (t7 b).2.2⟩ := by
  have e : readL b 4 true = tailL [(t1 b).1, (t2 b).1, (t3 b).1, (t4 b).1] (t5 b).1 (t6 b) true := rfl
  rw [e]
  unfold tailL t7
  cases h : (t6 b).1.1 <;> simp
def kindR (x : Nat) : Nat := if x < 12 then x else 0
theorem ask_right (b : List UInt8) : endR (!(!(q5 b).1.1) && decide (0 < kindR (q1 b).1)) (q5 b).2.1 (q5 b).2.2 = askedE b := by
  unfold askedE askedRight
  congr 1
  unfold kindR
  by_cases h : (q1 b).1 < 12
  · rw [if_pos h]; simp [h, Bool.and_comm]
  · rw [if_neg h]; simp [h]
theorem ask_same (b : List UInt8) (h : askedE b = 0) : askedQ b = ⟨(kindR (q1 b).1 : Int), VarPlain.zag (q2 b).1, VarPlain.zag (q3 b).1, (q4 b).1, if (q5 b).1.1 = false then [] else (q5 b).1.2⟩ := by
  have hr : askedRight b = true := (endR_zero (show endR (askedRight b) (q5 b).2.1 (q5 b).2.2 = 0 from h)).2.1
  unfold askedRight at hr
  simp only [Bool.and_eq_true, decide_eq_true_eq] at hr
  unfold askedQ kindR
  rw [if_pos h, if_pos hr.1.2, hr.2]
  simp
/-- The reference's test of an answer. -/
def rightT (b : List UInt8) : Bool := decide (0 < (t1 b).1) && (decide ((t1 b).1 < 12) && (decide ((t2 b).1 < 256) && ((t6 b).1.1 && decide ((t7 b).1 < 65))))
theorem rightT_iff (b : List UInt8) : rightT b = toldRight b := by
  unfold rightT toldRight
  cases (t6 b).1.1 <;> simp [Bool.and_assoc]
theorem tell_right (b : List UInt8) : endR (!(!(t6 b).1.1) && rightT b) (t7 b).2.1 (t7 b).2.2 = toldE b := by
  unfold toldE
  rw [rightT_iff]
  congr 1
  unfold toldRight
  cases (t6 b).1.1 <;> simp
theorem tell_ok (b : List UInt8) (h : toldE b = 0) : rightT b = true ∧ (t6 b).1.1 = true := by
  have hr : toldRight b = true := (endR_zero (show endR (toldRight b) (t7 b).2.1 (t7 b).2.2 = 0 from h)).2.1
  rw [rightT_iff]
  refine ⟨hr, ?_⟩
  unfold toldRight at hr
  simp only [Bool.and_eq_true, decide_eq_true_eq] at hr
  exact hr.2

end Go.Proofs.Ytgbnfipbedlmhaa
