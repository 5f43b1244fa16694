/-
  Lexer: what stands in single quotes; a backslash with a newline behind it, as plain laws. No program stands here. Conditions: as each law says.
-/
import Derived.Test.YtknncfoaegmphaaGreatDoorSkLxLines
set_option linter.unusedVariables false
set_option linter.unusedSimpArgs false
namespace Go.Proofs.YtknncfoaegmphaaGreatDoor.Lx
theorem w_end {s : Nm} (h : ends s = true) : wordM s = .ok ([], s) := loop_stop h
theorem w_step {s : Nm} (h : ends s = false) : wordM s = bnd (parA 0 s) fun x => pre x.1 (wordM x.2) := loop_step (part_strict 0) (part_nil 0) h
theorem has_join {c d : UInt8} {r : Nm} : has [92, 10] (c :: d :: r) = (decide (92 = c) && decide (10 = d)) := by
  simp only [has, List.isPrefixOf, Bool.and_true]
  by_cases h : (92 : UInt8) = c <;> by_cases h2 : (10 : UInt8) = d <;> simp [h, h2]
theorem has_join1 {c : UInt8} : has [92, 10] [c] = false := by simp [has, List.isPrefixOf]
theorem nl_append (a b : Nm) : nl (a ++ b) = nl a + nl b := List.count_append
end Go.Proofs.YtknncfoaegmphaaGreatDoor.Lx
