/-
  Syntax: reserved words that are quoted, or stand behind another word, plainly. Conditions: none.
-/
import Derived.Test.YtknncfoaegmphaaGreatDoorGSyA
set_option linter.unusedVariables false
set_option linter.unusedSimpArgs false
set_option maxRecDepth 100000
namespace Go.Proofs.YtknncfoaegmphaaGreatDoor.Sx
open Go.RowKit Base Lx Sy

def qWords : List Nm := [[33], [123], [125], [99, 97, 115, 101], [100, 111], [100, 111, 110, 101], [101, 108, 105, 102], [101, 108, 115, 101], [101, 115, 97, 99], [102, 105], [102, 111, 114], [105, 102], [116, 104, 101, 110], [117, 110, 116, 105, 108], [119, 104, 105, 108, 101], [105, 110]]
def qRaws (w : Nm) : List Nm := [39 :: w ++ [39], 92 :: w, 34 :: w ++ [34]]
theorem q_forms {w : Nm} (hw : w ∈ qWords) : w = [33] ∨ w = [123] ∨ w = [125] ∨ w = [99, 97, 115, 101] ∨ w = [100, 111] ∨ w = [100, 111, 110, 101] ∨ w = [101, 108, 105, 102] ∨ w = [101, 108, 115, 101] ∨ w = [101, 115, 97, 99] ∨ w = [102, 105] ∨ w = [102, 111, 114] ∨ w = [105, 102] ∨ w = [116, 104, 101, 110] ∨ w = [117, 110, 116, 105, 108] ∨ w = [119, 104, 105, 108, 101] ∨ w = [105, 110] := by
  simpa only [qWords, List.mem_cons, List.not_mem_nil, or_false] using hw
def qA (r : Nm) : List Nd := [{ k := 1, ws := [r, [120]], ln := 1 }, { k := 5, ks := [0], ln := 1 }]
def qB (w : Nm) : List Nd := [{ k := 1, ws := [[120], w], ln := 1 }, { k := 5, ks := [0], ln := 1 }]
def qC (w : Nm) : List Nd := [{ k := 1, ws := [[121, 61, 49], w], st := 1, rs := [⟨1, [62], w, []⟩], ln := 1 }, { k := 5, ks := [0], ln := 1 }]
theorem q_a {w : Nm} (hw : w ∈ qWords) {r : Nm} (hr : r ∈ qRaws w) : parseM (r ++ [32, 120]) = .ok (qA r) := by
  have hr : r = 39 :: w ++ [39] ∨ r = 92 :: w ∨ r = 34 :: w ++ [34] := by simpa only [qRaws, List.mem_cons, List.not_mem_nil, or_false] using hr
  rcases q_forms hw with rfl | rfl | rfl | rfl | rfl | rfl | rfl | rfl | rfl | rfl | rfl | rfl | rfl | rfl | rfl | rfl
  all_goals rcases hr with rfl | rfl | rfl
  all_goals rfl
theorem q_b {w : Nm} (hw : w ∈ qWords) : parseM (120 :: 32 :: w) = .ok (qB w) := by
  rcases q_forms hw with rfl | rfl | rfl | rfl | rfl | rfl | rfl | rfl | rfl | rfl | rfl | rfl | rfl | rfl | rfl | rfl
  all_goals rfl
theorem q_c {w : Nm} (hw : w ∈ qWords) : parseM (121 :: 61 :: 49 :: 32 :: (w ++ 32 :: 62 :: w)) = .ok (qC w) := by
  rcases q_forms hw with rfl | rfl | rfl | rfl | rfl | rfl | rfl | rfl | rfl | rfl | rfl | rfl | rfl | rfl | rfl | rfl
  all_goals rfl
end Go.Proofs.YtknncfoaegmphaaGreatDoor.Sx
