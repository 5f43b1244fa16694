/-
  Small words on rows of bytes and texts that the walks share. Conditions: as each law says.
-/
import Derived.Test.YtiklkhbfilbpeaaGreatDoorSkTypes
set_option linter.unusedVariables false
namespace Go.Proofs.YtiklkhbfilbpeaaGreatDoor
open Go.RowKit Base
theorem append_side {P : Program} {u : TypeId} {e : TypeId} (h : P.underlying u = some (.slice e)) : ∃ d, P.underlying u = some d ∧ ∀ k, d ≠ .int k := ⟨_, h, fun k => by simp⟩
theorem ba_ext {a b : ByteArray} (h : a.data.toList = b.data.toList) : a = b := by
  cases a; cases b; simp at h; rw [h]
theorem str_append (l m : List UInt8) : str l ++ str m = str (l ++ m) := by
  apply ba_ext
  simp [str]
/-- 'string([]byte{c})'. -/
theorem bytes_one (w : World) (n : Int) (c : UInt8) (h : n = (c.toNat : Int)) (e : TypeId) : Bytes (w.alloc (.cells #[.int .u8 n] e)) (some ⟨w.heap.size, 0, none⟩) 1 1 [c] := by
  subst h
  exact bytes_lit w [c] e (by simp [maxLen])
end Go.Proofs.YtiklkhbfilbpeaaGreatDoor
