/-
  The rows of this translation's table of types that the walks name, and what they say of slices. Conditions: none.
-/
import Derived.Test.YtiklkhbfilbpeaaGreatDoorProg
import Derived.Test.YtiklkhbfilbpeaaGreatDoorSkBase
set_option linter.unusedVariables false
namespace Go.Proofs.YtiklkhbfilbpeaaGreatDoor
open Go.RowKit Base
theorem info_u8 : (Tryz.prog.info? 5).map (fun i => (i.zero, i.size, i.bytes)) = some (some (.int .u8 0), 1, 1) := by kernel_rfl
theorem sub_bytes {w : World} {a : Option Addr} {n cap : Nat} {l : List UInt8} (h : Bytes w a n cap l) (lo hi : Nat) (hlo : lo ≤ hi) (hhi : hi ≤ n) :
    ∃ a' : Option Addr, Bytes w a' (hi - lo) (cap - lo) ((l.take hi).drop lo) ∧ ∀ w' : World,
        (∀ (k1 k2 : IntKind), (Instr.slice 49 (.slice a n cap) (some (.int k1 (lo : Int))) (some (.int k2 (hi : Int))) none).run Tryz.prog w' = .ok (.slice a' (hi - lo) (cap - lo)) w') ∧
        (lo = 0 → ∀ (k2 : IntKind), (Instr.slice 49 (.slice a n cap) none (some (.int k2 (hi : Int))) none).run Tryz.prog w' = .ok (.slice a' (hi - lo) (cap - lo)) w') ∧
        (hi = n → ∀ (k1 : IntKind), (Instr.slice 49 (.slice a n cap) (some (.int k1 (lo : Int))) none none).run Tryz.prog w' = .ok (.slice a' (hi - lo) (cap - lo)) w') := by
  obtain ⟨i, hi', _, hs, _⟩ := info_parts info_u8
  obtain ⟨a', h1, h2⟩ := h.sub (P := Tryz.prog) lo hi hlo hhi
  exact ⟨a', h1, fun w' => h2 49 5 i Tryz.underlying49 hi' hs w'⟩
theorem str_bytes {w : World} {a : Option Addr} {n cap : Nat} {l : List UInt8} (h : Bytes w a n cap l) : (convert 49 9 (.slice a n cap)).run Tryz.prog w = .ok (.string (str l)) w :=
  run_string_bytes h 49 5 9 Tryz.underlying49 Tryz.underlying5 Tryz.underlying9
end Go.Proofs.YtiklkhbfilbpeaaGreatDoor
