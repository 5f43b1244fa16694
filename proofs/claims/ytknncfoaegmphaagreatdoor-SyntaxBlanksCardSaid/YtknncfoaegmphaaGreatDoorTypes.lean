/-
  The rows of this translation's table of types that the walks name, and what they say of slices. Conditions: none.
-/
import Derived.Test.YtknncfoaegmphaaGreatDoorProg
import Derived.Test.YtknncfoaegmphaaGreatDoorBase
set_option linter.unusedVariables false
namespace Go.Proofs.YtknncfoaegmphaaGreatDoor
open Go.RowKit Base

theorem info_u8 : (Tryz.prog.info? 5).map (fun i => (i.zero, i.size, i.bytes)) = some (some (.int .u8 0), 1, 1) := by kernel_rfl
theorem info_bytes : (Tryz.prog.info? 151).map (fun i => (i.zero, i.size, i.bytes)) = some (some (.slice none 0 0), 1, 24) := by kernel_rfl

/-- Bytes: each one's address, and what lies there. -/
theorem at_bytes {w : World} {a : Option Addr} {n cap : Nat} {l : List UInt8} (h : Bytes w a n cap l) : ∃ b off, (∀ k (hk : k < l.length), w.cell? ⟨b, off + k, none⟩ = some (.int .u8 (l[k].toNat : Int))) ∧
    ∀ (kd : IntKind) (k : Nat) (w' : World), k < n → (Instr.indexAt 151 (.slice a n cap) (.int kd (k : Int))).run Tryz.prog w' = .ok (.pointer (some ⟨b, off + k, none⟩)) w' := by
  obtain ⟨i, hi, _, hs, _⟩ := info_parts info_u8
  obtain ⟨b, off, h1, h2⟩ := h.at (P := Tryz.prog)
  exact ⟨b, off, fun k hk => by simpa [byteAt] using h1 k hk, fun kd k w' hk => by simpa using h2 151 5 i Tryz.underlying151 hi hs kd k w' hk⟩

theorem sub_bytes {w : World} {a : Option Addr} {n cap : Nat} {l : List UInt8} (h : Bytes w a n cap l) (lo hi : Nat) (hlo : lo ≤ hi) (hhi : hi ≤ n) :
    ∃ a' : Option Addr, Bytes w a' (hi - lo) (cap - lo) ((l.take hi).drop lo) ∧ ∀ w' : World,
        (∀ (k1 k2 : IntKind), (Instr.slice 151 (.slice a n cap) (some (.int k1 (lo : Int))) (some (.int k2 (hi : Int))) none).run Tryz.prog w' = .ok (.slice a' (hi - lo) (cap - lo)) w') ∧
        (lo = 0 → ∀ (k2 : IntKind), (Instr.slice 151 (.slice a n cap) none (some (.int k2 (hi : Int))) none).run Tryz.prog w' = .ok (.slice a' (hi - lo) (cap - lo)) w') ∧
        (hi = n → ∀ (k1 : IntKind), (Instr.slice 151 (.slice a n cap) (some (.int k1 (lo : Int))) none none).run Tryz.prog w' = .ok (.slice a' (hi - lo) (cap - lo)) w') := by
  obtain ⟨i, hi', _, hs, _⟩ := info_parts info_u8
  obtain ⟨a', h1, h2⟩ := h.sub (P := Tryz.prog) lo hi hlo hhi
  exact ⟨a', h1, fun w' => h2 151 5 i Tryz.underlying151 hi' hs w'⟩


theorem str_bytes {w : World} {a : Option Addr} {n cap : Nat} {l : List UInt8} (h : Bytes w a n cap l) : (convert 151 9 (.slice a n cap)).run Tryz.prog w = .ok (.string (str l)) w :=
  run_string_bytes h 151 5 9 Tryz.underlying151 Tryz.underlying5 Tryz.underlying9

theorem conv_const (w : World) (C : Array Value) (n c : Nat) : (convert 151 151 (.slice (some ⟨w.heap.size, 0, none⟩) n c)).run Tryz.prog (w.alloc (.cells C 5)) = .ok (.slice (some ⟨w.heap.size, 0, none⟩) n c) (w.alloc (.cells C 5 (C.size, C.size + 1))) :=
  Lib.run_convert_bytes_const w 151 5 C n c Tryz.underlying151 Tryz.underlying5

theorem conv_const1 (w : World) (O : Obj) (C : Array Value) (n c : Nat) : (convert 151 151 (.slice (some ⟨w.heap.size + 1, 0, none⟩) n c)).run Tryz.prog ((w.alloc O).alloc (.cells C 5)) = .ok (.slice (some ⟨w.heap.size + 1, 0, none⟩) n c) ((w.alloc O).alloc (.cells C 5 (C.size, C.size + 1))) := by
  have := conv_const (w.alloc O) C n c
  rwa [show (w.alloc O).heap.size = w.heap.size + 1 by simp] at this

theorem load_u8 {w : World} {ad : Addr} {v : Value} (h : w.cell? ad = some v) : (Instr.loadAt 5 (.pointer (some ad))).run Tryz.prog w = .ok v w := by
  have hagg : (isAgg 5).run Tryz.prog w = .ok false w := by simp [isAgg, run_underlying Tryz.underlying5]
  simp [Instr.loadAt, Instr.sureAddr, loadVar, hagg, Result.andThen, load]
  show Sem.run _ (Sem.load Mode.plain ad Sem.pure) w = _
  simp only [Sem.run, h]

end Go.Proofs.YtknncfoaegmphaaGreatDoor
