/-
  The rows of this translation's table of types that the walks name, and what they say of slices. Conditions: none.
-/
import Derived.Test.YtfjkgeeaeolkhaaDoorProg
import Derived.Test.YtfjkgeeaeolkhaaDoorBase
set_option linter.unusedVariables false
namespace Go.Proofs.YtfjkgeeaeolkhaaDoor
open Go.RowKit Base

theorem info_u8 : (Tryd.prog.info? 5).map (fun i => (i.zero, i.size, i.bytes)) = some (some (.int .u8 0), 1, 1) := by kernel_rfl


theorem load_u8 {w : World} {ad : Addr} {v : Value} (h : w.cell? ad = some v) : (Instr.loadAt 5 (.pointer (some ad))).run Tryd.prog w = .ok v w := by
  have hagg : (isAgg 5).run Tryd.prog w = .ok false w := by simp [isAgg, run_underlying Tryd.underlying5]
  simp [Instr.loadAt, Instr.sureAddr, loadVar, hagg, Result.andThen, load]
  show Sem.run _ (Sem.load Mode.plain ad Sem.pure) w = _
  simp only [Sem.run, h]

end Go.Proofs.YtfjkgeeaeolkhaaDoor
