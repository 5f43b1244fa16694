/-
  Small words that the walks of the statements of chapter 3 share: loads, sums, rows that a function has made. Conditions: as each law says.
-/
import Derived.Test.YtbbnopikinlcdaaFrAwake
set_option linter.unusedVariables false
namespace Go.Proofs.Ytbbnopikinlcdaa
open Go.RowKit Base

theorem load_plainF {t : TypeId} {w : World} {ad : Addr} {v : Value} (hagg : (isAgg t).run Try.prog w = .ok false w) (h : w.cell? ad = some v) : (Instr.loadAt t (.pointer (some ad))).run Try.prog w = .ok v w := by
  simp [Instr.loadAt, Instr.sureAddr, loadVar, hagg, Result.andThen, load]
  show Sem.run _ (Sem.load Mode.plain ad Sem.pure) w = _
  simp only [Sem.run, h]
theorem load_row {w : World} {ad : Addr} {v : Value} (h : w.cell? ad = some v) : (Instr.loadAt 22 (.pointer (some ad))).run Try.prog w = .ok v w := load_plainF (by simp [isAgg, run_underlying Try.underlying22]) h
theorem conv_u64F (w : World) (k : Nat) (h : k < 9223372036854775808) : (convert 3 39 (.int .i64 (k : Int))).run Try.prog w = .ok (.int .u64 (k : Int)) w := by
  have hk : Try.prog.intKind 39 = .u64 := by simp [Program.intKind, Try.underlying39]
  have := run_convert_int (P := Try.prog) w 3 39 .i64 (k : Int) (by rw [Try.underlying3]; rfl) (by rw [hk]; exact Try.underlying39)
  rw [hk, IntKind.wrap_u64] at this
  rw [this]
  congr 2
  omega
theorem run_plus {P : Program} {w : World} {t : TypeId} {a b : Int} (h1 : -9223372036854775808 ≤ a + b) (h2 : a + b ≤ 9223372036854775807) : (binOp .add t (.int .i64 a) (.int .i64 b)).run P w = .ok (.int .i64 (a + b)) w := by
  rw [binOp_add]
  simp [Op.intArith, IntKind.wrap_i64]
  omega
/-- Rows that a function has made can be read. -/
theorem byteRows_own {w : World} {base1 base2 : Nat} {a : Option Addr} {K c : Nat} {vs : List Value} {ls : List (List UInt8)} (h : w.ownsRow base1 22 1 (.slice a K c) K vs) (h2 : OwnRows w base2 vs ls) : ByteRows w a K c ls := by
  have hl := h.1
  obtain ⟨a', c', he, h3, h4, _, b, h5, h6⟩ := ownsRow_slice h
  simp only [Value.slice.injEq, true_and] at he
  obtain ⟨rfl, rfl⟩ := he
  refine ⟨by rw [← h2.1]; omega, h3, h4, b, 0, h5, fun k hk => ?_⟩
  have hv : vs[k]? = some (vs[k]'(by rw [h2.1]; exact hk)) := List.getElem?_eq_getElem _
  have ho := h2.2.1 k _ ls[k] hv (List.getElem?_eq_getElem hk)
  obtain ⟨a2, c2, hv2, hr⟩ := ownsRow_bytes ho
  refine ⟨a2, c2, ?_, hr⟩
  have := h6 k _ hv
  rw [hv2] at this
  simpa using this

end Go.Proofs.Ytbbnopikinlcdaa
