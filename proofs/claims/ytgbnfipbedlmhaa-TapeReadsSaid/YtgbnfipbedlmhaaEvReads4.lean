/-
  The reference's requests out of bytes: Asked is walked. Conditions: the text is short.
-/
import Derived.Test.YtgbnfipbedlmhaaEvReads2
import Derived.Test.YtgbnfipbedlmhaaEvReads3
set_option linter.unusedVariables false
namespace Go.Proofs.Ytgbnfipbedlmhaa
open Go.RowKit Base

theorem l_f1 (p : Nat) (w : World) : (Instr.fieldAt 104 (.pointer (some ⟨p, 0, none⟩)) 1).run Try.prog w = .ok (.pointer (some ⟨p, 2, none⟩)) w := by kernel_rfl
theorem l_f2 (p : Nat) (w : World) : (Instr.fieldAt 104 (.pointer (some ⟨p, 0, none⟩)) 2).run Try.prog w = .ok (.pointer (some ⟨p, 3, none⟩)) w := by kernel_rfl
theorem l_f3 (p : Nat) (w : World) : (Instr.fieldAt 104 (.pointer (some ⟨p, 0, none⟩)) 3).run Try.prog w = .ok (.pointer (some ⟨p, 4, none⟩)) w := by kernel_rfl
theorem load_un {w : World} {ad : Addr} {v : Value} (h : w.cell? ad = some v) : (Instr.loadAt 62 (.pointer (some ad))).run Try.prog w = .ok v w := load_plain (by simp [isAgg, run_underlying Try.underlying62]) h
theorem load_uns {w : World} {ad : Addr} {v : Value} (h : w.cell? ad = some v) : (Instr.loadAt 102 (.pointer (some ad))).run Try.prog w = .ok v w := load_plain (by simp [isAgg, run_underlying Try.underlying102]) h
theorem u64s_own {w : World} {base : Nat} {v : Value} {n : Nat} {l : List Nat} (h : w.ownsRow base 62 1 v n (l.map nv)) : ∃ a cap, v = .slice a n cap ∧ U64s w a n cap l :=
  ownsRow_row h (fun _ _ _ hx => hx)
theorem alloc_ans (w : World) : (Instr.alloc 34 true (.tuple #[])).run Try.prog w = .ok (.pointer (some ⟨w.heap.size, 0, none⟩)) (w.alloc (.cells #[.int .i64 0, .int .i64 0, .int .i64 0, .int .i64 0, .string ⟨#[]⟩, .slice none 0 0, .int .i64 0] 34)) := by
  kernel_rfl
theorem build_ans (w : World) (n m : Int) (s : ByteArray) (a : Option Addr) (k c : Nat) : (Instr.build 34 #[(2, .int .i64 n), (3, .int .i64 m), (4, .string s), (5, .slice a k c)]).run Try.prog w = .ok (.agg #[.int .i64 0, .int .i64 0, .int .i64 n, .int .i64 m, .string s, .slice a k c, .int .i64 0]) w := by
  refine run_build w _ _ _ ?_
  kernel_rfl
theorem does_alloc {P : Program} {a : Act} {w w' : World} {post : Value → World → Prop} {dst : Option Tmp} {t : TypeId} {ty : TypeId} {pos : String} {after : Array Edge} {guard : Option (Nat × Bool)} (u : Value)
    (hr : (Instr.alloc t true (.tuple #[])).run P w = .ok u w') (hp : post u w') : Rg.does P { dst, op := .alloc t, type := ty, pos, after, guard } a w post := by
  refine Rg.does_value (v := u) (w' := w') ?_ hp
  simp [execOp, hr, Result.andThen]
theorem does_buildS {P : Program} {a : Act} {w w' : World} {post : Value → World → Prop} {dst : Option Tmp} {t : TypeId} {parts : Array (Nat × Operand)} {ty : TypeId} {pos : String} {after : Array Edge} {guard : Option (Nat × Bool)} (vals : Array (Nat × Value)) (u : Value)
    (hv : (parts.map fun (i, x) => (i, a.eval x)) = vals) (hr : (Instr.build t vals).run P w = .ok u w') (hp : post u w') : Rg.does P { dst, op := .build t parts, type := ty, pos, after, guard } a w post := by
  refine Rg.does_value (v := u) (w' := w') ?_ hp
  simp [execOp, hv, hr, Result.andThen]

end Go.Proofs.Ytgbnfipbedlmhaa
