/-
  Store: a row of numbers that comes in. Conditions: none but what the statement says of its argument.
-/
import Derived.Test.YtmhofdoifgfjfaaOpen
import Derived.Test.YtmhofdoifgfjfaaStPlain
set_option linter.unusedVariables false
namespace Go.Proofs.Ytmhofdoifgfjfaa
open Go.ChangeShapes Go.WideShapes Go.ChangeAt Go.RowKit Base Opn

theorem open_i64 {H : Type} {enc : TypeId × Value → H} {w : World} {a : Option Addr} {n cap : Nat} {d : DataW H} {p : List MemPlace} (h : DataW.Trod enc Try.prog w 0 (fun _ => true) true 41 (.slice a n cap) d p) :
    ∃ l : List Int, Ints .i64 w a n cap l ∧ ∀ z ∈ l, I64 z := by
  obtain ⟨l, h1, h2, h3, b, off, h4, h5⟩ := row_of_Trod (fun w b o z => intAt .i64 w b o z ∧ I64 z) 1 (by decide) Try.underlying41 (e := 3) (by kernel_rfl) (fun ad cs fuel y h hd hs => by
    obtain ⟨z, hz, hw⟩ := each_int Try.underlying3 h hd hs
    have b1 := wf_bounds hw
    simp [IntKind.min, IntKind.max, IntKind.signed, IntKind.bits] at b1
    exact ⟨z, hz, by omega, by omega⟩) h
  refine ⟨l, ⟨h1, h2, h3, b, off, h4, fun k hk => (h5 k hk).1⟩, fun z hz => ?_⟩
  obtain ⟨k, hk, rfl⟩ := List.getElem_of_mem hz
  exact (h5 k hk).2
end Go.Proofs.Ytmhofdoifgfjfaa
