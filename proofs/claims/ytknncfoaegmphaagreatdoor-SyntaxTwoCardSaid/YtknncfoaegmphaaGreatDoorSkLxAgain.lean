/-
  Lexer: a word's text is read again as itself, as plain laws. No program stands here. Conditions: as each law says.
-/
import Derived.Test.YtknncfoaegmphaaGreatDoorSkLxShort
set_option linter.unusedVariables false
set_option linter.unusedSimpArgs false
set_option maxRecDepth 100000
namespace Go.Proofs.YtknncfoaegmphaaGreatDoor.Lx
/-- What may not stand behind a lone dollar. -/
def bad (s : Nm) : Bool := has [40] s || has [123] s || has [92, 10] s
/-- What stands behind is no worse. -/
def Fit (rest T : Nm) : Prop := bad rest = false → bad T = false
/-- A part's text, read again, is itself. -/
structure Re (c : UInt8) (r o rest : Nm) (step : Nm → R) : Prop where
  noj : has [92, 10] (c :: r) = false
  head : ∃ o', o = c :: o'
  two : c = 92 → ∃ d r', r = d :: r' ∧ o = [92, d]
  again : ∀ T, Fit rest T → step (o ++ T) = .ok (o, T)
def Good (step : Nm → R) : Prop := ∀ c r o rest, step (c :: r) = .ok (o, rest) → (has [92, 10] (c :: r) = true ∧ o = []) ∨ Re c r o rest step
theorem loop_stopped {step : Nm → R} {stop : Nm → Bool} (hs : Strict step) {s y rest : Nm} (h : loop step stop s = .ok (y, rest)) : stop rest = true := (loopF_len (fun s x h => Nat.le_of_lt (hs s x h)) _ _ _ h).2
end Go.Proofs.YtknncfoaegmphaaGreatDoor.Lx
