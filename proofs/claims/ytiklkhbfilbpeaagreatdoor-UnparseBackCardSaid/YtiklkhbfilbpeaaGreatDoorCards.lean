/-
  DERIVED. GIVEN WITH THE SEED: THE CARDS: each row of YtiklkhbfilbpeaaGreatDoorRows.lean that lists a variable, with what it lists TIED to the program's text (the seventh form; the later family's looks); each row that meets fmt, with fmt's text TOLD by the authors' own Lean function (tested against real Go, not proved from fmt's source: count such statements apart). THE CARD IS WHAT COUNTS. Prove the row's statement (the work); the ties are given (YtiklkhbfilbpeaaGreatDoorTie.lean); close each card by the builder's one call (the guide's Derived/Test/ToyasCard.lean, 'card_holds'). Laid BY PROGRAM, IN A SANDBOX (cutbox-door.mjs). By AI agents, Wed Nov 11 2026. No macro, syntax, notation, axiom, sorry.
-/
import Derived.Test.YtiklkhbfilbpeaaGreatDoorRows
import GoSem.ClaimSeven
namespace Go.Proofs.YtiklkhbfilbpeaaGreatDoor
namespace Rows

/-- THE TIED CARD OF 'kinetoscopelaw08.UnparseBack'. -/
def unparseBackCard : Claim7 := { stood := { row := unparseBackRow, standIns := [], harness := (true, "8569b6927c4279ed8fe188e6279705128b69dff2797a0f448091fbef9751dccf"), looks := true }, kinds := [], alts := [], laidByText := true, laidKinds := [.data, .data, .data, .data, .sentinel, .sentinel, .data, .widerDeep, .pinned], laidTests := true, laidLooks := .later }
def UnparseBackCardSaid : Prop := Claim7.holds Tryz.pinned (.plain (OpenSpec.ofChange unparseBackSpec)) unparseBackCard

/-- THE TIED CARD OF 'kinetoscopelaw08.UnparseFew'. -/
def unparseFewCard : Claim7 := { stood := { row := unparseFewRow, standIns := [], harness := (true, "8569b6927c4279ed8fe188e6279705128b69dff2797a0f448091fbef9751dccf"), looks := true }, kinds := [], alts := [], laidByText := true, laidKinds := [.data, .data, .data, .data, .sentinel, .sentinel, .data, .widerDeep, .pinned], laidTests := true, laidLooks := .later }
def UnparseFewCardSaid : Prop := Claim7.holds Tryz.pinned (.plain (OpenSpec.ofChange unparseFewSpec)) unparseFewCard

/-- THE SECOND FORM's CARD OF 'kinetoscopelaw08.UnparseBack'. -/
def unparseBackUptoCard : Claim7 := { stood := { row := unparseBackUptoRow, standIns := [], harness := (true, "8569b6927c4279ed8fe188e6279705128b69dff2797a0f448091fbef9751dccf"), looks := true }, kinds := [], alts := [], laidByText := true, laidKinds := [.data, .data, .data, .data, .sentinel, .sentinel, .data, .widerDeep, .pinned], laidTests := true, laidLooks := .later }
def UnparseBackUptoCardSaid : Prop := Claim7.holds Tryz.pinned (.plain (OpenSpec.upto unparseBackSpec)) unparseBackUptoCard

/-- THE SECOND FORM's CARD OF 'kinetoscopelaw08.UnparseFew'. -/
def unparseFewUptoCard : Claim7 := { stood := { row := unparseFewUptoRow, standIns := [], harness := (true, "8569b6927c4279ed8fe188e6279705128b69dff2797a0f448091fbef9751dccf"), looks := true }, kinds := [], alts := [], laidByText := true, laidKinds := [.data, .data, .data, .data, .sentinel, .sentinel, .data, .widerDeep, .pinned], laidTests := true, laidLooks := .later }
def UnparseFewUptoCardSaid : Prop := Claim7.holds Tryz.pinned (.plain (OpenSpec.upto unparseFewSpec)) unparseFewUptoCard
end Rows
end Go.Proofs.YtiklkhbfilbpeaaGreatDoor
