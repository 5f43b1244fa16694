/-
  DERIVED. GIVEN WITH THE SEED: THE CARDS: each row of YtbbnopikinlcdaaDoorRows.lean that lists a variable, with what it lists TIED to the program's text (the seventh form; the later family's looks); each row that meets fmt, with fmt's text TOLD by the authors' own Lean function (tested against real Go, not proved from fmt's source: count such statements apart). THE CARD IS WHAT COUNTS. Prove the row's statement (the work); the ties are given (YtbbnopikinlcdaaDoorTie.lean); close each card by the builder's one call (the guide's Derived/Test/ToyasCard.lean, 'card_holds'). Laid BY PROGRAM, IN A SANDBOX (cutbox-door.mjs). By AI agents, Wed Nov 11 2026. No macro, syntax, notation, axiom, sorry.
-/
import Derived.Test.YtbbnopikinlcdaaDoorRows
import GoSem.ClaimSeven
namespace Go.Proofs.YtbbnopikinlcdaaDoor
namespace Rows

/-- THE TIED CARD OF 'kinetoscopelaw04.EventTells'. -/
def eventTellsCard : Claim7 := { stood := { row := eventTellsRow, standIns := [], harness := (true, "fd2f487415209f1aae950c95c84690d9df48bb21e87e9a59deec023370acab2e"), looks := false }, kinds := [], alts := [], laidByText := true, laidKinds := [.data], laidTests := true, laidLooks := .later }
def EventTellsCardSaid : Prop := Claim7.holds Tryd.pinned (.plain (OpenSpec.ofChange eventTellsSpec)) eventTellsCard

/-- THE TIED CARD OF 'kinetoscopelaw04.EventReads'. -/
def eventReadsCard : Claim7 := { stood := { row := eventReadsRow, standIns := [], harness := (true, "fd2f487415209f1aae950c95c84690d9df48bb21e87e9a59deec023370acab2e"), looks := false }, kinds := [], alts := [], laidByText := true, laidKinds := [.data], laidTests := true, laidLooks := .later }
def EventReadsCardSaid : Prop := Claim7.holds Tryd.pinned (.plain (OpenSpec.ofChange eventReadsSpec)) eventReadsCard

/-- THE TIED CARD OF 'kinetoscopelaw04.EventBack'. -/
def eventBackCard : Claim7 := { stood := { row := eventBackRow, standIns := [], harness := (true, "fd2f487415209f1aae950c95c84690d9df48bb21e87e9a59deec023370acab2e"), looks := false }, kinds := [], alts := [], laidByText := true, laidKinds := [.data], laidTests := true, laidLooks := .later }
def EventBackCardSaid : Prop := Claim7.holds Tryd.pinned (.plain (OpenSpec.ofChange eventBackSpec)) eventBackCard

/-- THE TIED CARD OF 'kinetoscopelaw04.EventOwn'. -/
def eventOwnCard : Claim7 := { stood := { row := eventOwnRow, standIns := [], harness := (true, "fd2f487415209f1aae950c95c84690d9df48bb21e87e9a59deec023370acab2e"), looks := false }, kinds := [], alts := [], laidByText := true, laidKinds := [.data], laidTests := true, laidLooks := .later }
def EventOwnCardSaid : Prop := Claim7.holds Tryd.pinned (.plain (OpenSpec.ofChange eventOwnSpec)) eventOwnCard

/-- THE TIED CARD OF 'kinetoscopelaw04.EventKinds'. -/
def eventKindsCard : Claim7 := { stood := { row := eventKindsRow, standIns := [], harness := (true, "fd2f487415209f1aae950c95c84690d9df48bb21e87e9a59deec023370acab2e"), looks := false }, kinds := [], alts := [], laidByText := true, laidKinds := [.data], laidTests := true, laidLooks := .later }
def EventKindsCardSaid : Prop := Claim7.holds Tryd.pinned (.plain (OpenSpec.ofChange eventKindsSpec)) eventKindsCard

/-- THE SECOND FORM's CARD OF 'kinetoscopelaw04.EventTells'. -/
def eventTellsUptoCard : Claim7 := { stood := { row := eventTellsUptoRow, standIns := [], harness := (true, "fd2f487415209f1aae950c95c84690d9df48bb21e87e9a59deec023370acab2e"), looks := false }, kinds := [], alts := [], laidByText := true, laidKinds := [.data], laidTests := true, laidLooks := .later }
def EventTellsUptoCardSaid : Prop := Claim7.holds Tryd.pinned (.plain (OpenSpec.upto eventTellsSpec)) eventTellsUptoCard

/-- THE SECOND FORM's CARD OF 'kinetoscopelaw04.EventReads'. -/
def eventReadsUptoCard : Claim7 := { stood := { row := eventReadsUptoRow, standIns := [], harness := (true, "fd2f487415209f1aae950c95c84690d9df48bb21e87e9a59deec023370acab2e"), looks := false }, kinds := [], alts := [], laidByText := true, laidKinds := [.data], laidTests := true, laidLooks := .later }
def EventReadsUptoCardSaid : Prop := Claim7.holds Tryd.pinned (.plain (OpenSpec.upto eventReadsSpec)) eventReadsUptoCard

/-- THE SECOND FORM's CARD OF 'kinetoscopelaw04.EventBack'. -/
def eventBackUptoCard : Claim7 := { stood := { row := eventBackUptoRow, standIns := [], harness := (true, "fd2f487415209f1aae950c95c84690d9df48bb21e87e9a59deec023370acab2e"), looks := false }, kinds := [], alts := [], laidByText := true, laidKinds := [.data], laidTests := true, laidLooks := .later }
def EventBackUptoCardSaid : Prop := Claim7.holds Tryd.pinned (.plain (OpenSpec.upto eventBackSpec)) eventBackUptoCard

/-- THE SECOND FORM's CARD OF 'kinetoscopelaw04.EventOwn'. -/
def eventOwnUptoCard : Claim7 := { stood := { row := eventOwnUptoRow, standIns := [], harness := (true, "fd2f487415209f1aae950c95c84690d9df48bb21e87e9a59deec023370acab2e"), looks := false }, kinds := [], alts := [], laidByText := true, laidKinds := [.data], laidTests := true, laidLooks := .later }
def EventOwnUptoCardSaid : Prop := Claim7.holds Tryd.pinned (.plain (OpenSpec.upto eventOwnSpec)) eventOwnUptoCard

/-- THE SECOND FORM's CARD OF 'kinetoscopelaw04.EventKinds'. -/
def eventKindsUptoCard : Claim7 := { stood := { row := eventKindsUptoRow, standIns := [], harness := (true, "fd2f487415209f1aae950c95c84690d9df48bb21e87e9a59deec023370acab2e"), looks := false }, kinds := [], alts := [], laidByText := true, laidKinds := [.data], laidTests := true, laidLooks := .later }
def EventKindsUptoCardSaid : Prop := Claim7.holds Tryd.pinned (.plain (OpenSpec.upto eventKindsSpec)) eventKindsUptoCard
end Rows
end Go.Proofs.YtbbnopikinlcdaaDoor
