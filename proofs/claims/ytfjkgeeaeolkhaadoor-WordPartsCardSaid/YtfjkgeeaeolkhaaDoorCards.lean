/-
  DERIVED. GIVEN WITH THE SEED: THE CARDS: each row of YtfjkgeeaeolkhaaDoorRows.lean that lists a variable, with what it lists TIED to the program's text (the seventh form; the later family's looks); each row that meets fmt, with fmt's text TOLD by the authors' own Lean function (tested against real Go, not proved from fmt's source: count such statements apart). THE CARD IS WHAT COUNTS. Prove the row's statement (the work); the ties are given (YtfjkgeeaeolkhaaDoorTie.lean); close each card by the builder's one call (the guide's Derived/Test/ToyasCard.lean, 'card_holds'). Laid BY PROGRAM, IN A SANDBOX (cutbox-door.mjs). By AI agents, Wed Nov 11 2026. No macro, syntax, notation, axiom, sorry.
-/
import Derived.Test.YtfjkgeeaeolkhaaDoorRows
import GoSem.ClaimSeven
namespace Go.Proofs.YtfjkgeeaeolkhaaDoor
namespace Rows

/-- THE TIED CARD OF 'kinetoscopelaw09.WordPlain'. -/
def wordPlainCard : Claim7 := { stood := { row := wordPlainRow, standIns := [], harness := (true, "6614317079a4eac542145aaa47c94e9e9507ca809833a762d63c1b499644a431"), looks := true }, kinds := [], alts := [], laidByText := true, laidKinds := [.data, .data, .pinned], laidTests := true, laidLooks := .later }
def WordPlainCardSaid : Prop := Claim7.holds Tryd.pinned (.plain (OpenSpec.ofChange wordPlainSpec)) wordPlainCard

/-- THE TIED CARD OF 'kinetoscopelaw09.WordParts'. -/
def wordPartsCard : Claim7 := { stood := { row := wordPartsRow, standIns := [], harness := (true, "6614317079a4eac542145aaa47c94e9e9507ca809833a762d63c1b499644a431"), looks := true }, kinds := [], alts := [], laidByText := true, laidKinds := [.data, .data, .pinned], laidTests := true, laidLooks := .later }
def WordPartsCardSaid : Prop := Claim7.holds Tryd.pinned (.plain (OpenSpec.ofChange wordPartsSpec)) wordPartsCard

/-- THE TIED CARD OF 'kinetoscopelaw09.WordTwo'. -/
def wordTwoCard : Claim7 := { stood := { row := wordTwoRow, standIns := [], harness := (true, "6614317079a4eac542145aaa47c94e9e9507ca809833a762d63c1b499644a431"), looks := true }, kinds := [], alts := [], laidByText := true, laidKinds := [.data, .data, .pinned], laidTests := true, laidLooks := .later }
def WordTwoCardSaid : Prop := Claim7.holds Tryd.pinned (.plain (OpenSpec.ofChange wordTwoSpec)) wordTwoCard

/-- THE TIED CARD OF 'kinetoscopelaw09.WordDeep'. -/
def wordDeepCard : Claim7 := { stood := { row := wordDeepRow, standIns := [], harness := (true, "6614317079a4eac542145aaa47c94e9e9507ca809833a762d63c1b499644a431"), looks := true }, kinds := [], alts := [], laidByText := true, laidKinds := [.data, .data, .pinned], laidTests := true, laidLooks := .later }
def WordDeepCardSaid : Prop := Claim7.holds Tryd.pinned (.plain (OpenSpec.ofChange wordDeepSpec)) wordDeepCard

/-- THE TIED CARD OF 'kinetoscopelaw09.WordDouble'. -/
def wordDoubleCard : Claim7 := { stood := { row := wordDoubleRow, standIns := [], harness := (true, "6614317079a4eac542145aaa47c94e9e9507ca809833a762d63c1b499644a431"), looks := true }, kinds := [], alts := [], laidByText := true, laidKinds := [.data, .data, .pinned], laidTests := true, laidLooks := .later }
def WordDoubleCardSaid : Prop := Claim7.holds Tryd.pinned (.plain (OpenSpec.ofChange wordDoubleSpec)) wordDoubleCard

/-- THE SECOND FORM's CARD OF 'kinetoscopelaw09.WordPlain'. -/
def wordPlainUptoCard : Claim7 := { stood := { row := wordPlainUptoRow, standIns := [], harness := (true, "6614317079a4eac542145aaa47c94e9e9507ca809833a762d63c1b499644a431"), looks := true }, kinds := [], alts := [], laidByText := true, laidKinds := [.data, .data, .pinned], laidTests := true, laidLooks := .later }
def WordPlainUptoCardSaid : Prop := Claim7.holds Tryd.pinned (.plain (OpenSpec.upto wordPlainSpec)) wordPlainUptoCard

/-- THE SECOND FORM's CARD OF 'kinetoscopelaw09.WordParts'. -/
def wordPartsUptoCard : Claim7 := { stood := { row := wordPartsUptoRow, standIns := [], harness := (true, "6614317079a4eac542145aaa47c94e9e9507ca809833a762d63c1b499644a431"), looks := true }, kinds := [], alts := [], laidByText := true, laidKinds := [.data, .data, .pinned], laidTests := true, laidLooks := .later }
def WordPartsUptoCardSaid : Prop := Claim7.holds Tryd.pinned (.plain (OpenSpec.upto wordPartsSpec)) wordPartsUptoCard

/-- THE SECOND FORM's CARD OF 'kinetoscopelaw09.WordTwo'. -/
def wordTwoUptoCard : Claim7 := { stood := { row := wordTwoUptoRow, standIns := [], harness := (true, "6614317079a4eac542145aaa47c94e9e9507ca809833a762d63c1b499644a431"), looks := true }, kinds := [], alts := [], laidByText := true, laidKinds := [.data, .data, .pinned], laidTests := true, laidLooks := .later }
def WordTwoUptoCardSaid : Prop := Claim7.holds Tryd.pinned (.plain (OpenSpec.upto wordTwoSpec)) wordTwoUptoCard

/-- THE SECOND FORM's CARD OF 'kinetoscopelaw09.WordDeep'. -/
def wordDeepUptoCard : Claim7 := { stood := { row := wordDeepUptoRow, standIns := [], harness := (true, "6614317079a4eac542145aaa47c94e9e9507ca809833a762d63c1b499644a431"), looks := true }, kinds := [], alts := [], laidByText := true, laidKinds := [.data, .data, .pinned], laidTests := true, laidLooks := .later }
def WordDeepUptoCardSaid : Prop := Claim7.holds Tryd.pinned (.plain (OpenSpec.upto wordDeepSpec)) wordDeepUptoCard

/-- THE SECOND FORM's CARD OF 'kinetoscopelaw09.WordDouble'. -/
def wordDoubleUptoCard : Claim7 := { stood := { row := wordDoubleUptoRow, standIns := [], harness := (true, "6614317079a4eac542145aaa47c94e9e9507ca809833a762d63c1b499644a431"), looks := true }, kinds := [], alts := [], laidByText := true, laidKinds := [.data, .data, .pinned], laidTests := true, laidLooks := .later }
def WordDoubleUptoCardSaid : Prop := Claim7.holds Tryd.pinned (.plain (OpenSpec.upto wordDoubleSpec)) wordDoubleUptoCard
end Rows
end Go.Proofs.YtfjkgeeaeolkhaaDoor
