/-
  DERIVED. GIVEN WITH THE SEED: THE CARDS: each row of YtknncfoaegmphaaGreatDoorRows.lean that lists a variable, with what it lists TIED to the program's text (the seventh form; the later family's looks); each row that meets fmt, with fmt's text TOLD by the authors' own Lean function (tested against real Go, not proved from fmt's source: count such statements apart). THE CARD IS WHAT COUNTS. Prove the row's statement (the work); the ties are given (YtknncfoaegmphaaGreatDoorTie.lean); close each card by the builder's one call (the guide's Derived/Test/ToyasCard.lean, 'card_holds'). Laid BY PROGRAM, IN A SANDBOX (cutbox-door.mjs). By AI agents, Wed Nov 11 2026. No macro, syntax, notation, axiom, sorry.
-/
import Derived.Test.YtknncfoaegmphaaGreatDoorRows
import GoSem.ClaimSeven
namespace Go.Proofs.YtknncfoaegmphaaGreatDoor
namespace Rows

/-- THE TIED CARD OF 'kinetoscopelaw07.SyntaxKids'. -/
def syntaxKidsCard : Claim7 := { stood := { row := syntaxKidsRow, standIns := [], harness := (true, "24ee86e71003137aef1c1173ac9cdb2bd9288241d331edc5869c6915b065c34c"), looks := true }, kinds := [], alts := [], laidByText := true, laidKinds := [.data, .data, .data, .data, .sentinel, .sentinel, .data, .widerDeep, .pinned], laidTests := true, laidLooks := .later }
def SyntaxKidsCardSaid : Prop := Claim7.holds Tryz.pinned (.plain (OpenSpec.ofChange syntaxKidsSpec)) syntaxKidsCard

/-- THE TIED CARD OF 'kinetoscopelaw07.SyntaxBlanks'. -/
def syntaxBlanksCard : Claim7 := { stood := { row := syntaxBlanksRow, standIns := [], harness := (true, "24ee86e71003137aef1c1173ac9cdb2bd9288241d331edc5869c6915b065c34c"), looks := true }, kinds := [], alts := [], laidByText := true, laidKinds := [.data, .data, .data, .data, .sentinel, .sentinel, .data, .widerDeep, .pinned], laidTests := true, laidLooks := .later }
def SyntaxBlanksCardSaid : Prop := Claim7.holds Tryz.pinned (.plain (OpenSpec.ofChange syntaxBlanksSpec)) syntaxBlanksCard

/-- THE TIED CARD OF 'kinetoscopelaw07.SyntaxTwo'. -/
def syntaxTwoCard : Claim7 := { stood := { row := syntaxTwoRow, standIns := [], harness := (true, "24ee86e71003137aef1c1173ac9cdb2bd9288241d331edc5869c6915b065c34c"), looks := true }, kinds := [], alts := [], laidByText := true, laidKinds := [.data, .data, .data, .data, .sentinel, .sentinel, .data, .widerDeep, .pinned], laidTests := true, laidLooks := .later }
def SyntaxTwoCardSaid : Prop := Claim7.holds Tryz.pinned (.plain (OpenSpec.ofChange syntaxTwoSpec)) syntaxTwoCard

/-- THE TIED CARD OF 'kinetoscopelaw07.SyntaxDeep'. -/
def syntaxDeepCard : Claim7 := { stood := { row := syntaxDeepRow, standIns := [], harness := (true, "24ee86e71003137aef1c1173ac9cdb2bd9288241d331edc5869c6915b065c34c"), looks := true }, kinds := [], alts := [], laidByText := true, laidKinds := [.data, .data, .data, .data, .sentinel, .sentinel, .data, .widerDeep, .pinned], laidTests := true, laidLooks := .later }
def SyntaxDeepCardSaid : Prop := Claim7.holds Tryz.pinned (.plain (OpenSpec.ofChange syntaxDeepSpec)) syntaxDeepCard

/-- THE TIED CARD OF 'kinetoscopelaw07.SyntaxLeft'. -/
def syntaxLeftCard : Claim7 := { stood := { row := syntaxLeftRow, standIns := [], harness := (true, "24ee86e71003137aef1c1173ac9cdb2bd9288241d331edc5869c6915b065c34c"), looks := true }, kinds := [], alts := [], laidByText := true, laidKinds := [.data, .data, .data, .data, .sentinel, .sentinel, .data, .widerDeep, .pinned], laidTests := true, laidLooks := .later }
def SyntaxLeftCardSaid : Prop := Claim7.holds Tryz.pinned (.plain (OpenSpec.ofChange syntaxLeftSpec)) syntaxLeftCard

/-- THE TIED CARD OF 'kinetoscopelaw07.SyntaxQuoted'. -/
def syntaxQuotedCard : Claim7 := { stood := { row := syntaxQuotedRow, standIns := [], harness := (true, "24ee86e71003137aef1c1173ac9cdb2bd9288241d331edc5869c6915b065c34c"), looks := true }, kinds := [], alts := [], laidByText := true, laidKinds := [.data, .data, .data, .data, .sentinel, .sentinel, .data, .widerDeep, .pinned], laidTests := true, laidLooks := .later }
def SyntaxQuotedCardSaid : Prop := Claim7.holds Tryz.pinned (.plain (OpenSpec.ofChange syntaxQuotedSpec)) syntaxQuotedCard

/-- THE SECOND FORM's CARD OF 'kinetoscopelaw07.SyntaxKids'. -/
def syntaxKidsUptoCard : Claim7 := { stood := { row := syntaxKidsUptoRow, standIns := [], harness := (true, "24ee86e71003137aef1c1173ac9cdb2bd9288241d331edc5869c6915b065c34c"), looks := true }, kinds := [], alts := [], laidByText := true, laidKinds := [.data, .data, .data, .data, .sentinel, .sentinel, .data, .widerDeep, .pinned], laidTests := true, laidLooks := .later }
def SyntaxKidsUptoCardSaid : Prop := Claim7.holds Tryz.pinned (.plain (OpenSpec.upto syntaxKidsSpec)) syntaxKidsUptoCard

/-- THE SECOND FORM's CARD OF 'kinetoscopelaw07.SyntaxBlanks'. -/
def syntaxBlanksUptoCard : Claim7 := { stood := { row := syntaxBlanksUptoRow, standIns := [], harness := (true, "24ee86e71003137aef1c1173ac9cdb2bd9288241d331edc5869c6915b065c34c"), looks := true }, kinds := [], alts := [], laidByText := true, laidKinds := [.data, .data, .data, .data, .sentinel, .sentinel, .data, .widerDeep, .pinned], laidTests := true, laidLooks := .later }
def SyntaxBlanksUptoCardSaid : Prop := Claim7.holds Tryz.pinned (.plain (OpenSpec.upto syntaxBlanksSpec)) syntaxBlanksUptoCard

/-- THE SECOND FORM's CARD OF 'kinetoscopelaw07.SyntaxTwo'. -/
def syntaxTwoUptoCard : Claim7 := { stood := { row := syntaxTwoUptoRow, standIns := [], harness := (true, "24ee86e71003137aef1c1173ac9cdb2bd9288241d331edc5869c6915b065c34c"), looks := true }, kinds := [], alts := [], laidByText := true, laidKinds := [.data, .data, .data, .data, .sentinel, .sentinel, .data, .widerDeep, .pinned], laidTests := true, laidLooks := .later }
def SyntaxTwoUptoCardSaid : Prop := Claim7.holds Tryz.pinned (.plain (OpenSpec.upto syntaxTwoSpec)) syntaxTwoUptoCard

/-- THE SECOND FORM's CARD OF 'kinetoscopelaw07.SyntaxDeep'. -/
def syntaxDeepUptoCard : Claim7 := { stood := { row := syntaxDeepUptoRow, standIns := [], harness := (true, "24ee86e71003137aef1c1173ac9cdb2bd9288241d331edc5869c6915b065c34c"), looks := true }, kinds := [], alts := [], laidByText := true, laidKinds := [.data, .data, .data, .data, .sentinel, .sentinel, .data, .widerDeep, .pinned], laidTests := true, laidLooks := .later }
def SyntaxDeepUptoCardSaid : Prop := Claim7.holds Tryz.pinned (.plain (OpenSpec.upto syntaxDeepSpec)) syntaxDeepUptoCard

/-- THE SECOND FORM's CARD OF 'kinetoscopelaw07.SyntaxLeft'. -/
def syntaxLeftUptoCard : Claim7 := { stood := { row := syntaxLeftUptoRow, standIns := [], harness := (true, "24ee86e71003137aef1c1173ac9cdb2bd9288241d331edc5869c6915b065c34c"), looks := true }, kinds := [], alts := [], laidByText := true, laidKinds := [.data, .data, .data, .data, .sentinel, .sentinel, .data, .widerDeep, .pinned], laidTests := true, laidLooks := .later }
def SyntaxLeftUptoCardSaid : Prop := Claim7.holds Tryz.pinned (.plain (OpenSpec.upto syntaxLeftSpec)) syntaxLeftUptoCard

/-- THE SECOND FORM's CARD OF 'kinetoscopelaw07.SyntaxQuoted'. -/
def syntaxQuotedUptoCard : Claim7 := { stood := { row := syntaxQuotedUptoRow, standIns := [], harness := (true, "24ee86e71003137aef1c1173ac9cdb2bd9288241d331edc5869c6915b065c34c"), looks := true }, kinds := [], alts := [], laidByText := true, laidKinds := [.data, .data, .data, .data, .sentinel, .sentinel, .data, .widerDeep, .pinned], laidTests := true, laidLooks := .later }
def SyntaxQuotedUptoCardSaid : Prop := Claim7.holds Tryz.pinned (.plain (OpenSpec.upto syntaxQuotedSpec)) syntaxQuotedUptoCard
end Rows
end Go.Proofs.YtknncfoaegmphaaGreatDoor
