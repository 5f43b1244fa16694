/-
  NARROWER THAN 'FOR EVERY INPUT', by the rows' own cells (each row's printed sentence says how): EventTells: laid · EventReads: laid · EventBack: laid · EventOwn: laid · EventKinds: laid.
  DERIVED. THE GIVEN ROWS OF THIS SEAT. 5 by the template 'for every input the law returns true; each argument reads behind the call as it read before'; 0 by the template 'total and deterministic' (their statements: YtbbnopikinlcdaaDoorTotals.lean).
  GIVEN WITH THE SEED: the statements are not yours to turn. If you find one false, say at which input.
  Laid BY PROGRAM, IN A SANDBOX (cutbox-rows.mjs): the forced cells as the released guide's own fill.sh prints them over the translation 09104758eca4bafa… (all of the seat's roots in one cut). By AI agents, Wed Nov 11 2026. No macro, syntax, notation, axiom, sorry.
-/
import Derived.Test.YtbbnopikinlcdaaDoorChecked
import GoSem.Claim
import GoSem.ClaimJoined
import GoSem.ClaimMapViews
import Derived.JoinedTies
import Derived.KernelRfl
namespace Go.Proofs.YtbbnopikinlcdaaDoor
/- THE CELL 'sum', in the pinned program and in every row, IS THE sha256 OF THE DUMP (.gsa) THAT YtbbnopikinlcdaaDoorProg.lean LOADS. Nothing in Lean hashes anything: it is a label: what it is worth is what the hold of that sum in a sandbox is worth. -/
noncomputable def Tryd.pinned : Pinned := { name := "ytbbnopikinlcdaadoor", sum := "09104758eca4bafaee6d82aca5773b746dcd95ebb07dde7a6de7fdaa193edd83", checked := Tryd.checked }
namespace Rows
def none {H : Type} : Left H := { results := [], args := [] }

/- WHAT THE LISTED PACKAGE-LEVEL VARIABLES READ AS WHEN THE CALL BEGINS. Each datum BY PROGRAM (the guide's laid-datum.mjs) off the statement by which the dump's own 'gosem.cut.vars' lays the variable. In a bare row this is a premise. The card (YtbbnopikinlcdaaDoorCards.lean) ties it to the program's text. -/
def laid_kinetoscope_event_names {H : Type} : DataW H := .agg [.lit (.string []), .lit (.string [114, 101, 97, 100]), .lit (.string [119, 114, 105, 116, 101]), .lit (.string [111, 112, 101, 110]), .lit (.string [99, 108, 111, 115, 101]), .lit (.string [112, 105, 112, 101]), .lit (.string [115, 112, 97, 119, 110]), .lit (.string [119, 97, 105, 116]), .lit (.string [99, 108, 111, 99, 107]), .lit (.string [108, 105, 115, 116]), .lit (.string [115, 116, 97, 116]), .lit (.string [99, 104, 100, 105, 114])]

/-- 'kinetoscopelaw04.EventTells': WHATEVER THE INPUT: true; the input reads as it did. -/
def eventTellsSpec : ChangeSpec := { name := "eventTells", fn := fun _ => fun
  | [d1, d2, d3, d4] => { results := [.lit (.bool true)], args := [d1, d2, d3, d4] }
  | _ => none }
def eventTellsRow : OpenClaim := { program := "ytbbnopikinlcdaadoor", sum := "09104758eca4bafaee6d82aca5773b746dcd95ebb07dde7a6de7fdaa193edd83", func := "kinetoscope/kinetoscopelaw04.EventTells", spec := "eventTells", named := ["kinetoscope/event.names"], apart := false, laid := [("kinetoscope/event.names", laid_kinetoscope_event_names)] }
def EventTellsSaid : Prop := eventTellsRow.holds Tryd.pinned (OpenSpec.ofChange eventTellsSpec)

/-- ITS FALSE NEIGHBOUR: 'it returns false'. Refute it at one input. -/
def eventTellsWrong : ChangeSpec := { name := "eventTells", fn := fun _ => fun
  | [d1, d2, d3, d4] => { results := [.lit (.bool false)], args := [d1, d2, d3, d4] }
  | _ => none }
def EventTellsWrongFalsely : Prop := eventTellsRow.holds Tryd.pinned (OpenSpec.ofChange eventTellsWrong)

/-- 'kinetoscopelaw04.EventReads': WHATEVER THE INPUT: true; the input reads as it did. -/
def eventReadsSpec : ChangeSpec := { name := "eventReads", fn := fun _ => fun
  | [d] => { results := [.lit (.bool true)], args := [d] }
  | _ => none }
def eventReadsRow : OpenClaim := { program := "ytbbnopikinlcdaadoor", sum := "09104758eca4bafaee6d82aca5773b746dcd95ebb07dde7a6de7fdaa193edd83", func := "kinetoscope/kinetoscopelaw04.EventReads", spec := "eventReads", named := ["kinetoscope/event.names"], apart := false, laid := [("kinetoscope/event.names", laid_kinetoscope_event_names)] }
def EventReadsSaid : Prop := eventReadsRow.holds Tryd.pinned (OpenSpec.ofChange eventReadsSpec)

/-- ITS FALSE NEIGHBOUR: 'it returns false'. Refute it at one input. -/
def eventReadsWrong : ChangeSpec := { name := "eventReads", fn := fun _ => fun
  | [d] => { results := [.lit (.bool false)], args := [d] }
  | _ => none }
def EventReadsWrongFalsely : Prop := eventReadsRow.holds Tryd.pinned (OpenSpec.ofChange eventReadsWrong)

/-- 'kinetoscopelaw04.EventBack': WHATEVER THE INPUT: true; the input reads as it did. -/
def eventBackSpec : ChangeSpec := { name := "eventBack", fn := fun _ => fun
  | [d1, d2, d3, d4] => { results := [.lit (.bool true)], args := [d1, d2, d3, d4] }
  | _ => none }
def eventBackRow : OpenClaim := { program := "ytbbnopikinlcdaadoor", sum := "09104758eca4bafaee6d82aca5773b746dcd95ebb07dde7a6de7fdaa193edd83", func := "kinetoscope/kinetoscopelaw04.EventBack", spec := "eventBack", named := ["kinetoscope/event.names"], apart := false, laid := [("kinetoscope/event.names", laid_kinetoscope_event_names)] }
def EventBackSaid : Prop := eventBackRow.holds Tryd.pinned (OpenSpec.ofChange eventBackSpec)

/-- ITS FALSE NEIGHBOUR: 'it returns false'. Refute it at one input. -/
def eventBackWrong : ChangeSpec := { name := "eventBack", fn := fun _ => fun
  | [d1, d2, d3, d4] => { results := [.lit (.bool false)], args := [d1, d2, d3, d4] }
  | _ => none }
def EventBackWrongFalsely : Prop := eventBackRow.holds Tryd.pinned (OpenSpec.ofChange eventBackWrong)

/-- 'kinetoscopelaw04.EventOwn': WHATEVER THE INPUT: true; the input reads as it did. -/
def eventOwnSpec : ChangeSpec := { name := "eventOwn", fn := fun _ => fun
  | [d] => { results := [.lit (.bool true)], args := [d] }
  | _ => none }
def eventOwnRow : OpenClaim := { program := "ytbbnopikinlcdaadoor", sum := "09104758eca4bafaee6d82aca5773b746dcd95ebb07dde7a6de7fdaa193edd83", func := "kinetoscope/kinetoscopelaw04.EventOwn", spec := "eventOwn", named := ["kinetoscope/event.names"], apart := false, laid := [("kinetoscope/event.names", laid_kinetoscope_event_names)] }
def EventOwnSaid : Prop := eventOwnRow.holds Tryd.pinned (OpenSpec.ofChange eventOwnSpec)

/-- ITS FALSE NEIGHBOUR: 'it returns false'. Refute it at one input. -/
def eventOwnWrong : ChangeSpec := { name := "eventOwn", fn := fun _ => fun
  | [d] => { results := [.lit (.bool false)], args := [d] }
  | _ => none }
def EventOwnWrongFalsely : Prop := eventOwnRow.holds Tryd.pinned (OpenSpec.ofChange eventOwnWrong)

/-- 'kinetoscopelaw04.EventKinds': WHATEVER THE INPUT: true; the input reads as it did. -/
def eventKindsSpec : ChangeSpec := { name := "eventKinds", fn := fun _ => fun
  | [d1, d2, d3] => { results := [.lit (.bool true)], args := [d1, d2, d3] }
  | _ => none }
def eventKindsRow : OpenClaim := { program := "ytbbnopikinlcdaadoor", sum := "09104758eca4bafaee6d82aca5773b746dcd95ebb07dde7a6de7fdaa193edd83", func := "kinetoscope/kinetoscopelaw04.EventKinds", spec := "eventKinds", named := ["kinetoscope/event.names"], apart := false, laid := [("kinetoscope/event.names", laid_kinetoscope_event_names)] }
def EventKindsSaid : Prop := eventKindsRow.holds Tryd.pinned (OpenSpec.ofChange eventKindsSpec)

/-- ITS FALSE NEIGHBOUR: 'it returns false'. Refute it at one input. -/
def eventKindsWrong : ChangeSpec := { name := "eventKinds", fn := fun _ => fun
  | [d1, d2, d3] => { results := [.lit (.bool false)], args := [d1, d2, d3] }
  | _ => none }
def EventKindsWrongFalsely : Prop := eventKindsRow.holds Tryd.pinned (OpenSpec.ofChange eventKindsWrong)

/- THE SECOND FORM. 'bulk': how many values and letters a reading holds, each counted each time it is reached (what is shared counts as often as it is met; a slice's spare places count too). A statement '..UptoSaid' is the law's where the arguments, and the package variables that the reading takes, are together of bulk at most 1048576: NARROWER than '..Said'. Prove '..Said' where nothing that the law and all that it calls make is longer than what came in: it says more and counts as full. Else prove '..UptoSaid'. A law counts once. -/
mutual
def uptoBulk {H : Type} : DataW H → Nat
  | .lit (.string bytes) => bytes.length + 1
  | .lit _ => 1
  | .nil => 1
  | .ptr d => uptoBulk d + 1
  | .slice elems spare => uptoBulkAll elems + uptoBulkAll spare + 1
  | .agg parts => uptoBulkAll parts + 1
  | .iface _ d => uptoBulk d + 1
  | .map entries => uptoBulkEntries entries + 1
  | .held _ => 1
def uptoBulkAll {H : Type} : List (DataW H) → Nat
  | [] => 0
  | d :: r => uptoBulk d + uptoBulkAll r
def uptoBulkEntries {H : Type} : List (Lit × DataW H) → Nat
  | [] => 0
  | x :: r => uptoBulkEntry x + uptoBulkEntries r
def uptoBulkEntry {H : Type} : Lit × DataW H → Nat
  | (.string bytes, d) => bytes.length + uptoBulk d + 1
  | (_, d) => uptoBulk d + 1
 end
def uptoSmall : (H : Type) → List (DataW H) → Bool := fun _ ds => decide (uptoBulkAll ds ≤ 1048576)
def OpenSpec.upto (s : _root_.Go.ChangeSpec) : _root_.Go.OpenSpec := { _root_.Go.OpenSpec.ofChange s with cond := some uptoSmall }

/-- 'kinetoscopelaw04.EventTells', WHERE WHAT IT READS IS OF BULK AT MOST 1048576: true; the input reads as it did. -/
def eventTellsUptoRow : OpenClaim := { program := "ytbbnopikinlcdaadoor", sum := "09104758eca4bafaee6d82aca5773b746dcd95ebb07dde7a6de7fdaa193edd83", func := "kinetoscope/kinetoscopelaw04.EventTells", spec := "eventTells", named := ["kinetoscope/event.names"], apart := false, laid := [("kinetoscope/event.names", laid_kinetoscope_event_names)], narrowed := true }
def EventTellsUptoSaid : Prop := eventTellsUptoRow.holds Tryd.pinned (OpenSpec.upto eventTellsSpec)

/-- 'kinetoscopelaw04.EventReads', WHERE WHAT IT READS IS OF BULK AT MOST 1048576: true; the input reads as it did. -/
def eventReadsUptoRow : OpenClaim := { program := "ytbbnopikinlcdaadoor", sum := "09104758eca4bafaee6d82aca5773b746dcd95ebb07dde7a6de7fdaa193edd83", func := "kinetoscope/kinetoscopelaw04.EventReads", spec := "eventReads", named := ["kinetoscope/event.names"], apart := false, laid := [("kinetoscope/event.names", laid_kinetoscope_event_names)], narrowed := true }
def EventReadsUptoSaid : Prop := eventReadsUptoRow.holds Tryd.pinned (OpenSpec.upto eventReadsSpec)

/-- 'kinetoscopelaw04.EventBack', WHERE WHAT IT READS IS OF BULK AT MOST 1048576: true; the input reads as it did. -/
def eventBackUptoRow : OpenClaim := { program := "ytbbnopikinlcdaadoor", sum := "09104758eca4bafaee6d82aca5773b746dcd95ebb07dde7a6de7fdaa193edd83", func := "kinetoscope/kinetoscopelaw04.EventBack", spec := "eventBack", named := ["kinetoscope/event.names"], apart := false, laid := [("kinetoscope/event.names", laid_kinetoscope_event_names)], narrowed := true }
def EventBackUptoSaid : Prop := eventBackUptoRow.holds Tryd.pinned (OpenSpec.upto eventBackSpec)

/-- 'kinetoscopelaw04.EventOwn', WHERE WHAT IT READS IS OF BULK AT MOST 1048576: true; the input reads as it did. -/
def eventOwnUptoRow : OpenClaim := { program := "ytbbnopikinlcdaadoor", sum := "09104758eca4bafaee6d82aca5773b746dcd95ebb07dde7a6de7fdaa193edd83", func := "kinetoscope/kinetoscopelaw04.EventOwn", spec := "eventOwn", named := ["kinetoscope/event.names"], apart := false, laid := [("kinetoscope/event.names", laid_kinetoscope_event_names)], narrowed := true }
def EventOwnUptoSaid : Prop := eventOwnUptoRow.holds Tryd.pinned (OpenSpec.upto eventOwnSpec)

/-- 'kinetoscopelaw04.EventKinds', WHERE WHAT IT READS IS OF BULK AT MOST 1048576: true; the input reads as it did. -/
def eventKindsUptoRow : OpenClaim := { program := "ytbbnopikinlcdaadoor", sum := "09104758eca4bafaee6d82aca5773b746dcd95ebb07dde7a6de7fdaa193edd83", func := "kinetoscope/kinetoscopelaw04.EventKinds", spec := "eventKinds", named := ["kinetoscope/event.names"], apart := false, laid := [("kinetoscope/event.names", laid_kinetoscope_event_names)], narrowed := true }
def EventKindsUptoSaid : Prop := eventKindsUptoRow.holds Tryd.pinned (OpenSpec.upto eventKindsSpec)

end Rows
end Go.Proofs.YtbbnopikinlcdaaDoor
