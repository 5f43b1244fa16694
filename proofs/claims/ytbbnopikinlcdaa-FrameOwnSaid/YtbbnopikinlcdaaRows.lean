/-
  No cell of these rows narrows 'for every input' (looked for: loops, veiled, ifaces, maps, wideKeys, modest, calm, conditions, laid).
  DERIVED. THE GIVEN ROWS OF THIS SEAT. 13 by the template 'for every input the law returns true; each argument reads behind the call as it read before'; 0 by the template 'total and deterministic' (their statements: YtbbnopikinlcdaaTotals.lean).
  GIVEN WITH THE SEED: the statements are not yours to turn. If you find one false, say at which input.
  Laid BY PROGRAM, IN A SANDBOX (cutbox-rows.mjs): the forced cells as the released guide's own fill.sh prints them over the translation 63519e62991811bb… (all of the seat's roots in one cut). By AI agents, Wed Nov 11 2026. No macro, syntax, notation, axiom, sorry.
-/
import Derived.Test.YtbbnopikinlcdaaChecked
import GoSem.Claim
import GoSem.ClaimJoined
import GoSem.ClaimMapViews
import Derived.JoinedTies
import Derived.KernelRfl
namespace Go.Proofs.Ytbbnopikinlcdaa
/- THE CELL 'sum', in the pinned program and in every row, IS THE sha256 OF THE DUMP (.gsa) THAT YtbbnopikinlcdaaProg.lean LOADS. Nothing in Lean hashes anything: it is a label: what it is worth is what the hold of that sum in a sandbox is worth. -/
noncomputable def Try.pinned : Pinned := { name := "ytbbnopikinlcdaa", sum := "63519e62991811bbf7dcc1076620a739e9ba3d2044b16ef28b4e5459f6b515b9", checked := Try.checked }
namespace Rows
def none {H : Type} : Left H := { results := [], args := [] }

/-- 'kinetoscopelaw02.CrcOf': WHATEVER THE INPUT: true; the input reads as it did. -/
def crcOfSpec : ChangeSpec := { name := "crcOf", fn := fun _ => fun
  | [d1, d2, d3, d4] => { results := [.lit (.bool true)], args := [d1, d2, d3, d4] }
  | _ => none }
def crcOfRow : OpenClaim := { program := "ytbbnopikinlcdaa", sum := "63519e62991811bbf7dcc1076620a739e9ba3d2044b16ef28b4e5459f6b515b9", func := "kinetoscope/kinetoscopelaw02.CrcOf", spec := "crcOf", apart := false }
def CrcOfSaid : Prop := crcOfRow.holds Try.pinned (OpenSpec.ofChange crcOfSpec)

/-- ITS FALSE NEIGHBOUR: 'it returns false'. Refute it at one input. -/
def crcOfWrong : ChangeSpec := { name := "crcOf", fn := fun _ => fun
  | [d1, d2, d3, d4] => { results := [.lit (.bool false)], args := [d1, d2, d3, d4] }
  | _ => none }
def CrcOfWrongFalsely : Prop := crcOfRow.holds Try.pinned (OpenSpec.ofChange crcOfWrong)

/-- 'kinetoscopelaw02.CrcTurns': WHATEVER THE INPUT: true; the input reads as it did. -/
def crcTurnsSpec : ChangeSpec := { name := "crcTurns", fn := fun _ => fun
  | [d1, d2, d3] => { results := [.lit (.bool true)], args := [d1, d2, d3] }
  | _ => none }
def crcTurnsRow : OpenClaim := { program := "ytbbnopikinlcdaa", sum := "63519e62991811bbf7dcc1076620a739e9ba3d2044b16ef28b4e5459f6b515b9", func := "kinetoscope/kinetoscopelaw02.CrcTurns", spec := "crcTurns", apart := false }
def CrcTurnsSaid : Prop := crcTurnsRow.holds Try.pinned (OpenSpec.ofChange crcTurnsSpec)

/-- ITS FALSE NEIGHBOUR: 'it returns false'. Refute it at one input. -/
def crcTurnsWrong : ChangeSpec := { name := "crcTurns", fn := fun _ => fun
  | [d1, d2, d3] => { results := [.lit (.bool false)], args := [d1, d2, d3] }
  | _ => none }
def CrcTurnsWrongFalsely : Prop := crcTurnsRow.holds Try.pinned (OpenSpec.ofChange crcTurnsWrong)

/-- 'kinetoscopelaw02.CrcTails': WHATEVER THE INPUT: true; the input reads as it did. -/
def crcTailsSpec : ChangeSpec := { name := "crcTails", fn := fun _ => fun
  | [d1, d2] => { results := [.lit (.bool true)], args := [d1, d2] }
  | _ => none }
def crcTailsRow : OpenClaim := { program := "ytbbnopikinlcdaa", sum := "63519e62991811bbf7dcc1076620a739e9ba3d2044b16ef28b4e5459f6b515b9", func := "kinetoscope/kinetoscopelaw02.CrcTails", spec := "crcTails", apart := false }
def CrcTailsSaid : Prop := crcTailsRow.holds Try.pinned (OpenSpec.ofChange crcTailsSpec)

/-- ITS FALSE NEIGHBOUR: 'it returns false'. Refute it at one input. -/
def crcTailsWrong : ChangeSpec := { name := "crcTails", fn := fun _ => fun
  | [d1, d2] => { results := [.lit (.bool false)], args := [d1, d2] }
  | _ => none }
def CrcTailsWrongFalsely : Prop := crcTailsRow.holds Try.pinned (OpenSpec.ofChange crcTailsWrong)

/-- 'kinetoscopelaw02.CrcXors': WHATEVER THE INPUT: true; the input reads as it did. -/
def crcXorsSpec : ChangeSpec := { name := "crcXors", fn := fun _ => fun
  | [d1, d2, d3] => { results := [.lit (.bool true)], args := [d1, d2, d3] }
  | _ => none }
def crcXorsRow : OpenClaim := { program := "ytbbnopikinlcdaa", sum := "63519e62991811bbf7dcc1076620a739e9ba3d2044b16ef28b4e5459f6b515b9", func := "kinetoscope/kinetoscopelaw02.CrcXors", spec := "crcXors", apart := false }
def CrcXorsSaid : Prop := crcXorsRow.holds Try.pinned (OpenSpec.ofChange crcXorsSpec)

/-- ITS FALSE NEIGHBOUR: 'it returns false'. Refute it at one input. -/
def crcXorsWrong : ChangeSpec := { name := "crcXors", fn := fun _ => fun
  | [d1, d2, d3] => { results := [.lit (.bool false)], args := [d1, d2, d3] }
  | _ => none }
def CrcXorsWrongFalsely : Prop := crcXorsRow.holds Try.pinned (OpenSpec.ofChange crcXorsWrong)

/-- 'kinetoscopelaw01.VarintPuts': WHATEVER THE INPUT: true; the input reads as it did. -/
def varintPutsSpec : ChangeSpec := { name := "varintPuts", fn := fun _ => fun
  | [d1, d2] => { results := [.lit (.bool true)], args := [d1, d2] }
  | _ => none }
def varintPutsRow : OpenClaim := { program := "ytbbnopikinlcdaa", sum := "63519e62991811bbf7dcc1076620a739e9ba3d2044b16ef28b4e5459f6b515b9", func := "kinetoscope/kinetoscopelaw01.VarintPuts", spec := "varintPuts", apart := false }
def VarintPutsSaid : Prop := varintPutsRow.holds Try.pinned (OpenSpec.ofChange varintPutsSpec)

/-- ITS FALSE NEIGHBOUR: 'it returns false'. Refute it at one input. -/
def varintPutsWrong : ChangeSpec := { name := "varintPuts", fn := fun _ => fun
  | [d1, d2] => { results := [.lit (.bool false)], args := [d1, d2] }
  | _ => none }
def VarintPutsWrongFalsely : Prop := varintPutsRow.holds Try.pinned (OpenSpec.ofChange varintPutsWrong)

/-- 'kinetoscopelaw01.VarintSigns': WHATEVER THE INPUT: true; the input reads as it did. -/
def varintSignsSpec : ChangeSpec := { name := "varintSigns", fn := fun _ => fun
  | [d1, d2] => { results := [.lit (.bool true)], args := [d1, d2] }
  | _ => none }
def varintSignsRow : OpenClaim := { program := "ytbbnopikinlcdaa", sum := "63519e62991811bbf7dcc1076620a739e9ba3d2044b16ef28b4e5459f6b515b9", func := "kinetoscope/kinetoscopelaw01.VarintSigns", spec := "varintSigns", apart := false }
def VarintSignsSaid : Prop := varintSignsRow.holds Try.pinned (OpenSpec.ofChange varintSignsSpec)

/-- ITS FALSE NEIGHBOUR: 'it returns false'. Refute it at one input. -/
def varintSignsWrong : ChangeSpec := { name := "varintSigns", fn := fun _ => fun
  | [d1, d2] => { results := [.lit (.bool false)], args := [d1, d2] }
  | _ => none }
def VarintSignsWrongFalsely : Prop := varintSignsRow.holds Try.pinned (OpenSpec.ofChange varintSignsWrong)

/-- 'kinetoscopelaw01.VarintBack': WHATEVER THE INPUT: true; the input reads as it did. -/
def varintBackSpec : ChangeSpec := { name := "varintBack", fn := fun _ => fun
  | [d1, d2, d3] => { results := [.lit (.bool true)], args := [d1, d2, d3] }
  | _ => none }
def varintBackRow : OpenClaim := { program := "ytbbnopikinlcdaa", sum := "63519e62991811bbf7dcc1076620a739e9ba3d2044b16ef28b4e5459f6b515b9", func := "kinetoscope/kinetoscopelaw01.VarintBack", spec := "varintBack", apart := false }
def VarintBackSaid : Prop := varintBackRow.holds Try.pinned (OpenSpec.ofChange varintBackSpec)

/-- ITS FALSE NEIGHBOUR: 'it returns false'. Refute it at one input. -/
def varintBackWrong : ChangeSpec := { name := "varintBack", fn := fun _ => fun
  | [d1, d2, d3] => { results := [.lit (.bool false)], args := [d1, d2, d3] }
  | _ => none }
def VarintBackWrongFalsely : Prop := varintBackRow.holds Try.pinned (OpenSpec.ofChange varintBackWrong)

/-- 'kinetoscopelaw01.VarintOne': WHATEVER THE INPUT: true; the input reads as it did. -/
def varintOneSpec : ChangeSpec := { name := "varintOne", fn := fun _ => fun
  | [d1, d2] => { results := [.lit (.bool true)], args := [d1, d2] }
  | _ => none }
def varintOneRow : OpenClaim := { program := "ytbbnopikinlcdaa", sum := "63519e62991811bbf7dcc1076620a739e9ba3d2044b16ef28b4e5459f6b515b9", func := "kinetoscope/kinetoscopelaw01.VarintOne", spec := "varintOne", apart := false }
def VarintOneSaid : Prop := varintOneRow.holds Try.pinned (OpenSpec.ofChange varintOneSpec)

/-- ITS FALSE NEIGHBOUR: 'it returns false'. Refute it at one input. -/
def varintOneWrong : ChangeSpec := { name := "varintOne", fn := fun _ => fun
  | [d1, d2] => { results := [.lit (.bool false)], args := [d1, d2] }
  | _ => none }
def VarintOneWrongFalsely : Prop := varintOneRow.holds Try.pinned (OpenSpec.ofChange varintOneWrong)

/-- 'kinetoscopelaw01.VarintRows': WHATEVER THE INPUT: true; the input reads as it did. -/
def varintRowsSpec : ChangeSpec := { name := "varintRows", fn := fun _ => fun
  | [d1, d2] => { results := [.lit (.bool true)], args := [d1, d2] }
  | _ => none }
def varintRowsRow : OpenClaim := { program := "ytbbnopikinlcdaa", sum := "63519e62991811bbf7dcc1076620a739e9ba3d2044b16ef28b4e5459f6b515b9", func := "kinetoscope/kinetoscopelaw01.VarintRows", spec := "varintRows", apart := false }
def VarintRowsSaid : Prop := varintRowsRow.holds Try.pinned (OpenSpec.ofChange varintRowsSpec)

/-- ITS FALSE NEIGHBOUR: 'it returns false'. Refute it at one input. -/
def varintRowsWrong : ChangeSpec := { name := "varintRows", fn := fun _ => fun
  | [d1, d2] => { results := [.lit (.bool false)], args := [d1, d2] }
  | _ => none }
def VarintRowsWrongFalsely : Prop := varintRowsRow.holds Try.pinned (OpenSpec.ofChange varintRowsWrong)

/-- 'kinetoscopelaw01.VarintReads': WHATEVER THE INPUT: true; the input reads as it did. -/
def varintReadsSpec : ChangeSpec := { name := "varintReads", fn := fun _ => fun
  | [d1, d2] => { results := [.lit (.bool true)], args := [d1, d2] }
  | _ => none }
def varintReadsRow : OpenClaim := { program := "ytbbnopikinlcdaa", sum := "63519e62991811bbf7dcc1076620a739e9ba3d2044b16ef28b4e5459f6b515b9", func := "kinetoscope/kinetoscopelaw01.VarintReads", spec := "varintReads", apart := false }
def VarintReadsSaid : Prop := varintReadsRow.holds Try.pinned (OpenSpec.ofChange varintReadsSpec)

/-- ITS FALSE NEIGHBOUR: 'it returns false'. Refute it at one input. -/
def varintReadsWrong : ChangeSpec := { name := "varintReads", fn := fun _ => fun
  | [d1, d2] => { results := [.lit (.bool false)], args := [d1, d2] }
  | _ => none }
def VarintReadsWrongFalsely : Prop := varintReadsRow.holds Try.pinned (OpenSpec.ofChange varintReadsWrong)

/-- 'kinetoscopelaw03.FrameCuts': WHATEVER THE INPUT: true; the input reads as it did. -/
def frameCutsSpec : ChangeSpec := { name := "frameCuts", fn := fun _ => fun
  | [d1, d2] => { results := [.lit (.bool true)], args := [d1, d2] }
  | _ => none }
def frameCutsRow : OpenClaim := { program := "ytbbnopikinlcdaa", sum := "63519e62991811bbf7dcc1076620a739e9ba3d2044b16ef28b4e5459f6b515b9", func := "kinetoscope/kinetoscopelaw03.FrameCuts", spec := "frameCuts", unfollowed := true, recurses := true, apart := false }
def FrameCutsSaid : Prop := frameCutsRow.holds Try.pinned (OpenSpec.ofChange frameCutsSpec)

/-- ITS FALSE NEIGHBOUR: 'it returns false'. Refute it at one input. -/
def frameCutsWrong : ChangeSpec := { name := "frameCuts", fn := fun _ => fun
  | [d1, d2] => { results := [.lit (.bool false)], args := [d1, d2] }
  | _ => none }
def FrameCutsWrongFalsely : Prop := frameCutsRow.holds Try.pinned (OpenSpec.ofChange frameCutsWrong)

/-- 'kinetoscopelaw03.FrameTurns': WHATEVER THE INPUT: true; the input reads as it did. -/
def frameTurnsSpec : ChangeSpec := { name := "frameTurns", fn := fun _ => fun
  | [d1, d2, d3, d4] => { results := [.lit (.bool true)], args := [d1, d2, d3, d4] }
  | _ => none }
def frameTurnsRow : OpenClaim := { program := "ytbbnopikinlcdaa", sum := "63519e62991811bbf7dcc1076620a739e9ba3d2044b16ef28b4e5459f6b515b9", func := "kinetoscope/kinetoscopelaw03.FrameTurns", spec := "frameTurns", unfollowed := true, recurses := true, apart := false }
def FrameTurnsSaid : Prop := frameTurnsRow.holds Try.pinned (OpenSpec.ofChange frameTurnsSpec)

/-- ITS FALSE NEIGHBOUR: 'it returns false'. Refute it at one input. -/
def frameTurnsWrong : ChangeSpec := { name := "frameTurns", fn := fun _ => fun
  | [d1, d2, d3, d4] => { results := [.lit (.bool false)], args := [d1, d2, d3, d4] }
  | _ => none }
def FrameTurnsWrongFalsely : Prop := frameTurnsRow.holds Try.pinned (OpenSpec.ofChange frameTurnsWrong)

/-- 'kinetoscopelaw03.FrameOwn': WHATEVER THE INPUT: true; the input reads as it did. -/
def frameOwnSpec : ChangeSpec := { name := "frameOwn", fn := fun _ => fun
  | [d] => { results := [.lit (.bool true)], args := [d] }
  | _ => none }
def frameOwnRow : OpenClaim := { program := "ytbbnopikinlcdaa", sum := "63519e62991811bbf7dcc1076620a739e9ba3d2044b16ef28b4e5459f6b515b9", func := "kinetoscope/kinetoscopelaw03.FrameOwn", spec := "frameOwn", unfollowed := true, recurses := true, apart := false }
def FrameOwnSaid : Prop := frameOwnRow.holds Try.pinned (OpenSpec.ofChange frameOwnSpec)

/-- ITS FALSE NEIGHBOUR: 'it returns false'. Refute it at one input. -/
def frameOwnWrong : ChangeSpec := { name := "frameOwn", fn := fun _ => fun
  | [d] => { results := [.lit (.bool false)], args := [d] }
  | _ => none }
def FrameOwnWrongFalsely : Prop := frameOwnRow.holds Try.pinned (OpenSpec.ofChange frameOwnWrong)

/- THE SECOND FORM. 'bulk': how many values and letters a reading holds, each counted each time it is reached (what is shared counts as often as it is met; a slice's spare places count too). A statement '..UptoSaid' is the law's where the arguments, and the package variables that the reading takes, are together of bulk at most 1048576: NARROWER than '..Said'. Prove '..Said' where nothing that the law and all that it calls make is longer than what came in: it says more and counts as full. Else prove '..UptoSaid'. A law counts once. -/
mutual
def uptoBulk {H : Type} : DataW H → Nat
  | .lit (.string bytes) => bytes.length + 1
  | .lit _ => 1
  | .nil => 1
  | .ptr d => uptoBulk d + 1
  | .slice elems spare => uptoBulkAll elems + uptoBulkAll spare + 1
  | .agg parts => uptoBulkAll parts + 1
  | .iface _ d => uptoBulk d + 1
  | .map entries => uptoBulkEntries entries + 1
  | .held _ => 1
def uptoBulkAll {H : Type} : List (DataW H) → Nat
  | [] => 0
  | d :: r => uptoBulk d + uptoBulkAll r
def uptoBulkEntries {H : Type} : List (Lit × DataW H) → Nat
  | [] => 0
  | x :: r => uptoBulkEntry x + uptoBulkEntries r
def uptoBulkEntry {H : Type} : Lit × DataW H → Nat
  | (.string bytes, d) => bytes.length + uptoBulk d + 1
  | (_, d) => uptoBulk d + 1
 end
def uptoSmall : (H : Type) → List (DataW H) → Bool := fun _ ds => decide (uptoBulkAll ds ≤ 1048576)
def OpenSpec.upto (s : _root_.Go.ChangeSpec) : _root_.Go.OpenSpec := { _root_.Go.OpenSpec.ofChange s with cond := some uptoSmall }

/-- 'kinetoscopelaw02.CrcOf', WHERE WHAT IT READS IS OF BULK AT MOST 1048576: true; the input reads as it did. -/
def crcOfUptoRow : OpenClaim := { program := "ytbbnopikinlcdaa", sum := "63519e62991811bbf7dcc1076620a739e9ba3d2044b16ef28b4e5459f6b515b9", func := "kinetoscope/kinetoscopelaw02.CrcOf", spec := "crcOf", apart := false, narrowed := true }
def CrcOfUptoSaid : Prop := crcOfUptoRow.holds Try.pinned (OpenSpec.upto crcOfSpec)

/-- 'kinetoscopelaw02.CrcTurns', WHERE WHAT IT READS IS OF BULK AT MOST 1048576: true; the input reads as it did. -/
def crcTurnsUptoRow : OpenClaim := { program := "ytbbnopikinlcdaa", sum := "63519e62991811bbf7dcc1076620a739e9ba3d2044b16ef28b4e5459f6b515b9", func := "kinetoscope/kinetoscopelaw02.CrcTurns", spec := "crcTurns", apart := false, narrowed := true }
def CrcTurnsUptoSaid : Prop := crcTurnsUptoRow.holds Try.pinned (OpenSpec.upto crcTurnsSpec)

/-- 'kinetoscopelaw02.CrcTails', WHERE WHAT IT READS IS OF BULK AT MOST 1048576: true; the input reads as it did. -/
def crcTailsUptoRow : OpenClaim := { program := "ytbbnopikinlcdaa", sum := "63519e62991811bbf7dcc1076620a739e9ba3d2044b16ef28b4e5459f6b515b9", func := "kinetoscope/kinetoscopelaw02.CrcTails", spec := "crcTails", apart := false, narrowed := true }
def CrcTailsUptoSaid : Prop := crcTailsUptoRow.holds Try.pinned (OpenSpec.upto crcTailsSpec)

/-- 'kinetoscopelaw02.CrcXors', WHERE WHAT IT READS IS OF BULK AT MOST 1048576: true; the input reads as it did. -/
def crcXorsUptoRow : OpenClaim := { program := "ytbbnopikinlcdaa", sum := "63519e62991811bbf7dcc1076620a739e9ba3d2044b16ef28b4e5459f6b515b9", func := "kinetoscope/kinetoscopelaw02.CrcXors", spec := "crcXors", apart := false, narrowed := true }
def CrcXorsUptoSaid : Prop := crcXorsUptoRow.holds Try.pinned (OpenSpec.upto crcXorsSpec)

/-- 'kinetoscopelaw01.VarintPuts', WHERE WHAT IT READS IS OF BULK AT MOST 1048576: true; the input reads as it did. -/
def varintPutsUptoRow : OpenClaim := { program := "ytbbnopikinlcdaa", sum := "63519e62991811bbf7dcc1076620a739e9ba3d2044b16ef28b4e5459f6b515b9", func := "kinetoscope/kinetoscopelaw01.VarintPuts", spec := "varintPuts", apart := false, narrowed := true }
def VarintPutsUptoSaid : Prop := varintPutsUptoRow.holds Try.pinned (OpenSpec.upto varintPutsSpec)

/-- 'kinetoscopelaw01.VarintSigns', WHERE WHAT IT READS IS OF BULK AT MOST 1048576: true; the input reads as it did. -/
def varintSignsUptoRow : OpenClaim := { program := "ytbbnopikinlcdaa", sum := "63519e62991811bbf7dcc1076620a739e9ba3d2044b16ef28b4e5459f6b515b9", func := "kinetoscope/kinetoscopelaw01.VarintSigns", spec := "varintSigns", apart := false, narrowed := true }
def VarintSignsUptoSaid : Prop := varintSignsUptoRow.holds Try.pinned (OpenSpec.upto varintSignsSpec)

/-- 'kinetoscopelaw01.VarintBack', WHERE WHAT IT READS IS OF BULK AT MOST 1048576: true; the input reads as it did. -/
def varintBackUptoRow : OpenClaim := { program := "ytbbnopikinlcdaa", sum := "63519e62991811bbf7dcc1076620a739e9ba3d2044b16ef28b4e5459f6b515b9", func := "kinetoscope/kinetoscopelaw01.VarintBack", spec := "varintBack", apart := false, narrowed := true }
def VarintBackUptoSaid : Prop := varintBackUptoRow.holds Try.pinned (OpenSpec.upto varintBackSpec)

/-- 'kinetoscopelaw01.VarintOne', WHERE WHAT IT READS IS OF BULK AT MOST 1048576: true; the input reads as it did. -/
def varintOneUptoRow : OpenClaim := { program := "ytbbnopikinlcdaa", sum := "63519e62991811bbf7dcc1076620a739e9ba3d2044b16ef28b4e5459f6b515b9", func := "kinetoscope/kinetoscopelaw01.VarintOne", spec := "varintOne", apart := false, narrowed := true }
def VarintOneUptoSaid : Prop := varintOneUptoRow.holds Try.pinned (OpenSpec.upto varintOneSpec)

/-- 'kinetoscopelaw01.VarintRows', WHERE WHAT IT READS IS OF BULK AT MOST 1048576: true; the input reads as it did. -/
def varintRowsUptoRow : OpenClaim := { program := "ytbbnopikinlcdaa", sum := "63519e62991811bbf7dcc1076620a739e9ba3d2044b16ef28b4e5459f6b515b9", func := "kinetoscope/kinetoscopelaw01.VarintRows", spec := "varintRows", apart := false, narrowed := true }
def VarintRowsUptoSaid : Prop := varintRowsUptoRow.holds Try.pinned (OpenSpec.upto varintRowsSpec)

/-- 'kinetoscopelaw01.VarintReads', WHERE WHAT IT READS IS OF BULK AT MOST 1048576: true; the input reads as it did. -/
def varintReadsUptoRow : OpenClaim := { program := "ytbbnopikinlcdaa", sum := "63519e62991811bbf7dcc1076620a739e9ba3d2044b16ef28b4e5459f6b515b9", func := "kinetoscope/kinetoscopelaw01.VarintReads", spec := "varintReads", apart := false, narrowed := true }
def VarintReadsUptoSaid : Prop := varintReadsUptoRow.holds Try.pinned (OpenSpec.upto varintReadsSpec)

/-- 'kinetoscopelaw03.FrameCuts', WHERE WHAT IT READS IS OF BULK AT MOST 1048576: true; the input reads as it did. -/
def frameCutsUptoRow : OpenClaim := { program := "ytbbnopikinlcdaa", sum := "63519e62991811bbf7dcc1076620a739e9ba3d2044b16ef28b4e5459f6b515b9", func := "kinetoscope/kinetoscopelaw03.FrameCuts", spec := "frameCuts", unfollowed := true, recurses := true, apart := false, narrowed := true }
def FrameCutsUptoSaid : Prop := frameCutsUptoRow.holds Try.pinned (OpenSpec.upto frameCutsSpec)

/-- 'kinetoscopelaw03.FrameTurns', WHERE WHAT IT READS IS OF BULK AT MOST 1048576: true; the input reads as it did. -/
def frameTurnsUptoRow : OpenClaim := { program := "ytbbnopikinlcdaa", sum := "63519e62991811bbf7dcc1076620a739e9ba3d2044b16ef28b4e5459f6b515b9", func := "kinetoscope/kinetoscopelaw03.FrameTurns", spec := "frameTurns", unfollowed := true, recurses := true, apart := false, narrowed := true }
def FrameTurnsUptoSaid : Prop := frameTurnsUptoRow.holds Try.pinned (OpenSpec.upto frameTurnsSpec)

/-- 'kinetoscopelaw03.FrameOwn', WHERE WHAT IT READS IS OF BULK AT MOST 1048576: true; the input reads as it did. -/
def frameOwnUptoRow : OpenClaim := { program := "ytbbnopikinlcdaa", sum := "63519e62991811bbf7dcc1076620a739e9ba3d2044b16ef28b4e5459f6b515b9", func := "kinetoscope/kinetoscopelaw03.FrameOwn", spec := "frameOwn", unfollowed := true, recurses := true, apart := false, narrowed := true }
def FrameOwnUptoSaid : Prop := frameOwnUptoRow.holds Try.pinned (OpenSpec.upto frameOwnSpec)

end Rows
end Go.Proofs.Ytbbnopikinlcdaa
