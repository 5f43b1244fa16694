/-
  No cell of these rows narrows 'for every input' (looked for: loops, veiled, ifaces, maps, wideKeys, modest, calm, conditions, laid).
  DERIVED. THE GIVEN ROWS OF THIS SEAT. 5 by the template 'for every input the law returns true; each argument reads behind the call as it read before'; 0 by the template 'total and deterministic' (their statements: YtgbnfipbedlmhaaTotals.lean).
  GIVEN WITH THE SEED: the statements are not yours to turn. If you find one false, say at which input.
  Laid BY PROGRAM, IN A SANDBOX (cutbox-rows.mjs): the forced cells as the released guide's own fill.sh prints them over the translation 6943caefcc6c7118… (all of the seat's roots in one cut). By AI agents, Wed Nov 11 2026. No macro, syntax, notation, axiom, sorry.
-/
import Derived.Test.YtgbnfipbedlmhaaChecked
import GoSem.Claim
import GoSem.ClaimJoined
import GoSem.ClaimMapViews
import Derived.JoinedTies
import Derived.KernelRfl
namespace Go.Proofs.Ytgbnfipbedlmhaa
/- THE CELL 'sum', in the pinned program and in every row, IS THE sha256 OF THE DUMP (.gsa) THAT YtgbnfipbedlmhaaProg.lean LOADS. Nothing in Lean hashes anything: it is a label: what it is worth is what the hold of that sum in a sandbox is worth. -/
noncomputable def Try.pinned : Pinned := { name := "ytgbnfipbedlmhaa", sum := "6943caefcc6c71189c163dfa1e0f26a07070d2c7fddc63752a1f76738ce0a739", checked := Try.checked }
namespace Rows
def none {H : Type} : Left H := { results := [], args := [] }

/-- 'kinetoscopelaw05.TapeWrites': WHATEVER THE INPUT: true; the input reads as it did. -/
def tapeWritesSpec : ChangeSpec := { name := "tapeWrites", fn := fun _ => fun
  | [d1, d2] => { results := [.lit (.bool true)], args := [d1, d2] }
  | _ => none }
def tapeWritesRow : OpenClaim := { program := "ytgbnfipbedlmhaa", sum := "6943caefcc6c71189c163dfa1e0f26a07070d2c7fddc63752a1f76738ce0a739", func := "kinetoscope/kinetoscopelaw05.TapeWrites", spec := "tapeWrites", unfollowed := true, recurses := true, apart := false }
def TapeWritesSaid : Prop := tapeWritesRow.holds Try.pinned (OpenSpec.ofChange tapeWritesSpec)

/-- ITS FALSE NEIGHBOUR: 'it returns false'. Refute it at one input. -/
def tapeWritesWrong : ChangeSpec := { name := "tapeWrites", fn := fun _ => fun
  | [d1, d2] => { results := [.lit (.bool false)], args := [d1, d2] }
  | _ => none }
def TapeWritesWrongFalsely : Prop := tapeWritesRow.holds Try.pinned (OpenSpec.ofChange tapeWritesWrong)

/-- 'kinetoscopelaw05.TapeReads': WHATEVER THE INPUT: true; the input reads as it did. -/
def tapeReadsSpec : ChangeSpec := { name := "tapeReads", fn := fun _ => fun
  | [d1, d2, d3, d4] => { results := [.lit (.bool true)], args := [d1, d2, d3, d4] }
  | _ => none }
def tapeReadsRow : OpenClaim := { program := "ytgbnfipbedlmhaa", sum := "6943caefcc6c71189c163dfa1e0f26a07070d2c7fddc63752a1f76738ce0a739", func := "kinetoscope/kinetoscopelaw05.TapeReads", spec := "tapeReads", unfollowed := true, recurses := true, apart := false }
def TapeReadsSaid : Prop := tapeReadsRow.holds Try.pinned (OpenSpec.ofChange tapeReadsSpec)

/-- ITS FALSE NEIGHBOUR: 'it returns false'. Refute it at one input. -/
def tapeReadsWrong : ChangeSpec := { name := "tapeReads", fn := fun _ => fun
  | [d1, d2, d3, d4] => { results := [.lit (.bool false)], args := [d1, d2, d3, d4] }
  | _ => none }
def TapeReadsWrongFalsely : Prop := tapeReadsRow.holds Try.pinned (OpenSpec.ofChange tapeReadsWrong)

/-- 'kinetoscopelaw05.TapeCuts': WHATEVER THE INPUT: true; the input reads as it did. -/
def tapeCutsSpec : ChangeSpec := { name := "tapeCuts", fn := fun _ => fun
  | [d1, d2, d3] => { results := [.lit (.bool true)], args := [d1, d2, d3] }
  | _ => none }
def tapeCutsRow : OpenClaim := { program := "ytgbnfipbedlmhaa", sum := "6943caefcc6c71189c163dfa1e0f26a07070d2c7fddc63752a1f76738ce0a739", func := "kinetoscope/kinetoscopelaw05.TapeCuts", spec := "tapeCuts", unfollowed := true, recurses := true, apart := false }
def TapeCutsSaid : Prop := tapeCutsRow.holds Try.pinned (OpenSpec.ofChange tapeCutsSpec)

/-- ITS FALSE NEIGHBOUR: 'it returns false'. Refute it at one input. -/
def tapeCutsWrong : ChangeSpec := { name := "tapeCuts", fn := fun _ => fun
  | [d1, d2, d3] => { results := [.lit (.bool false)], args := [d1, d2, d3] }
  | _ => none }
def TapeCutsWrongFalsely : Prop := tapeCutsRow.holds Try.pinned (OpenSpec.ofChange tapeCutsWrong)

/-- 'kinetoscopelaw05.TapeGrows': WHATEVER THE INPUT: true; the input reads as it did. -/
def tapeGrowsSpec : ChangeSpec := { name := "tapeGrows", fn := fun _ => fun
  | [d1, d2] => { results := [.lit (.bool true)], args := [d1, d2] }
  | _ => none }
def tapeGrowsRow : OpenClaim := { program := "ytgbnfipbedlmhaa", sum := "6943caefcc6c71189c163dfa1e0f26a07070d2c7fddc63752a1f76738ce0a739", func := "kinetoscope/kinetoscopelaw05.TapeGrows", spec := "tapeGrows", unfollowed := true, recurses := true, apart := false }
def TapeGrowsSaid : Prop := tapeGrowsRow.holds Try.pinned (OpenSpec.ofChange tapeGrowsSpec)

/-- ITS FALSE NEIGHBOUR: 'it returns false'. Refute it at one input. -/
def tapeGrowsWrong : ChangeSpec := { name := "tapeGrows", fn := fun _ => fun
  | [d1, d2] => { results := [.lit (.bool false)], args := [d1, d2] }
  | _ => none }
def TapeGrowsWrongFalsely : Prop := tapeGrowsRow.holds Try.pinned (OpenSpec.ofChange tapeGrowsWrong)

/-- 'kinetoscopelaw05.TapeLong': WHATEVER THE INPUT: true; the input reads as it did. -/
def tapeLongSpec : ChangeSpec := { name := "tapeLong", fn := fun _ => fun
  | [d1, d2] => { results := [.lit (.bool true)], args := [d1, d2] }
  | _ => none }
def tapeLongRow : OpenClaim := { program := "ytgbnfipbedlmhaa", sum := "6943caefcc6c71189c163dfa1e0f26a07070d2c7fddc63752a1f76738ce0a739", func := "kinetoscope/kinetoscopelaw05.TapeLong", spec := "tapeLong", unfollowed := true, recurses := true, apart := false }
def TapeLongSaid : Prop := tapeLongRow.holds Try.pinned (OpenSpec.ofChange tapeLongSpec)

/-- ITS FALSE NEIGHBOUR: 'it returns false'. Refute it at one input. -/
def tapeLongWrong : ChangeSpec := { name := "tapeLong", fn := fun _ => fun
  | [d1, d2] => { results := [.lit (.bool false)], args := [d1, d2] }
  | _ => none }
def TapeLongWrongFalsely : Prop := tapeLongRow.holds Try.pinned (OpenSpec.ofChange tapeLongWrong)

/- THE SECOND FORM. 'bulk': how many values and letters a reading holds, each counted each time it is reached (what is shared counts as often as it is met; a slice's spare places count too). A statement '..UptoSaid' is the law's where the arguments, and the package variables that the reading takes, are together of bulk at most 1048576: NARROWER than '..Said'. Prove '..Said' where nothing that the law and all that it calls make is longer than what came in: it says more and counts as full. Else prove '..UptoSaid'. A law counts once. -/
mutual
def uptoBulk {H : Type} : DataW H → Nat
  | .lit (.string bytes) => bytes.length + 1
  | .lit _ => 1
  | .nil => 1
  | .ptr d => uptoBulk d + 1
  | .slice elems spare => uptoBulkAll elems + uptoBulkAll spare + 1
  | .agg parts => uptoBulkAll parts + 1
  | .iface _ d => uptoBulk d + 1
  | .map entries => uptoBulkEntries entries + 1
  | .held _ => 1
def uptoBulkAll {H : Type} : List (DataW H) → Nat
  | [] => 0
  | d :: r => uptoBulk d + uptoBulkAll r
def uptoBulkEntries {H : Type} : List (Lit × DataW H) → Nat
  | [] => 0
  | x :: r => uptoBulkEntry x + uptoBulkEntries r
def uptoBulkEntry {H : Type} : Lit × DataW H → Nat
  | (.string bytes, d) => bytes.length + uptoBulk d + 1
  | (_, d) => uptoBulk d + 1
 end
def uptoSmall : (H : Type) → List (DataW H) → Bool := fun _ ds => decide (uptoBulkAll ds ≤ 1048576)
def OpenSpec.upto (s : _root_.Go.ChangeSpec) : _root_.Go.OpenSpec := { _root_.Go.OpenSpec.ofChange s with cond := some uptoSmall }

/-- 'kinetoscopelaw05.TapeWrites', WHERE WHAT IT READS IS OF BULK AT MOST 1048576: true; the input reads as it did. -/
def tapeWritesUptoRow : OpenClaim := { program := "ytgbnfipbedlmhaa", sum := "6943caefcc6c71189c163dfa1e0f26a07070d2c7fddc63752a1f76738ce0a739", func := "kinetoscope/kinetoscopelaw05.TapeWrites", spec := "tapeWrites", unfollowed := true, recurses := true, apart := false, narrowed := true }
def TapeWritesUptoSaid : Prop := tapeWritesUptoRow.holds Try.pinned (OpenSpec.upto tapeWritesSpec)

/-- 'kinetoscopelaw05.TapeReads', WHERE WHAT IT READS IS OF BULK AT MOST 1048576: true; the input reads as it did. -/
def tapeReadsUptoRow : OpenClaim := { program := "ytgbnfipbedlmhaa", sum := "6943caefcc6c71189c163dfa1e0f26a07070d2c7fddc63752a1f76738ce0a739", func := "kinetoscope/kinetoscopelaw05.TapeReads", spec := "tapeReads", unfollowed := true, recurses := true, apart := false, narrowed := true }
def TapeReadsUptoSaid : Prop := tapeReadsUptoRow.holds Try.pinned (OpenSpec.upto tapeReadsSpec)

/-- 'kinetoscopelaw05.TapeCuts', WHERE WHAT IT READS IS OF BULK AT MOST 1048576: true; the input reads as it did. -/
def tapeCutsUptoRow : OpenClaim := { program := "ytgbnfipbedlmhaa", sum := "6943caefcc6c71189c163dfa1e0f26a07070d2c7fddc63752a1f76738ce0a739", func := "kinetoscope/kinetoscopelaw05.TapeCuts", spec := "tapeCuts", unfollowed := true, recurses := true, apart := false, narrowed := true }
def TapeCutsUptoSaid : Prop := tapeCutsUptoRow.holds Try.pinned (OpenSpec.upto tapeCutsSpec)

/-- 'kinetoscopelaw05.TapeGrows', WHERE WHAT IT READS IS OF BULK AT MOST 1048576: true; the input reads as it did. -/
def tapeGrowsUptoRow : OpenClaim := { program := "ytgbnfipbedlmhaa", sum := "6943caefcc6c71189c163dfa1e0f26a07070d2c7fddc63752a1f76738ce0a739", func := "kinetoscope/kinetoscopelaw05.TapeGrows", spec := "tapeGrows", unfollowed := true, recurses := true, apart := false, narrowed := true }
def TapeGrowsUptoSaid : Prop := tapeGrowsUptoRow.holds Try.pinned (OpenSpec.upto tapeGrowsSpec)

/-- 'kinetoscopelaw05.TapeLong', WHERE WHAT IT READS IS OF BULK AT MOST 1048576: true; the input reads as it did. -/
def tapeLongUptoRow : OpenClaim := { program := "ytgbnfipbedlmhaa", sum := "6943caefcc6c71189c163dfa1e0f26a07070d2c7fddc63752a1f76738ce0a739", func := "kinetoscope/kinetoscopelaw05.TapeLong", spec := "tapeLong", unfollowed := true, recurses := true, apart := false, narrowed := true }
def TapeLongUptoSaid : Prop := tapeLongUptoRow.holds Try.pinned (OpenSpec.upto tapeLongSpec)

end Rows
end Go.Proofs.Ytgbnfipbedlmhaa
