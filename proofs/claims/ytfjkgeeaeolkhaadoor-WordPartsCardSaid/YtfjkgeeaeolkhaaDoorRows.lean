/-
  NARROWER THAN 'FOR EVERY INPUT', by the rows' own cells (each row's printed sentence says how): WordPlain: laid · WordParts: laid · WordTwo: laid · WordDeep: laid · WordDouble: laid.
  DERIVED. THE GIVEN ROWS OF THIS SEAT. 5 by the template 'for every input the law returns true; each argument reads behind the call as it read before'; 0 by the template 'total and deterministic' (their statements: YtfjkgeeaeolkhaaDoorTotals.lean).
  GIVEN WITH THE SEED: the statements are not yours to turn. If you find one false, say at which input.
  Laid BY PROGRAM, IN A SANDBOX (cutbox-rows.mjs): the forced cells as the released guide's own fill.sh prints them over the translation 38812be4a28ff03b… (all of the seat's roots in one cut). By AI agents, Wed Nov 11 2026. No macro, syntax, notation, axiom, sorry.
-/
import Derived.Test.YtfjkgeeaeolkhaaDoorChecked
import GoSem.PinnedTables
import GoSem.Claim
import GoSem.ClaimJoined
import GoSem.ClaimMapViews
import Derived.JoinedTies
import Derived.KernelRfl
namespace Go.Proofs.YtfjkgeeaeolkhaaDoor
/- THE CELL 'sum', in the pinned program and in every row, IS THE sha256 OF THE DUMP (.gsa) THAT YtfjkgeeaeolkhaaDoorProg.lean LOADS. Nothing in Lean hashes anything: it is a label: what it is worth is what the hold of that sum in a sandbox is worth. -/
noncomputable def Tryd.pinned : Pinned := { name := "ytfjkgeeaeolkhaadoor", sum := "38812be4a28ff03b6124304b7a65d1c6971cd07ff3e2f1fbd8564ac67d76738a", checked := Tryd.checked }
namespace Rows
def none {H : Type} : Left H := { results := [], args := [] }

/- WHAT THE LISTED PACKAGE-LEVEL VARIABLES READ AS WHEN THE CALL BEGINS. Each datum BY PROGRAM (the guide's laid-datum.mjs) off the statement by which the dump's own 'gosem.cut.vars' lays the variable. In a bare row this is a premise. The card (YtfjkgeeaeolkhaaDoorCards.lean) ties it to the program's text. -/
def laid_unicode_utf8_acceptRanges {H : Type} : DataW H := .agg [.agg [.lit (.int .u8 128), .lit (.int .u8 191)], .agg [.lit (.int .u8 160), .lit (.int .u8 191)], .agg [.lit (.int .u8 128), .lit (.int .u8 159)], .agg [.lit (.int .u8 144), .lit (.int .u8 191)], .agg [.lit (.int .u8 128), .lit (.int .u8 143)], .agg [.lit (.int .u8 0), .lit (.int .u8 0)], .agg [.lit (.int .u8 0), .lit (.int .u8 0)], .agg [.lit (.int .u8 0), .lit (.int .u8 0)], .agg [.lit (.int .u8 0), .lit (.int .u8 0)], .agg [.lit (.int .u8 0), .lit (.int .u8 0)], .agg [.lit (.int .u8 0), .lit (.int .u8 0)], .agg [.lit (.int .u8 0), .lit (.int .u8 0)], .agg [.lit (.int .u8 0), .lit (.int .u8 0)], .agg [.lit (.int .u8 0), .lit (.int .u8 0)], .agg [.lit (.int .u8 0), .lit (.int .u8 0)], .agg [.lit (.int .u8 0), .lit (.int .u8 0)]]
def laid_kinetoscope_word_ops {H : Type} : DataW H := .agg [.lit (.string [58, 45]), .lit (.string [58, 61]), .lit (.string [58, 63]), .lit (.string [58, 43]), .lit (.string [37, 37]), .lit (.string [35, 35]), .lit (.string [45]), .lit (.string [61]), .lit (.string [63]), .lit (.string [43]), .lit (.string [37]), .lit (.string [35])]
/-- One of Go's own tables, pinned by name: the form's constant. -/
def laid_unicode_utf8_first : DataW Unit := Go.Pinned.utf8First

/-- 'kinetoscopelaw09.WordPlain': WHATEVER THE INPUT: true; the input reads as it did. -/
def wordPlainSpec : ChangeSpec := { name := "wordPlain", fn := fun _ => fun
  | [d] => { results := [.lit (.bool true)], args := [d] }
  | _ => none }
def wordPlainRow : OpenClaim := { program := "ytfjkgeeaeolkhaadoor", sum := "38812be4a28ff03b6124304b7a65d1c6971cd07ff3e2f1fbd8564ac67d76738a", func := "kinetoscope/kinetoscopelaw09.WordPlain", spec := "wordPlain", inPlace := ["internal/bytealg.IndexByteString", "internal/bytealg.IndexString", "internal/bytealg.CountString"], unfollowed := true, recurses := true, named := ["internal/bytealg.MaxLen", "kinetoscope/word.ops", "unicode/utf8.first", "unicode/utf8.acceptRanges"], apart := false, laid := [("unicode/utf8.acceptRanges", laid_unicode_utf8_acceptRanges), ("kinetoscope/word.ops", laid_kinetoscope_word_ops), ("unicode/utf8.first", laid_unicode_utf8_first)] }
def WordPlainSaid : Prop := wordPlainRow.holds Tryd.pinned (OpenSpec.ofChange wordPlainSpec)

/-- ITS FALSE NEIGHBOUR: 'it returns false'. Refute it at one input. -/
def wordPlainWrong : ChangeSpec := { name := "wordPlain", fn := fun _ => fun
  | [d] => { results := [.lit (.bool false)], args := [d] }
  | _ => none }
def WordPlainWrongFalsely : Prop := wordPlainRow.holds Tryd.pinned (OpenSpec.ofChange wordPlainWrong)

/-- 'kinetoscopelaw09.WordParts': WHATEVER THE INPUT: true; the input reads as it did. -/
def wordPartsSpec : ChangeSpec := { name := "wordParts", fn := fun _ => fun
  | [d] => { results := [.lit (.bool true)], args := [d] }
  | _ => none }
def wordPartsRow : OpenClaim := { program := "ytfjkgeeaeolkhaadoor", sum := "38812be4a28ff03b6124304b7a65d1c6971cd07ff3e2f1fbd8564ac67d76738a", func := "kinetoscope/kinetoscopelaw09.WordParts", spec := "wordParts", inPlace := ["internal/bytealg.IndexByteString", "internal/bytealg.IndexString", "internal/bytealg.CountString"], unfollowed := true, recurses := true, named := ["internal/bytealg.MaxLen", "kinetoscope/word.ops", "unicode/utf8.first", "unicode/utf8.acceptRanges"], apart := false, laid := [("unicode/utf8.acceptRanges", laid_unicode_utf8_acceptRanges), ("kinetoscope/word.ops", laid_kinetoscope_word_ops), ("unicode/utf8.first", laid_unicode_utf8_first)] }
def WordPartsSaid : Prop := wordPartsRow.holds Tryd.pinned (OpenSpec.ofChange wordPartsSpec)

/-- ITS FALSE NEIGHBOUR: 'it returns false'. Refute it at one input. -/
def wordPartsWrong : ChangeSpec := { name := "wordParts", fn := fun _ => fun
  | [d] => { results := [.lit (.bool false)], args := [d] }
  | _ => none }
def WordPartsWrongFalsely : Prop := wordPartsRow.holds Tryd.pinned (OpenSpec.ofChange wordPartsWrong)

/-- 'kinetoscopelaw09.WordTwo': WHATEVER THE INPUT: true; the input reads as it did. -/
def wordTwoSpec : ChangeSpec := { name := "wordTwo", fn := fun _ => fun
  | [d1, d2] => { results := [.lit (.bool true)], args := [d1, d2] }
  | _ => none }
def wordTwoRow : OpenClaim := { program := "ytfjkgeeaeolkhaadoor", sum := "38812be4a28ff03b6124304b7a65d1c6971cd07ff3e2f1fbd8564ac67d76738a", func := "kinetoscope/kinetoscopelaw09.WordTwo", spec := "wordTwo", inPlace := ["internal/bytealg.IndexByteString", "internal/bytealg.IndexString", "internal/bytealg.CountString"], unfollowed := true, recurses := true, named := ["internal/bytealg.MaxLen", "kinetoscope/word.ops", "unicode/utf8.first", "unicode/utf8.acceptRanges"], apart := false, laid := [("unicode/utf8.acceptRanges", laid_unicode_utf8_acceptRanges), ("kinetoscope/word.ops", laid_kinetoscope_word_ops), ("unicode/utf8.first", laid_unicode_utf8_first)] }
def WordTwoSaid : Prop := wordTwoRow.holds Tryd.pinned (OpenSpec.ofChange wordTwoSpec)

/-- ITS FALSE NEIGHBOUR: 'it returns false'. Refute it at one input. -/
def wordTwoWrong : ChangeSpec := { name := "wordTwo", fn := fun _ => fun
  | [d1, d2] => { results := [.lit (.bool false)], args := [d1, d2] }
  | _ => none }
def WordTwoWrongFalsely : Prop := wordTwoRow.holds Tryd.pinned (OpenSpec.ofChange wordTwoWrong)

/-- 'kinetoscopelaw09.WordDeep': WHATEVER THE INPUT: true; the input reads as it did. -/
def wordDeepSpec : ChangeSpec := { name := "wordDeep", fn := fun _ => fun
  | [d] => { results := [.lit (.bool true)], args := [d] }
  | _ => none }
def wordDeepRow : OpenClaim := { program := "ytfjkgeeaeolkhaadoor", sum := "38812be4a28ff03b6124304b7a65d1c6971cd07ff3e2f1fbd8564ac67d76738a", func := "kinetoscope/kinetoscopelaw09.WordDeep", spec := "wordDeep", inPlace := ["internal/bytealg.IndexByteString", "internal/bytealg.IndexString", "internal/bytealg.CountString"], unfollowed := true, recurses := true, named := ["internal/bytealg.MaxLen", "kinetoscope/word.ops", "unicode/utf8.first", "unicode/utf8.acceptRanges"], apart := false, laid := [("unicode/utf8.acceptRanges", laid_unicode_utf8_acceptRanges), ("kinetoscope/word.ops", laid_kinetoscope_word_ops), ("unicode/utf8.first", laid_unicode_utf8_first)] }
def WordDeepSaid : Prop := wordDeepRow.holds Tryd.pinned (OpenSpec.ofChange wordDeepSpec)

/-- ITS FALSE NEIGHBOUR: 'it returns false'. Refute it at one input. -/
def wordDeepWrong : ChangeSpec := { name := "wordDeep", fn := fun _ => fun
  | [d] => { results := [.lit (.bool false)], args := [d] }
  | _ => none }
def WordDeepWrongFalsely : Prop := wordDeepRow.holds Tryd.pinned (OpenSpec.ofChange wordDeepWrong)

/-- 'kinetoscopelaw09.WordDouble': WHATEVER THE INPUT: true; the input reads as it did. -/
def wordDoubleSpec : ChangeSpec := { name := "wordDouble", fn := fun _ => fun
  | [d] => { results := [.lit (.bool true)], args := [d] }
  | _ => none }
def wordDoubleRow : OpenClaim := { program := "ytfjkgeeaeolkhaadoor", sum := "38812be4a28ff03b6124304b7a65d1c6971cd07ff3e2f1fbd8564ac67d76738a", func := "kinetoscope/kinetoscopelaw09.WordDouble", spec := "wordDouble", inPlace := ["internal/bytealg.IndexByteString", "internal/bytealg.IndexString", "internal/bytealg.CountString"], unfollowed := true, recurses := true, named := ["internal/bytealg.MaxLen", "kinetoscope/word.ops", "unicode/utf8.first", "unicode/utf8.acceptRanges"], apart := false, laid := [("unicode/utf8.acceptRanges", laid_unicode_utf8_acceptRanges), ("kinetoscope/word.ops", laid_kinetoscope_word_ops), ("unicode/utf8.first", laid_unicode_utf8_first)] }
def WordDoubleSaid : Prop := wordDoubleRow.holds Tryd.pinned (OpenSpec.ofChange wordDoubleSpec)

/-- ITS FALSE NEIGHBOUR: 'it returns false'. Refute it at one input. -/
def wordDoubleWrong : ChangeSpec := { name := "wordDouble", fn := fun _ => fun
  | [d] => { results := [.lit (.bool false)], args := [d] }
  | _ => none }
def WordDoubleWrongFalsely : Prop := wordDoubleRow.holds Tryd.pinned (OpenSpec.ofChange wordDoubleWrong)

/- THE SECOND FORM. 'bulk': how many values and letters a reading holds, each counted each time it is reached (what is shared counts as often as it is met; a slice's spare places count too). A statement '..UptoSaid' is the law's where the arguments, and the package variables that the reading takes, are together of bulk at most 1048576: NARROWER than '..Said'. Prove '..Said' where nothing that the law and all that it calls make is longer than what came in: it says more and counts as full. Else prove '..UptoSaid'. A law counts once. -/
mutual
def uptoBulk {H : Type} : DataW H → Nat
  | .lit (.string bytes) => bytes.length + 1
  | .lit _ => 1
  | .nil => 1
  | .ptr d => uptoBulk d + 1
  | .slice elems spare => uptoBulkAll elems + uptoBulkAll spare + 1
  | .agg parts => uptoBulkAll parts + 1
  | .iface _ d => uptoBulk d + 1
  | .map entries => uptoBulkEntries entries + 1
  | .held _ => 1
def uptoBulkAll {H : Type} : List (DataW H) → Nat
  | [] => 0
  | d :: r => uptoBulk d + uptoBulkAll r
def uptoBulkEntries {H : Type} : List (Lit × DataW H) → Nat
  | [] => 0
  | x :: r => uptoBulkEntry x + uptoBulkEntries r
def uptoBulkEntry {H : Type} : Lit × DataW H → Nat
  | (.string bytes, d) => bytes.length + uptoBulk d + 1
  | (_, d) => uptoBulk d + 1
 end
def uptoSmall : (H : Type) → List (DataW H) → Bool := fun _ ds => decide (uptoBulkAll ds ≤ 1048576)
def OpenSpec.upto (s : _root_.Go.ChangeSpec) : _root_.Go.OpenSpec := { _root_.Go.OpenSpec.ofChange s with cond := some uptoSmall }

/-- 'kinetoscopelaw09.WordPlain', WHERE WHAT IT READS IS OF BULK AT MOST 1048576: true; the input reads as it did. -/
def wordPlainUptoRow : OpenClaim := { program := "ytfjkgeeaeolkhaadoor", sum := "38812be4a28ff03b6124304b7a65d1c6971cd07ff3e2f1fbd8564ac67d76738a", func := "kinetoscope/kinetoscopelaw09.WordPlain", spec := "wordPlain", inPlace := ["internal/bytealg.IndexByteString", "internal/bytealg.IndexString", "internal/bytealg.CountString"], unfollowed := true, recurses := true, named := ["internal/bytealg.MaxLen", "kinetoscope/word.ops", "unicode/utf8.first", "unicode/utf8.acceptRanges"], apart := false, laid := [("unicode/utf8.acceptRanges", laid_unicode_utf8_acceptRanges), ("kinetoscope/word.ops", laid_kinetoscope_word_ops), ("unicode/utf8.first", laid_unicode_utf8_first)], narrowed := true }
def WordPlainUptoSaid : Prop := wordPlainUptoRow.holds Tryd.pinned (OpenSpec.upto wordPlainSpec)

/-- 'kinetoscopelaw09.WordParts', WHERE WHAT IT READS IS OF BULK AT MOST 1048576: true; the input reads as it did. -/
def wordPartsUptoRow : OpenClaim := { program := "ytfjkgeeaeolkhaadoor", sum := "38812be4a28ff03b6124304b7a65d1c6971cd07ff3e2f1fbd8564ac67d76738a", func := "kinetoscope/kinetoscopelaw09.WordParts", spec := "wordParts", inPlace := ["internal/bytealg.IndexByteString", "internal/bytealg.IndexString", "internal/bytealg.CountString"], unfollowed := true, recurses := true, named := ["internal/bytealg.MaxLen", "kinetoscope/word.ops", "unicode/utf8.first", "unicode/utf8.acceptRanges"], apart := false, laid := [("unicode/utf8.acceptRanges", laid_unicode_utf8_acceptRanges), ("kinetoscope/word.ops", laid_kinetoscope_word_ops), ("unicode/utf8.first", laid_unicode_utf8_first)], narrowed := true }
def WordPartsUptoSaid : Prop := wordPartsUptoRow.holds Tryd.pinned (OpenSpec.upto wordPartsSpec)

/-- 'kinetoscopelaw09.WordTwo', WHERE WHAT IT READS IS OF BULK AT MOST 1048576: true; the input reads as it did. -/
def wordTwoUptoRow : OpenClaim := { program := "ytfjkgeeaeolkhaadoor", sum := "38812be4a28ff03b6124304b7a65d1c6971cd07ff3e2f1fbd8564ac67d76738a", func := "kinetoscope/kinetoscopelaw09.WordTwo", spec := "wordTwo", inPlace := ["internal/bytealg.IndexByteString", "internal/bytealg.IndexString", "internal/bytealg.CountString"], unfollowed := true, recurses := true, named := ["internal/bytealg.MaxLen", "kinetoscope/word.ops", "unicode/utf8.first", "unicode/utf8.acceptRanges"], apart := false, laid := [("unicode/utf8.acceptRanges", laid_unicode_utf8_acceptRanges), ("kinetoscope/word.ops", laid_kinetoscope_word_ops), ("unicode/utf8.first", laid_unicode_utf8_first)], narrowed := true }
def WordTwoUptoSaid : Prop := wordTwoUptoRow.holds Tryd.pinned (OpenSpec.upto wordTwoSpec)

/-- 'kinetoscopelaw09.WordDeep', WHERE WHAT IT READS IS OF BULK AT MOST 1048576: true; the input reads as it did. -/
def wordDeepUptoRow : OpenClaim := { program := "ytfjkgeeaeolkhaadoor", sum := "38812be4a28ff03b6124304b7a65d1c6971cd07ff3e2f1fbd8564ac67d76738a", func := "kinetoscope/kinetoscopelaw09.WordDeep", spec := "wordDeep", inPlace := ["internal/bytealg.IndexByteString", "internal/bytealg.IndexString", "internal/bytealg.CountString"], unfollowed := true, recurses := true, named := ["internal/bytealg.MaxLen", "kinetoscope/word.ops", "unicode/utf8.first", "unicode/utf8.acceptRanges"], apart := false, laid := [("unicode/utf8.acceptRanges", laid_unicode_utf8_acceptRanges), ("kinetoscope/word.ops", laid_kinetoscope_word_ops), ("unicode/utf8.first", laid_unicode_utf8_first)], narrowed := true }
def WordDeepUptoSaid : Prop := wordDeepUptoRow.holds Tryd.pinned (OpenSpec.upto wordDeepSpec)

/-- 'kinetoscopelaw09.WordDouble', WHERE WHAT IT READS IS OF BULK AT MOST 1048576: true; the input reads as it did. -/
def wordDoubleUptoRow : OpenClaim := { program := "ytfjkgeeaeolkhaadoor", sum := "38812be4a28ff03b6124304b7a65d1c6971cd07ff3e2f1fbd8564ac67d76738a", func := "kinetoscope/kinetoscopelaw09.WordDouble", spec := "wordDouble", inPlace := ["internal/bytealg.IndexByteString", "internal/bytealg.IndexString", "internal/bytealg.CountString"], unfollowed := true, recurses := true, named := ["internal/bytealg.MaxLen", "kinetoscope/word.ops", "unicode/utf8.first", "unicode/utf8.acceptRanges"], apart := false, laid := [("unicode/utf8.acceptRanges", laid_unicode_utf8_acceptRanges), ("kinetoscope/word.ops", laid_kinetoscope_word_ops), ("unicode/utf8.first", laid_unicode_utf8_first)], narrowed := true }
def WordDoubleUptoSaid : Prop := wordDoubleUptoRow.holds Tryd.pinned (OpenSpec.upto wordDoubleSpec)

end Rows
end Go.Proofs.YtfjkgeeaeolkhaaDoor
