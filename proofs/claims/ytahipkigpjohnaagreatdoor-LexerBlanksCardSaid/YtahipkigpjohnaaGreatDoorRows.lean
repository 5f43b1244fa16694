/-
  NARROWER THAN 'FOR EVERY INPUT', by the rows' own cells (each row's printed sentence says how): LexerWords: laid · LexerLines: laid · LexerBlanks: laid · LexerQuotes: laid · LexerJoins: laid · LexerHere: laid.
  DERIVED. THE GIVEN ROWS OF THIS SEAT. 6 by the template 'for every input the law returns true; each argument reads behind the call as it read before'; 0 by the template 'total and deterministic' (their statements: YtahipkigpjohnaaGreatDoorTotals.lean).
  GIVEN WITH THE SEED: the statements are not yours to turn. If you find one false, say at which input.
  Laid BY PROGRAM, IN A SANDBOX (cutbox-rows.mjs): the forced cells as the released guide's own fill.sh prints them over the translation 8185e0706cd102ad… (all of the seat's roots in one cut). By AI agents, Wed Nov 11 2026. No macro, syntax, notation, axiom, sorry.
-/
import Derived.Test.YtahipkigpjohnaaGreatDoorChecked
import GoSem.PinnedTables
import GoSem.Claim
import GoSem.ClaimJoined
import GoSem.ClaimMapViews
import Derived.JoinedTies
import Derived.KernelRfl
namespace Go.Proofs.YtahipkigpjohnaaGreatDoor
/- THE CELL 'sum', in the pinned program and in every row, IS THE sha256 OF THE DUMP (.gsa) THAT YtahipkigpjohnaaGreatDoorProg.lean LOADS. Nothing in Lean hashes anything: it is a label: what it is worth is what the hold of that sum in a sandbox is worth. -/
noncomputable def Tryz.pinned : Pinned := { name := "ytahipkigpjohnaagreatdoor", sum := "8185e0706cd102ad0fd7fd4558da01d0d2d35342044ef0548147040eb62485f9", checked := Tryz.checked }
namespace Rows
def none {H : Type} : Left H := { results := [], args := [] }

/- WHAT THE LISTED PACKAGE-LEVEL VARIABLES READ AS WHEN THE CALL BEGINS. Each datum BY PROGRAM (the guide's laid-datum.mjs) off the statement by which the dump's own 'gosem.cut.vars' lays the variable. In a bare row this is a premise. The card (YtahipkigpjohnaaGreatDoorCards.lean) ties it to the program's text. -/
def laid_unicode_utf8_acceptRanges {H : Type} : DataW H := .agg [.agg [.lit (.int .u8 128), .lit (.int .u8 191)], .agg [.lit (.int .u8 160), .lit (.int .u8 191)], .agg [.lit (.int .u8 128), .lit (.int .u8 159)], .agg [.lit (.int .u8 144), .lit (.int .u8 191)], .agg [.lit (.int .u8 128), .lit (.int .u8 143)], .agg [.lit (.int .u8 0), .lit (.int .u8 0)], .agg [.lit (.int .u8 0), .lit (.int .u8 0)], .agg [.lit (.int .u8 0), .lit (.int .u8 0)], .agg [.lit (.int .u8 0), .lit (.int .u8 0)], .agg [.lit (.int .u8 0), .lit (.int .u8 0)], .agg [.lit (.int .u8 0), .lit (.int .u8 0)], .agg [.lit (.int .u8 0), .lit (.int .u8 0)], .agg [.lit (.int .u8 0), .lit (.int .u8 0)], .agg [.lit (.int .u8 0), .lit (.int .u8 0)], .agg [.lit (.int .u8 0), .lit (.int .u8 0)], .agg [.lit (.int .u8 0), .lit (.int .u8 0)]]
def laid_kinetoscope_lexer_signs {H : Type} : DataW H := .agg [.lit (.string [38, 38]), .lit (.string [124, 124]), .lit (.string [59, 59]), .lit (.string [60, 60]), .lit (.string [62, 62]), .lit (.string [59]), .lit (.string [124]), .lit (.string [40]), .lit (.string [41]), .lit (.string [60]), .lit (.string [62])]
/-- One of Go's own tables, pinned by name: the form's constant. -/
def laid_unicode_utf8_first : DataW Unit := Go.Pinned.utf8First

/-- 'kinetoscopelaw06.LexerWords': WHATEVER THE INPUT: true; the input reads as it did. -/
def lexerWordsSpec : ChangeSpec := { name := "lexerWords", fn := fun _ => fun
  | [d] => { results := [.lit (.bool true)], args := [d] }
  | _ => none }
def lexerWordsRow : OpenClaim := { program := "ytahipkigpjohnaagreatdoor", sum := "8185e0706cd102ad0fd7fd4558da01d0d2d35342044ef0548147040eb62485f9", func := "kinetoscope/kinetoscopelaw06.LexerWords", spec := "lexerWords", inPlace := ["internal/bytealg.CountString", "internal/bytealg.IndexByteString", "internal/bytealg.IndexString", "sync/atomic.LoadUint32", "(*internal/sync.Mutex).Lock", "internal/race.Disable", "sync/atomic.CompareAndSwapInt32", "internal/race.Enable", "internal/race.Acquire", "(*internal/sync.Mutex).lockSlow", "internal/sync.runtime_canSpin", "internal/sync.runtime_doSpin", "internal/sync.throw", "internal/sync.runtime_nanotime", "internal/sync.runtime_SemacquireMutex", "sync/atomic.AddInt32", "(*internal/sync.Mutex).Unlock", "internal/race.ReleaseMerge", "(*internal/sync.Mutex).unlockSlow", "internal/sync.fatal", "internal/sync.runtime_Semrelease", "sync/atomic.StoreUint32"], unfollowed := true, recurses := true, named := ["internal/bytealg.MaxLen", "kinetoscope/lexer.signs", "unicode/utf8.first", "unicode/utf8.acceptRanges"], apart := false, laid := [("unicode/utf8.acceptRanges", laid_unicode_utf8_acceptRanges), ("kinetoscope/lexer.signs", laid_kinetoscope_lexer_signs), ("unicode/utf8.first", laid_unicode_utf8_first)] }
def LexerWordsSaid : Prop := lexerWordsRow.holds Tryz.pinned (OpenSpec.ofChange lexerWordsSpec)

/-- ITS FALSE NEIGHBOUR: 'it returns false'. Refute it at one input. -/
def lexerWordsWrong : ChangeSpec := { name := "lexerWords", fn := fun _ => fun
  | [d] => { results := [.lit (.bool false)], args := [d] }
  | _ => none }
def LexerWordsWrongFalsely : Prop := lexerWordsRow.holds Tryz.pinned (OpenSpec.ofChange lexerWordsWrong)

/-- 'kinetoscopelaw06.LexerLines': WHATEVER THE INPUT: true; the input reads as it did. -/
def lexerLinesSpec : ChangeSpec := { name := "lexerLines", fn := fun _ => fun
  | [d] => { results := [.lit (.bool true)], args := [d] }
  | _ => none }
def lexerLinesRow : OpenClaim := { program := "ytahipkigpjohnaagreatdoor", sum := "8185e0706cd102ad0fd7fd4558da01d0d2d35342044ef0548147040eb62485f9", func := "kinetoscope/kinetoscopelaw06.LexerLines", spec := "lexerLines", inPlace := ["internal/bytealg.CountString", "internal/bytealg.IndexByteString", "internal/bytealg.IndexString", "sync/atomic.LoadUint32", "(*internal/sync.Mutex).Lock", "internal/race.Disable", "sync/atomic.CompareAndSwapInt32", "internal/race.Enable", "internal/race.Acquire", "(*internal/sync.Mutex).lockSlow", "internal/sync.runtime_canSpin", "internal/sync.runtime_doSpin", "internal/sync.throw", "internal/sync.runtime_nanotime", "internal/sync.runtime_SemacquireMutex", "sync/atomic.AddInt32", "(*internal/sync.Mutex).Unlock", "internal/race.ReleaseMerge", "(*internal/sync.Mutex).unlockSlow", "internal/sync.fatal", "internal/sync.runtime_Semrelease", "sync/atomic.StoreUint32"], unfollowed := true, recurses := true, named := ["internal/bytealg.MaxLen", "kinetoscope/lexer.signs", "unicode/utf8.first", "unicode/utf8.acceptRanges"], apart := false, laid := [("unicode/utf8.acceptRanges", laid_unicode_utf8_acceptRanges), ("kinetoscope/lexer.signs", laid_kinetoscope_lexer_signs), ("unicode/utf8.first", laid_unicode_utf8_first)] }
def LexerLinesSaid : Prop := lexerLinesRow.holds Tryz.pinned (OpenSpec.ofChange lexerLinesSpec)

/-- ITS FALSE NEIGHBOUR: 'it returns false'. Refute it at one input. -/
def lexerLinesWrong : ChangeSpec := { name := "lexerLines", fn := fun _ => fun
  | [d] => { results := [.lit (.bool false)], args := [d] }
  | _ => none }
def LexerLinesWrongFalsely : Prop := lexerLinesRow.holds Tryz.pinned (OpenSpec.ofChange lexerLinesWrong)

/-- 'kinetoscopelaw06.LexerBlanks': WHATEVER THE INPUT: true; the input reads as it did. -/
def lexerBlanksSpec : ChangeSpec := { name := "lexerBlanks", fn := fun _ => fun
  | [d] => { results := [.lit (.bool true)], args := [d] }
  | _ => none }
def lexerBlanksRow : OpenClaim := { program := "ytahipkigpjohnaagreatdoor", sum := "8185e0706cd102ad0fd7fd4558da01d0d2d35342044ef0548147040eb62485f9", func := "kinetoscope/kinetoscopelaw06.LexerBlanks", spec := "lexerBlanks", inPlace := ["internal/bytealg.CountString", "internal/bytealg.IndexByteString", "internal/bytealg.IndexString", "sync/atomic.LoadUint32", "(*internal/sync.Mutex).Lock", "internal/race.Disable", "sync/atomic.CompareAndSwapInt32", "internal/race.Enable", "internal/race.Acquire", "(*internal/sync.Mutex).lockSlow", "internal/sync.runtime_canSpin", "internal/sync.runtime_doSpin", "internal/sync.throw", "internal/sync.runtime_nanotime", "internal/sync.runtime_SemacquireMutex", "sync/atomic.AddInt32", "(*internal/sync.Mutex).Unlock", "internal/race.ReleaseMerge", "(*internal/sync.Mutex).unlockSlow", "internal/sync.fatal", "internal/sync.runtime_Semrelease", "sync/atomic.StoreUint32"], unfollowed := true, recurses := true, named := ["internal/bytealg.MaxLen", "kinetoscope/lexer.signs", "unicode/utf8.first", "unicode/utf8.acceptRanges"], apart := false, laid := [("unicode/utf8.acceptRanges", laid_unicode_utf8_acceptRanges), ("kinetoscope/lexer.signs", laid_kinetoscope_lexer_signs), ("unicode/utf8.first", laid_unicode_utf8_first)] }
def LexerBlanksSaid : Prop := lexerBlanksRow.holds Tryz.pinned (OpenSpec.ofChange lexerBlanksSpec)

/-- ITS FALSE NEIGHBOUR: 'it returns false'. Refute it at one input. -/
def lexerBlanksWrong : ChangeSpec := { name := "lexerBlanks", fn := fun _ => fun
  | [d] => { results := [.lit (.bool false)], args := [d] }
  | _ => none }
def LexerBlanksWrongFalsely : Prop := lexerBlanksRow.holds Tryz.pinned (OpenSpec.ofChange lexerBlanksWrong)

/-- 'kinetoscopelaw06.LexerQuotes': WHATEVER THE INPUT: true; the input reads as it did. -/
def lexerQuotesSpec : ChangeSpec := { name := "lexerQuotes", fn := fun _ => fun
  | [d] => { results := [.lit (.bool true)], args := [d] }
  | _ => none }
def lexerQuotesRow : OpenClaim := { program := "ytahipkigpjohnaagreatdoor", sum := "8185e0706cd102ad0fd7fd4558da01d0d2d35342044ef0548147040eb62485f9", func := "kinetoscope/kinetoscopelaw06.LexerQuotes", spec := "lexerQuotes", inPlace := ["internal/bytealg.CountString", "internal/bytealg.IndexByteString", "internal/bytealg.IndexString", "sync/atomic.LoadUint32", "(*internal/sync.Mutex).Lock", "internal/race.Disable", "sync/atomic.CompareAndSwapInt32", "internal/race.Enable", "internal/race.Acquire", "(*internal/sync.Mutex).lockSlow", "internal/sync.runtime_canSpin", "internal/sync.runtime_doSpin", "internal/sync.throw", "internal/sync.runtime_nanotime", "internal/sync.runtime_SemacquireMutex", "sync/atomic.AddInt32", "(*internal/sync.Mutex).Unlock", "internal/race.ReleaseMerge", "(*internal/sync.Mutex).unlockSlow", "internal/sync.fatal", "internal/sync.runtime_Semrelease", "sync/atomic.StoreUint32"], unfollowed := true, recurses := true, named := ["internal/bytealg.MaxLen", "kinetoscope/lexer.signs", "unicode/utf8.first", "unicode/utf8.acceptRanges"], apart := false, laid := [("unicode/utf8.acceptRanges", laid_unicode_utf8_acceptRanges), ("kinetoscope/lexer.signs", laid_kinetoscope_lexer_signs), ("unicode/utf8.first", laid_unicode_utf8_first)] }
def LexerQuotesSaid : Prop := lexerQuotesRow.holds Tryz.pinned (OpenSpec.ofChange lexerQuotesSpec)

/-- ITS FALSE NEIGHBOUR: 'it returns false'. Refute it at one input. -/
def lexerQuotesWrong : ChangeSpec := { name := "lexerQuotes", fn := fun _ => fun
  | [d] => { results := [.lit (.bool false)], args := [d] }
  | _ => none }
def LexerQuotesWrongFalsely : Prop := lexerQuotesRow.holds Tryz.pinned (OpenSpec.ofChange lexerQuotesWrong)

/-- 'kinetoscopelaw06.LexerJoins': WHATEVER THE INPUT: true; the input reads as it did. -/
def lexerJoinsSpec : ChangeSpec := { name := "lexerJoins", fn := fun _ => fun
  | [d1, d2] => { results := [.lit (.bool true)], args := [d1, d2] }
  | _ => none }
def lexerJoinsRow : OpenClaim := { program := "ytahipkigpjohnaagreatdoor", sum := "8185e0706cd102ad0fd7fd4558da01d0d2d35342044ef0548147040eb62485f9", func := "kinetoscope/kinetoscopelaw06.LexerJoins", spec := "lexerJoins", inPlace := ["internal/bytealg.CountString", "internal/bytealg.IndexByteString", "internal/bytealg.IndexString", "sync/atomic.LoadUint32", "(*internal/sync.Mutex).Lock", "internal/race.Disable", "sync/atomic.CompareAndSwapInt32", "internal/race.Enable", "internal/race.Acquire", "(*internal/sync.Mutex).lockSlow", "internal/sync.runtime_canSpin", "internal/sync.runtime_doSpin", "internal/sync.throw", "internal/sync.runtime_nanotime", "internal/sync.runtime_SemacquireMutex", "sync/atomic.AddInt32", "(*internal/sync.Mutex).Unlock", "internal/race.ReleaseMerge", "(*internal/sync.Mutex).unlockSlow", "internal/sync.fatal", "internal/sync.runtime_Semrelease", "sync/atomic.StoreUint32"], unfollowed := true, recurses := true, named := ["internal/bytealg.MaxLen", "kinetoscope/lexer.signs", "unicode/utf8.first", "unicode/utf8.acceptRanges"], apart := false, laid := [("unicode/utf8.acceptRanges", laid_unicode_utf8_acceptRanges), ("kinetoscope/lexer.signs", laid_kinetoscope_lexer_signs), ("unicode/utf8.first", laid_unicode_utf8_first)] }
def LexerJoinsSaid : Prop := lexerJoinsRow.holds Tryz.pinned (OpenSpec.ofChange lexerJoinsSpec)

/-- ITS FALSE NEIGHBOUR: 'it returns false'. Refute it at one input. -/
def lexerJoinsWrong : ChangeSpec := { name := "lexerJoins", fn := fun _ => fun
  | [d1, d2] => { results := [.lit (.bool false)], args := [d1, d2] }
  | _ => none }
def LexerJoinsWrongFalsely : Prop := lexerJoinsRow.holds Tryz.pinned (OpenSpec.ofChange lexerJoinsWrong)

/-- 'kinetoscopelaw06.LexerHere': WHATEVER THE INPUT: true; the input reads as it did. -/
def lexerHereSpec : ChangeSpec := { name := "lexerHere", fn := fun _ => fun
  | [d1, d2, d3] => { results := [.lit (.bool true)], args := [d1, d2, d3] }
  | _ => none }
def lexerHereRow : OpenClaim := { program := "ytahipkigpjohnaagreatdoor", sum := "8185e0706cd102ad0fd7fd4558da01d0d2d35342044ef0548147040eb62485f9", func := "kinetoscope/kinetoscopelaw06.LexerHere", spec := "lexerHere", inPlace := ["internal/bytealg.CountString", "internal/bytealg.IndexByteString", "internal/bytealg.IndexString", "sync/atomic.LoadUint32", "(*internal/sync.Mutex).Lock", "internal/race.Disable", "sync/atomic.CompareAndSwapInt32", "internal/race.Enable", "internal/race.Acquire", "(*internal/sync.Mutex).lockSlow", "internal/sync.runtime_canSpin", "internal/sync.runtime_doSpin", "internal/sync.throw", "internal/sync.runtime_nanotime", "internal/sync.runtime_SemacquireMutex", "sync/atomic.AddInt32", "(*internal/sync.Mutex).Unlock", "internal/race.ReleaseMerge", "(*internal/sync.Mutex).unlockSlow", "internal/sync.fatal", "internal/sync.runtime_Semrelease", "sync/atomic.StoreUint32"], unfollowed := true, recurses := true, named := ["internal/bytealg.MaxLen", "kinetoscope/lexer.signs", "unicode/utf8.first", "unicode/utf8.acceptRanges"], apart := false, laid := [("unicode/utf8.acceptRanges", laid_unicode_utf8_acceptRanges), ("kinetoscope/lexer.signs", laid_kinetoscope_lexer_signs), ("unicode/utf8.first", laid_unicode_utf8_first)] }
def LexerHereSaid : Prop := lexerHereRow.holds Tryz.pinned (OpenSpec.ofChange lexerHereSpec)

/-- ITS FALSE NEIGHBOUR: 'it returns false'. Refute it at one input. -/
def lexerHereWrong : ChangeSpec := { name := "lexerHere", fn := fun _ => fun
  | [d1, d2, d3] => { results := [.lit (.bool false)], args := [d1, d2, d3] }
  | _ => none }
def LexerHereWrongFalsely : Prop := lexerHereRow.holds Tryz.pinned (OpenSpec.ofChange lexerHereWrong)

/- THE SECOND FORM. 'bulk': how many values and letters a reading holds, each counted each time it is reached (what is shared counts as often as it is met; a slice's spare places count too). A statement '..UptoSaid' is the law's where the arguments, and the package variables that the reading takes, are together of bulk at most 1048576: NARROWER than '..Said'. Prove '..Said' where nothing that the law and all that it calls make is longer than what came in: it says more and counts as full. Else prove '..UptoSaid'. A law counts once. -/
mutual
def uptoBulk {H : Type} : DataW H → Nat
  | .lit (.string bytes) => bytes.length + 1
  | .lit _ => 1
  | .nil => 1
  | .ptr d => uptoBulk d + 1
  | .slice elems spare => uptoBulkAll elems + uptoBulkAll spare + 1
  | .agg parts => uptoBulkAll parts + 1
  | .iface _ d => uptoBulk d + 1
  | .map entries => uptoBulkEntries entries + 1
  | .held _ => 1
def uptoBulkAll {H : Type} : List (DataW H) → Nat
  | [] => 0
  | d :: r => uptoBulk d + uptoBulkAll r
def uptoBulkEntries {H : Type} : List (Lit × DataW H) → Nat
  | [] => 0
  | x :: r => uptoBulkEntry x + uptoBulkEntries r
def uptoBulkEntry {H : Type} : Lit × DataW H → Nat
  | (.string bytes, d) => bytes.length + uptoBulk d + 1
  | (_, d) => uptoBulk d + 1
 end
def uptoSmall : (H : Type) → List (DataW H) → Bool := fun _ ds => decide (uptoBulkAll ds ≤ 1048576)
def OpenSpec.upto (s : _root_.Go.ChangeSpec) : _root_.Go.OpenSpec := { _root_.Go.OpenSpec.ofChange s with cond := some uptoSmall }

/-- 'kinetoscopelaw06.LexerWords', WHERE WHAT IT READS IS OF BULK AT MOST 1048576: true; the input reads as it did. -/
def lexerWordsUptoRow : OpenClaim := { program := "ytahipkigpjohnaagreatdoor", sum := "8185e0706cd102ad0fd7fd4558da01d0d2d35342044ef0548147040eb62485f9", func := "kinetoscope/kinetoscopelaw06.LexerWords", spec := "lexerWords", inPlace := ["internal/bytealg.CountString", "internal/bytealg.IndexByteString", "internal/bytealg.IndexString", "sync/atomic.LoadUint32", "(*internal/sync.Mutex).Lock", "internal/race.Disable", "sync/atomic.CompareAndSwapInt32", "internal/race.Enable", "internal/race.Acquire", "(*internal/sync.Mutex).lockSlow", "internal/sync.runtime_canSpin", "internal/sync.runtime_doSpin", "internal/sync.throw", "internal/sync.runtime_nanotime", "internal/sync.runtime_SemacquireMutex", "sync/atomic.AddInt32", "(*internal/sync.Mutex).Unlock", "internal/race.ReleaseMerge", "(*internal/sync.Mutex).unlockSlow", "internal/sync.fatal", "internal/sync.runtime_Semrelease", "sync/atomic.StoreUint32"], unfollowed := true, recurses := true, named := ["internal/bytealg.MaxLen", "kinetoscope/lexer.signs", "unicode/utf8.first", "unicode/utf8.acceptRanges"], apart := false, laid := [("unicode/utf8.acceptRanges", laid_unicode_utf8_acceptRanges), ("kinetoscope/lexer.signs", laid_kinetoscope_lexer_signs), ("unicode/utf8.first", laid_unicode_utf8_first)], narrowed := true }
def LexerWordsUptoSaid : Prop := lexerWordsUptoRow.holds Tryz.pinned (OpenSpec.upto lexerWordsSpec)

/-- 'kinetoscopelaw06.LexerLines', WHERE WHAT IT READS IS OF BULK AT MOST 1048576: true; the input reads as it did. -/
def lexerLinesUptoRow : OpenClaim := { program := "ytahipkigpjohnaagreatdoor", sum := "8185e0706cd102ad0fd7fd4558da01d0d2d35342044ef0548147040eb62485f9", func := "kinetoscope/kinetoscopelaw06.LexerLines", spec := "lexerLines", inPlace := ["internal/bytealg.CountString", "internal/bytealg.IndexByteString", "internal/bytealg.IndexString", "sync/atomic.LoadUint32", "(*internal/sync.Mutex).Lock", "internal/race.Disable", "sync/atomic.CompareAndSwapInt32", "internal/race.Enable", "internal/race.Acquire", "(*internal/sync.Mutex).lockSlow", "internal/sync.runtime_canSpin", "internal/sync.runtime_doSpin", "internal/sync.throw", "internal/sync.runtime_nanotime", "internal/sync.runtime_SemacquireMutex", "sync/atomic.AddInt32", "(*internal/sync.Mutex).Unlock", "internal/race.ReleaseMerge", "(*internal/sync.Mutex).unlockSlow", "internal/sync.fatal", "internal/sync.runtime_Semrelease", "sync/atomic.StoreUint32"], unfollowed := true, recurses := true, named := ["internal/bytealg.MaxLen", "kinetoscope/lexer.signs", "unicode/utf8.first", "unicode/utf8.acceptRanges"], apart := false, laid := [("unicode/utf8.acceptRanges", laid_unicode_utf8_acceptRanges), ("kinetoscope/lexer.signs", laid_kinetoscope_lexer_signs), ("unicode/utf8.first", laid_unicode_utf8_first)], narrowed := true }
def LexerLinesUptoSaid : Prop := lexerLinesUptoRow.holds Tryz.pinned (OpenSpec.upto lexerLinesSpec)

/-- 'kinetoscopelaw06.LexerBlanks', WHERE WHAT IT READS IS OF BULK AT MOST 1048576: true; the input reads as it did. -/
def lexerBlanksUptoRow : OpenClaim := { program := "ytahipkigpjohnaagreatdoor", sum := "8185e0706cd102ad0fd7fd4558da01d0d2d35342044ef0548147040eb62485f9", func := "kinetoscope/kinetoscopelaw06.LexerBlanks", spec := "lexerBlanks", inPlace := ["internal/bytealg.CountString", "internal/bytealg.IndexByteString", "internal/bytealg.IndexString", "sync/atomic.LoadUint32", "(*internal/sync.Mutex).Lock", "internal/race.Disable", "sync/atomic.CompareAndSwapInt32", "internal/race.Enable", "internal/race.Acquire", "(*internal/sync.Mutex).lockSlow", "internal/sync.runtime_canSpin", "internal/sync.runtime_doSpin", "internal/sync.throw", "internal/sync.runtime_nanotime", "internal/sync.runtime_SemacquireMutex", "sync/atomic.AddInt32", "(*internal/sync.Mutex).Unlock", "internal/race.ReleaseMerge", "(*internal/sync.Mutex).unlockSlow", "internal/sync.fatal", "internal/sync.runtime_Semrelease", "sync/atomic.StoreUint32"], unfollowed := true, recurses := true, named := ["internal/bytealg.MaxLen", "kinetoscope/lexer.signs", "unicode/utf8.first", "unicode/utf8.acceptRanges"], apart := false, laid := [("unicode/utf8.acceptRanges", laid_unicode_utf8_acceptRanges), ("kinetoscope/lexer.signs", laid_kinetoscope_lexer_signs), ("unicode/utf8.first", laid_unicode_utf8_first)], narrowed := true }
def LexerBlanksUptoSaid : Prop := lexerBlanksUptoRow.holds Tryz.pinned (OpenSpec.upto lexerBlanksSpec)

/-- 'kinetoscopelaw06.LexerQuotes', WHERE WHAT IT READS IS OF BULK AT MOST 1048576: true; the input reads as it did. -/
def lexerQuotesUptoRow : OpenClaim := { program := "ytahipkigpjohnaagreatdoor", sum := "8185e0706cd102ad0fd7fd4558da01d0d2d35342044ef0548147040eb62485f9", func := "kinetoscope/kinetoscopelaw06.LexerQuotes", spec := "lexerQuotes", inPlace := ["internal/bytealg.CountString", "internal/bytealg.IndexByteString", "internal/bytealg.IndexString", "sync/atomic.LoadUint32", "(*internal/sync.Mutex).Lock", "internal/race.Disable", "sync/atomic.CompareAndSwapInt32", "internal/race.Enable", "internal/race.Acquire", "(*internal/sync.Mutex).lockSlow", "internal/sync.runtime_canSpin", "internal/sync.runtime_doSpin", "internal/sync.throw", "internal/sync.runtime_nanotime", "internal/sync.runtime_SemacquireMutex", "sync/atomic.AddInt32", "(*internal/sync.Mutex).Unlock", "internal/race.ReleaseMerge", "(*internal/sync.Mutex).unlockSlow", "internal/sync.fatal", "internal/sync.runtime_Semrelease", "sync/atomic.StoreUint32"], unfollowed := true, recurses := true, named := ["internal/bytealg.MaxLen", "kinetoscope/lexer.signs", "unicode/utf8.first", "unicode/utf8.acceptRanges"], apart := false, laid := [("unicode/utf8.acceptRanges", laid_unicode_utf8_acceptRanges), ("kinetoscope/lexer.signs", laid_kinetoscope_lexer_signs), ("unicode/utf8.first", laid_unicode_utf8_first)], narrowed := true }
def LexerQuotesUptoSaid : Prop := lexerQuotesUptoRow.holds Tryz.pinned (OpenSpec.upto lexerQuotesSpec)

/-- 'kinetoscopelaw06.LexerJoins', WHERE WHAT IT READS IS OF BULK AT MOST 1048576: true; the input reads as it did. -/
def lexerJoinsUptoRow : OpenClaim := { program := "ytahipkigpjohnaagreatdoor", sum := "8185e0706cd102ad0fd7fd4558da01d0d2d35342044ef0548147040eb62485f9", func := "kinetoscope/kinetoscopelaw06.LexerJoins", spec := "lexerJoins", inPlace := ["internal/bytealg.CountString", "internal/bytealg.IndexByteString", "internal/bytealg.IndexString", "sync/atomic.LoadUint32", "(*internal/sync.Mutex).Lock", "internal/race.Disable", "sync/atomic.CompareAndSwapInt32", "internal/race.Enable", "internal/race.Acquire", "(*internal/sync.Mutex).lockSlow", "internal/sync.runtime_canSpin", "internal/sync.runtime_doSpin", "internal/sync.throw", "internal/sync.runtime_nanotime", "internal/sync.runtime_SemacquireMutex", "sync/atomic.AddInt32", "(*internal/sync.Mutex).Unlock", "internal/race.ReleaseMerge", "(*internal/sync.Mutex).unlockSlow", "internal/sync.fatal", "internal/sync.runtime_Semrelease", "sync/atomic.StoreUint32"], unfollowed := true, recurses := true, named := ["internal/bytealg.MaxLen", "kinetoscope/lexer.signs", "unicode/utf8.first", "unicode/utf8.acceptRanges"], apart := false, laid := [("unicode/utf8.acceptRanges", laid_unicode_utf8_acceptRanges), ("kinetoscope/lexer.signs", laid_kinetoscope_lexer_signs), ("unicode/utf8.first", laid_unicode_utf8_first)], narrowed := true }
def LexerJoinsUptoSaid : Prop := lexerJoinsUptoRow.holds Tryz.pinned (OpenSpec.upto lexerJoinsSpec)

/-- 'kinetoscopelaw06.LexerHere', WHERE WHAT IT READS IS OF BULK AT MOST 1048576: true; the input reads as it did. -/
def lexerHereUptoRow : OpenClaim := { program := "ytahipkigpjohnaagreatdoor", sum := "8185e0706cd102ad0fd7fd4558da01d0d2d35342044ef0548147040eb62485f9", func := "kinetoscope/kinetoscopelaw06.LexerHere", spec := "lexerHere", inPlace := ["internal/bytealg.CountString", "internal/bytealg.IndexByteString", "internal/bytealg.IndexString", "sync/atomic.LoadUint32", "(*internal/sync.Mutex).Lock", "internal/race.Disable", "sync/atomic.CompareAndSwapInt32", "internal/race.Enable", "internal/race.Acquire", "(*internal/sync.Mutex).lockSlow", "internal/sync.runtime_canSpin", "internal/sync.runtime_doSpin", "internal/sync.throw", "internal/sync.runtime_nanotime", "internal/sync.runtime_SemacquireMutex", "sync/atomic.AddInt32", "(*internal/sync.Mutex).Unlock", "internal/race.ReleaseMerge", "(*internal/sync.Mutex).unlockSlow", "internal/sync.fatal", "internal/sync.runtime_Semrelease", "sync/atomic.StoreUint32"], unfollowed := true, recurses := true, named := ["internal/bytealg.MaxLen", "kinetoscope/lexer.signs", "unicode/utf8.first", "unicode/utf8.acceptRanges"], apart := false, laid := [("unicode/utf8.acceptRanges", laid_unicode_utf8_acceptRanges), ("kinetoscope/lexer.signs", laid_kinetoscope_lexer_signs), ("unicode/utf8.first", laid_unicode_utf8_first)], narrowed := true }
def LexerHereUptoSaid : Prop := lexerHereUptoRow.holds Tryz.pinned (OpenSpec.upto lexerHereSpec)

end Rows
end Go.Proofs.YtahipkigpjohnaaGreatDoor
