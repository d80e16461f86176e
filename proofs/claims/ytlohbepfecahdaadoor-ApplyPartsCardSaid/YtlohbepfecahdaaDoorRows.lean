/-
  NARROWER THAN 'FOR EVERY INPUT', by the rows' own cells (each row's printed sentence says how): ClauseParse: laid · ClauseShow: laid · ClauseBack: laid · ClauseJoin: laid · ClauseTurned: laid · ApplyOf: laid · ApplyClauses: laid · ApplyStays: laid · ApplyTwice: laid · ApplyParts: laid · ApplyCopies: laid.
  DERIVED. THE GIVEN ROWS OF THIS SEAT. 11 by the template 'for every input the law returns true; each argument reads behind the call as it read before'; 0 by the template 'total and deterministic' (their statements: YtlohbepfecahdaaDoorTotals.lean).
  GIVEN WITH THE SEED: the statements are not yours to turn. If you find one false, say at which input.
  Laid BY PROGRAM, IN A SANDBOX (cutbox-rows.mjs): the forced cells as the released guide's own fill.sh prints them over the translation d7c71ce598dd092d… (all of the seat's roots in one cut). By AI agents, Wed Nov 11 2026. No macro, syntax, notation, axiom, sorry.
-/
import Derived.Test.YtlohbepfecahdaaDoorChecked
import GoSem.PinnedTables
import GoSem.Claim
import GoSem.ClaimJoined
import GoSem.ClaimMapViews
import Derived.JoinedTies
import Derived.KernelRfl
namespace Go.Proofs.YtlohbepfecahdaaDoor
/- THE CELL 'sum', in the pinned program and in every row, IS THE sha256 OF THE DUMP (.gsa) THAT YtlohbepfecahdaaDoorProg.lean LOADS. Nothing in Lean hashes anything: it is a label: what it is worth is what the hold of that sum in a sandbox is worth. -/
noncomputable def Tryd.pinned : Pinned := { name := "ytlohbepfecahdaadoor", sum := "d7c71ce598dd092d71cfc2338bb1f7145d4c1b7d0c98e167310fb6313ef19672", checked := Tryd.checked }
namespace Rows
def none {H : Type} : Left H := { results := [], args := [] }

/- WHAT THE LISTED PACKAGE-LEVEL VARIABLES READ AS WHEN THE CALL BEGINS. Each datum BY PROGRAM (the guide's laid-datum.mjs) off the statement by which the dump's own 'gosem.cut.vars' lays the variable. In a bare row this is a premise. The card (YtlohbepfecahdaaDoorCards.lean) ties it to the program's text. -/
def laid_unicode_utf8_acceptRanges {H : Type} : DataW H := .agg [.agg [.lit (.int .u8 128), .lit (.int .u8 191)], .agg [.lit (.int .u8 160), .lit (.int .u8 191)], .agg [.lit (.int .u8 128), .lit (.int .u8 159)], .agg [.lit (.int .u8 144), .lit (.int .u8 191)], .agg [.lit (.int .u8 128), .lit (.int .u8 143)], .agg [.lit (.int .u8 0), .lit (.int .u8 0)], .agg [.lit (.int .u8 0), .lit (.int .u8 0)], .agg [.lit (.int .u8 0), .lit (.int .u8 0)], .agg [.lit (.int .u8 0), .lit (.int .u8 0)], .agg [.lit (.int .u8 0), .lit (.int .u8 0)], .agg [.lit (.int .u8 0), .lit (.int .u8 0)], .agg [.lit (.int .u8 0), .lit (.int .u8 0)], .agg [.lit (.int .u8 0), .lit (.int .u8 0)], .agg [.lit (.int .u8 0), .lit (.int .u8 0)], .agg [.lit (.int .u8 0), .lit (.int .u8 0)], .agg [.lit (.int .u8 0), .lit (.int .u8 0)]]
/-- One of Go's own tables, pinned by name: the form's constant. -/
def laid_unicode_utf8_first : DataW Unit := Go.Pinned.utf8First

/-- 'gaolerlaw02.ClauseParse': WHATEVER THE INPUT: true; the input reads as it did. -/
def clauseParseSpec : ChangeSpec := { name := "clauseParse", fn := fun _ => fun
  | [d] => { results := [.lit (.bool true)], args := [d] }
  | _ => none }
def clauseParseRow : OpenClaim := { program := "ytlohbepfecahdaadoor", sum := "d7c71ce598dd092d71cfc2338bb1f7145d4c1b7d0c98e167310fb6313ef19672", func := "gaoler/gaolerlaw02.ClauseParse", spec := "clauseParse", inPlace := ["internal/bytealg.CountString", "internal/bytealg.IndexByteString", "internal/bytealg.IndexString", "internal/abi.NoEscape", "internal/bytealg.MakeNoZero"], named := ["unicode/utf8.first", "unicode/utf8.acceptRanges", "internal/bytealg.MaxLen"], apart := false, laid := [("unicode/utf8.acceptRanges", laid_unicode_utf8_acceptRanges), ("unicode/utf8.first", laid_unicode_utf8_first)] }
def ClauseParseSaid : Prop := clauseParseRow.holds Tryd.pinned (OpenSpec.ofChange clauseParseSpec)

/-- ITS FALSE NEIGHBOUR: 'it returns false'. Refute it at one input. -/
def clauseParseWrong : ChangeSpec := { name := "clauseParse", fn := fun _ => fun
  | [d] => { results := [.lit (.bool false)], args := [d] }
  | _ => none }
def ClauseParseWrongFalsely : Prop := clauseParseRow.holds Tryd.pinned (OpenSpec.ofChange clauseParseWrong)

/-- 'gaolerlaw02.ClauseShow': WHATEVER THE INPUT: true; the input reads as it did. -/
def clauseShowSpec : ChangeSpec := { name := "clauseShow", fn := fun _ => fun
  | [d] => { results := [.lit (.bool true)], args := [d] }
  | _ => none }
def clauseShowRow : OpenClaim := { program := "ytlohbepfecahdaadoor", sum := "d7c71ce598dd092d71cfc2338bb1f7145d4c1b7d0c98e167310fb6313ef19672", func := "gaoler/gaolerlaw02.ClauseShow", spec := "clauseShow", inPlace := ["internal/bytealg.CountString", "internal/bytealg.IndexByteString", "internal/bytealg.IndexString", "internal/abi.NoEscape", "internal/bytealg.MakeNoZero"], named := ["unicode/utf8.first", "unicode/utf8.acceptRanges", "internal/bytealg.MaxLen"], apart := false, laid := [("unicode/utf8.acceptRanges", laid_unicode_utf8_acceptRanges), ("unicode/utf8.first", laid_unicode_utf8_first)] }
def ClauseShowSaid : Prop := clauseShowRow.holds Tryd.pinned (OpenSpec.ofChange clauseShowSpec)

/-- ITS FALSE NEIGHBOUR: 'it returns false'. Refute it at one input. -/
def clauseShowWrong : ChangeSpec := { name := "clauseShow", fn := fun _ => fun
  | [d] => { results := [.lit (.bool false)], args := [d] }
  | _ => none }
def ClauseShowWrongFalsely : Prop := clauseShowRow.holds Tryd.pinned (OpenSpec.ofChange clauseShowWrong)

/-- 'gaolerlaw02.ClauseBack': WHATEVER THE INPUT: true; the input reads as it did. -/
def clauseBackSpec : ChangeSpec := { name := "clauseBack", fn := fun _ => fun
  | [d1, d2] => { results := [.lit (.bool true)], args := [d1, d2] }
  | _ => none }
def clauseBackRow : OpenClaim := { program := "ytlohbepfecahdaadoor", sum := "d7c71ce598dd092d71cfc2338bb1f7145d4c1b7d0c98e167310fb6313ef19672", func := "gaoler/gaolerlaw02.ClauseBack", spec := "clauseBack", inPlace := ["internal/bytealg.CountString", "internal/bytealg.IndexByteString", "internal/bytealg.IndexString", "internal/abi.NoEscape", "internal/bytealg.MakeNoZero"], named := ["unicode/utf8.first", "unicode/utf8.acceptRanges", "internal/bytealg.MaxLen"], apart := false, laid := [("unicode/utf8.acceptRanges", laid_unicode_utf8_acceptRanges), ("unicode/utf8.first", laid_unicode_utf8_first)] }
def ClauseBackSaid : Prop := clauseBackRow.holds Tryd.pinned (OpenSpec.ofChange clauseBackSpec)

/-- ITS FALSE NEIGHBOUR: 'it returns false'. Refute it at one input. -/
def clauseBackWrong : ChangeSpec := { name := "clauseBack", fn := fun _ => fun
  | [d1, d2] => { results := [.lit (.bool false)], args := [d1, d2] }
  | _ => none }
def ClauseBackWrongFalsely : Prop := clauseBackRow.holds Tryd.pinned (OpenSpec.ofChange clauseBackWrong)

/-- 'gaolerlaw02.ClauseJoin': WHATEVER THE INPUT: true; the input reads as it did. -/
def clauseJoinSpec : ChangeSpec := { name := "clauseJoin", fn := fun _ => fun
  | [d1, d2] => { results := [.lit (.bool true)], args := [d1, d2] }
  | _ => none }
def clauseJoinRow : OpenClaim := { program := "ytlohbepfecahdaadoor", sum := "d7c71ce598dd092d71cfc2338bb1f7145d4c1b7d0c98e167310fb6313ef19672", func := "gaoler/gaolerlaw02.ClauseJoin", spec := "clauseJoin", inPlace := ["internal/bytealg.CountString", "internal/bytealg.IndexByteString", "internal/bytealg.IndexString", "internal/abi.NoEscape", "internal/bytealg.MakeNoZero"], named := ["unicode/utf8.first", "unicode/utf8.acceptRanges", "internal/bytealg.MaxLen"], apart := false, laid := [("unicode/utf8.acceptRanges", laid_unicode_utf8_acceptRanges), ("unicode/utf8.first", laid_unicode_utf8_first)] }
def ClauseJoinSaid : Prop := clauseJoinRow.holds Tryd.pinned (OpenSpec.ofChange clauseJoinSpec)

/-- ITS FALSE NEIGHBOUR: 'it returns false'. Refute it at one input. -/
def clauseJoinWrong : ChangeSpec := { name := "clauseJoin", fn := fun _ => fun
  | [d1, d2] => { results := [.lit (.bool false)], args := [d1, d2] }
  | _ => none }
def ClauseJoinWrongFalsely : Prop := clauseJoinRow.holds Tryd.pinned (OpenSpec.ofChange clauseJoinWrong)

/-- 'gaolerlaw02.ClauseTurned': WHATEVER THE INPUT: true; the input reads as it did. -/
def clauseTurnedSpec : ChangeSpec := { name := "clauseTurned", fn := fun _ => fun
  | [d1, d2, d3, d4] => { results := [.lit (.bool true)], args := [d1, d2, d3, d4] }
  | _ => none }
def clauseTurnedRow : OpenClaim := { program := "ytlohbepfecahdaadoor", sum := "d7c71ce598dd092d71cfc2338bb1f7145d4c1b7d0c98e167310fb6313ef19672", func := "gaoler/gaolerlaw02.ClauseTurned", spec := "clauseTurned", inPlace := ["internal/bytealg.CountString", "internal/bytealg.IndexByteString", "internal/bytealg.IndexString", "internal/abi.NoEscape", "internal/bytealg.MakeNoZero"], named := ["unicode/utf8.first", "unicode/utf8.acceptRanges", "internal/bytealg.MaxLen"], apart := false, laid := [("unicode/utf8.acceptRanges", laid_unicode_utf8_acceptRanges), ("unicode/utf8.first", laid_unicode_utf8_first)] }
def ClauseTurnedSaid : Prop := clauseTurnedRow.holds Tryd.pinned (OpenSpec.ofChange clauseTurnedSpec)

/-- ITS FALSE NEIGHBOUR: 'it returns false'. Refute it at one input. -/
def clauseTurnedWrong : ChangeSpec := { name := "clauseTurned", fn := fun _ => fun
  | [d1, d2, d3, d4] => { results := [.lit (.bool false)], args := [d1, d2, d3, d4] }
  | _ => none }
def ClauseTurnedWrongFalsely : Prop := clauseTurnedRow.holds Tryd.pinned (OpenSpec.ofChange clauseTurnedWrong)

/-- 'gaolerlaw03.ApplyOf': WHATEVER THE INPUT: true; the input reads as it did. -/
def applyOfSpec : ChangeSpec := { name := "applyOf", fn := fun _ => fun
  | [d1, d2, d3, d4] => { results := [.lit (.bool true)], args := [d1, d2, d3, d4] }
  | _ => none }
def applyOfRow : OpenClaim := { program := "ytlohbepfecahdaadoor", sum := "d7c71ce598dd092d71cfc2338bb1f7145d4c1b7d0c98e167310fb6313ef19672", func := "gaoler/gaolerlaw03.ApplyOf", spec := "applyOf", inPlace := ["internal/bytealg.CountString", "internal/bytealg.IndexByteString", "internal/bytealg.IndexString"], unfollowed := true, recurses := true, named := ["unicode/utf8.first", "unicode/utf8.acceptRanges", "internal/bytealg.MaxLen"], apart := false, laid := [("unicode/utf8.acceptRanges", laid_unicode_utf8_acceptRanges), ("unicode/utf8.first", laid_unicode_utf8_first)] }
def ApplyOfSaid : Prop := applyOfRow.holds Tryd.pinned (OpenSpec.ofChange applyOfSpec)

/-- ITS FALSE NEIGHBOUR: 'it returns false'. Refute it at one input. -/
def applyOfWrong : ChangeSpec := { name := "applyOf", fn := fun _ => fun
  | [d1, d2, d3, d4] => { results := [.lit (.bool false)], args := [d1, d2, d3, d4] }
  | _ => none }
def ApplyOfWrongFalsely : Prop := applyOfRow.holds Tryd.pinned (OpenSpec.ofChange applyOfWrong)

/-- 'gaolerlaw03.ApplyClauses': WHATEVER THE INPUT: true; the input reads as it did. -/
def applyClausesSpec : ChangeSpec := { name := "applyClauses", fn := fun _ => fun
  | [d1, d2, d3, d4] => { results := [.lit (.bool true)], args := [d1, d2, d3, d4] }
  | _ => none }
def applyClausesRow : OpenClaim := { program := "ytlohbepfecahdaadoor", sum := "d7c71ce598dd092d71cfc2338bb1f7145d4c1b7d0c98e167310fb6313ef19672", func := "gaoler/gaolerlaw03.ApplyClauses", spec := "applyClauses", inPlace := ["internal/bytealg.CountString", "internal/bytealg.IndexByteString", "internal/bytealg.IndexString"], unfollowed := true, recurses := true, named := ["unicode/utf8.first", "unicode/utf8.acceptRanges", "internal/bytealg.MaxLen"], apart := false, laid := [("unicode/utf8.acceptRanges", laid_unicode_utf8_acceptRanges), ("unicode/utf8.first", laid_unicode_utf8_first)] }
def ApplyClausesSaid : Prop := applyClausesRow.holds Tryd.pinned (OpenSpec.ofChange applyClausesSpec)

/-- ITS FALSE NEIGHBOUR: 'it returns false'. Refute it at one input. -/
def applyClausesWrong : ChangeSpec := { name := "applyClauses", fn := fun _ => fun
  | [d1, d2, d3, d4] => { results := [.lit (.bool false)], args := [d1, d2, d3, d4] }
  | _ => none }
def ApplyClausesWrongFalsely : Prop := applyClausesRow.holds Tryd.pinned (OpenSpec.ofChange applyClausesWrong)

/-- 'gaolerlaw03.ApplyStays': WHATEVER THE INPUT: true; the input reads as it did. -/
def applyStaysSpec : ChangeSpec := { name := "applyStays", fn := fun _ => fun
  | [d1, d2, d3, d4, d5, d6] => { results := [.lit (.bool true)], args := [d1, d2, d3, d4, d5, d6] }
  | _ => none }
def applyStaysRow : OpenClaim := { program := "ytlohbepfecahdaadoor", sum := "d7c71ce598dd092d71cfc2338bb1f7145d4c1b7d0c98e167310fb6313ef19672", func := "gaoler/gaolerlaw03.ApplyStays", spec := "applyStays", inPlace := ["internal/bytealg.CountString", "internal/bytealg.IndexByteString", "internal/bytealg.IndexString"], unfollowed := true, recurses := true, named := ["unicode/utf8.first", "unicode/utf8.acceptRanges", "internal/bytealg.MaxLen"], apart := false, laid := [("unicode/utf8.acceptRanges", laid_unicode_utf8_acceptRanges), ("unicode/utf8.first", laid_unicode_utf8_first)] }
def ApplyStaysSaid : Prop := applyStaysRow.holds Tryd.pinned (OpenSpec.ofChange applyStaysSpec)

/-- ITS FALSE NEIGHBOUR: 'it returns false'. Refute it at one input. -/
def applyStaysWrong : ChangeSpec := { name := "applyStays", fn := fun _ => fun
  | [d1, d2, d3, d4, d5, d6] => { results := [.lit (.bool false)], args := [d1, d2, d3, d4, d5, d6] }
  | _ => none }
def ApplyStaysWrongFalsely : Prop := applyStaysRow.holds Tryd.pinned (OpenSpec.ofChange applyStaysWrong)

/-- 'gaolerlaw03.ApplyTwice': WHATEVER THE INPUT: true; the input reads as it did. -/
def applyTwiceSpec : ChangeSpec := { name := "applyTwice", fn := fun _ => fun
  | [d1, d2, d3, d4, d5, d6] => { results := [.lit (.bool true)], args := [d1, d2, d3, d4, d5, d6] }
  | _ => none }
def applyTwiceRow : OpenClaim := { program := "ytlohbepfecahdaadoor", sum := "d7c71ce598dd092d71cfc2338bb1f7145d4c1b7d0c98e167310fb6313ef19672", func := "gaoler/gaolerlaw03.ApplyTwice", spec := "applyTwice", inPlace := ["internal/bytealg.CountString", "internal/bytealg.IndexByteString", "internal/bytealg.IndexString"], unfollowed := true, recurses := true, named := ["unicode/utf8.first", "unicode/utf8.acceptRanges", "internal/bytealg.MaxLen"], apart := false, laid := [("unicode/utf8.acceptRanges", laid_unicode_utf8_acceptRanges), ("unicode/utf8.first", laid_unicode_utf8_first)] }
def ApplyTwiceSaid : Prop := applyTwiceRow.holds Tryd.pinned (OpenSpec.ofChange applyTwiceSpec)

/-- ITS FALSE NEIGHBOUR: 'it returns false'. Refute it at one input. -/
def applyTwiceWrong : ChangeSpec := { name := "applyTwice", fn := fun _ => fun
  | [d1, d2, d3, d4, d5, d6] => { results := [.lit (.bool false)], args := [d1, d2, d3, d4, d5, d6] }
  | _ => none }
def ApplyTwiceWrongFalsely : Prop := applyTwiceRow.holds Tryd.pinned (OpenSpec.ofChange applyTwiceWrong)

/-- 'gaolerlaw03.ApplyParts': WHATEVER THE INPUT: true; the input reads as it did. -/
def applyPartsSpec : ChangeSpec := { name := "applyParts", fn := fun _ => fun
  | [d1, d2, d3, d4, d5] => { results := [.lit (.bool true)], args := [d1, d2, d3, d4, d5] }
  | _ => none }
def applyPartsRow : OpenClaim := { program := "ytlohbepfecahdaadoor", sum := "d7c71ce598dd092d71cfc2338bb1f7145d4c1b7d0c98e167310fb6313ef19672", func := "gaoler/gaolerlaw03.ApplyParts", spec := "applyParts", inPlace := ["internal/bytealg.CountString", "internal/bytealg.IndexByteString", "internal/bytealg.IndexString"], unfollowed := true, recurses := true, named := ["unicode/utf8.first", "unicode/utf8.acceptRanges", "internal/bytealg.MaxLen"], apart := false, laid := [("unicode/utf8.acceptRanges", laid_unicode_utf8_acceptRanges), ("unicode/utf8.first", laid_unicode_utf8_first)] }
def ApplyPartsSaid : Prop := applyPartsRow.holds Tryd.pinned (OpenSpec.ofChange applyPartsSpec)

/-- ITS FALSE NEIGHBOUR: 'it returns false'. Refute it at one input. -/
def applyPartsWrong : ChangeSpec := { name := "applyParts", fn := fun _ => fun
  | [d1, d2, d3, d4, d5] => { results := [.lit (.bool false)], args := [d1, d2, d3, d4, d5] }
  | _ => none }
def ApplyPartsWrongFalsely : Prop := applyPartsRow.holds Tryd.pinned (OpenSpec.ofChange applyPartsWrong)

/-- 'gaolerlaw03.ApplyCopies': WHATEVER THE INPUT: true; the input reads as it did. -/
def applyCopiesSpec : ChangeSpec := { name := "applyCopies", fn := fun _ => fun
  | [d1, d2, d3, d4, d5] => { results := [.lit (.bool true)], args := [d1, d2, d3, d4, d5] }
  | _ => none }
def applyCopiesRow : OpenClaim := { program := "ytlohbepfecahdaadoor", sum := "d7c71ce598dd092d71cfc2338bb1f7145d4c1b7d0c98e167310fb6313ef19672", func := "gaoler/gaolerlaw03.ApplyCopies", spec := "applyCopies", inPlace := ["internal/bytealg.CountString", "internal/bytealg.IndexByteString", "internal/bytealg.IndexString"], unfollowed := true, recurses := true, named := ["unicode/utf8.first", "unicode/utf8.acceptRanges", "internal/bytealg.MaxLen"], apart := false, laid := [("unicode/utf8.acceptRanges", laid_unicode_utf8_acceptRanges), ("unicode/utf8.first", laid_unicode_utf8_first)] }
def ApplyCopiesSaid : Prop := applyCopiesRow.holds Tryd.pinned (OpenSpec.ofChange applyCopiesSpec)

/-- ITS FALSE NEIGHBOUR: 'it returns false'. Refute it at one input. -/
def applyCopiesWrong : ChangeSpec := { name := "applyCopies", fn := fun _ => fun
  | [d1, d2, d3, d4, d5] => { results := [.lit (.bool false)], args := [d1, d2, d3, d4, d5] }
  | _ => none }
def ApplyCopiesWrongFalsely : Prop := applyCopiesRow.holds Tryd.pinned (OpenSpec.ofChange applyCopiesWrong)

/- THE SECOND FORM. 'bulk': how many values and letters a reading holds, each counted each time it is reached (what is shared counts as often as it is met; a slice's spare places count too). A statement '..UptoSaid' is the law's where the arguments, and the package variables that the reading takes, are together of bulk at most 1048576: NARROWER than '..Said'. Prove '..Said' where nothing that the law and all that it calls make is longer than what came in: it says more and counts as full. Else prove '..UptoSaid'. A law counts once. -/
mutual
def uptoBulk {H : Type} : DataW H → Nat
  | .lit (.string bytes) => bytes.length + 1
  | .lit _ => 1
  | .nil => 1
  | .ptr d => uptoBulk d + 1
  | .slice elems spare => uptoBulkAll elems + uptoBulkAll spare + 1
  | .agg parts => uptoBulkAll parts + 1
  | .iface _ d => uptoBulk d + 1
  | .map entries => uptoBulkEntries entries + 1
  | .held _ => 1
def uptoBulkAll {H : Type} : List (DataW H) → Nat
  | [] => 0
  | d :: r => uptoBulk d + uptoBulkAll r
def uptoBulkEntries {H : Type} : List (Lit × DataW H) → Nat
  | [] => 0
  | x :: r => uptoBulkEntry x + uptoBulkEntries r
def uptoBulkEntry {H : Type} : Lit × DataW H → Nat
  | (.string bytes, d) => bytes.length + uptoBulk d + 1
  | (_, d) => uptoBulk d + 1
 end
def uptoSmall : (H : Type) → List (DataW H) → Bool := fun _ ds => decide (uptoBulkAll ds ≤ 1048576)
def OpenSpec.upto (s : _root_.Go.ChangeSpec) : _root_.Go.OpenSpec := { _root_.Go.OpenSpec.ofChange s with cond := some uptoSmall }

/-- 'gaolerlaw02.ClauseParse', WHERE WHAT IT READS IS OF BULK AT MOST 1048576: true; the input reads as it did. -/
def clauseParseUptoRow : OpenClaim := { program := "ytlohbepfecahdaadoor", sum := "d7c71ce598dd092d71cfc2338bb1f7145d4c1b7d0c98e167310fb6313ef19672", func := "gaoler/gaolerlaw02.ClauseParse", spec := "clauseParse", inPlace := ["internal/bytealg.CountString", "internal/bytealg.IndexByteString", "internal/bytealg.IndexString", "internal/abi.NoEscape", "internal/bytealg.MakeNoZero"], named := ["unicode/utf8.first", "unicode/utf8.acceptRanges", "internal/bytealg.MaxLen"], apart := false, laid := [("unicode/utf8.acceptRanges", laid_unicode_utf8_acceptRanges), ("unicode/utf8.first", laid_unicode_utf8_first)], narrowed := true }
def ClauseParseUptoSaid : Prop := clauseParseUptoRow.holds Tryd.pinned (OpenSpec.upto clauseParseSpec)

/-- 'gaolerlaw02.ClauseShow', WHERE WHAT IT READS IS OF BULK AT MOST 1048576: true; the input reads as it did. -/
def clauseShowUptoRow : OpenClaim := { program := "ytlohbepfecahdaadoor", sum := "d7c71ce598dd092d71cfc2338bb1f7145d4c1b7d0c98e167310fb6313ef19672", func := "gaoler/gaolerlaw02.ClauseShow", spec := "clauseShow", inPlace := ["internal/bytealg.CountString", "internal/bytealg.IndexByteString", "internal/bytealg.IndexString", "internal/abi.NoEscape", "internal/bytealg.MakeNoZero"], named := ["unicode/utf8.first", "unicode/utf8.acceptRanges", "internal/bytealg.MaxLen"], apart := false, laid := [("unicode/utf8.acceptRanges", laid_unicode_utf8_acceptRanges), ("unicode/utf8.first", laid_unicode_utf8_first)], narrowed := true }
def ClauseShowUptoSaid : Prop := clauseShowUptoRow.holds Tryd.pinned (OpenSpec.upto clauseShowSpec)

/-- 'gaolerlaw02.ClauseBack', WHERE WHAT IT READS IS OF BULK AT MOST 1048576: true; the input reads as it did. -/
def clauseBackUptoRow : OpenClaim := { program := "ytlohbepfecahdaadoor", sum := "d7c71ce598dd092d71cfc2338bb1f7145d4c1b7d0c98e167310fb6313ef19672", func := "gaoler/gaolerlaw02.ClauseBack", spec := "clauseBack", inPlace := ["internal/bytealg.CountString", "internal/bytealg.IndexByteString", "internal/bytealg.IndexString", "internal/abi.NoEscape", "internal/bytealg.MakeNoZero"], named := ["unicode/utf8.first", "unicode/utf8.acceptRanges", "internal/bytealg.MaxLen"], apart := false, laid := [("unicode/utf8.acceptRanges", laid_unicode_utf8_acceptRanges), ("unicode/utf8.first", laid_unicode_utf8_first)], narrowed := true }
def ClauseBackUptoSaid : Prop := clauseBackUptoRow.holds Tryd.pinned (OpenSpec.upto clauseBackSpec)

/-- 'gaolerlaw02.ClauseJoin', WHERE WHAT IT READS IS OF BULK AT MOST 1048576: true; the input reads as it did. -/
def clauseJoinUptoRow : OpenClaim := { program := "ytlohbepfecahdaadoor", sum := "d7c71ce598dd092d71cfc2338bb1f7145d4c1b7d0c98e167310fb6313ef19672", func := "gaoler/gaolerlaw02.ClauseJoin", spec := "clauseJoin", inPlace := ["internal/bytealg.CountString", "internal/bytealg.IndexByteString", "internal/bytealg.IndexString", "internal/abi.NoEscape", "internal/bytealg.MakeNoZero"], named := ["unicode/utf8.first", "unicode/utf8.acceptRanges", "internal/bytealg.MaxLen"], apart := false, laid := [("unicode/utf8.acceptRanges", laid_unicode_utf8_acceptRanges), ("unicode/utf8.first", laid_unicode_utf8_first)], narrowed := true }
def ClauseJoinUptoSaid : Prop := clauseJoinUptoRow.holds Tryd.pinned (OpenSpec.upto clauseJoinSpec)

/-- 'gaolerlaw02.ClauseTurned', WHERE WHAT IT READS IS OF BULK AT MOST 1048576: true; the input reads as it did. -/
def clauseTurnedUptoRow : OpenClaim := { program := "ytlohbepfecahdaadoor", sum := "d7c71ce598dd092d71cfc2338bb1f7145d4c1b7d0c98e167310fb6313ef19672", func := "gaoler/gaolerlaw02.ClauseTurned", spec := "clauseTurned", inPlace := ["internal/bytealg.CountString", "internal/bytealg.IndexByteString", "internal/bytealg.IndexString", "internal/abi.NoEscape", "internal/bytealg.MakeNoZero"], named := ["unicode/utf8.first", "unicode/utf8.acceptRanges", "internal/bytealg.MaxLen"], apart := false, laid := [("unicode/utf8.acceptRanges", laid_unicode_utf8_acceptRanges), ("unicode/utf8.first", laid_unicode_utf8_first)], narrowed := true }
def ClauseTurnedUptoSaid : Prop := clauseTurnedUptoRow.holds Tryd.pinned (OpenSpec.upto clauseTurnedSpec)

/-- 'gaolerlaw03.ApplyOf', WHERE WHAT IT READS IS OF BULK AT MOST 1048576: true; the input reads as it did. -/
def applyOfUptoRow : OpenClaim := { program := "ytlohbepfecahdaadoor", sum := "d7c71ce598dd092d71cfc2338bb1f7145d4c1b7d0c98e167310fb6313ef19672", func := "gaoler/gaolerlaw03.ApplyOf", spec := "applyOf", inPlace := ["internal/bytealg.CountString", "internal/bytealg.IndexByteString", "internal/bytealg.IndexString"], unfollowed := true, recurses := true, named := ["unicode/utf8.first", "unicode/utf8.acceptRanges", "internal/bytealg.MaxLen"], apart := false, laid := [("unicode/utf8.acceptRanges", laid_unicode_utf8_acceptRanges), ("unicode/utf8.first", laid_unicode_utf8_first)], narrowed := true }
def ApplyOfUptoSaid : Prop := applyOfUptoRow.holds Tryd.pinned (OpenSpec.upto applyOfSpec)

/-- 'gaolerlaw03.ApplyClauses', WHERE WHAT IT READS IS OF BULK AT MOST 1048576: true; the input reads as it did. -/
def applyClausesUptoRow : OpenClaim := { program := "ytlohbepfecahdaadoor", sum := "d7c71ce598dd092d71cfc2338bb1f7145d4c1b7d0c98e167310fb6313ef19672", func := "gaoler/gaolerlaw03.ApplyClauses", spec := "applyClauses", inPlace := ["internal/bytealg.CountString", "internal/bytealg.IndexByteString", "internal/bytealg.IndexString"], unfollowed := true, recurses := true, named := ["unicode/utf8.first", "unicode/utf8.acceptRanges", "internal/bytealg.MaxLen"], apart := false, laid := [("unicode/utf8.acceptRanges", laid_unicode_utf8_acceptRanges), ("unicode/utf8.first", laid_unicode_utf8_first)], narrowed := true }
def ApplyClausesUptoSaid : Prop := applyClausesUptoRow.holds Tryd.pinned (OpenSpec.upto applyClausesSpec)

/-- 'gaolerlaw03.ApplyStays', WHERE WHAT IT READS IS OF BULK AT MOST 1048576: true; the input reads as it did. -/
def applyStaysUptoRow : OpenClaim := { program := "ytlohbepfecahdaadoor", sum := "d7c71ce598dd092d71cfc2338bb1f7145d4c1b7d0c98e167310fb6313ef19672", func := "gaoler/gaolerlaw03.ApplyStays", spec := "applyStays", inPlace := ["internal/bytealg.CountString", "internal/bytealg.IndexByteString", "internal/bytealg.IndexString"], unfollowed := true, recurses := true, named := ["unicode/utf8.first", "unicode/utf8.acceptRanges", "internal/bytealg.MaxLen"], apart := false, laid := [("unicode/utf8.acceptRanges", laid_unicode_utf8_acceptRanges), ("unicode/utf8.first", laid_unicode_utf8_first)], narrowed := true }
def ApplyStaysUptoSaid : Prop := applyStaysUptoRow.holds Tryd.pinned (OpenSpec.upto applyStaysSpec)

/-- 'gaolerlaw03.ApplyTwice', WHERE WHAT IT READS IS OF BULK AT MOST 1048576: true; the input reads as it did. -/
def applyTwiceUptoRow : OpenClaim := { program := "ytlohbepfecahdaadoor", sum := "d7c71ce598dd092d71cfc2338bb1f7145d4c1b7d0c98e167310fb6313ef19672", func := "gaoler/gaolerlaw03.ApplyTwice", spec := "applyTwice", inPlace := ["internal/bytealg.CountString", "internal/bytealg.IndexByteString", "internal/bytealg.IndexString"], unfollowed := true, recurses := true, named := ["unicode/utf8.first", "unicode/utf8.acceptRanges", "internal/bytealg.MaxLen"], apart := false, laid := [("unicode/utf8.acceptRanges", laid_unicode_utf8_acceptRanges), ("unicode/utf8.first", laid_unicode_utf8_first)], narrowed := true }
def ApplyTwiceUptoSaid : Prop := applyTwiceUptoRow.holds Tryd.pinned (OpenSpec.upto applyTwiceSpec)

/-- 'gaolerlaw03.ApplyParts', WHERE WHAT IT READS IS OF BULK AT MOST 1048576: true; the input reads as it did. -/
def applyPartsUptoRow : OpenClaim := { program := "ytlohbepfecahdaadoor", sum := "d7c71ce598dd092d71cfc2338bb1f7145d4c1b7d0c98e167310fb6313ef19672", func := "gaoler/gaolerlaw03.ApplyParts", spec := "applyParts", inPlace := ["internal/bytealg.CountString", "internal/bytealg.IndexByteString", "internal/bytealg.IndexString"], unfollowed := true, recurses := true, named := ["unicode/utf8.first", "unicode/utf8.acceptRanges", "internal/bytealg.MaxLen"], apart := false, laid := [("unicode/utf8.acceptRanges", laid_unicode_utf8_acceptRanges), ("unicode/utf8.first", laid_unicode_utf8_first)], narrowed := true }
def ApplyPartsUptoSaid : Prop := applyPartsUptoRow.holds Tryd.pinned (OpenSpec.upto applyPartsSpec)

/-- 'gaolerlaw03.ApplyCopies', WHERE WHAT IT READS IS OF BULK AT MOST 1048576: true; the input reads as it did. -/
def applyCopiesUptoRow : OpenClaim := { program := "ytlohbepfecahdaadoor", sum := "d7c71ce598dd092d71cfc2338bb1f7145d4c1b7d0c98e167310fb6313ef19672", func := "gaoler/gaolerlaw03.ApplyCopies", spec := "applyCopies", inPlace := ["internal/bytealg.CountString", "internal/bytealg.IndexByteString", "internal/bytealg.IndexString"], unfollowed := true, recurses := true, named := ["unicode/utf8.first", "unicode/utf8.acceptRanges", "internal/bytealg.MaxLen"], apart := false, laid := [("unicode/utf8.acceptRanges", laid_unicode_utf8_acceptRanges), ("unicode/utf8.first", laid_unicode_utf8_first)], narrowed := true }
def ApplyCopiesUptoSaid : Prop := applyCopiesUptoRow.holds Tryd.pinned (OpenSpec.upto applyCopiesSpec)

end Rows
end Go.Proofs.YtlohbepfecahdaaDoor
