/-
  DERIVED. GIVEN WITH THE SEED: THE CARDS: each row of YtlohbepfecahdaaDoorRows.lean that lists a variable, with what it lists TIED to the program's text (the seventh form; the later family's looks); each row that meets fmt, with fmt's text TOLD by the authors' own Lean function (tested against real Go, not proved from fmt's source: count such statements apart). THE CARD IS WHAT COUNTS. Prove the row's statement (the work); the ties are given (YtlohbepfecahdaaDoorTie.lean); close each card by the builder's one call (the guide's Derived/Test/ToyasCard.lean, 'card_holds'). Laid BY PROGRAM, IN A SANDBOX (cutbox-door.mjs). By AI agents, Wed Nov 11 2026. No macro, syntax, notation, axiom, sorry.
-/
import Derived.Test.YtlohbepfecahdaaDoorRows
import GoSem.ClaimSeven
namespace Go.Proofs.YtlohbepfecahdaaDoor
namespace Rows

/-- THE TIED CARD OF 'gaolerlaw02.ClauseParse'. -/
def clauseParseCard : Claim7 := { stood := { row := clauseParseRow, standIns := [], harness := (true, "bec6a30a50056df8173f05122c6d42289dc79e4931f23a7228cf8424b86c3877"), looks := false }, kinds := [], alts := [], laidByText := true, laidKinds := [.data, .pinned], laidTests := true, laidLooks := .later }
def ClauseParseCardSaid : Prop := Claim7.holds Tryd.pinned (.plain (OpenSpec.ofChange clauseParseSpec)) clauseParseCard

/-- THE TIED CARD OF 'gaolerlaw02.ClauseShow'. -/
def clauseShowCard : Claim7 := { stood := { row := clauseShowRow, standIns := [], harness := (true, "bec6a30a50056df8173f05122c6d42289dc79e4931f23a7228cf8424b86c3877"), looks := false }, kinds := [], alts := [], laidByText := true, laidKinds := [.data, .pinned], laidTests := true, laidLooks := .later }
def ClauseShowCardSaid : Prop := Claim7.holds Tryd.pinned (.plain (OpenSpec.ofChange clauseShowSpec)) clauseShowCard

/-- THE TIED CARD OF 'gaolerlaw02.ClauseBack'. -/
def clauseBackCard : Claim7 := { stood := { row := clauseBackRow, standIns := [], harness := (true, "bec6a30a50056df8173f05122c6d42289dc79e4931f23a7228cf8424b86c3877"), looks := false }, kinds := [], alts := [], laidByText := true, laidKinds := [.data, .pinned], laidTests := true, laidLooks := .later }
def ClauseBackCardSaid : Prop := Claim7.holds Tryd.pinned (.plain (OpenSpec.ofChange clauseBackSpec)) clauseBackCard

/-- THE TIED CARD OF 'gaolerlaw02.ClauseJoin'. -/
def clauseJoinCard : Claim7 := { stood := { row := clauseJoinRow, standIns := [], harness := (true, "bec6a30a50056df8173f05122c6d42289dc79e4931f23a7228cf8424b86c3877"), looks := false }, kinds := [], alts := [], laidByText := true, laidKinds := [.data, .pinned], laidTests := true, laidLooks := .later }
def ClauseJoinCardSaid : Prop := Claim7.holds Tryd.pinned (.plain (OpenSpec.ofChange clauseJoinSpec)) clauseJoinCard

/-- THE TIED CARD OF 'gaolerlaw02.ClauseTurned'. -/
def clauseTurnedCard : Claim7 := { stood := { row := clauseTurnedRow, standIns := [], harness := (true, "bec6a30a50056df8173f05122c6d42289dc79e4931f23a7228cf8424b86c3877"), looks := false }, kinds := [], alts := [], laidByText := true, laidKinds := [.data, .pinned], laidTests := true, laidLooks := .later }
def ClauseTurnedCardSaid : Prop := Claim7.holds Tryd.pinned (.plain (OpenSpec.ofChange clauseTurnedSpec)) clauseTurnedCard

/-- THE TIED CARD OF 'gaolerlaw03.ApplyOf'. -/
def applyOfCard : Claim7 := { stood := { row := applyOfRow, standIns := [], harness := (true, "bec6a30a50056df8173f05122c6d42289dc79e4931f23a7228cf8424b86c3877"), looks := false }, kinds := [], alts := [], laidByText := true, laidKinds := [.data, .pinned], laidTests := true, laidLooks := .later }
def ApplyOfCardSaid : Prop := Claim7.holds Tryd.pinned (.plain (OpenSpec.ofChange applyOfSpec)) applyOfCard

/-- THE TIED CARD OF 'gaolerlaw03.ApplyClauses'. -/
def applyClausesCard : Claim7 := { stood := { row := applyClausesRow, standIns := [], harness := (true, "bec6a30a50056df8173f05122c6d42289dc79e4931f23a7228cf8424b86c3877"), looks := false }, kinds := [], alts := [], laidByText := true, laidKinds := [.data, .pinned], laidTests := true, laidLooks := .later }
def ApplyClausesCardSaid : Prop := Claim7.holds Tryd.pinned (.plain (OpenSpec.ofChange applyClausesSpec)) applyClausesCard

/-- THE TIED CARD OF 'gaolerlaw03.ApplyStays'. -/
def applyStaysCard : Claim7 := { stood := { row := applyStaysRow, standIns := [], harness := (true, "bec6a30a50056df8173f05122c6d42289dc79e4931f23a7228cf8424b86c3877"), looks := false }, kinds := [], alts := [], laidByText := true, laidKinds := [.data, .pinned], laidTests := true, laidLooks := .later }
def ApplyStaysCardSaid : Prop := Claim7.holds Tryd.pinned (.plain (OpenSpec.ofChange applyStaysSpec)) applyStaysCard

/-- THE TIED CARD OF 'gaolerlaw03.ApplyTwice'. -/
def applyTwiceCard : Claim7 := { stood := { row := applyTwiceRow, standIns := [], harness := (true, "bec6a30a50056df8173f05122c6d42289dc79e4931f23a7228cf8424b86c3877"), looks := false }, kinds := [], alts := [], laidByText := true, laidKinds := [.data, .pinned], laidTests := true, laidLooks := .later }
def ApplyTwiceCardSaid : Prop := Claim7.holds Tryd.pinned (.plain (OpenSpec.ofChange applyTwiceSpec)) applyTwiceCard

/-- THE TIED CARD OF 'gaolerlaw03.ApplyParts'. -/
def applyPartsCard : Claim7 := { stood := { row := applyPartsRow, standIns := [], harness := (true, "bec6a30a50056df8173f05122c6d42289dc79e4931f23a7228cf8424b86c3877"), looks := false }, kinds := [], alts := [], laidByText := true, laidKinds := [.data, .pinned], laidTests := true, laidLooks := .later }
def ApplyPartsCardSaid : Prop := Claim7.holds Tryd.pinned (.plain (OpenSpec.ofChange applyPartsSpec)) applyPartsCard

/-- THE TIED CARD OF 'gaolerlaw03.ApplyCopies'. -/
def applyCopiesCard : Claim7 := { stood := { row := applyCopiesRow, standIns := [], harness := (true, "bec6a30a50056df8173f05122c6d42289dc79e4931f23a7228cf8424b86c3877"), looks := false }, kinds := [], alts := [], laidByText := true, laidKinds := [.data, .pinned], laidTests := true, laidLooks := .later }
def ApplyCopiesCardSaid : Prop := Claim7.holds Tryd.pinned (.plain (OpenSpec.ofChange applyCopiesSpec)) applyCopiesCard

/-- THE SECOND FORM's CARD OF 'gaolerlaw02.ClauseParse'. -/
def clauseParseUptoCard : Claim7 := { stood := { row := clauseParseUptoRow, standIns := [], harness := (true, "bec6a30a50056df8173f05122c6d42289dc79e4931f23a7228cf8424b86c3877"), looks := false }, kinds := [], alts := [], laidByText := true, laidKinds := [.data, .pinned], laidTests := true, laidLooks := .later }
def ClauseParseUptoCardSaid : Prop := Claim7.holds Tryd.pinned (.plain (OpenSpec.upto clauseParseSpec)) clauseParseUptoCard

/-- THE SECOND FORM's CARD OF 'gaolerlaw02.ClauseShow'. -/
def clauseShowUptoCard : Claim7 := { stood := { row := clauseShowUptoRow, standIns := [], harness := (true, "bec6a30a50056df8173f05122c6d42289dc79e4931f23a7228cf8424b86c3877"), looks := false }, kinds := [], alts := [], laidByText := true, laidKinds := [.data, .pinned], laidTests := true, laidLooks := .later }
def ClauseShowUptoCardSaid : Prop := Claim7.holds Tryd.pinned (.plain (OpenSpec.upto clauseShowSpec)) clauseShowUptoCard

/-- THE SECOND FORM's CARD OF 'gaolerlaw02.ClauseBack'. -/
def clauseBackUptoCard : Claim7 := { stood := { row := clauseBackUptoRow, standIns := [], harness := (true, "bec6a30a50056df8173f05122c6d42289dc79e4931f23a7228cf8424b86c3877"), looks := false }, kinds := [], alts := [], laidByText := true, laidKinds := [.data, .pinned], laidTests := true, laidLooks := .later }
def ClauseBackUptoCardSaid : Prop := Claim7.holds Tryd.pinned (.plain (OpenSpec.upto clauseBackSpec)) clauseBackUptoCard

/-- THE SECOND FORM's CARD OF 'gaolerlaw02.ClauseJoin'. -/
def clauseJoinUptoCard : Claim7 := { stood := { row := clauseJoinUptoRow, standIns := [], harness := (true, "bec6a30a50056df8173f05122c6d42289dc79e4931f23a7228cf8424b86c3877"), looks := false }, kinds := [], alts := [], laidByText := true, laidKinds := [.data, .pinned], laidTests := true, laidLooks := .later }
def ClauseJoinUptoCardSaid : Prop := Claim7.holds Tryd.pinned (.plain (OpenSpec.upto clauseJoinSpec)) clauseJoinUptoCard

/-- THE SECOND FORM's CARD OF 'gaolerlaw02.ClauseTurned'. -/
def clauseTurnedUptoCard : Claim7 := { stood := { row := clauseTurnedUptoRow, standIns := [], harness := (true, "bec6a30a50056df8173f05122c6d42289dc79e4931f23a7228cf8424b86c3877"), looks := false }, kinds := [], alts := [], laidByText := true, laidKinds := [.data, .pinned], laidTests := true, laidLooks := .later }
def ClauseTurnedUptoCardSaid : Prop := Claim7.holds Tryd.pinned (.plain (OpenSpec.upto clauseTurnedSpec)) clauseTurnedUptoCard

/-- THE SECOND FORM's CARD OF 'gaolerlaw03.ApplyOf'. -/
def applyOfUptoCard : Claim7 := { stood := { row := applyOfUptoRow, standIns := [], harness := (true, "bec6a30a50056df8173f05122c6d42289dc79e4931f23a7228cf8424b86c3877"), looks := false }, kinds := [], alts := [], laidByText := true, laidKinds := [.data, .pinned], laidTests := true, laidLooks := .later }
def ApplyOfUptoCardSaid : Prop := Claim7.holds Tryd.pinned (.plain (OpenSpec.upto applyOfSpec)) applyOfUptoCard

/-- THE SECOND FORM's CARD OF 'gaolerlaw03.ApplyClauses'. -/
def applyClausesUptoCard : Claim7 := { stood := { row := applyClausesUptoRow, standIns := [], harness := (true, "bec6a30a50056df8173f05122c6d42289dc79e4931f23a7228cf8424b86c3877"), looks := false }, kinds := [], alts := [], laidByText := true, laidKinds := [.data, .pinned], laidTests := true, laidLooks := .later }
def ApplyClausesUptoCardSaid : Prop := Claim7.holds Tryd.pinned (.plain (OpenSpec.upto applyClausesSpec)) applyClausesUptoCard

/-- THE SECOND FORM's CARD OF 'gaolerlaw03.ApplyStays'. -/
def applyStaysUptoCard : Claim7 := { stood := { row := applyStaysUptoRow, standIns := [], harness := (true, "bec6a30a50056df8173f05122c6d42289dc79e4931f23a7228cf8424b86c3877"), looks := false }, kinds := [], alts := [], laidByText := true, laidKinds := [.data, .pinned], laidTests := true, laidLooks := .later }
def ApplyStaysUptoCardSaid : Prop := Claim7.holds Tryd.pinned (.plain (OpenSpec.upto applyStaysSpec)) applyStaysUptoCard

/-- THE SECOND FORM's CARD OF 'gaolerlaw03.ApplyTwice'. -/
def applyTwiceUptoCard : Claim7 := { stood := { row := applyTwiceUptoRow, standIns := [], harness := (true, "bec6a30a50056df8173f05122c6d42289dc79e4931f23a7228cf8424b86c3877"), looks := false }, kinds := [], alts := [], laidByText := true, laidKinds := [.data, .pinned], laidTests := true, laidLooks := .later }
def ApplyTwiceUptoCardSaid : Prop := Claim7.holds Tryd.pinned (.plain (OpenSpec.upto applyTwiceSpec)) applyTwiceUptoCard

/-- THE SECOND FORM's CARD OF 'gaolerlaw03.ApplyParts'. -/
def applyPartsUptoCard : Claim7 := { stood := { row := applyPartsUptoRow, standIns := [], harness := (true, "bec6a30a50056df8173f05122c6d42289dc79e4931f23a7228cf8424b86c3877"), looks := false }, kinds := [], alts := [], laidByText := true, laidKinds := [.data, .pinned], laidTests := true, laidLooks := .later }
def ApplyPartsUptoCardSaid : Prop := Claim7.holds Tryd.pinned (.plain (OpenSpec.upto applyPartsSpec)) applyPartsUptoCard

/-- THE SECOND FORM's CARD OF 'gaolerlaw03.ApplyCopies'. -/
def applyCopiesUptoCard : Claim7 := { stood := { row := applyCopiesUptoRow, standIns := [], harness := (true, "bec6a30a50056df8173f05122c6d42289dc79e4931f23a7228cf8424b86c3877"), looks := false }, kinds := [], alts := [], laidByText := true, laidKinds := [.data, .pinned], laidTests := true, laidLooks := .later }
def ApplyCopiesUptoCardSaid : Prop := Claim7.holds Tryd.pinned (.plain (OpenSpec.upto applyCopiesSpec)) applyCopiesUptoCard
end Rows
end Go.Proofs.YtlohbepfecahdaaDoor
