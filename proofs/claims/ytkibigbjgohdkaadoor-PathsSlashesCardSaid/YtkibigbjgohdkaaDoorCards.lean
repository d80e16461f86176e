/-
  DERIVED. GIVEN WITH THE SEED: THE CARDS: each row of YtkibigbjgohdkaaDoorRows.lean that lists a variable, with what it lists TIED to the program's text (the seventh form; the later family's looks); each row that meets fmt, with fmt's text TOLD by the authors' own Lean function (tested against real Go, not proved from fmt's source: count such statements apart). THE CARD IS WHAT COUNTS. Prove the row's statement (the work); the ties are given (YtkibigbjgohdkaaDoorTie.lean); close each card by the builder's one call (the guide's Derived/Test/ToyasCard.lean, 'card_holds'). Laid BY PROGRAM, IN A SANDBOX (cutbox-door.mjs). By AI agents, Wed Nov 11 2026. No macro, syntax, notation, axiom, sorry.
-/
import Derived.Test.YtkibigbjgohdkaaDoorRows
import GoSem.ClaimSeven
namespace Go.Proofs.YtkibigbjgohdkaaDoor
namespace Rows

/-- THE TIED CARD OF 'gaolerlaw07.PathsSplit'. -/
def pathsSplitCard : Claim7 := { stood := { row := pathsSplitRow, standIns := [], harness := (true, "c822011322ec5010471e4a9eb03fcb876eb971ccb359220582cd9c77d67b8675"), looks := false }, kinds := [], alts := [], laidByText := true, laidKinds := [.data, .pinned], laidTests := true, laidLooks := .later }
def PathsSplitCardSaid : Prop := Claim7.holds Tryd.pinned (.plain (OpenSpec.ofChange pathsSplitSpec)) pathsSplitCard

/-- THE TIED CARD OF 'gaolerlaw07.PathsParts'. -/
def pathsPartsCard : Claim7 := { stood := { row := pathsPartsRow, standIns := [], harness := (true, "c822011322ec5010471e4a9eb03fcb876eb971ccb359220582cd9c77d67b8675"), looks := false }, kinds := [], alts := [], laidByText := true, laidKinds := [.data, .pinned], laidTests := true, laidLooks := .later }
def PathsPartsCardSaid : Prop := Claim7.holds Tryd.pinned (.plain (OpenSpec.ofChange pathsPartsSpec)) pathsPartsCard

/-- THE TIED CARD OF 'gaolerlaw07.PathsJoin'. -/
def pathsJoinCard : Claim7 := { stood := { row := pathsJoinRow, standIns := [], harness := (true, "c822011322ec5010471e4a9eb03fcb876eb971ccb359220582cd9c77d67b8675"), looks := false }, kinds := [], alts := [], laidByText := true, laidKinds := [.data, .pinned], laidTests := true, laidLooks := .later }
def PathsJoinCardSaid : Prop := Claim7.holds Tryd.pinned (.plain (OpenSpec.ofChange pathsJoinSpec)) pathsJoinCard

/-- THE TIED CARD OF 'gaolerlaw07.PathsSlashes'. -/
def pathsSlashesCard : Claim7 := { stood := { row := pathsSlashesRow, standIns := [], harness := (true, "c822011322ec5010471e4a9eb03fcb876eb971ccb359220582cd9c77d67b8675"), looks := false }, kinds := [], alts := [], laidByText := true, laidKinds := [.data, .pinned], laidTests := true, laidLooks := .later }
def PathsSlashesCardSaid : Prop := Claim7.holds Tryd.pinned (.plain (OpenSpec.ofChange pathsSlashesSpec)) pathsSlashesCard

/-- THE TIED CARD OF 'gaolerlaw07.PathsSteps'. -/
def pathsStepsCard : Claim7 := { stood := { row := pathsStepsRow, standIns := [], harness := (true, "c822011322ec5010471e4a9eb03fcb876eb971ccb359220582cd9c77d67b8675"), looks := false }, kinds := [], alts := [], laidByText := true, laidKinds := [.data, .pinned], laidTests := true, laidLooks := .later }
def PathsStepsCardSaid : Prop := Claim7.holds Tryd.pinned (.plain (OpenSpec.ofChange pathsStepsSpec)) pathsStepsCard

/-- THE SECOND FORM's CARD OF 'gaolerlaw07.PathsSplit'. -/
def pathsSplitUptoCard : Claim7 := { stood := { row := pathsSplitUptoRow, standIns := [], harness := (true, "c822011322ec5010471e4a9eb03fcb876eb971ccb359220582cd9c77d67b8675"), looks := false }, kinds := [], alts := [], laidByText := true, laidKinds := [.data, .pinned], laidTests := true, laidLooks := .later }
def PathsSplitUptoCardSaid : Prop := Claim7.holds Tryd.pinned (.plain (OpenSpec.upto pathsSplitSpec)) pathsSplitUptoCard

/-- THE SECOND FORM's CARD OF 'gaolerlaw07.PathsParts'. -/
def pathsPartsUptoCard : Claim7 := { stood := { row := pathsPartsUptoRow, standIns := [], harness := (true, "c822011322ec5010471e4a9eb03fcb876eb971ccb359220582cd9c77d67b8675"), looks := false }, kinds := [], alts := [], laidByText := true, laidKinds := [.data, .pinned], laidTests := true, laidLooks := .later }
def PathsPartsUptoCardSaid : Prop := Claim7.holds Tryd.pinned (.plain (OpenSpec.upto pathsPartsSpec)) pathsPartsUptoCard

/-- THE SECOND FORM's CARD OF 'gaolerlaw07.PathsJoin'. -/
def pathsJoinUptoCard : Claim7 := { stood := { row := pathsJoinUptoRow, standIns := [], harness := (true, "c822011322ec5010471e4a9eb03fcb876eb971ccb359220582cd9c77d67b8675"), looks := false }, kinds := [], alts := [], laidByText := true, laidKinds := [.data, .pinned], laidTests := true, laidLooks := .later }
def PathsJoinUptoCardSaid : Prop := Claim7.holds Tryd.pinned (.plain (OpenSpec.upto pathsJoinSpec)) pathsJoinUptoCard

/-- THE SECOND FORM's CARD OF 'gaolerlaw07.PathsSlashes'. -/
def pathsSlashesUptoCard : Claim7 := { stood := { row := pathsSlashesUptoRow, standIns := [], harness := (true, "c822011322ec5010471e4a9eb03fcb876eb971ccb359220582cd9c77d67b8675"), looks := false }, kinds := [], alts := [], laidByText := true, laidKinds := [.data, .pinned], laidTests := true, laidLooks := .later }
def PathsSlashesUptoCardSaid : Prop := Claim7.holds Tryd.pinned (.plain (OpenSpec.upto pathsSlashesSpec)) pathsSlashesUptoCard

/-- THE SECOND FORM's CARD OF 'gaolerlaw07.PathsSteps'. -/
def pathsStepsUptoCard : Claim7 := { stood := { row := pathsStepsUptoRow, standIns := [], harness := (true, "c822011322ec5010471e4a9eb03fcb876eb971ccb359220582cd9c77d67b8675"), looks := false }, kinds := [], alts := [], laidByText := true, laidKinds := [.data, .pinned], laidTests := true, laidLooks := .later }
def PathsStepsUptoCardSaid : Prop := Claim7.holds Tryd.pinned (.plain (OpenSpec.upto pathsStepsSpec)) pathsStepsUptoCard
end Rows
end Go.Proofs.YtkibigbjgohdkaaDoor
