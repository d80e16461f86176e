-- Written by wip/tools/myprint.py, a session's own driver of the kit's printer.
import Derived.Test.YtkibigbjgohdkaaDoorProg
import Derived.Below
import Derived.Deep.Draws
import Derived.Deep.AppendLies
import Derived.Maps.AppendAt
import Derived.OwnWalk
import Derived.Laws.BytesArg
import Derived.Laws.MakeOwn
import Derived.Laws.OwnMore
import Derived.Deep.OwnRows
import Derived.Tactics
import Derived.Lib.ConvBytes
import Derived.Laws.Slices
import Derived.WalkKit
import Derived.KernelRfl
import Derived.RowKit3
import Derived.Deep.LoopGhost
import Derived.Deep.QuietTactic
import Derived.BigQuiet
import Derived.WideLaws
import Derived.Deep.DeepCutAuto
import Derived.Deep.CutBlock
import Derived.Deep.RegionHeld3
import Derived.Laws.Rows
import Derived.Lib.AppendStr
import Derived.ArgAppend
import Derived.Laws.IdiomCopy
import Derived.OrdersHeld
import Derived.Laws.BitsLemmas
import Derived.RowKit
import Derived.Test.YtkibigbjgohdkaaDoorC
import Derived.Test.YtkibigbjgohdkaaDoorShelf
import Derived.Test.YtkibigbjgohdkaaDoorD
import Derived.Test.YtkibigbjgohdkaaDoorWWords
import Derived.Test.YtkibigbjgohdkaaDoorWLast
import Derived.Test.YtkibigbjgohdkaaDoorWTab
import Derived.Test.YtkibigbjgohdkaaDoorWFour
import Derived.Test.YtkibigbjgohdkaaDoorWQPut
import Derived.Test.YtkibigbjgohdkaaDoorWApart
import Derived.Test.YtkibigbjgohdkaaDoorWArr
import Derived.Test.YtkibigbjgohdkaaDoorWZeros
import Derived.Test.YtkibigbjgohdkaaDoorWFoot
import Derived.Test.YtkibigbjgohdkaaDoorWKept
import Derived.Test.YtkibigbjgohdkaaDoorWShare
import Derived.Test.YtkibigbjgohdkaaDoorWN
import Derived.Test.YtkibigbjgohdkaaDoorWFootNe
import Derived.Test.YtkibigbjgohdkaaDoorWAt
import Derived.Test.YtkibigbjgohdkaaDoorWEqStruct
import Derived.Test.YtkibigbjgohdkaaDoorWRepsOne
import Derived.Test.YtkibigbjgohdkaaDoorWInv
import Derived.Test.YtkibigbjgohdkaaDoorWInvWords
import Derived.Test.YtkibigbjgohdkaaDoorWGuard
import Derived.Test.YtkibigbjgohdkaaDoorWNEv
import Derived.Test.YtkibigbjgohdkaaDoorWMore
namespace Go.Proofs.YtkibigbjgohdkaaDoor.S
open Go.RowKit Go.Proofs.YtkibigbjgohdkaaDoorW.PrintWords Go.Proofs.YtkibigbjgohdkaaDoorW.PrintLast Go.Proofs.YtkibigbjgohdkaaDoorW.PrintMore
attribute [local go_sem] max2_int min2_int max_two min_two max_three min_three max_four min_four   -- for this text's walks alone
set_option linter.unusedVariables false
set_option linter.unusedSimpArgs false



def errW : Option Int → Value
  | none => .nilIface
  | some c => .iface 0 (.int .i64 c)
theorem errW_none : errW none = .nilIface := rfl
theorem errW_some (c : Int) : errW (some c) = .iface 0 (.int .i64 c) := rfl

theorem info9 : (Tryd.prog.info? 9).map (fun i => (i.zero, i.size, i.bytes)) = some (some (.string ⟨#[]⟩), 1, 16) := by kernel_rfl
-- the values' own types

end Go.Proofs.YtkibigbjgohdkaaDoor.S
