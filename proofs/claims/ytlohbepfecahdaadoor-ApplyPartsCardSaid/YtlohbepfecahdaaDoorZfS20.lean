-- Written by wip/tools/myprint.py, a session's own driver of the kit's printer.
import Derived.ArgAppend
import Derived.Below
import Derived.BigQuiet
import Derived.Deep.AppendLies
import Derived.Deep.CutBlock
import Derived.Deep.DeepCutAuto
import Derived.Deep.Draws
import Derived.Deep.LoopGhost
import Derived.Deep.OwnRows
import Derived.Deep.QuietTactic
import Derived.Deep.RegionHeld3
import Derived.Handy
import Derived.KernelRfl
import Derived.Laws.BitsAllLaws
import Derived.Laws.BitsLemmas
import Derived.Laws.BytesArg
import Derived.Laws.IdiomCopy
import Derived.Laws.MakeOwn
import Derived.Laws.OwnMore
import Derived.Laws.RangeAny
import Derived.Laws.Rows
import Derived.Laws.Slices
import Derived.Laws.StructEq
import Derived.Lib.AppendStr
import Derived.Lib.ConvBytes
import Derived.Lib.FieldsP
import Derived.Lib.Hide
import Derived.Lib.IndexAny
import Derived.Lib.OthersKept
import Derived.Lib.SlBytesConst
import Derived.Lib.SpaceUEq
import Derived.Maps.AppendAt
import Derived.OneCell
import Derived.OrdersHeld
import Derived.OwnWalk
import Derived.RowKit
import Derived.RowKit3
import Derived.Shelf.LaysM
import Derived.Shelf.Small.Strs
import Derived.Shelf.Small.Utf8
import Derived.Shelf.Strings.Builder1
import Derived.Shelf.Strings.Builder2
import Derived.Shelf.Strings.BuilderF
import Derived.Shelf.Strings.BuilderK
import Derived.Shelf.Strings.Count
import Derived.Shelf.Strings.OnBuilder
import Derived.Shelf.Strings.Runes
import Derived.Shelf.Strings.Search1
import Derived.Shelf.Strings.Search2
import Derived.Shelf.Strings.Search3
import Derived.Shelf.Strings.Shaped
import Derived.Shelf.Strings.Split
import Derived.Shelf.Strings.SplitShaped
import Derived.Shelf.Unicode.DecodeSlow
import Derived.Tactics
import Derived.Test.YtlohbepfecahdaaDoorProg
import Derived.WalkKit
import Derived.WideLaws
import Derived.Test.YtlohbepfecahdaaDoorZfWWords
import Derived.Test.YtlohbepfecahdaaDoorZfWLast
import Derived.Test.YtlohbepfecahdaaDoorZfWApart
import Derived.Test.YtlohbepfecahdaaDoorZfWFoot
import Derived.Test.YtlohbepfecahdaaDoorZfWShare
import Derived.Test.YtlohbepfecahdaaDoorZfWN
import Derived.Test.YtlohbepfecahdaaDoorZfWNEv
import Derived.Test.YtlohbepfecahdaaDoorZfWMore
import Derived.Test.YtlohbepfecahdaaDoorZfB
import Derived.Test.YtlohbepfecahdaaDoorZfC
import Derived.Test.YtlohbepfecahdaaDoorZfShelf
import Derived.Test.YtlohbepfecahdaaDoorZfD
import Derived.Test.YtlohbepfecahdaaDoorZfWTab
import Derived.Test.YtlohbepfecahdaaDoorZfWEqStruct
import Derived.Test.YtlohbepfecahdaaDoorZfWRepsOne
import Derived.Test.YtlohbepfecahdaaDoorZfWGuard
import Derived.Test.YtlohbepfecahdaaDoorZfS0
import Derived.Test.YtlohbepfecahdaaDoorZfS18
import Derived.Test.YtlohbepfecahdaaDoorZfS11
import Derived.Test.YtlohbepfecahdaaDoorZfS19
namespace Go.Proofs.YtlohbepfecahdaaDoor.S
open Go.RowKit Go.Proofs.YtlohbepfecahdaaDoorW.PrintWords Go.Proofs.YtlohbepfecahdaaDoorW.PrintLast Go.Proofs.YtlohbepfecahdaaDoorW.PrintMore
set_option linter.unusedVariables false
set_option linter.unusedSimpArgs false
/-! ### gaolerref03_Apply: function 30 -/
mutual
def gaolerref03_Apply.l0 : Nat → List (S72) → Bool → Int → Int → Bool → Int → Option (Int)
  | 0, _, _, _, _, _, _ => none
  | k + 1, x0, x2, x3, x9, x10, x11 => if x11 < (x0.length : Int) then (gaolerref03_Apply.j1 k x0 x2 x3 x9 x10 x11 x10) else (gaolerref03_Apply.j1 k x0 x2 x3 x9 x10 x11 false)
def gaolerref03_Apply.j1 : Nat → List (S72) → Bool → Int → Int → Bool → Int → Bool → Option (Int)
  | 0, _, _, _, _, _, _, _ => none
  | k + 1, x0, x2, x3, x9, x10, x11, x23 => if x23 = true then (gaolerref03_Apply.l1 k x0 x2 x3 x9 x10 x11 0) else (some x9)
def gaolerref03_Apply.l1 : Nat → List (S72) → Bool → Int → Int → Bool → Int → Int → Option (Int)
  | 0, _, _, _, _, _, _, _ => none
  | k + 1, x0, x2, x3, x9, x10, x11, x12 => if 0 ≤ x11 then (if x11 < (x0.length : Int) then (if x12 < (((rd_T72 x0 x11).f1).length : Int) then (if 0 ≤ x12 then ((gaolerref03_act.f k ((rd_T75 ((rd_T72 x0 x11).f1) x12).f0) ((rd_T75 ((rd_T72 x0 x11).f1) x12).f1) ((rd_T75 ((rd_T72 x0 x11).f1) x12).f2) ((rd_T72 x0 x11).f0) x9 x2 x3).bind fun t391 => (gaolerref03_Apply.l1 k x0 x2 x3 t391 x10 x11 (wrap64 (x12 + 1)))) else (none)) else (gaolerref03_Apply.l0 k x0 x2 x3 x9 x10 (wrap64 (x11 + 1)))) else (none)) else (none)
end
def gaolerref03_Apply.f (k : Nat) (l0 : List (S72)) (a1 : Int) (a2 : Bool) (a3 : Int) : Option (Int) := (gaolerref01_Low.f a1).bind fun t385 => ((gaolerref02_Right.f k l0).bind fun t386 => (gaolerref03_Apply.l0 k l0 a2 a3 t385 t386 0))
/-! ### gaolerref03_Of: function 27 -/
def gaolerref03_Of.f (k : Nat) (a0_0 : Bool) (a0_1 : Int) (l0_2 : List (S72)) (a1 : Int) (a2 : Bool) (a3 : Int) : Option (Int) := if a0_0 = true then ((gaolerref01_Low.f a0_1).bind fun t393 => (some t393)) else ((gaolerref03_Apply.f k l0_2 a1 a2 a3).bind fun t394 => (some t394))
end Go.Proofs.YtlohbepfecahdaaDoor.S
