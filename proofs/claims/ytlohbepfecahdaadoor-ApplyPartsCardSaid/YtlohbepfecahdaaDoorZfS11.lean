-- Written by wip/tools/myprint.py, a session's own driver of the kit's printer.
import Derived.ArgAppend
import Derived.Below
import Derived.BigQuiet
import Derived.Deep.AppendLies
import Derived.Deep.CutBlock
import Derived.Deep.DeepCutAuto
import Derived.Deep.Draws
import Derived.Deep.LoopGhost
import Derived.Deep.OwnRows
import Derived.Deep.QuietTactic
import Derived.Deep.RegionHeld3
import Derived.Handy
import Derived.KernelRfl
import Derived.Laws.BitsAllLaws
import Derived.Laws.BitsLemmas
import Derived.Laws.BytesArg
import Derived.Laws.IdiomCopy
import Derived.Laws.MakeOwn
import Derived.Laws.OwnMore
import Derived.Laws.RangeAny
import Derived.Laws.Rows
import Derived.Laws.Slices
import Derived.Laws.StructEq
import Derived.Lib.AppendStr
import Derived.Lib.ConvBytes
import Derived.Lib.FieldsP
import Derived.Lib.Hide
import Derived.Lib.IndexAny
import Derived.Lib.OthersKept
import Derived.Lib.SlBytesConst
import Derived.Lib.SpaceUEq
import Derived.Maps.AppendAt
import Derived.OneCell
import Derived.OrdersHeld
import Derived.OwnWalk
import Derived.RowKit
import Derived.RowKit3
import Derived.Shelf.LaysM
import Derived.Shelf.Small.Strs
import Derived.Shelf.Small.Utf8
import Derived.Shelf.Strings.Builder1
import Derived.Shelf.Strings.Builder2
import Derived.Shelf.Strings.BuilderF
import Derived.Shelf.Strings.BuilderK
import Derived.Shelf.Strings.Count
import Derived.Shelf.Strings.OnBuilder
import Derived.Shelf.Strings.Runes
import Derived.Shelf.Strings.Search1
import Derived.Shelf.Strings.Search2
import Derived.Shelf.Strings.Search3
import Derived.Shelf.Strings.Shaped
import Derived.Shelf.Strings.Split
import Derived.Shelf.Strings.SplitShaped
import Derived.Shelf.Unicode.DecodeSlow
import Derived.Tactics
import Derived.Test.YtlohbepfecahdaaDoorProg
import Derived.WalkKit
import Derived.WideLaws
import Derived.Test.YtlohbepfecahdaaDoorZfWWords
import Derived.Test.YtlohbepfecahdaaDoorZfWLast
import Derived.Test.YtlohbepfecahdaaDoorZfWApart
import Derived.Test.YtlohbepfecahdaaDoorZfWFoot
import Derived.Test.YtlohbepfecahdaaDoorZfWShare
import Derived.Test.YtlohbepfecahdaaDoorZfWN
import Derived.Test.YtlohbepfecahdaaDoorZfWNEv
import Derived.Test.YtlohbepfecahdaaDoorZfWMore
import Derived.Test.YtlohbepfecahdaaDoorZfB
import Derived.Test.YtlohbepfecahdaaDoorZfC
import Derived.Test.YtlohbepfecahdaaDoorZfShelf
import Derived.Test.YtlohbepfecahdaaDoorZfD
import Derived.Test.YtlohbepfecahdaaDoorZfWTab
import Derived.Test.YtlohbepfecahdaaDoorZfWEqStruct
import Derived.Test.YtlohbepfecahdaaDoorZfWRepsOne
import Derived.Test.YtlohbepfecahdaaDoorZfWGuard
import Derived.Test.YtlohbepfecahdaaDoorZfS0
import Derived.Test.YtlohbepfecahdaaDoorZfS6
namespace Go.Proofs.YtlohbepfecahdaaDoor.S
open Go.RowKit Go.Proofs.YtlohbepfecahdaaDoorW.PrintWords Go.Proofs.YtlohbepfecahdaaDoorW.PrintLast Go.Proofs.YtlohbepfecahdaaDoorW.PrintMore
set_option linter.unusedVariables false
set_option linter.unusedSimpArgs false
/-! ### gaolerref02_Right: function 20 -/
mutual
def gaolerref02_Right.l0 : Nat → List (S72) → Int → Option (Bool)
  | 0, _, _ => none
  | k + 1, x0, x3 => if x3 < (x0.length : Int) then (if 0 ≤ x3 then (if ((rd_T72 x0 x3).f0) < 0 then (gaolerref02_Right.j1 k x0 x3 true) else (if ((rd_T72 x0 x3).f0) > 7 then (gaolerref02_Right.j1 k x0 x3 true) else (gaolerref02_Right.j1 k x0 x3 ((((rd_T72 x0 x3).f1).length : Int) == 0)))) else (none)) else (some (decide ((x0.length : Int) > 0)))
def gaolerref02_Right.j1 : Nat → List (S72) → Int → Bool → Option (Bool)
  | 0, _, _, _ => none
  | k + 1, x0, x3, x34 => if x34 = true then (some false) else (gaolerref02_Right.l1 k x0 x3 0)
def gaolerref02_Right.l1 : Nat → List (S72) → Int → Int → Option (Bool)
  | 0, _, _, _ => none
  | k + 1, x0, x3, x4 => if 0 ≤ x3 then (if x3 < (x0.length : Int) then (if x4 < (((rd_T72 x0 x3).f1).length : Int) then (if 0 ≤ x4 then ((gaolerref02_Place.f k (⟨#[43, 45, 61]⟩ : ByteArray) ((rd_T75 ((rd_T72 x0 x3).f1) x4).f0)).bind fun t225 => (if t225 < 0 then (some false) else (if ((rd_T75 ((rd_T72 x0 x3).f1) x4).f1) < 0 then (some false) else (if ((rd_T75 ((rd_T72 x0 x3).f1) x4).f1) > 63 then (some false) else (if ((rd_T75 ((rd_T72 x0 x3).f1) x4).f2) < 0 then (some false) else (if ((rd_T75 ((rd_T72 x0 x3).f1) x4).f2) > 3 then (some false) else (if ((rd_T75 ((rd_T72 x0 x3).f1) x4).f1) > 0 then (if ((rd_T75 ((rd_T72 x0 x3).f1) x4).f2) > 0 then (some false) else (gaolerref02_Right.l1 k x0 x3 (wrap64 (x4 + 1)))) else (gaolerref02_Right.l1 k x0 x3 (wrap64 (x4 + 1)))))))))) else (none)) else (gaolerref02_Right.l0 k x0 (wrap64 (x3 + 1)))) else (none)) else (none)
end
def gaolerref02_Right.f (k : Nat) (l0 : List (S72)) : Option (Bool) := gaolerref02_Right.l0 k l0 0
end Go.Proofs.YtlohbepfecahdaaDoor.S
