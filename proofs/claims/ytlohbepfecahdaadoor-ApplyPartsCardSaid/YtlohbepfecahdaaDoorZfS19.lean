-- Written by wip/tools/myprint.py, a session's own driver of the kit's printer.
import Derived.ArgAppend
import Derived.Below
import Derived.BigQuiet
import Derived.Deep.AppendLies
import Derived.Deep.CutBlock
import Derived.Deep.DeepCutAuto
import Derived.Deep.Draws
import Derived.Deep.LoopGhost
import Derived.Deep.OwnRows
import Derived.Deep.QuietTactic
import Derived.Deep.RegionHeld3
import Derived.Handy
import Derived.KernelRfl
import Derived.Laws.BitsAllLaws
import Derived.Laws.BitsLemmas
import Derived.Laws.BytesArg
import Derived.Laws.IdiomCopy
import Derived.Laws.MakeOwn
import Derived.Laws.OwnMore
import Derived.Laws.RangeAny
import Derived.Laws.Rows
import Derived.Laws.Slices
import Derived.Laws.StructEq
import Derived.Lib.AppendStr
import Derived.Lib.ConvBytes
import Derived.Lib.FieldsP
import Derived.Lib.Hide
import Derived.Lib.IndexAny
import Derived.Lib.OthersKept
import Derived.Lib.SlBytesConst
import Derived.Lib.SpaceUEq
import Derived.Maps.AppendAt
import Derived.OneCell
import Derived.OrdersHeld
import Derived.OwnWalk
import Derived.RowKit
import Derived.RowKit3
import Derived.Shelf.LaysM
import Derived.Shelf.Small.Strs
import Derived.Shelf.Small.Utf8
import Derived.Shelf.Strings.Builder1
import Derived.Shelf.Strings.Builder2
import Derived.Shelf.Strings.BuilderF
import Derived.Shelf.Strings.BuilderK
import Derived.Shelf.Strings.Count
import Derived.Shelf.Strings.OnBuilder
import Derived.Shelf.Strings.Runes
import Derived.Shelf.Strings.Search1
import Derived.Shelf.Strings.Search2
import Derived.Shelf.Strings.Search3
import Derived.Shelf.Strings.Shaped
import Derived.Shelf.Strings.Split
import Derived.Shelf.Strings.SplitShaped
import Derived.Shelf.Unicode.DecodeSlow
import Derived.Tactics
import Derived.Test.YtlohbepfecahdaaDoorProg
import Derived.WalkKit
import Derived.WideLaws
import Derived.Test.YtlohbepfecahdaaDoorZfWWords
import Derived.Test.YtlohbepfecahdaaDoorZfWLast
import Derived.Test.YtlohbepfecahdaaDoorZfWApart
import Derived.Test.YtlohbepfecahdaaDoorZfWFoot
import Derived.Test.YtlohbepfecahdaaDoorZfWShare
import Derived.Test.YtlohbepfecahdaaDoorZfWN
import Derived.Test.YtlohbepfecahdaaDoorZfWNEv
import Derived.Test.YtlohbepfecahdaaDoorZfWMore
import Derived.Test.YtlohbepfecahdaaDoorZfB
import Derived.Test.YtlohbepfecahdaaDoorZfC
import Derived.Test.YtlohbepfecahdaaDoorZfShelf
import Derived.Test.YtlohbepfecahdaaDoorZfD
import Derived.Test.YtlohbepfecahdaaDoorZfWTab
import Derived.Test.YtlohbepfecahdaaDoorZfWEqStruct
import Derived.Test.YtlohbepfecahdaaDoorZfWRepsOne
import Derived.Test.YtlohbepfecahdaaDoorZfWGuard
import Derived.Test.YtlohbepfecahdaaDoorZfS0
import Derived.Test.YtlohbepfecahdaaDoorZfS7
import Derived.Test.YtlohbepfecahdaaDoorZfS18
namespace Go.Proofs.YtlohbepfecahdaaDoor.S
open Go.RowKit Go.Proofs.YtlohbepfecahdaaDoorW.PrintWords Go.Proofs.YtlohbepfecahdaaDoorW.PrintLast Go.Proofs.YtlohbepfecahdaaDoorW.PrintMore
set_option linter.unusedVariables false
set_option linter.unusedSimpArgs false
/-! ### gaolerref03_act: function 48 -/
mutual
def gaolerref03_act.l0 : Nat → Int → Int → Bool → Int → Int → Int → Int → Int → Int → Option (Int)
  | 0, _, _, _, _, _, _, _, _, _ => none
  | k + 1, x1, x2, x3, x4, x11, x12, x379000, x379001, x379002 => if x12 < 12 then ((gaolerref01_Bit.f k x2 x12).bind fun t379 => ((gaolerref03_has.f k x1 x4 x12).bind fun t380 => (if t380 = true then ((gaolerref03_in.f k x379000 x379001 x379002 x2 x3 x12).bind fun t381 => (gaolerref03_act.j1 k x1 x2 x3 x4 x11 x12 t379 t380 t381 x379000 x379001 x379002)) else (gaolerref03_act.j1 k x1 x2 x3 x4 x11 x12 t379 t380 false x379000 x379001 x379002)))) else (some x11)
def gaolerref03_act.j1 : Nat → Int → Int → Bool → Int → Int → Int → Bool → Bool → Bool → Int → Int → Int → Option (Int)
  | 0, _, _, _, _, _, _, _, _, _, _, _, _ => none
  | k + 1, x1, x2, x3, x4, x11, x12, x13, x14, x15, x379000, x379001, x379002 => if x379000 = 43 then (if x13 = true then (gaolerref03_act.j2 k x1 x2 x3 x4 x11 x12 true x14 x15 x379000 x379001 x379002) else (gaolerref03_act.j2 k x1 x2 x3 x4 x11 x12 x15 x14 x15 x379000 x379001 x379002)) else (gaolerref03_act.j2 k x1 x2 x3 x4 x11 x12 x13 x14 x15 x379000 x379001 x379002)
def gaolerref03_act.j2 : Nat → Int → Int → Bool → Int → Int → Int → Bool → Bool → Bool → Int → Int → Int → Option (Int)
  | 0, _, _, _, _, _, _, _, _, _, _, _, _ => none
  | k + 1, x1, x2, x3, x4, x11, x12, x13, x14, x15, x379000, x379001, x379002 => if x379000 = 45 then (if x13 = true then (gaolerref03_act.j3 k x1 x2 x3 x4 x11 x12 (!x15) x14 x15 x379000 x379001 x379002) else (gaolerref03_act.j3 k x1 x2 x3 x4 x11 x12 false x14 x15 x379000 x379001 x379002)) else (gaolerref03_act.j3 k x1 x2 x3 x4 x11 x12 x13 x14 x15 x379000 x379001 x379002)
def gaolerref03_act.j3 : Nat → Int → Int → Bool → Int → Int → Int → Bool → Bool → Bool → Int → Int → Int → Option (Int)
  | 0, _, _, _, _, _, _, _, _, _, _, _, _ => none
  | k + 1, x1, x2, x3, x4, x11, x12, x13, x14, x15, x379000, x379001, x379002 => if x379000 = 61 then (if x15 = true then ((gaolerref02_Pow.f k x12).bind fun t382 => (gaolerref03_act.l0 k x1 x2 x3 x4 (wrap64 (x11 + t382)) (wrap64 (x12 + 1)) x379000 x379001 x379002)) else (if x13 = true then (if x14 = true then (gaolerref03_act.l0 k x1 x2 x3 x4 x11 (wrap64 (x12 + 1)) x379000 x379001 x379002) else (if x1 > 0 then ((gaolerref02_Pow.f k x12).bind fun t383 => (gaolerref03_act.l0 k x1 x2 x3 x4 (wrap64 (x11 + t383)) (wrap64 (x12 + 1)) x379000 x379001 x379002)) else (gaolerref03_act.l0 k x1 x2 x3 x4 x11 (wrap64 (x12 + 1)) x379000 x379001 x379002))) else (gaolerref03_act.l0 k x1 x2 x3 x4 x11 (wrap64 (x12 + 1)) x379000 x379001 x379002))) else (if x13 = true then ((gaolerref02_Pow.f k x12).bind fun t384 => (gaolerref03_act.l0 k x1 x2 x3 x4 (wrap64 (x11 + t384)) (wrap64 (x12 + 1)) x379000 x379001 x379002)) else (gaolerref03_act.l0 k x1 x2 x3 x4 x11 (wrap64 (x12 + 1)) x379000 x379001 x379002))
end
def gaolerref03_act.f (k : Nat) (a0_0 : Int) (a0_1 : Int) (a0_2 : Int) (a1 : Int) (a2 : Int) (a3 : Bool) (a4 : Int) : Option (Int) := gaolerref03_act.l0 k a1 a2 a3 a4 0 0 a0_0 a0_1 a0_2
end Go.Proofs.YtlohbepfecahdaaDoor.S
