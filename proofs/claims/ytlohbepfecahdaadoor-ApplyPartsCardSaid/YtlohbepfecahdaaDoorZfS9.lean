-- Written by wip/tools/myprint.py, a session's own driver of the kit's printer.
import Derived.ArgAppend
import Derived.Below
import Derived.BigQuiet
import Derived.Deep.AppendLies
import Derived.Deep.CutBlock
import Derived.Deep.DeepCutAuto
import Derived.Deep.Draws
import Derived.Deep.LoopGhost
import Derived.Deep.OwnRows
import Derived.Deep.QuietTactic
import Derived.Deep.RegionHeld3
import Derived.Handy
import Derived.KernelRfl
import Derived.Laws.BitsAllLaws
import Derived.Laws.BitsLemmas
import Derived.Laws.BytesArg
import Derived.Laws.IdiomCopy
import Derived.Laws.MakeOwn
import Derived.Laws.OwnMore
import Derived.Laws.RangeAny
import Derived.Laws.Rows
import Derived.Laws.Slices
import Derived.Laws.StructEq
import Derived.Lib.AppendStr
import Derived.Lib.ConvBytes
import Derived.Lib.FieldsP
import Derived.Lib.Hide
import Derived.Lib.IndexAny
import Derived.Lib.OthersKept
import Derived.Lib.SlBytesConst
import Derived.Lib.SpaceUEq
import Derived.Maps.AppendAt
import Derived.OneCell
import Derived.OrdersHeld
import Derived.OwnWalk
import Derived.RowKit
import Derived.RowKit3
import Derived.Shelf.LaysM
import Derived.Shelf.Small.Strs
import Derived.Shelf.Small.Utf8
import Derived.Shelf.Strings.Builder1
import Derived.Shelf.Strings.Builder2
import Derived.Shelf.Strings.BuilderF
import Derived.Shelf.Strings.BuilderK
import Derived.Shelf.Strings.Count
import Derived.Shelf.Strings.OnBuilder
import Derived.Shelf.Strings.Runes
import Derived.Shelf.Strings.Search1
import Derived.Shelf.Strings.Search2
import Derived.Shelf.Strings.Search3
import Derived.Shelf.Strings.Shaped
import Derived.Shelf.Strings.Split
import Derived.Shelf.Strings.SplitShaped
import Derived.Shelf.Unicode.DecodeSlow
import Derived.Tactics
import Derived.Test.YtlohbepfecahdaaDoorProg
import Derived.WalkKit
import Derived.WideLaws
import Derived.Test.YtlohbepfecahdaaDoorZfWWords
import Derived.Test.YtlohbepfecahdaaDoorZfWLast
import Derived.Test.YtlohbepfecahdaaDoorZfWApart
import Derived.Test.YtlohbepfecahdaaDoorZfWFoot
import Derived.Test.YtlohbepfecahdaaDoorZfWShare
import Derived.Test.YtlohbepfecahdaaDoorZfWN
import Derived.Test.YtlohbepfecahdaaDoorZfWNEv
import Derived.Test.YtlohbepfecahdaaDoorZfWMore
import Derived.Test.YtlohbepfecahdaaDoorZfB
import Derived.Test.YtlohbepfecahdaaDoorZfC
import Derived.Test.YtlohbepfecahdaaDoorZfShelf
import Derived.Test.YtlohbepfecahdaaDoorZfD
import Derived.Test.YtlohbepfecahdaaDoorZfWTab
import Derived.Test.YtlohbepfecahdaaDoorZfWEqStruct
import Derived.Test.YtlohbepfecahdaaDoorZfWRepsOne
import Derived.Test.YtlohbepfecahdaaDoorZfWGuard
import Derived.Test.YtlohbepfecahdaaDoorZfS0
import Derived.Test.YtlohbepfecahdaaDoorZfS8
namespace Go.Proofs.YtlohbepfecahdaaDoor.S
open Go.RowKit Go.Proofs.YtlohbepfecahdaaDoorW.PrintWords Go.Proofs.YtlohbepfecahdaaDoorW.PrintLast Go.Proofs.YtlohbepfecahdaaDoorW.PrintMore
set_option linter.unusedVariables false
set_option linter.unusedSimpArgs false
/-! ### gaolerref02_Parse: function 16 -/
def gaolerref02_Parse.l0 : Nat → List (S72) → ByteArray → Int → Int → Option ((List (S72)) × Bool)
  | 0, _, _, _, _ => none
  | k + 1, x4, x5, x6, x7 => if x7 < (x5.size : Int) then (if 0 ≤ x7 then (if (bt x5 x7) = 44 then (if 0 ≤ x6 then (if x6 ≤ x7 then (if x7 ≤ (x5.size : Int) then ((gaolerref02_one.f k (x5.extract (x6 : Int).toNat (x7 : Int).toNat)).bind fun bt176 => (if bt176.2.2 = true then (if x4.length < 4398046511104 then (gaolerref02_Parse.l0 k (x4 ++ [(⟨bt176.1, bt176.2.1⟩ : S72)]) x5 (wrap64 (x7 + 1)) (wrap64 (x7 + 1))) else (none)) else (some (([] : List (S72)), false)))) else (none)) else (none)) else (none)) else (gaolerref02_Parse.l0 k x4 x5 x6 (wrap64 (x7 + 1)))) else (none)) else (some (x4, true))
def gaolerref02_Parse.f (k : Nat) (a0 : ByteArray) : Option ((List (S72)) × Bool) := if a0.size + 1 ≤ 9223372036854775807 then (gaolerref02_Parse.l0 k ([] : List (S72)) (a0 ++ (⟨#[44]⟩ : ByteArray)) 0 0) else (none)
/-! ### gaolerlaw02_same: function 17 -/
mutual
def gaolerlaw02_same.l0 : Nat → List (S34) → List (S72) → Int → Option (Bool)
  | 0, _, _, _ => none
  | k + 1, x0, x1, x5 => if x5 < (x0.length : Int) then (if 0 ≤ x5 then (if x5 < (x1.length : Int) then (if ((rd_T34 x0 x5).f0) = ((rd_T72 x1 x5).f0) then (gaolerlaw02_same.j1 k x0 x1 x5 ((((rd_T34 x0 x5).f1).length : Int) != (((rd_T72 x1 x5).f1).length : Int))) else (gaolerlaw02_same.j1 k x0 x1 x5 true)) else (none)) else (none)) else (some true)
def gaolerlaw02_same.j1 : Nat → List (S34) → List (S72) → Int → Bool → Option (Bool)
  | 0, _, _, _, _ => none
  | k + 1, x0, x1, x5, x45 => if x45 = true then (some false) else (gaolerlaw02_same.l1 k x0 x1 x5 0)
def gaolerlaw02_same.l1 : Nat → List (S34) → List (S72) → Int → Int → Option (Bool)
  | 0, _, _, _, _ => none
  | k + 1, x0, x1, x5, x6 => if 0 ≤ x5 then (if x5 < (x0.length : Int) then (if x6 < (((rd_T34 x0 x5).f1).length : Int) then (if 0 ≤ x6 then (if x5 < (x1.length : Int) then (if x6 < (((rd_T72 x1 x5).f1).length : Int) then (if ((rd_T60 ((rd_T34 x0 x5).f1) x6).f0) = ((rd_T75 ((rd_T72 x1 x5).f1) x6).f0) then (if ((rd_T60 ((rd_T34 x0 x5).f1) x6).f1) = ((rd_T75 ((rd_T72 x1 x5).f1) x6).f1) then (if ((rd_T60 ((rd_T34 x0 x5).f1) x6).f2) = ((rd_T75 ((rd_T72 x1 x5).f1) x6).f2) then (gaolerlaw02_same.l1 k x0 x1 x5 (wrap64 (x6 + 1))) else (some false)) else (some false)) else (some false)) else (none)) else (none)) else (none)) else (gaolerlaw02_same.l0 k x0 x1 (wrap64 (x5 + 1)))) else (none)) else (none)
end
def gaolerlaw02_same.f (k : Nat) (l0 : List (S34)) (l1 : List (S72)) : Option (Bool) := if (l0.length : Int) = (l1.length : Int) then (gaolerlaw02_same.l0 k l0 l1 0) else (some false)
end Go.Proofs.YtlohbepfecahdaaDoor.S
