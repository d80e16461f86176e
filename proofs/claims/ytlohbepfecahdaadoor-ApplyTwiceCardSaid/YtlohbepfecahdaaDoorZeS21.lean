-- Written by wip/tools/myprint.py, a session's own driver of the kit's printer.
import Derived.ArgAppend
import Derived.Below
import Derived.BigQuiet
import Derived.Deep.AppendLies
import Derived.Deep.CutBlock
import Derived.Deep.DeepCutAuto
import Derived.Deep.Draws
import Derived.Deep.LoopGhost
import Derived.Deep.OwnRows
import Derived.Deep.QuietTactic
import Derived.Deep.RegionHeld3
import Derived.Handy
import Derived.KernelRfl
import Derived.Laws.BitsAllLaws
import Derived.Laws.BitsLemmas
import Derived.Laws.BytesArg
import Derived.Laws.IdiomCopy
import Derived.Laws.MakeOwn
import Derived.Laws.OwnMore
import Derived.Laws.RangeAny
import Derived.Laws.Rows
import Derived.Laws.Slices
import Derived.Laws.StructEq
import Derived.Lib.AppendStr
import Derived.Lib.ConvBytes
import Derived.Lib.FieldsP
import Derived.Lib.Hide
import Derived.Lib.IndexAny
import Derived.Lib.OthersKept
import Derived.Lib.SlBytesConst
import Derived.Lib.SpaceUEq
import Derived.Maps.AppendAt
import Derived.OneCell
import Derived.OrdersHeld
import Derived.OwnWalk
import Derived.RowKit
import Derived.RowKit3
import Derived.Shelf.LaysM
import Derived.Shelf.Small.Strs
import Derived.Shelf.Small.Utf8
import Derived.Shelf.Strings.Builder1
import Derived.Shelf.Strings.Builder2
import Derived.Shelf.Strings.BuilderF
import Derived.Shelf.Strings.BuilderK
import Derived.Shelf.Strings.Count
import Derived.Shelf.Strings.OnBuilder
import Derived.Shelf.Strings.Runes
import Derived.Shelf.Strings.Search1
import Derived.Shelf.Strings.Search2
import Derived.Shelf.Strings.Search3
import Derived.Shelf.Strings.Shaped
import Derived.Shelf.Strings.Split
import Derived.Shelf.Strings.SplitShaped
import Derived.Shelf.Unicode.DecodeSlow
import Derived.Tactics
import Derived.Test.YtlohbepfecahdaaDoorProg
import Derived.WalkKit
import Derived.WideLaws
import Derived.Test.YtlohbepfecahdaaDoorZeWWords
import Derived.Test.YtlohbepfecahdaaDoorZeWLast
import Derived.Test.YtlohbepfecahdaaDoorZeWApart
import Derived.Test.YtlohbepfecahdaaDoorZeWFoot
import Derived.Test.YtlohbepfecahdaaDoorZeWShare
import Derived.Test.YtlohbepfecahdaaDoorZeWN
import Derived.Test.YtlohbepfecahdaaDoorZeWNEv
import Derived.Test.YtlohbepfecahdaaDoorZeWMore
import Derived.Test.YtlohbepfecahdaaDoorZeB
import Derived.Test.YtlohbepfecahdaaDoorZeC
import Derived.Test.YtlohbepfecahdaaDoorZeShelf
import Derived.Test.YtlohbepfecahdaaDoorZeD
import Derived.Test.YtlohbepfecahdaaDoorZeWTab
import Derived.Test.YtlohbepfecahdaaDoorZeWEqStruct
import Derived.Test.YtlohbepfecahdaaDoorZeWRepsOne
import Derived.Test.YtlohbepfecahdaaDoorZeWGuard
import Derived.Test.YtlohbepfecahdaaDoorZeS0
import Derived.Test.YtlohbepfecahdaaDoorZeS16
import Derived.Test.YtlohbepfecahdaaDoorZeS17
import Derived.Test.YtlohbepfecahdaaDoorZeS18
import Derived.Test.YtlohbepfecahdaaDoorZeS20
namespace Go.Proofs.YtlohbepfecahdaaDoor.S
open Go.RowKit Go.Proofs.YtlohbepfecahdaaDoorW.PrintWords Go.Proofs.YtlohbepfecahdaaDoorW.PrintLast Go.Proofs.YtlohbepfecahdaaDoorW.PrintMore
set_option linter.unusedVariables false
set_option linter.unusedSimpArgs false
/-! ### gaolerlaw03_ApplyOf: function 8 -/
def gaolerlaw03_ApplyOf.f (k : Nat) (a0 : ByteArray) (a1 : Int) (a2 : Bool) (a3 : Int) : Option (Bool) := (gaolerlaw03_awake.f k).bind fun t395 => (if t395 = true then (if (a0.size : Int) > 200 then (some true) else ((apply_Read.f k a0).bind fun bt396 => ((gaolerref03_Read.f k a0).bind fun bt403 => (if bt403.2.2.2 = true then (if bt396.2.2.2 = 0 then ((apply_Of.f k bt396.1 bt396.2.1 bt396.2.2.1 a1 a2 a3).bind fun t410 => ((gaolerref03_Of.f k bt403.1 bt403.2.1 bt403.2.2.1 a1 a2 a3).bind fun t411 => (some (t410 == t411)))) else (some false)) else (if bt396.2.2.2 = 22 then (if bt396.1 = true then (some false) else (if bt396.2.1 = 0 then (some ((bt396.2.2.1.length : Int) == 0)) else (some false))) else (some false)))))) else (some false))
/-! ### gaolerlaw03_few: function 28 -/
def gaolerlaw03_few.l0 : Nat → List (S34) → Int → Option (Bool)
  | 0, _, _ => none
  | k + 1, x0, x3 => if x3 < (x0.length : Int) then (if 0 ≤ x3 then (if (((rd_T34 x0 x3).f1).length : Int) > 20 then (some false) else (gaolerlaw03_few.l0 k x0 (wrap64 (x3 + 1)))) else (none)) else (some (decide ((x0.length : Int) ≤ 20)))
def gaolerlaw03_few.f (k : Nat) (l0 : List (S34)) : Option (Bool) := gaolerlaw03_few.l0 k l0 0
/-! ### gaolerlaw03_model: function 31 -/
mutual
def gaolerlaw03_model.l0 : Nat → List (S34) → List (S72) → Int → Option ((List (S72)))
  | 0, _, _, _ => none
  | k + 1, x0, x3, x4 => if x4 < (x0.length : Int) then (if 0 ≤ x4 then (gaolerlaw03_model.l1 k x0 x3 x4 0 ((rd_T34 x0 x4).f0) ([] : List (S75))) else (none)) else (some x3)
def gaolerlaw03_model.l1 : Nat → List (S34) → List (S72) → Int → Int → Int → List (S75) → Option ((List (S72)))
  | 0, _, _, _, _, _, _ => none
  | k + 1, x0, x3, x4, x6, x415000, x415001 => if 0 ≤ x4 then (if x4 < (x0.length : Int) then (if x6 < (((rd_T34 x0 x4).f1).length : Int) then (if 0 ≤ x6 then (if x415001.length < 5864062014805 then (gaolerlaw03_model.l1 k x0 x3 x4 (wrap64 (x6 + 1)) x415000 (x415001 ++ [(⟨(rd_T60 ((rd_T34 x0 x4).f1) x6).f0, (rd_T60 ((rd_T34 x0 x4).f1) x6).f1, (rd_T60 ((rd_T34 x0 x4).f1) x6).f2⟩ : S75)])) else (none)) else (none)) else (if x3.length < 4398046511104 then (gaolerlaw03_model.l0 k x0 (x3 ++ [(⟨x415000, x415001⟩ : S72)]) (wrap64 (x4 + 1))) else (none))) else (none)) else (none)
end
def gaolerlaw03_model.f (k : Nat) (l0 : List (S34)) : Option ((List (S72))) := gaolerlaw03_model.l0 k l0 ([] : List (S72)) 0
end Go.Proofs.YtlohbepfecahdaaDoor.S
