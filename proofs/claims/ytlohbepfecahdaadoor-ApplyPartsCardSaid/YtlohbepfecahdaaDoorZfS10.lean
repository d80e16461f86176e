-- Written by wip/tools/myprint.py, a session's own driver of the kit's printer.
import Derived.ArgAppend
import Derived.Below
import Derived.BigQuiet
import Derived.Deep.AppendLies
import Derived.Deep.CutBlock
import Derived.Deep.DeepCutAuto
import Derived.Deep.Draws
import Derived.Deep.LoopGhost
import Derived.Deep.OwnRows
import Derived.Deep.QuietTactic
import Derived.Deep.RegionHeld3
import Derived.Handy
import Derived.KernelRfl
import Derived.Laws.BitsAllLaws
import Derived.Laws.BitsLemmas
import Derived.Laws.BytesArg
import Derived.Laws.IdiomCopy
import Derived.Laws.MakeOwn
import Derived.Laws.OwnMore
import Derived.Laws.RangeAny
import Derived.Laws.Rows
import Derived.Laws.Slices
import Derived.Laws.StructEq
import Derived.Lib.AppendStr
import Derived.Lib.ConvBytes
import Derived.Lib.FieldsP
import Derived.Lib.Hide
import Derived.Lib.IndexAny
import Derived.Lib.OthersKept
import Derived.Lib.SlBytesConst
import Derived.Lib.SpaceUEq
import Derived.Maps.AppendAt
import Derived.OneCell
import Derived.OrdersHeld
import Derived.OwnWalk
import Derived.RowKit
import Derived.RowKit3
import Derived.Shelf.LaysM
import Derived.Shelf.Small.Strs
import Derived.Shelf.Small.Utf8
import Derived.Shelf.Strings.Builder1
import Derived.Shelf.Strings.Builder2
import Derived.Shelf.Strings.BuilderF
import Derived.Shelf.Strings.BuilderK
import Derived.Shelf.Strings.Count
import Derived.Shelf.Strings.OnBuilder
import Derived.Shelf.Strings.Runes
import Derived.Shelf.Strings.Search1
import Derived.Shelf.Strings.Search2
import Derived.Shelf.Strings.Search3
import Derived.Shelf.Strings.Shaped
import Derived.Shelf.Strings.Split
import Derived.Shelf.Strings.SplitShaped
import Derived.Shelf.Unicode.DecodeSlow
import Derived.Tactics
import Derived.Test.YtlohbepfecahdaaDoorProg
import Derived.WalkKit
import Derived.WideLaws
import Derived.Test.YtlohbepfecahdaaDoorZfWWords
import Derived.Test.YtlohbepfecahdaaDoorZfWLast
import Derived.Test.YtlohbepfecahdaaDoorZfWApart
import Derived.Test.YtlohbepfecahdaaDoorZfWFoot
import Derived.Test.YtlohbepfecahdaaDoorZfWShare
import Derived.Test.YtlohbepfecahdaaDoorZfWN
import Derived.Test.YtlohbepfecahdaaDoorZfWNEv
import Derived.Test.YtlohbepfecahdaaDoorZfWMore
import Derived.Test.YtlohbepfecahdaaDoorZfB
import Derived.Test.YtlohbepfecahdaaDoorZfC
import Derived.Test.YtlohbepfecahdaaDoorZfShelf
import Derived.Test.YtlohbepfecahdaaDoorZfD
import Derived.Test.YtlohbepfecahdaaDoorZfWTab
import Derived.Test.YtlohbepfecahdaaDoorZfWEqStruct
import Derived.Test.YtlohbepfecahdaaDoorZfWRepsOne
import Derived.Test.YtlohbepfecahdaaDoorZfWGuard
import Derived.Test.YtlohbepfecahdaaDoorZfS0
import Derived.Test.YtlohbepfecahdaaDoorZfS4
import Derived.Test.YtlohbepfecahdaaDoorZfS6
import Derived.Test.YtlohbepfecahdaaDoorZfS9
namespace Go.Proofs.YtlohbepfecahdaaDoor.S
open Go.RowKit Go.Proofs.YtlohbepfecahdaaDoorW.PrintWords Go.Proofs.YtlohbepfecahdaaDoorW.PrintLast Go.Proofs.YtlohbepfecahdaaDoorW.PrintMore
set_option linter.unusedVariables false
set_option linter.unusedSimpArgs false
/-! ### gaolerlaw02_ClauseParse: function 3 -/
def gaolerlaw02_ClauseParse.f (k : Nat) (a0 : ByteArray) : Option (Bool) := (gaolerlaw02_awake.f k).bind fun t196 => (if t196 = true then (if (a0.size : Int) > 300 then (some true) else ((clause_Parse.f k a0).bind fun bt197 => ((gaolerref02_Parse.f k a0).bind fun bt201 => (if bt201.2 = true then (if bt197.2 = 0 then ((gaolerlaw02_same.f k bt197.1 bt201.1).bind fun t205 => (some t205)) else (some false)) else (if bt197.2 = 22 then (some ((bt197.1.length : Int) == 0)) else (some false)))))) else (some false))
/-! ### gaolerlaw02_model: function 18 -/
mutual
def gaolerlaw02_model.l0 : Nat → List (S34) → List (S72) → Int → Option ((List (S72)))
  | 0, _, _, _ => none
  | k + 1, x0, x3, x4 => if x4 < (x0.length : Int) then (if 0 ≤ x4 then (gaolerlaw02_model.l1 k x0 x3 x4 0 ((rd_T34 x0 x4).f0) ([] : List (S75))) else (none)) else (some x3)
def gaolerlaw02_model.l1 : Nat → List (S34) → List (S72) → Int → Int → Int → List (S75) → Option ((List (S72)))
  | 0, _, _, _, _, _, _ => none
  | k + 1, x0, x3, x4, x6, x208000, x208001 => if 0 ≤ x4 then (if x4 < (x0.length : Int) then (if x6 < (((rd_T34 x0 x4).f1).length : Int) then (if 0 ≤ x6 then (if x208001.length < 5864062014805 then (gaolerlaw02_model.l1 k x0 x3 x4 (wrap64 (x6 + 1)) x208000 (x208001 ++ [(⟨(rd_T60 ((rd_T34 x0 x4).f1) x6).f0, (rd_T60 ((rd_T34 x0 x4).f1) x6).f1, (rd_T60 ((rd_T34 x0 x4).f1) x6).f2⟩ : S75)])) else (none)) else (none)) else (if x3.length < 4398046511104 then (gaolerlaw02_model.l0 k x0 (x3 ++ [(⟨x208000, x208001⟩ : S72)]) (wrap64 (x4 + 1))) else (none))) else (none)) else (none)
end
def gaolerlaw02_model.f (k : Nat) (l0 : List (S34)) : Option ((List (S72))) := gaolerlaw02_model.l0 k l0 ([] : List (S72)) 0
end Go.Proofs.YtlohbepfecahdaaDoor.S
