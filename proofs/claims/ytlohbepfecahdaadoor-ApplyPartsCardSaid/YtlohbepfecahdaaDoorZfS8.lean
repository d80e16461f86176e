-- Written by wip/tools/myprint.py, a session's own driver of the kit's printer.
import Derived.ArgAppend
import Derived.Below
import Derived.BigQuiet
import Derived.Deep.AppendLies
import Derived.Deep.CutBlock
import Derived.Deep.DeepCutAuto
import Derived.Deep.Draws
import Derived.Deep.LoopGhost
import Derived.Deep.OwnRows
import Derived.Deep.QuietTactic
import Derived.Deep.RegionHeld3
import Derived.Handy
import Derived.KernelRfl
import Derived.Laws.BitsAllLaws
import Derived.Laws.BitsLemmas
import Derived.Laws.BytesArg
import Derived.Laws.IdiomCopy
import Derived.Laws.MakeOwn
import Derived.Laws.OwnMore
import Derived.Laws.RangeAny
import Derived.Laws.Rows
import Derived.Laws.Slices
import Derived.Laws.StructEq
import Derived.Lib.AppendStr
import Derived.Lib.ConvBytes
import Derived.Lib.FieldsP
import Derived.Lib.Hide
import Derived.Lib.IndexAny
import Derived.Lib.OthersKept
import Derived.Lib.SlBytesConst
import Derived.Lib.SpaceUEq
import Derived.Maps.AppendAt
import Derived.OneCell
import Derived.OrdersHeld
import Derived.OwnWalk
import Derived.RowKit
import Derived.RowKit3
import Derived.Shelf.LaysM
import Derived.Shelf.Small.Strs
import Derived.Shelf.Small.Utf8
import Derived.Shelf.Strings.Builder1
import Derived.Shelf.Strings.Builder2
import Derived.Shelf.Strings.BuilderF
import Derived.Shelf.Strings.BuilderK
import Derived.Shelf.Strings.Count
import Derived.Shelf.Strings.OnBuilder
import Derived.Shelf.Strings.Runes
import Derived.Shelf.Strings.Search1
import Derived.Shelf.Strings.Search2
import Derived.Shelf.Strings.Search3
import Derived.Shelf.Strings.Shaped
import Derived.Shelf.Strings.Split
import Derived.Shelf.Strings.SplitShaped
import Derived.Shelf.Unicode.DecodeSlow
import Derived.Tactics
import Derived.Test.YtlohbepfecahdaaDoorProg
import Derived.WalkKit
import Derived.WideLaws
import Derived.Test.YtlohbepfecahdaaDoorZfWWords
import Derived.Test.YtlohbepfecahdaaDoorZfWLast
import Derived.Test.YtlohbepfecahdaaDoorZfWApart
import Derived.Test.YtlohbepfecahdaaDoorZfWFoot
import Derived.Test.YtlohbepfecahdaaDoorZfWShare
import Derived.Test.YtlohbepfecahdaaDoorZfWN
import Derived.Test.YtlohbepfecahdaaDoorZfWNEv
import Derived.Test.YtlohbepfecahdaaDoorZfWMore
import Derived.Test.YtlohbepfecahdaaDoorZfB
import Derived.Test.YtlohbepfecahdaaDoorZfC
import Derived.Test.YtlohbepfecahdaaDoorZfShelf
import Derived.Test.YtlohbepfecahdaaDoorZfD
import Derived.Test.YtlohbepfecahdaaDoorZfWTab
import Derived.Test.YtlohbepfecahdaaDoorZfWEqStruct
import Derived.Test.YtlohbepfecahdaaDoorZfWRepsOne
import Derived.Test.YtlohbepfecahdaaDoorZfWGuard
import Derived.Test.YtlohbepfecahdaaDoorZfS0
import Derived.Test.YtlohbepfecahdaaDoorZfS6
import Derived.Test.YtlohbepfecahdaaDoorZfS7
namespace Go.Proofs.YtlohbepfecahdaaDoor.S
open Go.RowKit Go.Proofs.YtlohbepfecahdaaDoorW.PrintWords Go.Proofs.YtlohbepfecahdaaDoorW.PrintLast Go.Proofs.YtlohbepfecahdaaDoorW.PrintMore
set_option linter.unusedVariables false
set_option linter.unusedSimpArgs false
/-! ### gaolerref02_one: function 36 -/
mutual
def gaolerref02_one.j1 : Nat → ByteArray → Int → Option (Int × (List (S75)) × Bool)
  | 0, _, _ => none
  | k + 1, x0, x4 => if 0 ≤ x4 then (if x4 ≤ (x0.size : Int) then ((gaolerref02_sum.f k (x0.extract 0 (x4 : Int).toNat) (⟨#[117, 103, 111]⟩ : ByteArray)).bind fun t157 => ((gaolerref02_Place.f k (x0.extract 0 (x4 : Int).toNat) 97).bind fun t159 => (if t159 ≥ 0 then (gaolerref02_one.j2 k x0 x4 7) else (gaolerref02_one.j2 k x0 x4 t157)))) else (none)) else (none)
def gaolerref02_one.j2 : Nat → ByteArray → Int → Int → Option (Int × (List (S75)) × Bool)
  | 0, _, _, _ => none
  | k + 1, x0, x4, x159000 => gaolerref02_one.l1 k x0 x4 x159000 ([] : List (S75))
def gaolerref02_one.l1 : Nat → ByteArray → Int → Int → List (S75) → Option (Int × (List (S75)) × Bool)
  | 0, _, _, _, _ => none
  | k + 1, x0, x4, x159000, x159001 => if x4 < (x0.size : Int) then (if 0 ≤ x4 then ((gaolerref02_Place.f k (⟨#[43, 45, 61]⟩ : ByteArray) (bt x0 x4)).bind fun t160 => (if t160 < 0 then (some (0, ([] : List (S75)), false)) else (if (wrap64 (x4 + 1)) < (x0.size : Int) then (if 0 ≤ (wrap64 (x4 + 1)) then ((gaolerref02_Place.f k (⟨#[117, 103, 111]⟩ : ByteArray) (bt x0 (wrap64 (x4 + 1)))).bind fun t162 => (gaolerref02_one.j4 k x0 (wrap64 (x4 + 1)) (decide (t162 ≥ 0)) x159000 x159001 (bt x0 x4) 0 0)) else (none)) else (gaolerref02_one.j4 k x0 (wrap64 (x4 + 1)) false x159000 x159001 (bt x0 x4) 0 0)))) else (none)) else (some (x159000, x159001, decide ((x159001.length : Int) > 0)))
def gaolerref02_one.j4 : Nat → ByteArray → Int → Bool → Int → List (S75) → Int → Int → Int → Option (Int × (List (S75)) × Bool)
  | 0, _, _, _, _, _, _, _, _ => none
  | k + 1, x0, x4, x58, x159000, x159001, x162000, x162001, x162002 => if x58 = true then (if 0 ≤ x4 then (if x4 < (x0.size : Int) then ((gaolerref02_Place.f k (⟨#[117, 103, 111]⟩ : ByteArray) (bt x0 x4)).bind fun t163 => (if x159001.length < 5864062014805 then (gaolerref02_one.l1 k x0 (wrap64 (x4 + 1)) x159000 (x159001 ++ [(⟨x162000, x162001, wrap64 (t163 + 1)⟩ : S75)])) else (none))) else (none)) else (none)) else (gaolerref02_one.l2 k x0 x4 x4 x159000 x159001 x162000 x162001 x162002)
def gaolerref02_one.l2 : Nat → ByteArray → Int → Int → Int → List (S75) → Int → Int → Int → Option (Int × (List (S75)) × Bool)
  | 0, _, _, _, _, _, _, _, _ => none
  | k + 1, x0, x4, x7, x159000, x159001, x162000, x162001, x162002 => if x4 < (x0.size : Int) then (if 0 ≤ x4 then ((gaolerref02_Place.f k (⟨#[120, 119, 114, 88, 115, 116]⟩ : ByteArray) (bt x0 x4)).bind fun t167 => (if t167 ≥ 0 then (gaolerref02_one.l2 k x0 (wrap64 (x4 + 1)) x7 x159000 x159001 x162000 x162001 x162002) else (if 0 ≤ x7 then (if x7 ≤ x4 then (if x4 ≤ (x0.size : Int) then ((gaolerref02_sum.f k (x0.extract (x7 : Int).toNat (x4 : Int).toNat) (⟨#[120, 119, 114, 88, 115, 116]⟩ : ByteArray)).bind fun t168 => (if x159001.length < 5864062014805 then (gaolerref02_one.l1 k x0 x4 x159000 (x159001 ++ [(⟨x162000, t168, x162002⟩ : S75)])) else (none))) else (none)) else (none)) else (none)))) else (none)) else (if 0 ≤ x7 then (if x7 ≤ x4 then (if x4 ≤ (x0.size : Int) then ((gaolerref02_sum.f k (x0.extract (x7 : Int).toNat (x4 : Int).toNat) (⟨#[120, 119, 114, 88, 115, 116]⟩ : ByteArray)).bind fun t172 => (if x159001.length < 5864062014805 then (gaolerref02_one.l1 k x0 x4 x159000 (x159001 ++ [(⟨x162000, t172, x162002⟩ : S75)])) else (none))) else (none)) else (none)) else (none))
def gaolerref02_one.l0 : Nat → ByteArray → Int → Option (Int × (List (S75)) × Bool)
  | 0, _, _ => none
  | k + 1, x0, x4 => if x4 < (x0.size : Int) then (if 0 ≤ x4 then ((gaolerref02_Place.f k (⟨#[117, 103, 111, 97]⟩ : ByteArray) (bt x0 x4)).bind fun t156 => (if t156 ≥ 0 then (gaolerref02_one.l0 k x0 (wrap64 (x4 + 1))) else (gaolerref02_one.j1 k x0 x4))) else (none)) else (gaolerref02_one.j1 k x0 x4)
end
def gaolerref02_one.f (k : Nat) (a0 : ByteArray) : Option (Int × (List (S75)) × Bool) := gaolerref02_one.l0 k a0 0
end Go.Proofs.YtlohbepfecahdaaDoor.S
