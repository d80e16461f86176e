-- Written by wip/tools/myprint.py, a session's own driver of the kit's printer.
import Derived.ArgAppend
import Derived.Below
import Derived.BigQuiet
import Derived.Deep.AppendLies
import Derived.Deep.CutBlock
import Derived.Deep.DeepCutAuto
import Derived.Deep.Draws
import Derived.Deep.LoopGhost
import Derived.Deep.OwnRows
import Derived.Deep.QuietTactic
import Derived.Deep.RegionHeld3
import Derived.Handy
import Derived.KernelRfl
import Derived.Laws.BitsAllLaws
import Derived.Laws.BitsLemmas
import Derived.Laws.BytesArg
import Derived.Laws.IdiomCopy
import Derived.Laws.MakeOwn
import Derived.Laws.OwnMore
import Derived.Laws.RangeAny
import Derived.Laws.Rows
import Derived.Laws.Slices
import Derived.Laws.StructEq
import Derived.Lib.AppendStr
import Derived.Lib.ConvBytes
import Derived.Lib.FieldsP
import Derived.Lib.Hide
import Derived.Lib.IndexAny
import Derived.Lib.OthersKept
import Derived.Lib.SlBytesConst
import Derived.Lib.SpaceUEq
import Derived.Maps.AppendAt
import Derived.OneCell
import Derived.OrdersHeld
import Derived.OwnWalk
import Derived.RowKit
import Derived.RowKit3
import Derived.Shelf.LaysM
import Derived.Shelf.Small.Strs
import Derived.Shelf.Small.Utf8
import Derived.Shelf.Strings.Builder1
import Derived.Shelf.Strings.Builder2
import Derived.Shelf.Strings.BuilderF
import Derived.Shelf.Strings.BuilderK
import Derived.Shelf.Strings.Count
import Derived.Shelf.Strings.OnBuilder
import Derived.Shelf.Strings.Runes
import Derived.Shelf.Strings.Search1
import Derived.Shelf.Strings.Search2
import Derived.Shelf.Strings.Search3
import Derived.Shelf.Strings.Shaped
import Derived.Shelf.Strings.Split
import Derived.Shelf.Strings.SplitShaped
import Derived.Shelf.Unicode.DecodeSlow
import Derived.Tactics
import Derived.Test.YtlohbepfecahdaaDoorProg
import Derived.WalkKit
import Derived.WideLaws
import Derived.Test.YtlohbepfecahdaaDoorZfWWords
import Derived.Test.YtlohbepfecahdaaDoorZfWLast
import Derived.Test.YtlohbepfecahdaaDoorZfWApart
import Derived.Test.YtlohbepfecahdaaDoorZfWFoot
import Derived.Test.YtlohbepfecahdaaDoorZfWShare
import Derived.Test.YtlohbepfecahdaaDoorZfWN
import Derived.Test.YtlohbepfecahdaaDoorZfWNEv
import Derived.Test.YtlohbepfecahdaaDoorZfWMore
import Derived.Test.YtlohbepfecahdaaDoorZfB
import Derived.Test.YtlohbepfecahdaaDoorZfC
import Derived.Test.YtlohbepfecahdaaDoorZfShelf
import Derived.Test.YtlohbepfecahdaaDoorZfD
import Derived.Test.YtlohbepfecahdaaDoorZfWTab
import Derived.Test.YtlohbepfecahdaaDoorZfWEqStruct
import Derived.Test.YtlohbepfecahdaaDoorZfWRepsOne
import Derived.Test.YtlohbepfecahdaaDoorZfWGuard
import Derived.Test.YtlohbepfecahdaaDoorZfS0
import Derived.Test.YtlohbepfecahdaaDoorZfS9
import Derived.Test.YtlohbepfecahdaaDoorZfS17
namespace Go.Proofs.YtlohbepfecahdaaDoor.S
open Go.RowKit Go.Proofs.YtlohbepfecahdaaDoorW.PrintWords Go.Proofs.YtlohbepfecahdaaDoorW.PrintLast Go.Proofs.YtlohbepfecahdaaDoorW.PrintMore
set_option linter.unusedVariables false
set_option linter.unusedSimpArgs false
/-! ### gaolerref03_Read: function 25 -/
def gaolerref03_Read.j0 : Nat → ByteArray → Bool → Option (Bool × Int × (List (S72)) × Bool)
  | 0, _, _ => none
  | k + 1, x0, x18 => if x18 = true then ((gaolerref01_ReadOctal.f k x0).bind fun t353 => (if t353 < 0 then (some (false, 0, ([] : List (S72)), false)) else (some (true, t353, ([] : List (S72)), true)))) else ((gaolerref02_Parse.f k x0).bind fun bt354 => (some (false, 0, bt354.1, bt354.2)))
def gaolerref03_Read.f (k : Nat) (a0 : ByteArray) : Option (Bool × Int × (List (S72)) × Bool) := if a0.toList = ([] : List UInt8) then (gaolerref03_Read.j0 k a0 false) else (if 0 < (a0.size : Int) then (if (bt a0 0) ≥ 48 then (gaolerref03_Read.j0 k a0 (decide ((bt a0 0) ≤ 57))) else (gaolerref03_Read.j0 k a0 false)) else (none))
/-! ### gaolerref01_rest: function 60 -/
def gaolerref01_rest.f (a0 : Int) (a1 : Int) : Option (Int) := if a1 = 0 then (none) else (if (Int.tmod a0 a1) < 0 then (some (wrap64 ((Int.tmod a0 a1) + a1))) else (some (Int.tmod a0 a1)))
/-! ### gaolerref01_Low: function 45 -/
def gaolerref01_Low.f (a0 : Int) : Option (Int) := (gaolerref01_rest.f a0 4096).bind fun t358 => (some t358)
/-! ### gaolerref01_Bit: function 64 -/
def gaolerref01_Bit.l0 : Nat → Int → Int → Int → Option (Bool)
  | 0, _, _, _ => none
  | k + 1, x0, x1, x5 => if x5 < x1 then (gaolerref01_Bit.l0 k (wrap64 (Int.tdiv x0 2)) x1 (wrap64 (x5 + 1))) else (some ((Int.tmod x0 2) == 1))
def gaolerref01_Bit.f (k : Nat) (a0 : Int) (a1 : Int) : Option (Bool) := gaolerref01_Bit.l0 k a0 a1 0
/-! ### gaolerref03_class: function 76 -/
def gaolerref03_class.f (a0 : Int) : Option (Int) := if a0 < 3 then (some 2) else (if a0 < 6 then (some 1) else (if a0 < 9 then (some 0) else (some (wrap64 (14 - a0)))))
/-! ### gaolerref03_has: function 65 -/
def gaolerref03_has.f (k : Nat) (a0 : Int) (a1 : Int) (a2 : Int) : Option (Bool) := if a0 = 0 then (if a2 > 8 then (some true) else ((gaolerref01_Low.f a1).bind fun t359 => ((gaolerref01_Bit.f k t359 a2).bind fun t360 => (some (!t360))))) else ((gaolerref03_class.f a2).bind fun t361 => ((gaolerref01_Bit.f k a0 (Int.tmod t361 3)).bind fun t362 => (some t362)))
/-! ### gaolerref01_Class: function 77 -/
def gaolerref01_Class.f (a0 : Int) (a1 : Int) : Option (Int) := (gaolerref01_Low.f a0).bind fun t363 => (if a1 = 0 then (some (Int.tmod (wrap64 (Int.tdiv t363 64)) 8)) else (if a1 = 1 then (some (Int.tmod (wrap64 (Int.tdiv t363 8)) 8)) else (if a1 = 2 then (some (Int.tmod t363 8)) else (some 0))))
/-! ### gaolerref03_in: function 66 -/
def gaolerref03_in.f (k : Nat) (a0_0 : Int) (a0_1 : Int) (a0_2 : Int) (a1 : Int) (a2 : Bool) (a3 : Int) : Option (Bool) := if a0_2 > 0 then (if a3 < 9 then ((gaolerref01_Class.f a1 (wrap64 (a0_2 - 1))).bind fun t365 => ((gaolerref01_Bit.f k t365 (Int.tmod a3 3)).bind fun t366 => (some t366))) else (some false)) else (if a3 = 9 then ((gaolerref01_Bit.f k a0_1 5).bind fun t367 => (some t367)) else (if a3 > 9 then ((gaolerref01_Bit.f k a0_1 4).bind fun t368 => (some t368)) else ((gaolerref01_Bit.f k a1 0).bind fun t369 => (if t369 = true then ((gaolerref01_Bit.f k a0_1 (Int.tmod a3 3)).bind fun t370 => (if t370 = true then (some true) else (if (Int.tmod a3 3) = 0 then ((gaolerref01_Bit.f k a0_1 3).bind fun t371 => (if t371 = true then (if a2 = true then (some true) else (some true)) else (some false))) else (some false)))) else ((gaolerref01_Bit.f k a1 3).bind fun t372 => (if t372 = true then ((gaolerref01_Bit.f k a0_1 (Int.tmod a3 3)).bind fun t373 => (if t373 = true then (some true) else (if (Int.tmod a3 3) = 0 then ((gaolerref01_Bit.f k a0_1 3).bind fun t374 => (if t374 = true then (if a2 = true then (some true) else (some true)) else (some false))) else (some false)))) else ((gaolerref01_Bit.f k a1 6).bind fun t375 => ((gaolerref01_Bit.f k a0_1 (Int.tmod a3 3)).bind fun t376 => (if t376 = true then (some true) else (if (Int.tmod a3 3) = 0 then ((gaolerref01_Bit.f k a0_1 3).bind fun t377 => (if t377 = true then (if a2 = true then (some true) else (some t375)) else (some false))) else (some false)))))))))))
end Go.Proofs.YtlohbepfecahdaaDoor.S
