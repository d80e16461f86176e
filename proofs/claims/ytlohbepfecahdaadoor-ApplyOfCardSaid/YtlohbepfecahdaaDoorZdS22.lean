-- Written by wip/tools/myprint.py, a session's own driver of the kit's printer.
import Derived.ArgAppend
import Derived.Below
import Derived.BigQuiet
import Derived.Deep.AppendLies
import Derived.Deep.CutBlock
import Derived.Deep.DeepCutAuto
import Derived.Deep.Draws
import Derived.Deep.LoopGhost
import Derived.Deep.OwnRows
import Derived.Deep.QuietTactic
import Derived.Deep.RegionHeld3
import Derived.Handy
import Derived.KernelRfl
import Derived.Laws.BitsAllLaws
import Derived.Laws.BitsLemmas
import Derived.Laws.BytesArg
import Derived.Laws.IdiomCopy
import Derived.Laws.MakeOwn
import Derived.Laws.OwnMore
import Derived.Laws.RangeAny
import Derived.Laws.Rows
import Derived.Laws.Slices
import Derived.Laws.StructEq
import Derived.Lib.AppendStr
import Derived.Lib.ConvBytes
import Derived.Lib.FieldsP
import Derived.Lib.Hide
import Derived.Lib.IndexAny
import Derived.Lib.OthersKept
import Derived.Lib.SlBytesConst
import Derived.Lib.SpaceUEq
import Derived.Maps.AppendAt
import Derived.OneCell
import Derived.OrdersHeld
import Derived.OwnWalk
import Derived.RowKit
import Derived.RowKit3
import Derived.Shelf.LaysM
import Derived.Shelf.Small.Strs
import Derived.Shelf.Small.Utf8
import Derived.Shelf.Strings.Builder1
import Derived.Shelf.Strings.Builder2
import Derived.Shelf.Strings.BuilderF
import Derived.Shelf.Strings.BuilderK
import Derived.Shelf.Strings.Count
import Derived.Shelf.Strings.OnBuilder
import Derived.Shelf.Strings.Runes
import Derived.Shelf.Strings.Search1
import Derived.Shelf.Strings.Search2
import Derived.Shelf.Strings.Search3
import Derived.Shelf.Strings.Shaped
import Derived.Shelf.Strings.Split
import Derived.Shelf.Strings.SplitShaped
import Derived.Shelf.Unicode.DecodeSlow
import Derived.Tactics
import Derived.Test.YtlohbepfecahdaaDoorProg
import Derived.WalkKit
import Derived.WideLaws
import Derived.Test.YtlohbepfecahdaaDoorZdWWords
import Derived.Test.YtlohbepfecahdaaDoorZdWLast
import Derived.Test.YtlohbepfecahdaaDoorZdWApart
import Derived.Test.YtlohbepfecahdaaDoorZdWFoot
import Derived.Test.YtlohbepfecahdaaDoorZdWMore
import Derived.Test.YtlohbepfecahdaaDoorZdB
import Derived.Test.YtlohbepfecahdaaDoorZdC
import Derived.Test.YtlohbepfecahdaaDoorZdShelf
import Derived.Test.YtlohbepfecahdaaDoorZdD
import Derived.Test.YtlohbepfecahdaaDoorZdWTab
import Derived.Test.YtlohbepfecahdaaDoorZdWEqStruct
import Derived.Test.YtlohbepfecahdaaDoorZdWRepsOne
import Derived.Test.YtlohbepfecahdaaDoorZdWGuard
import Derived.Test.YtlohbepfecahdaaDoorZdS0
import Derived.Test.YtlohbepfecahdaaDoorZdS16
import Derived.Test.YtlohbepfecahdaaDoorZdS17
import Derived.Test.YtlohbepfecahdaaDoorZdS20
import Derived.Test.YtlohbepfecahdaaDoorZdS21
namespace Go.Proofs.YtlohbepfecahdaaDoor.S
open Go.RowKit Go.Proofs.YtlohbepfecahdaaDoorW.PrintWords Go.Proofs.YtlohbepfecahdaaDoorW.PrintLast Go.Proofs.YtlohbepfecahdaaDoorW.PrintMore
set_option linter.unusedVariables false
set_option linter.unusedSimpArgs false
/-! ### gaolerlaw03_ApplyClauses: function 9 -/
def gaolerlaw03_ApplyClauses.f (k : Nat) (l0 : List (S34)) (a1 : Int) (a2 : Bool) (a3 : Int) : Option (Bool) := (gaolerlaw03_awake.f k).bind fun t424 => (if t424 = true then ((gaolerlaw03_few.f k l0).bind fun t425 => (if t425 = true then ((apply_Apply.f k l0 a1 a2 a3).bind fun t426 => ((gaolerlaw03_model.f k l0).bind fun t427 => ((gaolerref03_Apply.f k t427 a1 a2 a3).bind fun t430 => (some (t426 == t430))))) else (some true))) else (some false))
/-! ### gaolerlaw03_ApplyStays: function 10 -/
mutual
def gaolerlaw03_ApplyStays.l0 : Nat → Int → Int → Int → Int → Int → Option (Bool)
  | 0, _, _, _, _, _ => none
  | k + 1, x14, x15, x16, x18, x19 => if x19 < 3 then (if x14 = 0 then (gaolerlaw03_ApplyStays.j1 k x14 x15 x16 x18 x19 true) else (if 0 ≤ x19 then (gaolerlaw03_ApplyStays.j1 k x14 x15 x16 x18 x19 ((Go.bits .and .i64 (shr .i64 x14 x19) 1) == 1)) else (none))) else (if x15 = 43 then (some ((Go.bits .or .i64 x18 x16) == x18)) else (if x15 = 45 then (some ((Go.bits .or .i64 x18 x16) == x16)) else (if x18 ≥ 0 then (some (decide (x18 ≤ 4095))) else (some false))))
def gaolerlaw03_ApplyStays.j1 : Nat → Int → Int → Int → Int → Int → Bool → Option (Bool)
  | 0, _, _, _, _, _, _ => none
  | k + 1, x14, x15, x16, x18, x19, x20 => if x20 = true then (gaolerlaw03_ApplyStays.l0 k x14 x15 x16 x18 (wrap64 (x19 + 1))) else ((modes_Class.f x18 x19).bind fun t439 => ((modes_Class.f x16 x19).bind fun t440 => (if t439 = t440 then (gaolerlaw03_ApplyStays.l0 k x14 x15 x16 x18 (wrap64 (x19 + 1))) else (some false))))
end
def gaolerlaw03_ApplyStays.f (k : Nat) (a0 : Int) (a1 : Int) (a2 : Int) (a3 : Int) (a4 : Bool) (a5 : Int) : Option (Bool) := (gaolerlaw03_awake.f k).bind fun t431 => (if t431 = true then (if 0 ≤ (Int.tmod a1 3) then (if (Int.tmod a1 3) < 3 then ((apply_Apply.f k (([(⟨wrap64 (Int.tmod a0 8), (([(⟨bt (⟨#[43, 45, 61]⟩ : ByteArray) (Int.tmod a1 3), wrap64 (Int.tmod a2 64), 0⟩ : S60)] : List (S60)))⟩ : S34)] : List (S34))) (wrap64 (Int.tmod a3 4096)) a4 (wrap64 (a5))).bind fun t438 => (gaolerlaw03_ApplyStays.l0 k (wrap64 (Int.tmod a0 8)) (bt (⟨#[43, 45, 61]⟩ : ByteArray) (Int.tmod a1 3)) (wrap64 (Int.tmod a3 4096)) t438 0)) else (none)) else (none)) else (some false))
-- NOT PRINTED: function 11 (gaolerlaw03_ApplyTwice)
-- NOT PRINTED: function 12 (gaolerlaw03_ApplyParts)
/-! ### gaolerlaw03_ApplyCopies: function 13 -/
mutual
def gaolerlaw03_ApplyCopies.j0 : Nat → Int → Int → Int → Bool → Option (Bool)
  | 0, _, _, _, _ => none
  | k + 1, x12, x14, x15, x56 => if x56 = true then (some false) else (gaolerlaw03_ApplyCopies.l0 k x12 x14 x15 0)
def gaolerlaw03_ApplyCopies.l0 : Nat → Int → Int → Int → Int → Option (Bool)
  | 0, _, _, _, _ => none
  | k + 1, x12, x14, x15, x16 => if x16 < 3 then (if x16 = x12 then (gaolerlaw03_ApplyCopies.l0 k x12 x14 x15 (wrap64 (x16 + 1))) else ((modes_Class.f x15 x16).bind fun t459 => ((modes_Class.f x14 x16).bind fun t460 => (if t459 = t460 then (if 0 ≤ (wrap64 (11 - x16)) then (if (Go.bits .and .i64 (shr .i64 x15 (wrap64 (11 - x16))) 1) = (Go.bits .and .i64 (shr .i64 x14 (wrap64 (11 - x16))) 1) then (gaolerlaw03_ApplyCopies.l0 k x12 x14 x15 (wrap64 (x16 + 1))) else (some false)) else (none)) else (some false))))) else (some true)
end
def gaolerlaw03_ApplyCopies.f (k : Nat) (a0 : Int) (a1 : Int) (a2 : Int) (a3 : Bool) (a4 : Int) : Option (Bool) := (gaolerlaw03_awake.f k).bind fun t449 => (if t449 = true then (if 0 ≤ (wrap64 (Int.tmod a0 3)) then ((apply_Apply.f k (([(⟨shl .i64 1 (wrap64 (Int.tmod a0 3)), (([(⟨61, 0, wrap64 ((wrap64 (Int.tmod a1 3)) + 1)⟩ : S60)] : List (S60)))⟩ : S34)] : List (S34))) (wrap64 (Int.tmod a2 4096)) a3 (wrap64 (a4))).bind fun t456 => ((modes_Class.f t456 (wrap64 (Int.tmod a0 3))).bind fun t457 => ((modes_Class.f (wrap64 (Int.tmod a2 4096)) (wrap64 (Int.tmod a1 3))).bind fun t458 => (if t457 = t458 then (if 0 ≤ (wrap64 (11 - (wrap64 (Int.tmod a0 3)))) then (gaolerlaw03_ApplyCopies.j0 k (wrap64 (Int.tmod a0 3)) (wrap64 (Int.tmod a2 4096)) t456 ((Go.bits .and .i64 (shr .i64 t456 (wrap64 (11 - (wrap64 (Int.tmod a0 3))))) 1) != 0)) else (none)) else (gaolerlaw03_ApplyCopies.j0 k (wrap64 (Int.tmod a0 3)) (wrap64 (Int.tmod a2 4096)) t456 true))))) else (none)) else (some false))
end Go.Proofs.YtlohbepfecahdaaDoor.S
