-- Written by wip/tools/myprint.py, a session's own driver of the kit's printer.
import Derived.ArgAppend
import Derived.Below
import Derived.BigQuiet
import Derived.Deep.AppendLies
import Derived.Deep.CutBlock
import Derived.Deep.DeepCutAuto
import Derived.Deep.Draws
import Derived.Deep.LoopGhost
import Derived.Deep.OwnRows
import Derived.Deep.QuietTactic
import Derived.Deep.RegionHeld3
import Derived.Handy
import Derived.KernelRfl
import Derived.Laws.BitsAllLaws
import Derived.Laws.BitsLemmas
import Derived.Laws.BytesArg
import Derived.Laws.IdiomCopy
import Derived.Laws.MakeOwn
import Derived.Laws.OwnMore
import Derived.Laws.RangeAny
import Derived.Laws.Rows
import Derived.Laws.Slices
import Derived.Laws.StructEq
import Derived.Lib.AppendStr
import Derived.Lib.ConvBytes
import Derived.Lib.FieldsP
import Derived.Lib.Hide
import Derived.Lib.IndexAny
import Derived.Lib.OthersKept
import Derived.Lib.SlBytesConst
import Derived.Lib.SpaceUEq
import Derived.Maps.AppendAt
import Derived.OneCell
import Derived.OrdersHeld
import Derived.OwnWalk
import Derived.RowKit
import Derived.RowKit3
import Derived.Shelf.LaysM
import Derived.Shelf.Small.Strs
import Derived.Shelf.Small.Utf8
import Derived.Shelf.Strings.Builder1
import Derived.Shelf.Strings.Builder2
import Derived.Shelf.Strings.BuilderF
import Derived.Shelf.Strings.BuilderK
import Derived.Shelf.Strings.Count
import Derived.Shelf.Strings.OnBuilder
import Derived.Shelf.Strings.Runes
import Derived.Shelf.Strings.Search1
import Derived.Shelf.Strings.Search2
import Derived.Shelf.Strings.Search3
import Derived.Shelf.Strings.Shaped
import Derived.Shelf.Strings.Split
import Derived.Shelf.Strings.SplitShaped
import Derived.Shelf.Unicode.DecodeSlow
import Derived.Tactics
import Derived.Test.YtlohbepfecahdaaDoorProg
import Derived.WalkKit
import Derived.WideLaws
import Derived.Test.YtlohbepfecahdaaDoorZfWWords
import Derived.Test.YtlohbepfecahdaaDoorZfWLast
import Derived.Test.YtlohbepfecahdaaDoorZfWApart
import Derived.Test.YtlohbepfecahdaaDoorZfWFoot
import Derived.Test.YtlohbepfecahdaaDoorZfWShare
import Derived.Test.YtlohbepfecahdaaDoorZfWN
import Derived.Test.YtlohbepfecahdaaDoorZfWNEv
import Derived.Test.YtlohbepfecahdaaDoorZfWMore
import Derived.Test.YtlohbepfecahdaaDoorZfB
import Derived.Test.YtlohbepfecahdaaDoorZfC
import Derived.Test.YtlohbepfecahdaaDoorZfShelf
import Derived.Test.YtlohbepfecahdaaDoorZfD
import Derived.Test.YtlohbepfecahdaaDoorZfWTab
import Derived.Test.YtlohbepfecahdaaDoorZfWEqStruct
import Derived.Test.YtlohbepfecahdaaDoorZfWRepsOne
import Derived.Test.YtlohbepfecahdaaDoorZfWGuard
import Derived.Test.YtlohbepfecahdaaDoorZfS0
import Derived.Test.YtlohbepfecahdaaDoorZfS4
import Derived.Test.YtlohbepfecahdaaDoorZfS5
namespace Go.Proofs.YtlohbepfecahdaaDoor.S
open Go.RowKit Go.Proofs.YtlohbepfecahdaaDoorW.PrintWords Go.Proofs.YtlohbepfecahdaaDoorW.PrintLast Go.Proofs.YtlohbepfecahdaaDoorW.PrintMore
set_option linter.unusedVariables false
set_option linter.unusedSimpArgs false
attribute [local go_sem high] eqA60
/-! ### clause_Show: function 21 -/
def whoL : List (UInt8 × Nat) := [(117, 0), (103, 1), (111, 2)]
def whoT (n : Int) : List UInt8 := if n = 7 then [97] else permT n whoL
def actsT (l : List S60) : List UInt8 := (l.map (fun a => textS a.f0 a.f1 a.f2)).flatten
def showOne (c : S34) : List UInt8 := whoT c.f0 ++ actsT c.f1
def showS (l : List S34) : List UInt8 := Lib.join (l.map showOne) [44]
def okA (a : S60) : Bool := decide ((0 ≤ a.f0 ∧ a.f0 < 128) ∧ (0 ≤ a.f1 ∧ a.f1 ≤ 63) ∧ (0 ≤ a.f2 ∧ a.f2 ≤ 3))
def okC (c : S34) : Bool := decide ((0 ≤ c.f0 ∧ c.f0 ≤ 7) ∧ c.f1.length ≤ 4096) && c.f1.all okA
def okL (l : List S34) : Bool := decide (l.length ≤ 4096) && l.all okC
def clause_Show.f (k : Nat) (l0 : List (S34)) : Option ByteArray := (clause_Right.f k l0).bind fun b => if b = true then (if okL l0 = true then some ⟨⟨showS l0⟩⟩ else none) else some ⟨#[]⟩
/-! ### gaolerlaw02_awake: function 14 -/
def gaolerlaw02_awake.f (k : Nat)  : Option (Bool) := (clause_Parse.f k (⟨#[117, 103, 43, 114, 88, 44, 111, 61]⟩ : ByteArray)).bind fun bt134 => ((clause_Parse.f k (⟨#[117, 61, 103, 45, 120]⟩ : ByteArray)).bind fun bt138 => ((clause_Parse.f k (⟨#[43, 114, 103]⟩ : ByteArray)).bind fun bt142 => (if bt134.2 = 0 then (if bt138.2 = 0 then (if bt142.2 = 22 then (if (bt134.1.length : Int) = 2 then (if 0 < (bt134.1.length : Int) then (if ((rd_T34 bt134.1 0).f0) = 3 then (if 0 < (((rd_T34 bt134.1 0).f1).length : Int) then (if (((rd_T60 ((rd_T34 bt134.1 0).f1) 0).f0) == 43 && (((rd_T60 ((rd_T34 bt134.1 0).f1) 0).f1) == 12 && (((rd_T60 ((rd_T34 bt134.1 0).f1) 0).f2) == 0))) = true then (if 1 < (bt134.1.length : Int) then (if ((rd_T34 bt134.1 1).f0) = 4 then (if (bt138.1.length : Int) = 1 then (if 0 < (bt138.1.length : Int) then (if 0 < (((rd_T34 bt138.1 0).f1).length : Int) then (if (((rd_T60 ((rd_T34 bt138.1 0).f1) 0).f0) == 61 && (((rd_T60 ((rd_T34 bt138.1 0).f1) 0).f1) == 0 && (((rd_T60 ((rd_T34 bt138.1 0).f1) 0).f2) == 2))) = true then ((clause_Show.f k bt134.1).bind fun t152 => (some (t152.toList == ([117, 103, 43, 114, 88, 44, 111, 61] : List UInt8)))) else (some false)) else (none)) else (none)) else (some false)) else (some false)) else (none)) else (some false)) else (none)) else (some false)) else (none)) else (some false)) else (some false)) else (some false)) else (some false))))
/-! ### gaolerref02_Place: function 38 -/
def gaolerref02_Place.l0 : Nat → ByteArray → Int → Int → Option (Int)
  | 0, _, _, _ => none
  | k + 1, x0, x1, x5 => if x5 < (x0.size : Int) then (if 0 ≤ x5 then (if (bt x0 x5) = x1 then (some x5) else (gaolerref02_Place.l0 k x0 x1 (wrap64 (x5 + 1)))) else (none)) else (some (-1))
def gaolerref02_Place.f (k : Nat) (a0 : ByteArray) (a1 : Int) : Option (Int) := gaolerref02_Place.l0 k a0 a1 0
end Go.Proofs.YtlohbepfecahdaaDoor.S
