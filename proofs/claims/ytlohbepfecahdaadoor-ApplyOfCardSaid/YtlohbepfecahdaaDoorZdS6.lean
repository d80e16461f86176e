-- Written by wip/tools/myprint.py, a session's own driver of the kit's printer.
import Derived.ArgAppend
import Derived.Below
import Derived.BigQuiet
import Derived.Deep.AppendLies
import Derived.Deep.CutBlock
import Derived.Deep.DeepCutAuto
import Derived.Deep.Draws
import Derived.Deep.LoopGhost
import Derived.Deep.OwnRows
import Derived.Deep.QuietTactic
import Derived.Deep.RegionHeld3
import Derived.Handy
import Derived.KernelRfl
import Derived.Laws.BitsAllLaws
import Derived.Laws.BitsLemmas
import Derived.Laws.BytesArg
import Derived.Laws.IdiomCopy
import Derived.Laws.MakeOwn
import Derived.Laws.OwnMore
import Derived.Laws.RangeAny
import Derived.Laws.Rows
import Derived.Laws.Slices
import Derived.Laws.StructEq
import Derived.Lib.AppendStr
import Derived.Lib.ConvBytes
import Derived.Lib.FieldsP
import Derived.Lib.Hide
import Derived.Lib.IndexAny
import Derived.Lib.OthersKept
import Derived.Lib.SlBytesConst
import Derived.Lib.SpaceUEq
import Derived.Maps.AppendAt
import Derived.OneCell
import Derived.OrdersHeld
import Derived.OwnWalk
import Derived.RowKit
import Derived.RowKit3
import Derived.Shelf.LaysM
import Derived.Shelf.Small.Strs
import Derived.Shelf.Small.Utf8
import Derived.Shelf.Strings.Builder1
import Derived.Shelf.Strings.Builder2
import Derived.Shelf.Strings.BuilderF
import Derived.Shelf.Strings.BuilderK
import Derived.Shelf.Strings.Count
import Derived.Shelf.Strings.OnBuilder
import Derived.Shelf.Strings.Runes
import Derived.Shelf.Strings.Search1
import Derived.Shelf.Strings.Search2
import Derived.Shelf.Strings.Search3
import Derived.Shelf.Strings.Shaped
import Derived.Shelf.Strings.Split
import Derived.Shelf.Strings.SplitShaped
import Derived.Shelf.Unicode.DecodeSlow
import Derived.Tactics
import Derived.Test.YtlohbepfecahdaaDoorProg
import Derived.WalkKit
import Derived.WideLaws
import Derived.Test.YtlohbepfecahdaaDoorZdWWords
import Derived.Test.YtlohbepfecahdaaDoorZdWLast
import Derived.Test.YtlohbepfecahdaaDoorZdWApart
import Derived.Test.YtlohbepfecahdaaDoorZdWFoot
import Derived.Test.YtlohbepfecahdaaDoorZdWMore
import Derived.Test.YtlohbepfecahdaaDoorZdB
import Derived.Test.YtlohbepfecahdaaDoorZdC
import Derived.Test.YtlohbepfecahdaaDoorZdShelf
import Derived.Test.YtlohbepfecahdaaDoorZdD
import Derived.Test.YtlohbepfecahdaaDoorZdWTab
import Derived.Test.YtlohbepfecahdaaDoorZdWEqStruct
import Derived.Test.YtlohbepfecahdaaDoorZdWRepsOne
import Derived.Test.YtlohbepfecahdaaDoorZdWGuard
import Derived.Test.YtlohbepfecahdaaDoorZdS0
import Derived.Test.YtlohbepfecahdaaDoorZdS4
import Derived.Test.YtlohbepfecahdaaDoorZdS5
namespace Go.Proofs.YtlohbepfecahdaaDoor.S
open Go.RowKit Go.Proofs.YtlohbepfecahdaaDoorW.PrintWords Go.Proofs.YtlohbepfecahdaaDoorW.PrintLast Go.Proofs.YtlohbepfecahdaaDoorW.PrintMore
set_option linter.unusedVariables false
set_option linter.unusedSimpArgs false
attribute [local go_sem high] eqA60
/-! ### clause_Show: function 21 -/
def whoL : List (UInt8 × Nat) := [(117, 0), (103, 1), (111, 2)]
def whoT (n : Int) : List UInt8 := if n = 7 then [97] else permT n whoL
def actsT (l : List S60) : List UInt8 := (l.map (fun a => textS a.f0 a.f1 a.f2)).flatten
def showOne (c : S34) : List UInt8 := whoT c.f0 ++ actsT c.f1
def showS (l : List S34) : List UInt8 := Lib.join (l.map showOne) [44]
def okA (a : S60) : Bool := decide ((0 ≤ a.f0 ∧ a.f0 < 128) ∧ (0 ≤ a.f1 ∧ a.f1 ≤ 63) ∧ (0 ≤ a.f2 ∧ a.f2 ≤ 3))
def okC (c : S34) : Bool := decide ((0 ≤ c.f0 ∧ c.f0 ≤ 7) ∧ c.f1.length ≤ 4096) && c.f1.all okA
def okL (l : List S34) : Bool := decide (l.length ≤ 4096) && l.all okC
def clause_Show.f (k : Nat) (l0 : List (S34)) : Option ByteArray := (clause_Right.f k l0).bind fun b => if b = true then (if okL l0 = true then some ⟨⟨showS l0⟩⟩ else none) else some ⟨#[]⟩
/-! ### gaolerlaw02_awake: function 14 -/
def gaolerlaw02_awake.f (k : Nat)  : Option (Bool) := (clause_Parse.f k (⟨#[117, 103, 43, 114, 88, 44, 111, 61]⟩ : ByteArray)).bind fun bt133 => ((clause_Parse.f k (⟨#[117, 61, 103, 45, 120]⟩ : ByteArray)).bind fun bt137 => ((clause_Parse.f k (⟨#[43, 114, 103]⟩ : ByteArray)).bind fun bt141 => (if bt133.2 = 0 then (if bt137.2 = 0 then (if bt141.2 = 22 then (if (bt133.1.length : Int) = 2 then (if 0 < (bt133.1.length : Int) then (if ((rd_T34 bt133.1 0).f0) = 3 then (if 0 < (((rd_T34 bt133.1 0).f1).length : Int) then (if (((rd_T60 ((rd_T34 bt133.1 0).f1) 0).f0) == 43 && (((rd_T60 ((rd_T34 bt133.1 0).f1) 0).f1) == 12 && (((rd_T60 ((rd_T34 bt133.1 0).f1) 0).f2) == 0))) = true then (if 1 < (bt133.1.length : Int) then (if ((rd_T34 bt133.1 1).f0) = 4 then (if (bt137.1.length : Int) = 1 then (if 0 < (bt137.1.length : Int) then (if 0 < (((rd_T34 bt137.1 0).f1).length : Int) then (if (((rd_T60 ((rd_T34 bt137.1 0).f1) 0).f0) == 61 && (((rd_T60 ((rd_T34 bt137.1 0).f1) 0).f1) == 0 && (((rd_T60 ((rd_T34 bt137.1 0).f1) 0).f2) == 2))) = true then ((clause_Show.f k bt133.1).bind fun t151 => (some (t151.toList == ([117, 103, 43, 114, 88, 44, 111, 61] : List UInt8)))) else (some false)) else (none)) else (none)) else (some false)) else (some false)) else (none)) else (some false)) else (none)) else (some false)) else (none)) else (some false)) else (some false)) else (some false)) else (some false))))
/-! ### gaolerref02_Place: function 38 -/
def gaolerref02_Place.l0 : Nat → ByteArray → Int → Int → Option (Int)
  | 0, _, _, _ => none
  | k + 1, x0, x1, x5 => if x5 < (x0.size : Int) then (if 0 ≤ x5 then (if (bt x0 x5) = x1 then (some x5) else (gaolerref02_Place.l0 k x0 x1 (wrap64 (x5 + 1)))) else (none)) else (some (-1))
def gaolerref02_Place.f (k : Nat) (a0 : ByteArray) (a1 : Int) : Option (Int) := gaolerref02_Place.l0 k a0 a1 0
set_option maxHeartbeats 8000000 in
set_option maxRecDepth 100000 in
theorem gaolerref02_Place.calls (k : Nat) (a0 : ByteArray) (a1 : Int) (r : Int) (w : World) (h : gaolerref02_Place.f k a0 a1 = some r) :
    Calls Tryd.prog 38 #[.string a0, .int .u8 a1] w fun e w' => e = .returned (.int .i64 r) ∧ Drawn0 w w' := by
  have H : (gaolerref02_Place.l0 k a0 a1 0) = some r := h
  clear h
  have H' := Aside0.mk H
  clear H
  go_enter Tryd.func38, Tryd.ntmps38
  go_wp2
  go_loopg [5] k (fun kq v5 w' => ∃ (x5_1 : Int), v5 = .int .i64 x5_1 ∧ Aside0 (gaolerref02_Place.l0 kq a0 a1 x5_1 = some r) ∧ Aside0 (kq ≤ k) ∧ Drawn0 w w')
  case atStart => exact ⟨(0), (by first | rfl | (simp; done) | (simp [*]; done)), H', ⟨Nat.le_refl _⟩, by repeat (first | exact Drawn0.refl _ | apply Drawn0.step)⟩
  case round =>
    clear H'
    try clear p2
    obtain ⟨x5_1, rfl, HA, HK1, ⟨m1, rfl⟩⟩ := hrel
    cases gk with
    | zero => exact absurd HA.out (by simp [gaolerref02_Place.l0])
    | succ k1 =>
      have H := HA.out
      clear HA
      simp only [gaolerref02_Place.l0] at H
      by_cases c3 : x5_1 < (a0.size : Int)
      · rw [if_pos c3] at H
        have c3b0 : decide (x5_1 < (a0.size : Int)) = true := decide_eq_true c3
        clear c3
        by_cases c4 : 0 ≤ x5_1
        · rw [if_pos c4] at H
          have c4b0 : decide (0 ≤ x5_1) = true := decide_eq_true c4
          clear c4
          by_cases c6 : (bt a0 x5_1) = a1
          · rw [if_pos c6] at H
            have c6b0 : ((bt a0 x5_1) == a1) = true := beq_iff_eq.mpr c6
            have c6b1 : ((bt a0 x5_1) != a1) = false := bne_eq_false_iff_eq.mpr c6
            clear c6
            obtain rfl := Option.some.inj H
            have p5 : 0 ≤ (x5_1 : Int) := of_decide_eq_true (by first | (with_reducible assumption) | assumption)
            have q5 : x5_1 < (a0.size : Int) := of_decide_eq_true (by first | (with_reducible assumption) | assumption)
            have hx5 := bt_at a0 x5_1
            replace p5 := eq_true p5
            replace q5 := eq_true q5
            go_wp2
            go_ret
            exact ⟨by first | rfl | (simp; done) | (simp [*]; done), by repeat (first | exact Drawn0.refl _ | apply Drawn0.step)⟩
          · rw [if_neg c6] at H
            have c6b0 : ((bt a0 x5_1) == a1) = false := beq_eq_false_iff_ne.mpr c6
            have c6b1 : ((bt a0 x5_1) != a1) = true := bne_iff_ne.mpr c6
            have H' := Aside0.mk H
            clear H
            have p5 : 0 ≤ (x5_1 : Int) := of_decide_eq_true (by first | (with_reducible assumption) | assumption)
            have q5 : x5_1 < (a0.size : Int) := of_decide_eq_true (by first | (with_reducible assumption) | assumption)
            have hx5 := bt_at a0 x5_1
            replace p5 := eq_true p5
            replace q5 := eq_true q5
            go_wp2
            go_roundg k1
            case measure => have := HK1.out; omega
            case rel => exact ⟨(wrap64 (x5_1 + 1)), (by first | rfl | (simp; done) | (simp [*]; done)), H', ⟨by have := HK1.out; omega⟩, by repeat (first | exact Drawn0.refl _ | apply Drawn0.step)⟩
        · rw [if_neg c4] at H
          exact absurd H (by simp)
      · rw [if_neg c3] at H
        have c3b0 : decide (x5_1 < (a0.size : Int)) = false := decide_eq_false c3
        clear c3
        obtain rfl := Option.some.inj H
        go_wp2
        go_ret
        exact ⟨by first | rfl | (simp; done) | (simp [*]; done), by repeat (first | exact Drawn0.refl _ | apply Drawn0.step)⟩
end Go.Proofs.YtlohbepfecahdaaDoor.S
