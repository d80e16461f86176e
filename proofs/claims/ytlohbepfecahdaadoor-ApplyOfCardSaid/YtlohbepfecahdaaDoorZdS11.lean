-- Written by wip/tools/myprint.py, a session's own driver of the kit's printer.
import Derived.ArgAppend
import Derived.Below
import Derived.BigQuiet
import Derived.Deep.AppendLies
import Derived.Deep.CutBlock
import Derived.Deep.DeepCutAuto
import Derived.Deep.Draws
import Derived.Deep.LoopGhost
import Derived.Deep.OwnRows
import Derived.Deep.QuietTactic
import Derived.Deep.RegionHeld3
import Derived.Handy
import Derived.KernelRfl
import Derived.Laws.BitsAllLaws
import Derived.Laws.BitsLemmas
import Derived.Laws.BytesArg
import Derived.Laws.IdiomCopy
import Derived.Laws.MakeOwn
import Derived.Laws.OwnMore
import Derived.Laws.RangeAny
import Derived.Laws.Rows
import Derived.Laws.Slices
import Derived.Laws.StructEq
import Derived.Lib.AppendStr
import Derived.Lib.ConvBytes
import Derived.Lib.FieldsP
import Derived.Lib.Hide
import Derived.Lib.IndexAny
import Derived.Lib.OthersKept
import Derived.Lib.SlBytesConst
import Derived.Lib.SpaceUEq
import Derived.Maps.AppendAt
import Derived.OneCell
import Derived.OrdersHeld
import Derived.OwnWalk
import Derived.RowKit
import Derived.RowKit3
import Derived.Shelf.LaysM
import Derived.Shelf.Small.Strs
import Derived.Shelf.Small.Utf8
import Derived.Shelf.Strings.Builder1
import Derived.Shelf.Strings.Builder2
import Derived.Shelf.Strings.BuilderF
import Derived.Shelf.Strings.BuilderK
import Derived.Shelf.Strings.Count
import Derived.Shelf.Strings.OnBuilder
import Derived.Shelf.Strings.Runes
import Derived.Shelf.Strings.Search1
import Derived.Shelf.Strings.Search2
import Derived.Shelf.Strings.Search3
import Derived.Shelf.Strings.Shaped
import Derived.Shelf.Strings.Split
import Derived.Shelf.Strings.SplitShaped
import Derived.Shelf.Unicode.DecodeSlow
import Derived.Tactics
import Derived.Test.YtlohbepfecahdaaDoorProg
import Derived.WalkKit
import Derived.WideLaws
import Derived.Test.YtlohbepfecahdaaDoorZdWWords
import Derived.Test.YtlohbepfecahdaaDoorZdWLast
import Derived.Test.YtlohbepfecahdaaDoorZdWApart
import Derived.Test.YtlohbepfecahdaaDoorZdWFoot
import Derived.Test.YtlohbepfecahdaaDoorZdWMore
import Derived.Test.YtlohbepfecahdaaDoorZdB
import Derived.Test.YtlohbepfecahdaaDoorZdC
import Derived.Test.YtlohbepfecahdaaDoorZdShelf
import Derived.Test.YtlohbepfecahdaaDoorZdD
import Derived.Test.YtlohbepfecahdaaDoorZdWTab
import Derived.Test.YtlohbepfecahdaaDoorZdWEqStruct
import Derived.Test.YtlohbepfecahdaaDoorZdWRepsOne
import Derived.Test.YtlohbepfecahdaaDoorZdWGuard
import Derived.Test.YtlohbepfecahdaaDoorZdS0
import Derived.Test.YtlohbepfecahdaaDoorZdS6
namespace Go.Proofs.YtlohbepfecahdaaDoor.S
open Go.RowKit Go.Proofs.YtlohbepfecahdaaDoorW.PrintWords Go.Proofs.YtlohbepfecahdaaDoorW.PrintLast Go.Proofs.YtlohbepfecahdaaDoorW.PrintMore
set_option linter.unusedVariables false
set_option linter.unusedSimpArgs false
/-! ### gaolerref02_Right: function 20 -/
mutual
def gaolerref02_Right.l0 : Nat → List (S72) → Int → Option (Bool)
  | 0, _, _ => none
  | k + 1, x0, x3 => if x3 < (x0.length : Int) then (if 0 ≤ x3 then (if ((rd_T72 x0 x3).f0) < 0 then (gaolerref02_Right.j1 k x0 x3 true) else (if ((rd_T72 x0 x3).f0) > 7 then (gaolerref02_Right.j1 k x0 x3 true) else (gaolerref02_Right.j1 k x0 x3 ((((rd_T72 x0 x3).f1).length : Int) == 0)))) else (none)) else (some (decide ((x0.length : Int) > 0)))
def gaolerref02_Right.j1 : Nat → List (S72) → Int → Bool → Option (Bool)
  | 0, _, _, _ => none
  | k + 1, x0, x3, x34 => if x34 = true then (some false) else (gaolerref02_Right.l1 k x0 x3 0)
def gaolerref02_Right.l1 : Nat → List (S72) → Int → Int → Option (Bool)
  | 0, _, _, _ => none
  | k + 1, x0, x3, x4 => if 0 ≤ x3 then (if x3 < (x0.length : Int) then (if x4 < (((rd_T72 x0 x3).f1).length : Int) then (if 0 ≤ x4 then ((gaolerref02_Place.f k (⟨#[43, 45, 61]⟩ : ByteArray) ((rd_T75 ((rd_T72 x0 x3).f1) x4).f0)).bind fun t224 => (if t224 < 0 then (some false) else (if ((rd_T75 ((rd_T72 x0 x3).f1) x4).f1) < 0 then (some false) else (if ((rd_T75 ((rd_T72 x0 x3).f1) x4).f1) > 63 then (some false) else (if ((rd_T75 ((rd_T72 x0 x3).f1) x4).f2) < 0 then (some false) else (if ((rd_T75 ((rd_T72 x0 x3).f1) x4).f2) > 3 then (some false) else (if ((rd_T75 ((rd_T72 x0 x3).f1) x4).f1) > 0 then (if ((rd_T75 ((rd_T72 x0 x3).f1) x4).f2) > 0 then (some false) else (gaolerref02_Right.l1 k x0 x3 (wrap64 (x4 + 1)))) else (gaolerref02_Right.l1 k x0 x3 (wrap64 (x4 + 1)))))))))) else (none)) else (gaolerref02_Right.l0 k x0 (wrap64 (x3 + 1)))) else (none)) else (none)
end
def gaolerref02_Right.f (k : Nat) (l0 : List (S72)) : Option (Bool) := gaolerref02_Right.l0 k l0 0
set_option maxHeartbeats 8000000 in
set_option maxRecDepth 100000 in
theorem gaolerref02_Right.calls (k : Nat) (A0 : Option Addr) (c0 : Nat) (l0 : List (S72)) (r : Bool) (w : World) (hr0 : Kd.C k72 w A0 l0.length l0) (hc0 : l0.length ≤ c0) (h : gaolerref02_Right.f k l0 = some r) :
    Calls Tryd.prog 20 #[.slice A0 l0.length c0] w fun e w' => e = .returned (.bool r) ∧ Below w.heap.size w w' := by
  have hu75 := Tryd.underlying75
  have HR0 := Aside0.mk hr0
  have HC0 := Aside0.mk hc0
  clear hr0 hc0
  have HB := Aside0.mk (Below.refl w.heap.size w)
  have H : (gaolerref02_Right.l0 k l0 0) = some r := h
  clear h
  have H' := Aside0.mk H
  clear H
  go_enter Tryd.func20, Tryd.ntmps20
  go_wp2
  go_loopg [3] k (fun kq v3 w' => ∃ (x3_1 : Int), v3 = .int .i64 x3_1 ∧ Aside0 (gaolerref02_Right.l0 kq l0 x3_1 = some r) ∧ Aside0 (kq ≤ k) ∧ Aside0 (Below w.heap.size w w'))
  case atStart => exact ⟨(0), (by first | rfl | (simp; done) | (simp [*]; done)), H', ⟨Nat.le_refl _⟩, ⟨by repeat (first | (with_reducible first | exact HB.out | apply below_alloc | apply pw_below_drewN | apply below_drew1) | exact HB.out)⟩⟩
  case round =>
    clear H'
    obtain ⟨x3_1, rfl, HA, HK1, HB⟩ := hrel
    cases gk with
    | zero => exact absurd HA.out (by simp [gaolerref02_Right.l0])
    | succ k1 =>
      have H := HA.out
      clear HA
      simp only [gaolerref02_Right.l0] at H
      by_cases c2 : x3_1 < (l0.length : Int)
      · rw [if_pos c2] at H
        have c2b0 : decide (x3_1 < (l0.length : Int)) = true := decide_eq_true c2
        clear c2
        have HC3 := Aside0.mk H
        clear H
        go_upto_region 4 with (fail)
        go_cut [34] (fun v34 wc => ∃ (kq : Nat) (x34_2 : Bool), v34 = .bool x34_2 ∧ Aside0 (gaolerref02_Right.j1 kq l0 x3_1 x34_2 = some r) ∧ Aside0 (kq ≤ k1) ∧ Aside0 (Below w.heap.size w wc))
        case first =>
          have H := HC3.out
          clear HC3
          by_cases c4 : 0 ≤ x3_1
          · rw [if_pos c4] at H
            have c4b0 : decide (0 ≤ x3_1) = true := decide_eq_true c4
            clear c4
            (first | rw [c4b0] | (simp only [i64_w, i32_w]; rw [c4b0]) | skip)
            by_cases c5 : ((rd_T72 l0 x3_1).f0) < 0
            · rw [if_pos c5] at H
              have c5b0 : decide (((rd_T72 l0 x3_1).f0) < 0) = true := decide_eq_true c5
              clear c5
              have H' := Aside0.mk H
              clear H
              have p217 : 0 ≤ (x3_1 : Int) := of_decide_eq_true (by first | (with_reducible assumption) | assumption)
              have q217 : x3_1 < (l0.length : Int) := of_decide_eq_true (by first | (with_reducible assumption) | assumption)
              obtain ⟨ad217, A217_1, c217_1, e217, hx217_0, hx217_1, hl217_1, hi217_1⟩ := at_T72 HR0.out x3_1 p217 q217
              cases e217
              replace hx217_0 := (HB.out.cell (World.block_lt_of_cell? w _ hx217_0)).trans hx217_0
              replace hx217_1 := (HB.out.cell (World.block_lt_of_cell? w _ hx217_1)).trans hx217_1
              have HR217_1 := Aside0.mk hi217_1
              have HC217_1 := Aside0.mk hl217_1
              clear hi217_1 hl217_1
              replace p217 := eq_true p217
              replace q217 := eq_true q217
              go_wp2
              go_meet
              case rel => exact ⟨_, (true), (by first | rfl | (simp; done) | (simp [*]; done)), H', ⟨by have := HK1.out; first | omega | exact Nat.le_refl _⟩, ⟨by repeat (first | (with_reducible first | exact HB.out | apply below_alloc | apply pw_below_drewN | apply below_drew1) | exact HB.out)⟩⟩
            · rw [if_neg c5] at H
              have c5b0 : decide (((rd_T72 l0 x3_1).f0) < 0) = false := decide_eq_false c5
              clear c5
              by_cases c6 : ((rd_T72 l0 x3_1).f0) > 7
              · rw [if_pos c6] at H
                have c6b0 : decide (7 < ((rd_T72 l0 x3_1).f0)) = true := decide_eq_true c6
                clear c6
                have H' := Aside0.mk H
                clear H
                have p217 : 0 ≤ (x3_1 : Int) := of_decide_eq_true (by first | (with_reducible assumption) | assumption)
                have q217 : x3_1 < (l0.length : Int) := of_decide_eq_true (by first | (with_reducible assumption) | assumption)
                obtain ⟨ad217, A217_1, c217_1, e217, hx217_0, hx217_1, hl217_1, hi217_1⟩ := at_T72 HR0.out x3_1 p217 q217
                cases e217
                replace hx217_0 := (HB.out.cell (World.block_lt_of_cell? w _ hx217_0)).trans hx217_0
                replace hx217_1 := (HB.out.cell (World.block_lt_of_cell? w _ hx217_1)).trans hx217_1
                have HR217_1 := Aside0.mk hi217_1
                have HC217_1 := Aside0.mk hl217_1
                clear hi217_1 hl217_1
                replace p217 := eq_true p217
                replace q217 := eq_true q217
                have p218 : 0 ≤ (x3_1 : Int) := of_decide_eq_true (by first | (with_reducible assumption) | assumption)
                have q218 : x3_1 < (l0.length : Int) := of_decide_eq_true (by first | (with_reducible assumption) | assumption)
                obtain ⟨ad218, A218_1, c218_1, e218, hx218_0, hx218_1, hl218_1, hi218_1⟩ := at_T72 HR0.out x3_1 p218 q218
                obtain rfl : ad217 = ad218 := (by injection e218)
                replace hx218_0 := (HB.out.cell (World.block_lt_of_cell? w _ hx218_0)).trans hx218_0
                replace hx218_1 := (HB.out.cell (World.block_lt_of_cell? w _ hx218_1)).trans hx218_1
                have HR218_1 := Aside0.mk hi218_1
                have HC218_1 := Aside0.mk hl218_1
                clear hi218_1 hl218_1
                replace p218 := eq_true p218
                replace q218 := eq_true q218
                have ea_ := Option.some.inj (hx217_1.symm.trans hx218_1)
                injection ea_ with ea_ en_ ec_
                subst ea_
                subst ec_
                clear en_
                go_wp2
                go_meet
                case rel => exact ⟨_, (true), (by first | rfl | (simp; done) | (simp [*]; done)), H', ⟨by have := HK1.out; first | omega | exact Nat.le_refl _⟩, ⟨by repeat (first | (with_reducible first | exact HB.out | apply below_alloc | apply pw_below_drewN | apply below_drew1) | exact HB.out)⟩⟩
              · rw [if_neg c6] at H
                have c6b0 : decide (7 < ((rd_T72 l0 x3_1).f0)) = false := decide_eq_false c6
                clear c6
                have H' := Aside0.mk H
                clear H
                have p217 : 0 ≤ (x3_1 : Int) := of_decide_eq_true (by first | (with_reducible assumption) | assumption)
                have q217 : x3_1 < (l0.length : Int) := of_decide_eq_true (by first | (with_reducible assumption) | assumption)
                obtain ⟨ad217, A217_1, c217_1, e217, hx217_0, hx217_1, hl217_1, hi217_1⟩ := at_T72 HR0.out x3_1 p217 q217
                cases e217
                replace hx217_0 := (HB.out.cell (World.block_lt_of_cell? w _ hx217_0)).trans hx217_0
                replace hx217_1 := (HB.out.cell (World.block_lt_of_cell? w _ hx217_1)).trans hx217_1
                have HR217_1 := Aside0.mk hi217_1
                have HC217_1 := Aside0.mk hl217_1
                clear hi217_1 hl217_1
                replace p217 := eq_true p217
                replace q217 := eq_true q217
                have p218 : 0 ≤ (x3_1 : Int) := of_decide_eq_true (by first | (with_reducible assumption) | assumption)
                have q218 : x3_1 < (l0.length : Int) := of_decide_eq_true (by first | (with_reducible assumption) | assumption)
                obtain ⟨ad218, A218_1, c218_1, e218, hx218_0, hx218_1, hl218_1, hi218_1⟩ := at_T72 HR0.out x3_1 p218 q218
                obtain rfl : ad217 = ad218 := (by injection e218)
                replace hx218_0 := (HB.out.cell (World.block_lt_of_cell? w _ hx218_0)).trans hx218_0
                replace hx218_1 := (HB.out.cell (World.block_lt_of_cell? w _ hx218_1)).trans hx218_1
                have HR218_1 := Aside0.mk hi218_1
                have HC218_1 := Aside0.mk hl218_1
                clear hi218_1 hl218_1
                replace p218 := eq_true p218
                replace q218 := eq_true q218
                have ea_ := Option.some.inj (hx217_1.symm.trans hx218_1)
                injection ea_ with ea_ en_ ec_
                subst ea_
                subst ec_
                clear en_
                have p219 : 0 ≤ (x3_1 : Int) := of_decide_eq_true (by first | (with_reducible assumption) | assumption)
                have q219 : x3_1 < (l0.length : Int) := of_decide_eq_true (by first | (with_reducible assumption) | assumption)
                obtain ⟨ad219, A219_1, c219_1, e219, hx219_0, hx219_1, hl219_1, hi219_1⟩ := at_T72 HR0.out x3_1 p219 q219
                obtain rfl : ad217 = ad219 := (by injection e219)
                replace hx219_0 := (HB.out.cell (World.block_lt_of_cell? w _ hx219_0)).trans hx219_0
                replace hx219_1 := (HB.out.cell (World.block_lt_of_cell? w _ hx219_1)).trans hx219_1
                have HR219_1 := Aside0.mk hi219_1
                have HC219_1 := Aside0.mk hl219_1
                clear hi219_1 hl219_1
                replace p219 := eq_true p219
                replace q219 := eq_true q219
                have ea_ := Option.some.inj (hx217_1.symm.trans hx219_1)
                injection ea_ with ea_ en_ ec_
                subst ea_
                subst ec_
                clear en_
                go_wp2
                go_meet
                case rel => exact ⟨_, (((((rd_T72 l0 x3_1).f1).length : Int) == 0)), (by first | rfl | (simp; done) | (simp [*]; done)), H', ⟨by have := HK1.out; first | omega | exact Nat.le_refl _⟩, ⟨by repeat (first | (with_reducible first | exact HB.out | apply below_alloc | apply pw_below_drewN | apply below_drew1) | exact HB.out)⟩⟩
          · rw [if_neg c4] at H
            exact absurd H (by simp)
        case rest =>
          clear HC3
          try clear c2
          try clear c2b0
          try clear p2
          try clear q2
          try clear hx2
          try clear c4
          try clear c4b0
          try clear c5
          try clear c5b0
          try clear c6
          try clear c6b0
          try clear hx217_0
          try clear hx217_1
          try clear hx218_0
          try clear hx218_1
          try clear hx219_0
          try clear hx219_1
          try clear p217
          try clear p218
          try clear p219
          try clear q217
          try clear q218
          try clear q219
          obtain ⟨kq, x34_2, rfl, HA, HJ2, HB⟩ := hcut
          cases kq with
          | zero => exact absurd HA.out (by simp [gaolerref02_Right.j1])
          | succ kj2 =>
            have H := HA.out
            clear HA
            simp only [gaolerref02_Right.j1] at H
            by_cases c7 : x34_2 = true
            · subst c7
              have H1 : (some false) = some r := by rw [if_pos rfl] at H; exact H
              clear H
              have H := H1
              clear H1
              obtain rfl := Option.some.inj H
              go_wp2
              go_ret
              exact ⟨by first | rfl | (simp [errW_none, errW_some] <;> rfl) | (simp [*, errW_none, errW_some] <;> rfl), by repeat (first | (with_reducible first | exact HB.out | apply below_alloc | apply pw_below_drewN | apply below_drew1) | exact HB.out)⟩
            · replace c7 := Bool.eq_false_iff.mpr c7
              subst c7
              have H1 : (gaolerref02_Right.l1 kj2 l0 x3_1 0) = some r := by rw [if_neg (show ¬ (false = true) by decide)] at H; exact H
              clear H
              have H := H1
              clear H1
              have H' := Aside0.mk H
              clear H
              go_wp2
              go_loopg [4] kj2 (fun kq v4 w' => ∃ (x4_3 : Int), v4 = .int .i64 x4_3 ∧ Aside0 (gaolerref02_Right.l1 kq l0 x3_1 x4_3 = some r) ∧ Aside0 (kq ≤ kj2) ∧ Aside0 (Below w.heap.size w w'))
              case atStart => exact ⟨(0), (by first | rfl | (simp; done) | (simp [*]; done)), H', ⟨Nat.le_refl _⟩, ⟨by repeat (first | (with_reducible first | exact HB.out | apply below_alloc | apply pw_below_drewN | apply below_drew1) | exact HB.out)⟩⟩
              case round =>
                clear H'
                try clear c2
                try clear c2b0
                try clear p2
                try clear q2
                try clear hx2
                try clear c4
                try clear c4b0
                try clear c5
                try clear c5b0
                try clear c6
                try clear c6b0
                try clear c7
                try clear hx217_0
                try clear hx217_1
                try clear hx218_0
                try clear hx218_1
                try clear hx219_0
                try clear hx219_1
                try clear p2
                try clear p217
                try clear p218
                try clear p219
                try clear q2
                try clear q217
                try clear q218
                try clear q219
                obtain ⟨x4_3, rfl, HA, HK3, HB⟩ := hrel
                cases gk with
                | zero => exact absurd HA.out (by simp [gaolerref02_Right.l1])
                | succ k3 =>
                  have H := HA.out
                  clear HA
                  simp only [gaolerref02_Right.l1] at H
                  by_cases c8 : 0 ≤ x3_1
                  · rw [if_pos c8] at H
                    have c8b0 : decide (0 ≤ x3_1) = true := decide_eq_true c8
                    clear c8
                    by_cases c9 : x3_1 < (l0.length : Int)
                    · rw [if_pos c9] at H
                      have c9b0 : decide (x3_1 < (l0.length : Int)) = true := decide_eq_true c9
                      clear c9
                      by_cases c10 : x4_3 < (((rd_T72 l0 x3_1).f1).length : Int)
                      · rw [if_pos c10] at H
                        have c10b0 : decide (x4_3 < (((rd_T72 l0 x3_1).f1).length : Int)) = true := decide_eq_true c10
                        clear c10
                        by_cases c11 : 0 ≤ x4_3
                        · rw [if_pos c11] at H
                          have c11b0 : decide (0 ≤ x4_3) = true := decide_eq_true c11
                          clear c11
                          replace H := Option.bind_eq_some_iff.mp H
                          obtain ⟨t224, A120, H⟩ := H
                          replace H : (if t224 < 0 then (some false) else (if ((rd_T75 ((rd_T72 l0 x3_1).f1) x4_3).f1) < 0 then (some false) else (if ((rd_T75 ((rd_T72 l0 x3_1).f1) x4_3).f1) > 63 then (some false) else (if ((rd_T75 ((rd_T72 l0 x3_1).f1) x4_3).f2) < 0 then (some false) else (if ((rd_T75 ((rd_T72 l0 x3_1).f1) x4_3).f2) > 3 then (some false) else (if ((rd_T75 ((rd_T72 l0 x3_1).f1) x4_3).f1) > 0 then (if ((rd_T75 ((rd_T72 l0 x3_1).f1) x4_3).f2) > 0 then (some false) else (gaolerref02_Right.l1 k3 l0 x3_1 (wrap64 (x4_3 + 1)))) else (gaolerref02_Right.l1 k3 l0 x3_1 (wrap64 (x4_3 + 1))))))))) = some r := H
                          have A12 := Aside0.mk A120
                          clear A120
                          by_cases c13 : t224 < 0
                          · rw [if_pos c13] at H
                            have c13b0 : decide (t224 < 0) = true := decide_eq_true c13
                            clear c13
                            obtain rfl := Option.some.inj H
                            have p220 : 0 ≤ (x3_1 : Int) := of_decide_eq_true (by first | (with_reducible assumption) | assumption)
                            have q220 : x3_1 < (l0.length : Int) := of_decide_eq_true (by first | (with_reducible assumption) | assumption)
                            obtain ⟨ad220, A220_1, c220_1, e220, hx220_0, hx220_1, hl220_1, hi220_1⟩ := at_T72 HR0.out x3_1 p220 q220
                            cases e220
                            replace hx220_0 := (HB.out.cell (World.block_lt_of_cell? w _ hx220_0)).trans hx220_0
                            replace hx220_1 := (HB.out.cell (World.block_lt_of_cell? w _ hx220_1)).trans hx220_1
                            have HR220_1 := Aside0.mk hi220_1
                            have HC220_1 := Aside0.mk hl220_1
                            clear hi220_1 hl220_1
                            replace p220 := eq_true p220
                            replace q220 := eq_true q220
                            have p221 : 0 ≤ (x3_1 : Int) := of_decide_eq_true (by first | (with_reducible assumption) | assumption)
                            have q221 : x3_1 < (l0.length : Int) := of_decide_eq_true (by first | (with_reducible assumption) | assumption)
                            obtain ⟨ad221, A221_1, c221_1, e221, hx221_0, hx221_1, hl221_1, hi221_1⟩ := at_T72 HR0.out x3_1 p221 q221
                            obtain rfl : ad220 = ad221 := (by injection e221)
                            replace hx221_0 := (HB.out.cell (World.block_lt_of_cell? w _ hx221_0)).trans hx221_0
                            replace hx221_1 := (HB.out.cell (World.block_lt_of_cell? w _ hx221_1)).trans hx221_1
                            have HR221_1 := Aside0.mk hi221_1
                            have HC221_1 := Aside0.mk hl221_1
                            clear hi221_1 hl221_1
                            replace p221 := eq_true p221
                            replace q221 := eq_true q221
                            have ea_ := Option.some.inj (hx220_1.symm.trans hx221_1)
                            injection ea_ with ea_ en_ ec_
                            subst ea_
                            subst ec_
                            clear en_
                            have p222 : 0 ≤ (x4_3 : Int) := of_decide_eq_true (by first | (with_reducible assumption) | assumption)
                            have q222 : x4_3 < (((rd_T72 l0 x3_1).f1).length : Int) := of_decide_eq_true (by first | (with_reducible assumption) | assumption)
                            obtain ⟨ad222, e222, hx222_0, hx222_1, hx222_2⟩ := at_T75 HR221_1.out x4_3 p222 q222
                            cases e222
                            replace hx222_0 := (HB.out.cell (World.block_lt_of_cell? w _ hx222_0)).trans hx222_0
                            replace hx222_1 := (HB.out.cell (World.block_lt_of_cell? w _ hx222_1)).trans hx222_1
                            replace hx222_2 := (HB.out.cell (World.block_lt_of_cell? w _ hx222_2)).trans hx222_2
                            replace p222 := eq_true p222
                            replace q222 := eq_true q222
                            go_wp2_with (first | ((with_reducible refine gate_dst (N := 5) rfl ?_); (try (refine gate_guard (by rfl) ?_; dsimp only)); refine box_event ?hg (N := 5) ?hd (cs := #[.int .u8 0, .int .i64 0, .int .i64 0]) (t := 75) ?hr ?_; (case hd => rfl); (case hg => rfl); (case hr => first | (go_simp; done) | (go_simp; rfl)); intro gb223 hg w14 hbox hb; have n0_ := Aside0.mk (below_step (by repeat (first | (with_reducible first | exact HB.out | apply below_alloc | apply pw_below_drewN | apply below_drew1) | exact HB.out)) hb); have n1_ := Aside0.mk (hbox); have n2_ := Aside0.mk ((by rw [hg]; exact (below_size (by repeat (first | (with_reducible first | exact HB.out | apply below_alloc | apply pw_below_drewN | apply below_drew1) | exact HB.out))) : w.heap.size ≤ gb223)); have n3_ := Aside0.mk ((by rw [hg]; exact (below_size (by repeat (first | (with_reducible first | exact HB.out | apply below_alloc | apply pw_below_drewN | apply below_drew1) | exact HB.out))) : w.heap.size ≤ gb223)); clear HB; have HB := n0_; have BK223 := n1_; have GW223 := n2_; have GE223 := n3_; clear n0_ n1_ n2_ n3_; clear hb hbox hg; have hcz15_0 : w14.cell? ⟨gb223, 0, none⟩ = some (.int .u8 0) := (blk_cell BK223.out 0).trans rfl; have hcz15_1 : w14.cell? ⟨gb223, 1, none⟩ = some (.int .i64 0) := (blk_cell BK223.out 1).trans rfl; have hcz15_2 : w14.cell? ⟨gb223, 2, none⟩ = some (.int .i64 0) := (blk_cell BK223.out 2).trans rfl; have hfz15_0 := blk_frozen BK223.out 0; have hfz15_1 := blk_frozen BK223.out 1; have hfz15_2 := blk_frozen BK223.out 2) | ((with_reducible refine gate_callee (f := 38) rfl ?_); refine goesL_ (some 55) rfl rfl Tryd.func38 (by kernel_rfl) rfl #[.string (⟨#[43, 45, 61]⟩ : ByteArray), .int .u8 ((rd_T75 ((rd_T72 l0 x3_1).f1) x4_3).f0)] rfl (by (try simp only [List.map_toArray, List.map_cons, List.map_nil]); first | done | rfl | (simp only [List.length_drop, List.length_take]; rfl)) ?_; (with_reducible refine (gaolerref02_Place.calls k3 (⟨#[43, 45, 61]⟩ : ByteArray) ((rd_T75 ((rd_T72 l0 x3_1).f1) x4_3).f0) t224 _ A12.out).mono ?_); rintro e w' ⟨rfl, ⟨nd, rfl⟩⟩; refine ⟨_, rfl, ?_⟩))
                            go_ret
                            exact ⟨by first | rfl | (simp [errW_none, errW_some] <;> rfl) | (simp [*, errW_none, errW_some] <;> rfl), by repeat (first | (with_reducible first | exact HB.out | apply below_alloc | apply pw_below_drewN | apply below_drew1 | refine below_set ?_ GE223.out) | exact HB.out)⟩
                          · rw [if_neg c13] at H
                            have c13b0 : decide (t224 < 0) = false := decide_eq_false c13
                            clear c13
                            by_cases c16 : ((rd_T75 ((rd_T72 l0 x3_1).f1) x4_3).f1) < 0
                            · rw [if_pos c16] at H
                              have c16b0 : decide (((rd_T75 ((rd_T72 l0 x3_1).f1) x4_3).f1) < 0) = true := decide_eq_true c16
                              clear c16
                              obtain rfl := Option.some.inj H
                              have p220 : 0 ≤ (x3_1 : Int) := of_decide_eq_true (by first | (with_reducible assumption) | assumption)
                              have q220 : x3_1 < (l0.length : Int) := of_decide_eq_true (by first | (with_reducible assumption) | assumption)
                              obtain ⟨ad220, A220_1, c220_1, e220, hx220_0, hx220_1, hl220_1, hi220_1⟩ := at_T72 HR0.out x3_1 p220 q220
                              cases e220
                              replace hx220_0 := (HB.out.cell (World.block_lt_of_cell? w _ hx220_0)).trans hx220_0
                              replace hx220_1 := (HB.out.cell (World.block_lt_of_cell? w _ hx220_1)).trans hx220_1
                              have HR220_1 := Aside0.mk hi220_1
                              have HC220_1 := Aside0.mk hl220_1
                              clear hi220_1 hl220_1
                              replace p220 := eq_true p220
                              replace q220 := eq_true q220
                              have p221 : 0 ≤ (x3_1 : Int) := of_decide_eq_true (by first | (with_reducible assumption) | assumption)
                              have q221 : x3_1 < (l0.length : Int) := of_decide_eq_true (by first | (with_reducible assumption) | assumption)
                              obtain ⟨ad221, A221_1, c221_1, e221, hx221_0, hx221_1, hl221_1, hi221_1⟩ := at_T72 HR0.out x3_1 p221 q221
                              obtain rfl : ad220 = ad221 := (by injection e221)
                              replace hx221_0 := (HB.out.cell (World.block_lt_of_cell? w _ hx221_0)).trans hx221_0
                              replace hx221_1 := (HB.out.cell (World.block_lt_of_cell? w _ hx221_1)).trans hx221_1
                              have HR221_1 := Aside0.mk hi221_1
                              have HC221_1 := Aside0.mk hl221_1
                              clear hi221_1 hl221_1
                              replace p221 := eq_true p221
                              replace q221 := eq_true q221
                              have ea_ := Option.some.inj (hx220_1.symm.trans hx221_1)
                              injection ea_ with ea_ en_ ec_
                              subst ea_
                              subst ec_
                              clear en_
                              have p222 : 0 ≤ (x4_3 : Int) := of_decide_eq_true (by first | (with_reducible assumption) | assumption)
                              have q222 : x4_3 < (((rd_T72 l0 x3_1).f1).length : Int) := of_decide_eq_true (by first | (with_reducible assumption) | assumption)
                              obtain ⟨ad222, e222, hx222_0, hx222_1, hx222_2⟩ := at_T75 HR221_1.out x4_3 p222 q222
                              cases e222
                              replace hx222_0 := (HB.out.cell (World.block_lt_of_cell? w _ hx222_0)).trans hx222_0
                              replace hx222_1 := (HB.out.cell (World.block_lt_of_cell? w _ hx222_1)).trans hx222_1
                              replace hx222_2 := (HB.out.cell (World.block_lt_of_cell? w _ hx222_2)).trans hx222_2
                              replace p222 := eq_true p222
                              replace q222 := eq_true q222
                              go_wp2_with (first | ((with_reducible refine gate_dst (N := 5) rfl ?_); (try (refine gate_guard (by rfl) ?_; dsimp only)); refine box_event ?hg (N := 5) ?hd (cs := #[.int .u8 0, .int .i64 0, .int .i64 0]) (t := 75) ?hr ?_; (case hd => rfl); (case hg => rfl); (case hr => first | (go_simp; done) | (go_simp; rfl)); intro gb223 hg w17 hbox hb; have n0_ := Aside0.mk (below_step (by repeat (first | (with_reducible first | exact HB.out | apply below_alloc | apply pw_below_drewN | apply below_drew1) | exact HB.out)) hb); have n1_ := Aside0.mk (hbox); have n2_ := Aside0.mk ((by rw [hg]; exact (below_size (by repeat (first | (with_reducible first | exact HB.out | apply below_alloc | apply pw_below_drewN | apply below_drew1) | exact HB.out))) : w.heap.size ≤ gb223)); have n3_ := Aside0.mk ((by rw [hg]; exact (below_size (by repeat (first | (with_reducible first | exact HB.out | apply below_alloc | apply pw_below_drewN | apply below_drew1) | exact HB.out))) : w.heap.size ≤ gb223)); clear HB; have HB := n0_; have BK223 := n1_; have GW223 := n2_; have GE223 := n3_; clear n0_ n1_ n2_ n3_; clear hb hbox hg; have hcz18_0 : w17.cell? ⟨gb223, 0, none⟩ = some (.int .u8 0) := (blk_cell BK223.out 0).trans rfl; have hcz18_1 : w17.cell? ⟨gb223, 1, none⟩ = some (.int .i64 0) := (blk_cell BK223.out 1).trans rfl; have hcz18_2 : w17.cell? ⟨gb223, 2, none⟩ = some (.int .i64 0) := (blk_cell BK223.out 2).trans rfl; have hfz18_0 := blk_frozen BK223.out 0; have hfz18_1 := blk_frozen BK223.out 1; have hfz18_2 := blk_frozen BK223.out 2) | ((with_reducible refine gate_callee (f := 38) rfl ?_); refine goesL_ (some 55) rfl rfl Tryd.func38 (by kernel_rfl) rfl #[.string (⟨#[43, 45, 61]⟩ : ByteArray), .int .u8 ((rd_T75 ((rd_T72 l0 x3_1).f1) x4_3).f0)] rfl (by (try simp only [List.map_toArray, List.map_cons, List.map_nil]); first | done | rfl | (simp only [List.length_drop, List.length_take]; rfl)) ?_; (with_reducible refine (gaolerref02_Place.calls k3 (⟨#[43, 45, 61]⟩ : ByteArray) ((rd_T75 ((rd_T72 l0 x3_1).f1) x4_3).f0) t224 _ A12.out).mono ?_); rintro e w' ⟨rfl, ⟨nd, rfl⟩⟩; refine ⟨_, rfl, ?_⟩))
                              go_ret
                              exact ⟨by first | rfl | (simp [errW_none, errW_some] <;> rfl) | (simp [*, errW_none, errW_some] <;> rfl), by repeat (first | (with_reducible first | exact HB.out | apply below_alloc | apply pw_below_drewN | apply below_drew1 | refine below_set ?_ GE223.out) | exact HB.out)⟩
                            · rw [if_neg c16] at H
                              have c16b0 : decide (((rd_T75 ((rd_T72 l0 x3_1).f1) x4_3).f1) < 0) = false := decide_eq_false c16
                              clear c16
                              by_cases c19 : ((rd_T75 ((rd_T72 l0 x3_1).f1) x4_3).f1) > 63
                              · rw [if_pos c19] at H
                                have c19b0 : decide (63 < ((rd_T75 ((rd_T72 l0 x3_1).f1) x4_3).f1)) = true := decide_eq_true c19
                                clear c19
                                obtain rfl := Option.some.inj H
                                have p220 : 0 ≤ (x3_1 : Int) := of_decide_eq_true (by first | (with_reducible assumption) | assumption)
                                have q220 : x3_1 < (l0.length : Int) := of_decide_eq_true (by first | (with_reducible assumption) | assumption)
                                obtain ⟨ad220, A220_1, c220_1, e220, hx220_0, hx220_1, hl220_1, hi220_1⟩ := at_T72 HR0.out x3_1 p220 q220
                                cases e220
                                replace hx220_0 := (HB.out.cell (World.block_lt_of_cell? w _ hx220_0)).trans hx220_0
                                replace hx220_1 := (HB.out.cell (World.block_lt_of_cell? w _ hx220_1)).trans hx220_1
                                have HR220_1 := Aside0.mk hi220_1
                                have HC220_1 := Aside0.mk hl220_1
                                clear hi220_1 hl220_1
                                replace p220 := eq_true p220
                                replace q220 := eq_true q220
                                have p221 : 0 ≤ (x3_1 : Int) := of_decide_eq_true (by first | (with_reducible assumption) | assumption)
                                have q221 : x3_1 < (l0.length : Int) := of_decide_eq_true (by first | (with_reducible assumption) | assumption)
                                obtain ⟨ad221, A221_1, c221_1, e221, hx221_0, hx221_1, hl221_1, hi221_1⟩ := at_T72 HR0.out x3_1 p221 q221
                                obtain rfl : ad220 = ad221 := (by injection e221)
                                replace hx221_0 := (HB.out.cell (World.block_lt_of_cell? w _ hx221_0)).trans hx221_0
                                replace hx221_1 := (HB.out.cell (World.block_lt_of_cell? w _ hx221_1)).trans hx221_1
                                have HR221_1 := Aside0.mk hi221_1
                                have HC221_1 := Aside0.mk hl221_1
                                clear hi221_1 hl221_1
                                replace p221 := eq_true p221
                                replace q221 := eq_true q221
                                have ea_ := Option.some.inj (hx220_1.symm.trans hx221_1)
                                injection ea_ with ea_ en_ ec_
                                subst ea_
                                subst ec_
                                clear en_
                                have p222 : 0 ≤ (x4_3 : Int) := of_decide_eq_true (by first | (with_reducible assumption) | assumption)
                                have q222 : x4_3 < (((rd_T72 l0 x3_1).f1).length : Int) := of_decide_eq_true (by first | (with_reducible assumption) | assumption)
                                obtain ⟨ad222, e222, hx222_0, hx222_1, hx222_2⟩ := at_T75 HR221_1.out x4_3 p222 q222
                                cases e222
                                replace hx222_0 := (HB.out.cell (World.block_lt_of_cell? w _ hx222_0)).trans hx222_0
                                replace hx222_1 := (HB.out.cell (World.block_lt_of_cell? w _ hx222_1)).trans hx222_1
                                replace hx222_2 := (HB.out.cell (World.block_lt_of_cell? w _ hx222_2)).trans hx222_2
                                replace p222 := eq_true p222
                                replace q222 := eq_true q222
                                go_wp2_with (first | ((with_reducible refine gate_dst (N := 5) rfl ?_); (try (refine gate_guard (by rfl) ?_; dsimp only)); refine box_event ?hg (N := 5) ?hd (cs := #[.int .u8 0, .int .i64 0, .int .i64 0]) (t := 75) ?hr ?_; (case hd => rfl); (case hg => rfl); (case hr => first | (go_simp; done) | (go_simp; rfl)); intro gb223 hg w20 hbox hb; have n0_ := Aside0.mk (below_step (by repeat (first | (with_reducible first | exact HB.out | apply below_alloc | apply pw_below_drewN | apply below_drew1) | exact HB.out)) hb); have n1_ := Aside0.mk (hbox); have n2_ := Aside0.mk ((by rw [hg]; exact (below_size (by repeat (first | (with_reducible first | exact HB.out | apply below_alloc | apply pw_below_drewN | apply below_drew1) | exact HB.out))) : w.heap.size ≤ gb223)); have n3_ := Aside0.mk ((by rw [hg]; exact (below_size (by repeat (first | (with_reducible first | exact HB.out | apply below_alloc | apply pw_below_drewN | apply below_drew1) | exact HB.out))) : w.heap.size ≤ gb223)); clear HB; have HB := n0_; have BK223 := n1_; have GW223 := n2_; have GE223 := n3_; clear n0_ n1_ n2_ n3_; clear hb hbox hg; have hcz21_0 : w20.cell? ⟨gb223, 0, none⟩ = some (.int .u8 0) := (blk_cell BK223.out 0).trans rfl; have hcz21_1 : w20.cell? ⟨gb223, 1, none⟩ = some (.int .i64 0) := (blk_cell BK223.out 1).trans rfl; have hcz21_2 : w20.cell? ⟨gb223, 2, none⟩ = some (.int .i64 0) := (blk_cell BK223.out 2).trans rfl; have hfz21_0 := blk_frozen BK223.out 0; have hfz21_1 := blk_frozen BK223.out 1; have hfz21_2 := blk_frozen BK223.out 2) | ((with_reducible refine gate_callee (f := 38) rfl ?_); refine goesL_ (some 55) rfl rfl Tryd.func38 (by kernel_rfl) rfl #[.string (⟨#[43, 45, 61]⟩ : ByteArray), .int .u8 ((rd_T75 ((rd_T72 l0 x3_1).f1) x4_3).f0)] rfl (by (try simp only [List.map_toArray, List.map_cons, List.map_nil]); first | done | rfl | (simp only [List.length_drop, List.length_take]; rfl)) ?_; (with_reducible refine (gaolerref02_Place.calls k3 (⟨#[43, 45, 61]⟩ : ByteArray) ((rd_T75 ((rd_T72 l0 x3_1).f1) x4_3).f0) t224 _ A12.out).mono ?_); rintro e w' ⟨rfl, ⟨nd, rfl⟩⟩; refine ⟨_, rfl, ?_⟩))
                                go_ret
                                exact ⟨by first | rfl | (simp [errW_none, errW_some] <;> rfl) | (simp [*, errW_none, errW_some] <;> rfl), by repeat (first | (with_reducible first | exact HB.out | apply below_alloc | apply pw_below_drewN | apply below_drew1 | refine below_set ?_ GE223.out) | exact HB.out)⟩
                              · rw [if_neg c19] at H
                                have c19b0 : decide (63 < ((rd_T75 ((rd_T72 l0 x3_1).f1) x4_3).f1)) = false := decide_eq_false c19
                                clear c19
                                by_cases c22 : ((rd_T75 ((rd_T72 l0 x3_1).f1) x4_3).f2) < 0
                                · rw [if_pos c22] at H
                                  have c22b0 : decide (((rd_T75 ((rd_T72 l0 x3_1).f1) x4_3).f2) < 0) = true := decide_eq_true c22
                                  clear c22
                                  obtain rfl := Option.some.inj H
                                  have p220 : 0 ≤ (x3_1 : Int) := of_decide_eq_true (by first | (with_reducible assumption) | assumption)
                                  have q220 : x3_1 < (l0.length : Int) := of_decide_eq_true (by first | (with_reducible assumption) | assumption)
                                  obtain ⟨ad220, A220_1, c220_1, e220, hx220_0, hx220_1, hl220_1, hi220_1⟩ := at_T72 HR0.out x3_1 p220 q220
                                  cases e220
                                  replace hx220_0 := (HB.out.cell (World.block_lt_of_cell? w _ hx220_0)).trans hx220_0
                                  replace hx220_1 := (HB.out.cell (World.block_lt_of_cell? w _ hx220_1)).trans hx220_1
                                  have HR220_1 := Aside0.mk hi220_1
                                  have HC220_1 := Aside0.mk hl220_1
                                  clear hi220_1 hl220_1
                                  replace p220 := eq_true p220
                                  replace q220 := eq_true q220
                                  have p221 : 0 ≤ (x3_1 : Int) := of_decide_eq_true (by first | (with_reducible assumption) | assumption)
                                  have q221 : x3_1 < (l0.length : Int) := of_decide_eq_true (by first | (with_reducible assumption) | assumption)
                                  obtain ⟨ad221, A221_1, c221_1, e221, hx221_0, hx221_1, hl221_1, hi221_1⟩ := at_T72 HR0.out x3_1 p221 q221
                                  obtain rfl : ad220 = ad221 := (by injection e221)
                                  replace hx221_0 := (HB.out.cell (World.block_lt_of_cell? w _ hx221_0)).trans hx221_0
                                  replace hx221_1 := (HB.out.cell (World.block_lt_of_cell? w _ hx221_1)).trans hx221_1
                                  have HR221_1 := Aside0.mk hi221_1
                                  have HC221_1 := Aside0.mk hl221_1
                                  clear hi221_1 hl221_1
                                  replace p221 := eq_true p221
                                  replace q221 := eq_true q221
                                  have ea_ := Option.some.inj (hx220_1.symm.trans hx221_1)
                                  injection ea_ with ea_ en_ ec_
                                  subst ea_
                                  subst ec_
                                  clear en_
                                  have p222 : 0 ≤ (x4_3 : Int) := of_decide_eq_true (by first | (with_reducible assumption) | assumption)
                                  have q222 : x4_3 < (((rd_T72 l0 x3_1).f1).length : Int) := of_decide_eq_true (by first | (with_reducible assumption) | assumption)
                                  obtain ⟨ad222, e222, hx222_0, hx222_1, hx222_2⟩ := at_T75 HR221_1.out x4_3 p222 q222
                                  cases e222
                                  replace hx222_0 := (HB.out.cell (World.block_lt_of_cell? w _ hx222_0)).trans hx222_0
                                  replace hx222_1 := (HB.out.cell (World.block_lt_of_cell? w _ hx222_1)).trans hx222_1
                                  replace hx222_2 := (HB.out.cell (World.block_lt_of_cell? w _ hx222_2)).trans hx222_2
                                  replace p222 := eq_true p222
                                  replace q222 := eq_true q222
                                  go_wp2_with (first | ((with_reducible refine gate_dst (N := 5) rfl ?_); (try (refine gate_guard (by rfl) ?_; dsimp only)); refine box_event ?hg (N := 5) ?hd (cs := #[.int .u8 0, .int .i64 0, .int .i64 0]) (t := 75) ?hr ?_; (case hd => rfl); (case hg => rfl); (case hr => first | (go_simp; done) | (go_simp; rfl)); intro gb223 hg w23 hbox hb; have n0_ := Aside0.mk (below_step (by repeat (first | (with_reducible first | exact HB.out | apply below_alloc | apply pw_below_drewN | apply below_drew1) | exact HB.out)) hb); have n1_ := Aside0.mk (hbox); have n2_ := Aside0.mk ((by rw [hg]; exact (below_size (by repeat (first | (with_reducible first | exact HB.out | apply below_alloc | apply pw_below_drewN | apply below_drew1) | exact HB.out))) : w.heap.size ≤ gb223)); have n3_ := Aside0.mk ((by rw [hg]; exact (below_size (by repeat (first | (with_reducible first | exact HB.out | apply below_alloc | apply pw_below_drewN | apply below_drew1) | exact HB.out))) : w.heap.size ≤ gb223)); clear HB; have HB := n0_; have BK223 := n1_; have GW223 := n2_; have GE223 := n3_; clear n0_ n1_ n2_ n3_; clear hb hbox hg; have hcz24_0 : w23.cell? ⟨gb223, 0, none⟩ = some (.int .u8 0) := (blk_cell BK223.out 0).trans rfl; have hcz24_1 : w23.cell? ⟨gb223, 1, none⟩ = some (.int .i64 0) := (blk_cell BK223.out 1).trans rfl; have hcz24_2 : w23.cell? ⟨gb223, 2, none⟩ = some (.int .i64 0) := (blk_cell BK223.out 2).trans rfl; have hfz24_0 := blk_frozen BK223.out 0; have hfz24_1 := blk_frozen BK223.out 1; have hfz24_2 := blk_frozen BK223.out 2) | ((with_reducible refine gate_callee (f := 38) rfl ?_); refine goesL_ (some 55) rfl rfl Tryd.func38 (by kernel_rfl) rfl #[.string (⟨#[43, 45, 61]⟩ : ByteArray), .int .u8 ((rd_T75 ((rd_T72 l0 x3_1).f1) x4_3).f0)] rfl (by (try simp only [List.map_toArray, List.map_cons, List.map_nil]); first | done | rfl | (simp only [List.length_drop, List.length_take]; rfl)) ?_; (with_reducible refine (gaolerref02_Place.calls k3 (⟨#[43, 45, 61]⟩ : ByteArray) ((rd_T75 ((rd_T72 l0 x3_1).f1) x4_3).f0) t224 _ A12.out).mono ?_); rintro e w' ⟨rfl, ⟨nd, rfl⟩⟩; refine ⟨_, rfl, ?_⟩))
                                  go_ret
                                  exact ⟨by first | rfl | (simp [errW_none, errW_some] <;> rfl) | (simp [*, errW_none, errW_some] <;> rfl), by repeat (first | (with_reducible first | exact HB.out | apply below_alloc | apply pw_below_drewN | apply below_drew1 | refine below_set ?_ GE223.out) | exact HB.out)⟩
                                · rw [if_neg c22] at H
                                  have c22b0 : decide (((rd_T75 ((rd_T72 l0 x3_1).f1) x4_3).f2) < 0) = false := decide_eq_false c22
                                  clear c22
                                  by_cases c25 : ((rd_T75 ((rd_T72 l0 x3_1).f1) x4_3).f2) > 3
                                  · rw [if_pos c25] at H
                                    have c25b0 : decide (3 < ((rd_T75 ((rd_T72 l0 x3_1).f1) x4_3).f2)) = true := decide_eq_true c25
                                    clear c25
                                    obtain rfl := Option.some.inj H
                                    have p220 : 0 ≤ (x3_1 : Int) := of_decide_eq_true (by first | (with_reducible assumption) | assumption)
                                    have q220 : x3_1 < (l0.length : Int) := of_decide_eq_true (by first | (with_reducible assumption) | assumption)
                                    obtain ⟨ad220, A220_1, c220_1, e220, hx220_0, hx220_1, hl220_1, hi220_1⟩ := at_T72 HR0.out x3_1 p220 q220
                                    cases e220
                                    replace hx220_0 := (HB.out.cell (World.block_lt_of_cell? w _ hx220_0)).trans hx220_0
                                    replace hx220_1 := (HB.out.cell (World.block_lt_of_cell? w _ hx220_1)).trans hx220_1
                                    have HR220_1 := Aside0.mk hi220_1
                                    have HC220_1 := Aside0.mk hl220_1
                                    clear hi220_1 hl220_1
                                    replace p220 := eq_true p220
                                    replace q220 := eq_true q220
                                    have p221 : 0 ≤ (x3_1 : Int) := of_decide_eq_true (by first | (with_reducible assumption) | assumption)
                                    have q221 : x3_1 < (l0.length : Int) := of_decide_eq_true (by first | (with_reducible assumption) | assumption)
                                    obtain ⟨ad221, A221_1, c221_1, e221, hx221_0, hx221_1, hl221_1, hi221_1⟩ := at_T72 HR0.out x3_1 p221 q221
                                    obtain rfl : ad220 = ad221 := (by injection e221)
                                    replace hx221_0 := (HB.out.cell (World.block_lt_of_cell? w _ hx221_0)).trans hx221_0
                                    replace hx221_1 := (HB.out.cell (World.block_lt_of_cell? w _ hx221_1)).trans hx221_1
                                    have HR221_1 := Aside0.mk hi221_1
                                    have HC221_1 := Aside0.mk hl221_1
                                    clear hi221_1 hl221_1
                                    replace p221 := eq_true p221
                                    replace q221 := eq_true q221
                                    have ea_ := Option.some.inj (hx220_1.symm.trans hx221_1)
                                    injection ea_ with ea_ en_ ec_
                                    subst ea_
                                    subst ec_
                                    clear en_
                                    have p222 : 0 ≤ (x4_3 : Int) := of_decide_eq_true (by first | (with_reducible assumption) | assumption)
                                    have q222 : x4_3 < (((rd_T72 l0 x3_1).f1).length : Int) := of_decide_eq_true (by first | (with_reducible assumption) | assumption)
                                    obtain ⟨ad222, e222, hx222_0, hx222_1, hx222_2⟩ := at_T75 HR221_1.out x4_3 p222 q222
                                    cases e222
                                    replace hx222_0 := (HB.out.cell (World.block_lt_of_cell? w _ hx222_0)).trans hx222_0
                                    replace hx222_1 := (HB.out.cell (World.block_lt_of_cell? w _ hx222_1)).trans hx222_1
                                    replace hx222_2 := (HB.out.cell (World.block_lt_of_cell? w _ hx222_2)).trans hx222_2
                                    replace p222 := eq_true p222
                                    replace q222 := eq_true q222
                                    go_wp2_with (first | ((with_reducible refine gate_dst (N := 5) rfl ?_); (try (refine gate_guard (by rfl) ?_; dsimp only)); refine box_event ?hg (N := 5) ?hd (cs := #[.int .u8 0, .int .i64 0, .int .i64 0]) (t := 75) ?hr ?_; (case hd => rfl); (case hg => rfl); (case hr => first | (go_simp; done) | (go_simp; rfl)); intro gb223 hg w26 hbox hb; have n0_ := Aside0.mk (below_step (by repeat (first | (with_reducible first | exact HB.out | apply below_alloc | apply pw_below_drewN | apply below_drew1) | exact HB.out)) hb); have n1_ := Aside0.mk (hbox); have n2_ := Aside0.mk ((by rw [hg]; exact (below_size (by repeat (first | (with_reducible first | exact HB.out | apply below_alloc | apply pw_below_drewN | apply below_drew1) | exact HB.out))) : w.heap.size ≤ gb223)); have n3_ := Aside0.mk ((by rw [hg]; exact (below_size (by repeat (first | (with_reducible first | exact HB.out | apply below_alloc | apply pw_below_drewN | apply below_drew1) | exact HB.out))) : w.heap.size ≤ gb223)); clear HB; have HB := n0_; have BK223 := n1_; have GW223 := n2_; have GE223 := n3_; clear n0_ n1_ n2_ n3_; clear hb hbox hg; have hcz27_0 : w26.cell? ⟨gb223, 0, none⟩ = some (.int .u8 0) := (blk_cell BK223.out 0).trans rfl; have hcz27_1 : w26.cell? ⟨gb223, 1, none⟩ = some (.int .i64 0) := (blk_cell BK223.out 1).trans rfl; have hcz27_2 : w26.cell? ⟨gb223, 2, none⟩ = some (.int .i64 0) := (blk_cell BK223.out 2).trans rfl; have hfz27_0 := blk_frozen BK223.out 0; have hfz27_1 := blk_frozen BK223.out 1; have hfz27_2 := blk_frozen BK223.out 2) | ((with_reducible refine gate_callee (f := 38) rfl ?_); refine goesL_ (some 55) rfl rfl Tryd.func38 (by kernel_rfl) rfl #[.string (⟨#[43, 45, 61]⟩ : ByteArray), .int .u8 ((rd_T75 ((rd_T72 l0 x3_1).f1) x4_3).f0)] rfl (by (try simp only [List.map_toArray, List.map_cons, List.map_nil]); first | done | rfl | (simp only [List.length_drop, List.length_take]; rfl)) ?_; (with_reducible refine (gaolerref02_Place.calls k3 (⟨#[43, 45, 61]⟩ : ByteArray) ((rd_T75 ((rd_T72 l0 x3_1).f1) x4_3).f0) t224 _ A12.out).mono ?_); rintro e w' ⟨rfl, ⟨nd, rfl⟩⟩; refine ⟨_, rfl, ?_⟩))
                                    go_ret
                                    exact ⟨by first | rfl | (simp [errW_none, errW_some] <;> rfl) | (simp [*, errW_none, errW_some] <;> rfl), by repeat (first | (with_reducible first | exact HB.out | apply below_alloc | apply pw_below_drewN | apply below_drew1 | refine below_set ?_ GE223.out) | exact HB.out)⟩
                                  · rw [if_neg c25] at H
                                    have c25b0 : decide (3 < ((rd_T75 ((rd_T72 l0 x3_1).f1) x4_3).f2)) = false := decide_eq_false c25
                                    clear c25
                                    by_cases c28 : ((rd_T75 ((rd_T72 l0 x3_1).f1) x4_3).f1) > 0
                                    · rw [if_pos c28] at H
                                      have c28b0 : decide (0 < ((rd_T75 ((rd_T72 l0 x3_1).f1) x4_3).f1)) = true := decide_eq_true c28
                                      clear c28
                                      by_cases c29 : ((rd_T75 ((rd_T72 l0 x3_1).f1) x4_3).f2) > 0
                                      · rw [if_pos c29] at H
                                        have c29b0 : decide (0 < ((rd_T75 ((rd_T72 l0 x3_1).f1) x4_3).f2)) = true := decide_eq_true c29
                                        clear c29
                                        obtain rfl := Option.some.inj H
                                        have p220 : 0 ≤ (x3_1 : Int) := of_decide_eq_true (by first | (with_reducible assumption) | assumption)
                                        have q220 : x3_1 < (l0.length : Int) := of_decide_eq_true (by first | (with_reducible assumption) | assumption)
                                        obtain ⟨ad220, A220_1, c220_1, e220, hx220_0, hx220_1, hl220_1, hi220_1⟩ := at_T72 HR0.out x3_1 p220 q220
                                        cases e220
                                        replace hx220_0 := (HB.out.cell (World.block_lt_of_cell? w _ hx220_0)).trans hx220_0
                                        replace hx220_1 := (HB.out.cell (World.block_lt_of_cell? w _ hx220_1)).trans hx220_1
                                        have HR220_1 := Aside0.mk hi220_1
                                        have HC220_1 := Aside0.mk hl220_1
                                        clear hi220_1 hl220_1
                                        replace p220 := eq_true p220
                                        replace q220 := eq_true q220
                                        have p221 : 0 ≤ (x3_1 : Int) := of_decide_eq_true (by first | (with_reducible assumption) | assumption)
                                        have q221 : x3_1 < (l0.length : Int) := of_decide_eq_true (by first | (with_reducible assumption) | assumption)
                                        obtain ⟨ad221, A221_1, c221_1, e221, hx221_0, hx221_1, hl221_1, hi221_1⟩ := at_T72 HR0.out x3_1 p221 q221
                                        obtain rfl : ad220 = ad221 := (by injection e221)
                                        replace hx221_0 := (HB.out.cell (World.block_lt_of_cell? w _ hx221_0)).trans hx221_0
                                        replace hx221_1 := (HB.out.cell (World.block_lt_of_cell? w _ hx221_1)).trans hx221_1
                                        have HR221_1 := Aside0.mk hi221_1
                                        have HC221_1 := Aside0.mk hl221_1
                                        clear hi221_1 hl221_1
                                        replace p221 := eq_true p221
                                        replace q221 := eq_true q221
                                        have ea_ := Option.some.inj (hx220_1.symm.trans hx221_1)
                                        injection ea_ with ea_ en_ ec_
                                        subst ea_
                                        subst ec_
                                        clear en_
                                        have p222 : 0 ≤ (x4_3 : Int) := of_decide_eq_true (by first | (with_reducible assumption) | assumption)
                                        have q222 : x4_3 < (((rd_T72 l0 x3_1).f1).length : Int) := of_decide_eq_true (by first | (with_reducible assumption) | assumption)
                                        obtain ⟨ad222, e222, hx222_0, hx222_1, hx222_2⟩ := at_T75 HR221_1.out x4_3 p222 q222
                                        cases e222
                                        replace hx222_0 := (HB.out.cell (World.block_lt_of_cell? w _ hx222_0)).trans hx222_0
                                        replace hx222_1 := (HB.out.cell (World.block_lt_of_cell? w _ hx222_1)).trans hx222_1
                                        replace hx222_2 := (HB.out.cell (World.block_lt_of_cell? w _ hx222_2)).trans hx222_2
                                        replace p222 := eq_true p222
                                        replace q222 := eq_true q222
                                        go_wp2_with (first | ((with_reducible refine gate_dst (N := 5) rfl ?_); (try (refine gate_guard (by rfl) ?_; dsimp only)); refine box_event ?hg (N := 5) ?hd (cs := #[.int .u8 0, .int .i64 0, .int .i64 0]) (t := 75) ?hr ?_; (case hd => rfl); (case hg => rfl); (case hr => first | (go_simp; done) | (go_simp; rfl)); intro gb223 hg w30 hbox hb; have n0_ := Aside0.mk (below_step (by repeat (first | (with_reducible first | exact HB.out | apply below_alloc | apply pw_below_drewN | apply below_drew1) | exact HB.out)) hb); have n1_ := Aside0.mk (hbox); have n2_ := Aside0.mk ((by rw [hg]; exact (below_size (by repeat (first | (with_reducible first | exact HB.out | apply below_alloc | apply pw_below_drewN | apply below_drew1) | exact HB.out))) : w.heap.size ≤ gb223)); have n3_ := Aside0.mk ((by rw [hg]; exact (below_size (by repeat (first | (with_reducible first | exact HB.out | apply below_alloc | apply pw_below_drewN | apply below_drew1) | exact HB.out))) : w.heap.size ≤ gb223)); clear HB; have HB := n0_; have BK223 := n1_; have GW223 := n2_; have GE223 := n3_; clear n0_ n1_ n2_ n3_; clear hb hbox hg; have hcz31_0 : w30.cell? ⟨gb223, 0, none⟩ = some (.int .u8 0) := (blk_cell BK223.out 0).trans rfl; have hcz31_1 : w30.cell? ⟨gb223, 1, none⟩ = some (.int .i64 0) := (blk_cell BK223.out 1).trans rfl; have hcz31_2 : w30.cell? ⟨gb223, 2, none⟩ = some (.int .i64 0) := (blk_cell BK223.out 2).trans rfl; have hfz31_0 := blk_frozen BK223.out 0; have hfz31_1 := blk_frozen BK223.out 1; have hfz31_2 := blk_frozen BK223.out 2) | ((with_reducible refine gate_callee (f := 38) rfl ?_); refine goesL_ (some 55) rfl rfl Tryd.func38 (by kernel_rfl) rfl #[.string (⟨#[43, 45, 61]⟩ : ByteArray), .int .u8 ((rd_T75 ((rd_T72 l0 x3_1).f1) x4_3).f0)] rfl (by (try simp only [List.map_toArray, List.map_cons, List.map_nil]); first | done | rfl | (simp only [List.length_drop, List.length_take]; rfl)) ?_; (with_reducible refine (gaolerref02_Place.calls k3 (⟨#[43, 45, 61]⟩ : ByteArray) ((rd_T75 ((rd_T72 l0 x3_1).f1) x4_3).f0) t224 _ A12.out).mono ?_); rintro e w' ⟨rfl, ⟨nd, rfl⟩⟩; refine ⟨_, rfl, ?_⟩))
                                        go_ret
                                        exact ⟨by first | rfl | (simp [errW_none, errW_some] <;> rfl) | (simp [*, errW_none, errW_some] <;> rfl), by repeat (first | (with_reducible first | exact HB.out | apply below_alloc | apply pw_below_drewN | apply below_drew1 | refine below_set ?_ GE223.out) | exact HB.out)⟩
                                      · rw [if_neg c29] at H
                                        have c29b0 : decide (0 < ((rd_T75 ((rd_T72 l0 x3_1).f1) x4_3).f2)) = false := decide_eq_false c29
                                        clear c29
                                        have H' := Aside0.mk H
                                        clear H
                                        have p220 : 0 ≤ (x3_1 : Int) := of_decide_eq_true (by first | (with_reducible assumption) | assumption)
                                        have q220 : x3_1 < (l0.length : Int) := of_decide_eq_true (by first | (with_reducible assumption) | assumption)
                                        obtain ⟨ad220, A220_1, c220_1, e220, hx220_0, hx220_1, hl220_1, hi220_1⟩ := at_T72 HR0.out x3_1 p220 q220
                                        cases e220
                                        replace hx220_0 := (HB.out.cell (World.block_lt_of_cell? w _ hx220_0)).trans hx220_0
                                        replace hx220_1 := (HB.out.cell (World.block_lt_of_cell? w _ hx220_1)).trans hx220_1
                                        have HR220_1 := Aside0.mk hi220_1
                                        have HC220_1 := Aside0.mk hl220_1
                                        clear hi220_1 hl220_1
                                        replace p220 := eq_true p220
                                        replace q220 := eq_true q220
                                        have p221 : 0 ≤ (x3_1 : Int) := of_decide_eq_true (by first | (with_reducible assumption) | assumption)
                                        have q221 : x3_1 < (l0.length : Int) := of_decide_eq_true (by first | (with_reducible assumption) | assumption)
                                        obtain ⟨ad221, A221_1, c221_1, e221, hx221_0, hx221_1, hl221_1, hi221_1⟩ := at_T72 HR0.out x3_1 p221 q221
                                        obtain rfl : ad220 = ad221 := (by injection e221)
                                        replace hx221_0 := (HB.out.cell (World.block_lt_of_cell? w _ hx221_0)).trans hx221_0
                                        replace hx221_1 := (HB.out.cell (World.block_lt_of_cell? w _ hx221_1)).trans hx221_1
                                        have HR221_1 := Aside0.mk hi221_1
                                        have HC221_1 := Aside0.mk hl221_1
                                        clear hi221_1 hl221_1
                                        replace p221 := eq_true p221
                                        replace q221 := eq_true q221
                                        have ea_ := Option.some.inj (hx220_1.symm.trans hx221_1)
                                        injection ea_ with ea_ en_ ec_
                                        subst ea_
                                        subst ec_
                                        clear en_
                                        have p222 : 0 ≤ (x4_3 : Int) := of_decide_eq_true (by first | (with_reducible assumption) | assumption)
                                        have q222 : x4_3 < (((rd_T72 l0 x3_1).f1).length : Int) := of_decide_eq_true (by first | (with_reducible assumption) | assumption)
                                        obtain ⟨ad222, e222, hx222_0, hx222_1, hx222_2⟩ := at_T75 HR221_1.out x4_3 p222 q222
                                        cases e222
                                        replace hx222_0 := (HB.out.cell (World.block_lt_of_cell? w _ hx222_0)).trans hx222_0
                                        replace hx222_1 := (HB.out.cell (World.block_lt_of_cell? w _ hx222_1)).trans hx222_1
                                        replace hx222_2 := (HB.out.cell (World.block_lt_of_cell? w _ hx222_2)).trans hx222_2
                                        replace p222 := eq_true p222
                                        replace q222 := eq_true q222
                                        go_wp2_with (first | ((with_reducible refine gate_dst (N := 5) rfl ?_); (try (refine gate_guard (by rfl) ?_; dsimp only)); refine box_event ?hg (N := 5) ?hd (cs := #[.int .u8 0, .int .i64 0, .int .i64 0]) (t := 75) ?hr ?_; (case hd => rfl); (case hg => rfl); (case hr => first | (go_simp; done) | (go_simp; rfl)); intro gb223 hg w32 hbox hb; have n0_ := Aside0.mk (below_step (by repeat (first | (with_reducible first | exact HB.out | apply below_alloc | apply pw_below_drewN | apply below_drew1) | exact HB.out)) hb); have n1_ := Aside0.mk (hbox); have n2_ := Aside0.mk ((by rw [hg]; exact (below_size (by repeat (first | (with_reducible first | exact HB.out | apply below_alloc | apply pw_below_drewN | apply below_drew1) | exact HB.out))) : w.heap.size ≤ gb223)); have n3_ := Aside0.mk ((by rw [hg]; exact (below_size (by repeat (first | (with_reducible first | exact HB.out | apply below_alloc | apply pw_below_drewN | apply below_drew1) | exact HB.out))) : w.heap.size ≤ gb223)); clear HB; have HB := n0_; have BK223 := n1_; have GW223 := n2_; have GE223 := n3_; clear n0_ n1_ n2_ n3_; clear hb hbox hg; have hcz33_0 : w32.cell? ⟨gb223, 0, none⟩ = some (.int .u8 0) := (blk_cell BK223.out 0).trans rfl; have hcz33_1 : w32.cell? ⟨gb223, 1, none⟩ = some (.int .i64 0) := (blk_cell BK223.out 1).trans rfl; have hcz33_2 : w32.cell? ⟨gb223, 2, none⟩ = some (.int .i64 0) := (blk_cell BK223.out 2).trans rfl; have hfz33_0 := blk_frozen BK223.out 0; have hfz33_1 := blk_frozen BK223.out 1; have hfz33_2 := blk_frozen BK223.out 2) | ((with_reducible refine gate_callee (f := 38) rfl ?_); refine goesL_ (some 55) rfl rfl Tryd.func38 (by kernel_rfl) rfl #[.string (⟨#[43, 45, 61]⟩ : ByteArray), .int .u8 ((rd_T75 ((rd_T72 l0 x3_1).f1) x4_3).f0)] rfl (by (try simp only [List.map_toArray, List.map_cons, List.map_nil]); first | done | rfl | (simp only [List.length_drop, List.length_take]; rfl)) ?_; (with_reducible refine (gaolerref02_Place.calls k3 (⟨#[43, 45, 61]⟩ : ByteArray) ((rd_T75 ((rd_T72 l0 x3_1).f1) x4_3).f0) t224 _ A12.out).mono ?_); rintro e w' ⟨rfl, ⟨nd, rfl⟩⟩; refine ⟨_, rfl, ?_⟩))
                                        go_roundg k3
                                        case measure => have := HK1.out; have := HJ2.out; have := HK3.out; omega
                                        case rel => exact ⟨(wrap64 (x4_3 + 1)), (by first | rfl | (simp; done) | (simp [*]; done)), H', ⟨by have := HK1.out; have := HJ2.out; have := HK3.out; omega⟩, ⟨by repeat (first | (with_reducible first | exact HB.out | apply below_alloc | apply pw_below_drewN | apply below_drew1 | refine below_set ?_ GE223.out) | exact HB.out)⟩⟩
                                    · rw [if_neg c28] at H
                                      have c28b0 : decide (0 < ((rd_T75 ((rd_T72 l0 x3_1).f1) x4_3).f1)) = false := decide_eq_false c28
                                      clear c28
                                      have H' := Aside0.mk H
                                      clear H
                                      have p220 : 0 ≤ (x3_1 : Int) := of_decide_eq_true (by first | (with_reducible assumption) | assumption)
                                      have q220 : x3_1 < (l0.length : Int) := of_decide_eq_true (by first | (with_reducible assumption) | assumption)
                                      obtain ⟨ad220, A220_1, c220_1, e220, hx220_0, hx220_1, hl220_1, hi220_1⟩ := at_T72 HR0.out x3_1 p220 q220
                                      cases e220
                                      replace hx220_0 := (HB.out.cell (World.block_lt_of_cell? w _ hx220_0)).trans hx220_0
                                      replace hx220_1 := (HB.out.cell (World.block_lt_of_cell? w _ hx220_1)).trans hx220_1
                                      have HR220_1 := Aside0.mk hi220_1
                                      have HC220_1 := Aside0.mk hl220_1
                                      clear hi220_1 hl220_1
                                      replace p220 := eq_true p220
                                      replace q220 := eq_true q220
                                      have p221 : 0 ≤ (x3_1 : Int) := of_decide_eq_true (by first | (with_reducible assumption) | assumption)
                                      have q221 : x3_1 < (l0.length : Int) := of_decide_eq_true (by first | (with_reducible assumption) | assumption)
                                      obtain ⟨ad221, A221_1, c221_1, e221, hx221_0, hx221_1, hl221_1, hi221_1⟩ := at_T72 HR0.out x3_1 p221 q221
                                      obtain rfl : ad220 = ad221 := (by injection e221)
                                      replace hx221_0 := (HB.out.cell (World.block_lt_of_cell? w _ hx221_0)).trans hx221_0
                                      replace hx221_1 := (HB.out.cell (World.block_lt_of_cell? w _ hx221_1)).trans hx221_1
                                      have HR221_1 := Aside0.mk hi221_1
                                      have HC221_1 := Aside0.mk hl221_1
                                      clear hi221_1 hl221_1
                                      replace p221 := eq_true p221
                                      replace q221 := eq_true q221
                                      have ea_ := Option.some.inj (hx220_1.symm.trans hx221_1)
                                      injection ea_ with ea_ en_ ec_
                                      subst ea_
                                      subst ec_
                                      clear en_
                                      have p222 : 0 ≤ (x4_3 : Int) := of_decide_eq_true (by first | (with_reducible assumption) | assumption)
                                      have q222 : x4_3 < (((rd_T72 l0 x3_1).f1).length : Int) := of_decide_eq_true (by first | (with_reducible assumption) | assumption)
                                      obtain ⟨ad222, e222, hx222_0, hx222_1, hx222_2⟩ := at_T75 HR221_1.out x4_3 p222 q222
                                      cases e222
                                      replace hx222_0 := (HB.out.cell (World.block_lt_of_cell? w _ hx222_0)).trans hx222_0
                                      replace hx222_1 := (HB.out.cell (World.block_lt_of_cell? w _ hx222_1)).trans hx222_1
                                      replace hx222_2 := (HB.out.cell (World.block_lt_of_cell? w _ hx222_2)).trans hx222_2
                                      replace p222 := eq_true p222
                                      replace q222 := eq_true q222
                                      go_wp2_with (first | ((with_reducible refine gate_dst (N := 5) rfl ?_); (try (refine gate_guard (by rfl) ?_; dsimp only)); refine box_event ?hg (N := 5) ?hd (cs := #[.int .u8 0, .int .i64 0, .int .i64 0]) (t := 75) ?hr ?_; (case hd => rfl); (case hg => rfl); (case hr => first | (go_simp; done) | (go_simp; rfl)); intro gb223 hg w34 hbox hb; have n0_ := Aside0.mk (below_step (by repeat (first | (with_reducible first | exact HB.out | apply below_alloc | apply pw_below_drewN | apply below_drew1) | exact HB.out)) hb); have n1_ := Aside0.mk (hbox); have n2_ := Aside0.mk ((by rw [hg]; exact (below_size (by repeat (first | (with_reducible first | exact HB.out | apply below_alloc | apply pw_below_drewN | apply below_drew1) | exact HB.out))) : w.heap.size ≤ gb223)); have n3_ := Aside0.mk ((by rw [hg]; exact (below_size (by repeat (first | (with_reducible first | exact HB.out | apply below_alloc | apply pw_below_drewN | apply below_drew1) | exact HB.out))) : w.heap.size ≤ gb223)); clear HB; have HB := n0_; have BK223 := n1_; have GW223 := n2_; have GE223 := n3_; clear n0_ n1_ n2_ n3_; clear hb hbox hg; have hcz35_0 : w34.cell? ⟨gb223, 0, none⟩ = some (.int .u8 0) := (blk_cell BK223.out 0).trans rfl; have hcz35_1 : w34.cell? ⟨gb223, 1, none⟩ = some (.int .i64 0) := (blk_cell BK223.out 1).trans rfl; have hcz35_2 : w34.cell? ⟨gb223, 2, none⟩ = some (.int .i64 0) := (blk_cell BK223.out 2).trans rfl; have hfz35_0 := blk_frozen BK223.out 0; have hfz35_1 := blk_frozen BK223.out 1; have hfz35_2 := blk_frozen BK223.out 2) | ((with_reducible refine gate_callee (f := 38) rfl ?_); refine goesL_ (some 55) rfl rfl Tryd.func38 (by kernel_rfl) rfl #[.string (⟨#[43, 45, 61]⟩ : ByteArray), .int .u8 ((rd_T75 ((rd_T72 l0 x3_1).f1) x4_3).f0)] rfl (by (try simp only [List.map_toArray, List.map_cons, List.map_nil]); first | done | rfl | (simp only [List.length_drop, List.length_take]; rfl)) ?_; (with_reducible refine (gaolerref02_Place.calls k3 (⟨#[43, 45, 61]⟩ : ByteArray) ((rd_T75 ((rd_T72 l0 x3_1).f1) x4_3).f0) t224 _ A12.out).mono ?_); rintro e w' ⟨rfl, ⟨nd, rfl⟩⟩; refine ⟨_, rfl, ?_⟩))
                                      go_roundg k3
                                      case measure => have := HK1.out; have := HJ2.out; have := HK3.out; omega
                                      case rel => exact ⟨(wrap64 (x4_3 + 1)), (by first | rfl | (simp; done) | (simp [*]; done)), H', ⟨by have := HK1.out; have := HJ2.out; have := HK3.out; omega⟩, ⟨by repeat (first | (with_reducible first | exact HB.out | apply below_alloc | apply pw_below_drewN | apply below_drew1 | refine below_set ?_ GE223.out) | exact HB.out)⟩⟩
                        · rw [if_neg c11] at H
                          exact absurd H (by simp)
                      · rw [if_neg c10] at H
                        have c10b0 : decide (x4_3 < (((rd_T72 l0 x3_1).f1).length : Int)) = false := decide_eq_false c10
                        clear c10
                        have H' := Aside0.mk H
                        clear H
                        have p220 : 0 ≤ (x3_1 : Int) := of_decide_eq_true (by first | (with_reducible assumption) | assumption)
                        have q220 : x3_1 < (l0.length : Int) := of_decide_eq_true (by first | (with_reducible assumption) | assumption)
                        obtain ⟨ad220, A220_1, c220_1, e220, hx220_0, hx220_1, hl220_1, hi220_1⟩ := at_T72 HR0.out x3_1 p220 q220
                        cases e220
                        replace hx220_0 := (HB.out.cell (World.block_lt_of_cell? w _ hx220_0)).trans hx220_0
                        replace hx220_1 := (HB.out.cell (World.block_lt_of_cell? w _ hx220_1)).trans hx220_1
                        have HR220_1 := Aside0.mk hi220_1
                        have HC220_1 := Aside0.mk hl220_1
                        clear hi220_1 hl220_1
                        replace p220 := eq_true p220
                        replace q220 := eq_true q220
                        go_wp2
                        go_roundg k3
                        case measure => have := HK1.out; have := HJ2.out; have := HK3.out; omega
                        case rel => exact ⟨(wrap64 (x3_1 + 1)), (by first | rfl | (simp; done) | (simp [*]; done)), H', ⟨by have := HK1.out; have := HJ2.out; have := HK3.out; omega⟩, ⟨by repeat (first | (with_reducible first | exact HB.out | apply below_alloc | apply pw_below_drewN | apply below_drew1) | exact HB.out)⟩⟩
                    · rw [if_neg c9] at H
                      exact absurd H (by simp)
                  · rw [if_neg c8] at H
                    exact absurd H (by simp)
      · rw [if_neg c2] at H
        have c2b0 : decide (x3_1 < (l0.length : Int)) = false := decide_eq_false c2
        clear c2
        obtain rfl := Option.some.inj H
        go_wp2
        go_ret
        exact ⟨by first | rfl | (simp [errW_none, errW_some] <;> rfl) | (simp [*, errW_none, errW_some] <;> rfl), by repeat (first | (with_reducible first | exact HB.out | apply below_alloc | apply pw_below_drewN | apply below_drew1) | exact HB.out)⟩
end Go.Proofs.YtlohbepfecahdaaDoor.S
