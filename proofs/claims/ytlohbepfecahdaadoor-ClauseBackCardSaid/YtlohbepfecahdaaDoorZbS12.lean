-- Written by wip/tools/myprint.py, a session's own driver of the kit's printer.
import Derived.ArgAppend
import Derived.Below
import Derived.BigQuiet
import Derived.Deep.AppendLies
import Derived.Deep.CutBlock
import Derived.Deep.DeepCutAuto
import Derived.Deep.Draws
import Derived.Deep.LoopGhost
import Derived.Deep.OwnRows
import Derived.Deep.QuietTactic
import Derived.Deep.RegionHeld3
import Derived.Handy
import Derived.KernelRfl
import Derived.Laws.BitsAllLaws
import Derived.Laws.BitsLemmas
import Derived.Laws.BytesArg
import Derived.Laws.IdiomCopy
import Derived.Laws.MakeOwn
import Derived.Laws.OwnMore
import Derived.Laws.RangeAny
import Derived.Laws.Rows
import Derived.Laws.Slices
import Derived.Laws.StructEq
import Derived.Lib.AppendStr
import Derived.Lib.ConvBytes
import Derived.Lib.FieldsP
import Derived.Lib.Hide
import Derived.Lib.IndexAny
import Derived.Lib.OthersKept
import Derived.Lib.SlBytesConst
import Derived.Lib.SpaceUEq
import Derived.Maps.AppendAt
import Derived.OneCell
import Derived.OrdersHeld
import Derived.OwnWalk
import Derived.RowKit
import Derived.RowKit3
import Derived.Shelf.LaysM
import Derived.Shelf.Small.Strs
import Derived.Shelf.Small.Utf8
import Derived.Shelf.Strings.Builder1
import Derived.Shelf.Strings.Builder2
import Derived.Shelf.Strings.BuilderF
import Derived.Shelf.Strings.BuilderK
import Derived.Shelf.Strings.Count
import Derived.Shelf.Strings.OnBuilder
import Derived.Shelf.Strings.Runes
import Derived.Shelf.Strings.Search1
import Derived.Shelf.Strings.Search2
import Derived.Shelf.Strings.Search3
import Derived.Shelf.Strings.Shaped
import Derived.Shelf.Strings.Split
import Derived.Shelf.Strings.SplitShaped
import Derived.Shelf.Unicode.DecodeSlow
import Derived.Tactics
import Derived.Test.YtlohbepfecahdaaDoorProg
import Derived.WalkKit
import Derived.WideLaws
import Derived.Test.YtlohbepfecahdaaDoorZbWWords
import Derived.Test.YtlohbepfecahdaaDoorZbWLast
import Derived.Test.YtlohbepfecahdaaDoorZbWApart
import Derived.Test.YtlohbepfecahdaaDoorZbWShare
import Derived.Test.YtlohbepfecahdaaDoorZbWN
import Derived.Test.YtlohbepfecahdaaDoorZbWNEv
import Derived.Test.YtlohbepfecahdaaDoorZbWMore
import Derived.Test.YtlohbepfecahdaaDoorZbB
import Derived.Test.YtlohbepfecahdaaDoorZbC
import Derived.Test.YtlohbepfecahdaaDoorZbShelf
import Derived.Test.YtlohbepfecahdaaDoorZbD
import Derived.Test.YtlohbepfecahdaaDoorZbWTab
import Derived.Test.YtlohbepfecahdaaDoorZbWEqStruct
import Derived.Test.YtlohbepfecahdaaDoorZbWRepsOne
import Derived.Test.YtlohbepfecahdaaDoorZbWGuard
import Derived.Test.YtlohbepfecahdaaDoorZbS0
import Derived.Test.YtlohbepfecahdaaDoorZbS4
import Derived.Test.YtlohbepfecahdaaDoorZbS5
import Derived.Test.YtlohbepfecahdaaDoorZbS6
import Derived.Test.YtlohbepfecahdaaDoorZbS7
import Derived.Test.YtlohbepfecahdaaDoorZbS11
namespace Go.Proofs.YtlohbepfecahdaaDoor.S
open Go.RowKit Go.Proofs.YtlohbepfecahdaaDoorW.PrintWords Go.Proofs.YtlohbepfecahdaaDoorW.PrintLast Go.Proofs.YtlohbepfecahdaaDoorW.PrintMore
set_option linter.unusedVariables false
set_option linter.unusedSimpArgs false
/-! ### gaolerref02_letters: function 41 -/
def gaolerref02_letters.l0 : Nat → Int → ByteArray → ByteArray → ByteArray → Int → Option (ByteArray)
  | 0, _, _, _, _, _ => none
  | k + 1, x0, x1, x2, x7, x8 => if x8 < (x2.size : Int) then (if 0 ≤ x8 then ((gaolerref02_Place.f k x1 (bt x2 x8)).bind fun t225 => ((gaolerref02_Pow.f k t225).bind fun t226 => (if t226 = 0 then (none) else (if (Int.tmod (wrap64 (Int.tdiv x0 t226)) 2) = 1 then (if x8 ≤ (wrap64 (x8 + 1)) then (if (wrap64 (x8 + 1)) ≤ (x2.size : Int) then (if x7.size + (x2.extract (x8 : Int).toNat ((wrap64 (x8 + 1)) : Int).toNat).size ≤ 9223372036854775807 then (gaolerref02_letters.l0 k x0 x1 x2 (x7 ++ (x2.extract (x8 : Int).toNat ((wrap64 (x8 + 1)) : Int).toNat)) (wrap64 (x8 + 1))) else (none)) else (none)) else (none)) else (gaolerref02_letters.l0 k x0 x1 x2 x7 (wrap64 (x8 + 1))))))) else (none)) else (some x7)
def gaolerref02_letters.f (k : Nat) (a0 : Int) (a1 : ByteArray) (a2 : ByteArray) : Option (ByteArray) := gaolerref02_letters.l0 k a0 a1 a2 (⟨#[]⟩ : ByteArray) 0
set_option maxHeartbeats 8000000 in
set_option maxRecDepth 100000 in
theorem gaolerref02_letters.calls (k : Nat) (a0 : Int) (a1 : ByteArray) (a2 : ByteArray) (r : ByteArray) (w : World) (h : gaolerref02_letters.f k a0 a1 a2 = some r) :
    Calls Tryd.prog 41 #[.int .i64 a0, .string a1, .string a2] w fun e w' => e = .returned (.string r) ∧ Drawn0 w w' := by
  have H : (gaolerref02_letters.l0 k a0 a1 a2 (⟨#[]⟩ : ByteArray) 0) = some r := h
  clear h
  have H' := Aside0.mk H
  clear H
  go_enter Tryd.func41, Tryd.ntmps41
  go_wp2
  go_loopg [7, 8] k (fun kq v7 v8 w' => ∃ (x7_1 : ByteArray) (x8_1 : Int), v7 = .string x7_1 ∧ v8 = .int .i64 x8_1 ∧ Aside0 (gaolerref02_letters.l0 kq a0 a1 a2 x7_1 x8_1 = some r) ∧ Aside0 (kq ≤ k) ∧ Drawn0 w w')
  case atStart => exact ⟨((⟨#[]⟩ : ByteArray)), (0), (by first | rfl | (simp; done) | (simp [*]; done)), (by first | rfl | (simp; done) | (simp [*]; done)), H', ⟨Nat.le_refl _⟩, by repeat (first | exact Drawn0.refl _ | apply Drawn0.step)⟩
  case round =>
    clear H'
    try clear p2
    obtain ⟨x7_1, x8_1, rfl, rfl, HA, HK1, ⟨m1, rfl⟩⟩ := hrel
    cases gk with
    | zero => exact absurd HA.out (by simp [gaolerref02_letters.l0])
    | succ k1 =>
      have H := HA.out
      clear HA
      simp only [gaolerref02_letters.l0] at H
      by_cases c4 : x8_1 < (a2.size : Int)
      · rw [if_pos c4] at H
        have c4b0 : decide (x8_1 < (a2.size : Int)) = true := decide_eq_true c4
        clear c4
        by_cases c5 : 0 ≤ x8_1
        · rw [if_pos c5] at H
          have c5b0 : decide (0 ≤ x8_1) = true := decide_eq_true c5
          clear c5
          replace H := Option.bind_eq_some_iff.mp H
          obtain ⟨t225, A70, H⟩ := H
          replace H : ((gaolerref02_Pow.f k1 t225).bind fun t226 => (if t226 = 0 then (none) else (if (Int.tmod (wrap64 (Int.tdiv a0 t226)) 2) = 1 then (if x8_1 ≤ (wrap64 (x8_1 + 1)) then (if (wrap64 (x8_1 + 1)) ≤ (a2.size : Int) then (if x7_1.size + (a2.extract (x8_1 : Int).toNat ((wrap64 (x8_1 + 1)) : Int).toNat).size ≤ 9223372036854775807 then (gaolerref02_letters.l0 k1 a0 a1 a2 (x7_1 ++ (a2.extract (x8_1 : Int).toNat ((wrap64 (x8_1 + 1)) : Int).toNat)) (wrap64 (x8_1 + 1))) else (none)) else (none)) else (none)) else (gaolerref02_letters.l0 k1 a0 a1 a2 x7_1 (wrap64 (x8_1 + 1)))))) = some r := H
          have A7 := Aside0.mk A70
          clear A70
          replace H := Option.bind_eq_some_iff.mp H
          obtain ⟨t226, A80, H⟩ := H
          replace H : (if t226 = 0 then (none) else (if (Int.tmod (wrap64 (Int.tdiv a0 t226)) 2) = 1 then (if x8_1 ≤ (wrap64 (x8_1 + 1)) then (if (wrap64 (x8_1 + 1)) ≤ (a2.size : Int) then (if x7_1.size + (a2.extract (x8_1 : Int).toNat ((wrap64 (x8_1 + 1)) : Int).toNat).size ≤ 9223372036854775807 then (gaolerref02_letters.l0 k1 a0 a1 a2 (x7_1 ++ (a2.extract (x8_1 : Int).toNat ((wrap64 (x8_1 + 1)) : Int).toNat)) (wrap64 (x8_1 + 1))) else (none)) else (none)) else (none)) else (gaolerref02_letters.l0 k1 a0 a1 a2 x7_1 (wrap64 (x8_1 + 1))))) = some r := H
          have A8 := Aside0.mk A80
          clear A80
          by_cases c9 : t226 = 0
          · rw [if_pos c9] at H
            exact absurd H (by simp)
          · rw [if_neg c9] at H
            have c9b0 : (t226 == 0) = false := beq_eq_false_iff_ne.mpr c9
            have c9b1 : (t226 != 0) = true := bne_iff_ne.mpr c9
            by_cases c10 : (Int.tmod (wrap64 (Int.tdiv a0 t226)) 2) = 1
            · rw [if_pos c10] at H
              have c10b0 : ((Int.tmod (wrap64 (Int.tdiv a0 t226)) 2) == 1) = true := beq_iff_eq.mpr c10
              have c10b1 : ((Int.tmod (wrap64 (Int.tdiv a0 t226)) 2) != 1) = false := bne_eq_false_iff_eq.mpr c10
              clear c10
              have c11b0 := eq_true (of_decide_eq_true (by first | (with_reducible assumption) | assumption) : 0 ≤ x8_1)
              by_cases c12 : x8_1 ≤ (wrap64 (x8_1 + 1))
              · rw [if_pos c12] at H
                have c12b0 := eq_true c12
                have c12b1 : decide (x8_1 ≤ (wrap64 (x8_1 + 1))) = true := decide_eq_true c12
                by_cases c13 : (wrap64 (x8_1 + 1)) ≤ (a2.size : Int)
                · rw [if_pos c13] at H
                  have c13b0 := eq_true c13
                  have c13b1 : decide ((wrap64 (x8_1 + 1)) ≤ (a2.size : Int)) = true := decide_eq_true c13
                  by_cases c14 : x7_1.size + (a2.extract (x8_1 : Int).toNat ((wrap64 (x8_1 + 1)) : Int).toNat).size ≤ 9223372036854775807
                  · rw [if_pos c14] at H
                    have c14b0 := eq_true c14
                    have c14b1 : decide (x7_1.size + (a2.extract (x8_1 : Int).toNat ((wrap64 (x8_1 + 1)) : Int).toNat).size ≤ 9223372036854775807) = true := decide_eq_true c14
                    try have c14b2 : (9223372036854775807 < x7_1.size + (a2.extract (x8_1 : Int).toNat ((wrap64 (x8_1 + 1)) : Int).toNat).size) = False := eq_false (Nat.not_lt.2 c14)
                    have H' := Aside0.mk H
                    clear H
                    have p6 : 0 ≤ (x8_1 : Int) := of_decide_eq_true (by first | (with_reducible assumption) | assumption)
                    have q6 : x8_1 < (a2.size : Int) := of_decide_eq_true (by first | (with_reducible assumption) | assumption)
                    have hx6 := bt_at a2 x8_1
                    replace p6 := eq_true p6
                    replace q6 := eq_true q6
                    go_wp2_with (first | ((with_reducible refine gate_callee (f := 38) rfl ?_); refine goesL_ (some 20) rfl rfl Tryd.func38 (by kernel_rfl) rfl #[.string a1, .int .u8 (bt a2 x8_1)] rfl (by (try simp only [List.map_toArray, List.map_cons, List.map_nil]); first | done | rfl | (simp only [List.length_drop, List.length_take]; rfl)) ?_; (with_reducible refine (gaolerref02_Place.calls k1 a1 (bt a2 x8_1) t225 _ A7.out).mono ?_); rintro e w' ⟨rfl, ⟨nd, rfl⟩⟩; refine ⟨_, rfl, ?_⟩) | ((with_reducible refine gate_callee (f := 59) rfl ?_); refine goesL_ (some 21) rfl rfl Tryd.func59 (by kernel_rfl) rfl #[.int .i64 t225] rfl (by (try simp only [List.map_toArray, List.map_cons, List.map_nil]); first | done | rfl | (simp only [List.length_drop, List.length_take]; rfl)) ?_; (with_reducible refine (gaolerref02_Pow.calls k1 t225 t226 _ A8.out).mono ?_); rintro e w' ⟨rfl, ⟨nd, rfl⟩⟩; refine ⟨_, rfl, ?_⟩))
                    go_roundg k1
                    case measure => have := HK1.out; omega
                    case rel => exact ⟨(x7_1 ++ (a2.extract (x8_1 : Int).toNat ((wrap64 (x8_1 + 1)) : Int).toNat)), (wrap64 (x8_1 + 1)), (by first | rfl | (simp; done) | (simp [*]; done)), (by first | rfl | (simp; done) | (simp [*]; done)), H', ⟨by have := HK1.out; omega⟩, by repeat (first | exact Drawn0.refl _ | apply Drawn0.step)⟩
                  · rw [if_neg c14] at H
                    exact absurd H (by simp)
                · rw [if_neg c13] at H
                  exact absurd H (by simp)
              · rw [if_neg c12] at H
                exact absurd H (by simp)
            · rw [if_neg c10] at H
              have c10b0 : ((Int.tmod (wrap64 (Int.tdiv a0 t226)) 2) == 1) = false := beq_eq_false_iff_ne.mpr c10
              have c10b1 : ((Int.tmod (wrap64 (Int.tdiv a0 t226)) 2) != 1) = true := bne_iff_ne.mpr c10
              have H' := Aside0.mk H
              clear H
              have p6 : 0 ≤ (x8_1 : Int) := of_decide_eq_true (by first | (with_reducible assumption) | assumption)
              have q6 : x8_1 < (a2.size : Int) := of_decide_eq_true (by first | (with_reducible assumption) | assumption)
              have hx6 := bt_at a2 x8_1
              replace p6 := eq_true p6
              replace q6 := eq_true q6
              go_wp2_with (first | ((with_reducible refine gate_callee (f := 38) rfl ?_); refine goesL_ (some 20) rfl rfl Tryd.func38 (by kernel_rfl) rfl #[.string a1, .int .u8 (bt a2 x8_1)] rfl (by (try simp only [List.map_toArray, List.map_cons, List.map_nil]); first | done | rfl | (simp only [List.length_drop, List.length_take]; rfl)) ?_; (with_reducible refine (gaolerref02_Place.calls k1 a1 (bt a2 x8_1) t225 _ A7.out).mono ?_); rintro e w' ⟨rfl, ⟨nd, rfl⟩⟩; refine ⟨_, rfl, ?_⟩) | ((with_reducible refine gate_callee (f := 59) rfl ?_); refine goesL_ (some 21) rfl rfl Tryd.func59 (by kernel_rfl) rfl #[.int .i64 t225] rfl (by (try simp only [List.map_toArray, List.map_cons, List.map_nil]); first | done | rfl | (simp only [List.length_drop, List.length_take]; rfl)) ?_; (with_reducible refine (gaolerref02_Pow.calls k1 t225 t226 _ A8.out).mono ?_); rintro e w' ⟨rfl, ⟨nd, rfl⟩⟩; refine ⟨_, rfl, ?_⟩))
              go_roundg k1
              case measure => have := HK1.out; omega
              case rel => exact ⟨(x7_1), (wrap64 (x8_1 + 1)), (by first | rfl | (simp; done) | (simp [*]; done)), (by first | rfl | (simp; done) | (simp [*]; done)), H', ⟨by have := HK1.out; omega⟩, by repeat (first | exact Drawn0.refl _ | apply Drawn0.step)⟩
        · rw [if_neg c5] at H
          exact absurd H (by simp)
      · rw [if_neg c4] at H
        have c4b0 : decide (x8_1 < (a2.size : Int)) = false := decide_eq_false c4
        clear c4
        obtain rfl := Option.some.inj H
        go_wp2
        go_ret
        exact ⟨by first | rfl | (simp; done) | (simp [*]; done), by repeat (first | exact Drawn0.refl _ | apply Drawn0.step)⟩
/-! ### gaolerref02_Show: function 22 -/
mutual
def gaolerref02_Show.l0 : Nat → List (S72) → Bool → ByteArray → Int → Option (ByteArray)
  | 0, _, _, _, _ => none
  | k + 1, x0, x3, x4, x5 => if x5 < (x0.length : Int) then (gaolerref02_Show.j1 k x0 x3 x4 x5 x3) else (gaolerref02_Show.j1 k x0 x3 x4 x5 false)
def gaolerref02_Show.j1 : Nat → List (S72) → Bool → ByteArray → Int → Bool → Option (ByteArray)
  | 0, _, _, _, _, _ => none
  | k + 1, x0, x3, x4, x5, x16 => if x16 = true then (if x5 > 0 then (if x4.size + 1 ≤ 9223372036854775807 then (gaolerref02_Show.j2 k x0 x3 (x4 ++ (⟨#[44]⟩ : ByteArray)) x5) else (none)) else (gaolerref02_Show.j2 k x0 x3 x4 x5)) else (some x4)
def gaolerref02_Show.j2 : Nat → List (S72) → Bool → ByteArray → Int → Option (ByteArray)
  | 0, _, _, _, _ => none
  | k + 1, x0, x3, x4, x5 => if 0 ≤ x5 then (if x5 < (x0.length : Int) then (if ((rd_T72 x0 x5).f0) = 7 then (if x4.size + 1 ≤ 9223372036854775807 then (gaolerref02_Show.j3 k x0 x3 (x4 ++ (⟨#[97]⟩ : ByteArray)) x5) else (none)) else ((gaolerref02_letters.f k ((rd_T72 x0 x5).f0) (⟨#[117, 103, 111]⟩ : ByteArray) (⟨#[117, 103, 111]⟩ : ByteArray)).bind fun t230 => (if x4.size + t230.size ≤ 9223372036854775807 then (gaolerref02_Show.j3 k x0 x3 (x4 ++ t230) x5) else (none)))) else (none)) else (none)
def gaolerref02_Show.j3 : Nat → List (S72) → Bool → ByteArray → Int → Option (ByteArray)
  | 0, _, _, _, _ => none
  | k + 1, x0, x3, x4, x5 => gaolerref02_Show.l1 k x0 x3 x4 x5 0
def gaolerref02_Show.l1 : Nat → List (S72) → Bool → ByteArray → Int → Int → Option (ByteArray)
  | 0, _, _, _, _, _ => none
  | k + 1, x0, x3, x4, x5, x6 => if 0 ≤ x5 then (if x5 < (x0.length : Int) then (if x6 < (((rd_T72 x0 x5).f1).length : Int) then (if 0 ≤ x6 then ((some (([(rd_T75 ((rd_T72 x0 x5).f1) x6).f0] : List Int) : List Int)).bind fun y235 => (if x4.size + (strOfNums y235).size ≤ 9223372036854775807 then (if ((rd_T75 ((rd_T72 x0 x5).f1) x6).f2) > 0 then (if 0 ≤ (wrap64 (((rd_T75 ((rd_T72 x0 x5).f1) x6).f2) - 1)) then (if (wrap64 (((rd_T75 ((rd_T72 x0 x5).f1) x6).f2) - 1)) ≤ ((rd_T75 ((rd_T72 x0 x5).f1) x6).f2) then (if ((rd_T75 ((rd_T72 x0 x5).f1) x6).f2) ≤ 3 then (if (x4 ++ (strOfNums y235)).size + ((⟨#[117, 103, 111]⟩ : ByteArray).extract ((wrap64 (((rd_T75 ((rd_T72 x0 x5).f1) x6).f2) - 1)) : Int).toNat (((rd_T75 ((rd_T72 x0 x5).f1) x6).f2) : Int).toNat).size ≤ 9223372036854775807 then (gaolerref02_Show.l1 k x0 x3 ((x4 ++ (strOfNums y235)) ++ ((⟨#[117, 103, 111]⟩ : ByteArray).extract ((wrap64 (((rd_T75 ((rd_T72 x0 x5).f1) x6).f2) - 1)) : Int).toNat (((rd_T75 ((rd_T72 x0 x5).f1) x6).f2) : Int).toNat)) x5 (wrap64 (x6 + 1))) else (none)) else (none)) else (none)) else (none)) else ((gaolerref02_letters.f k ((rd_T75 ((rd_T72 x0 x5).f1) x6).f1) (⟨#[120, 119, 114, 88, 115, 116]⟩ : ByteArray) (⟨#[114, 119, 120, 88, 115, 116]⟩ : ByteArray)).bind fun t238 => (if (x4 ++ (strOfNums y235)).size + t238.size ≤ 9223372036854775807 then (gaolerref02_Show.l1 k x0 x3 ((x4 ++ (strOfNums y235)) ++ t238) x5 (wrap64 (x6 + 1))) else (none)))) else (none))) else (none)) else (gaolerref02_Show.l0 k x0 x3 x4 (wrap64 (x5 + 1)))) else (none)) else (none)
end
def gaolerref02_Show.f (k : Nat) (l0 : List (S72)) : Option (ByteArray) := (gaolerref02_Right.f k l0).bind fun t227 => (gaolerref02_Show.l0 k l0 t227 (⟨#[]⟩ : ByteArray) 0)
set_option maxHeartbeats 8000000 in
set_option maxRecDepth 100000 in
theorem gaolerref02_Show.calls (k : Nat) (A0 : Option Addr) (c0 : Nat) (l0 : List (S72)) (r : ByteArray) (w : World) (hr0 : Kd.C k72 w A0 l0.length l0) (hc0 : l0.length ≤ c0) (h : gaolerref02_Show.f k l0 = some r) :
    Calls Tryd.prog 22 #[.slice A0 l0.length c0] w fun e w' => e = .returned (.string r) ∧ Below w.heap.size w w' := by
  have hu75 := Tryd.underlying75
  have HR0 := Aside0.mk hr0
  have HC0 := Aside0.mk hc0
  clear hr0 hc0
  have HB := Aside0.mk (Below.refl w.heap.size w)
  have H : ((gaolerref02_Right.f k l0).bind fun t227 => (gaolerref02_Show.l0 k l0 t227 (⟨#[]⟩ : ByteArray) 0)) = some r := h
  clear h
  replace H := Option.bind_eq_some_iff.mp H
  obtain ⟨t227, A20, H⟩ := H
  replace H : (gaolerref02_Show.l0 k l0 t227 (⟨#[]⟩ : ByteArray) 0) = some r := H
  have A2 := Aside0.mk A20
  clear A20
  have H' := Aside0.mk H
  clear H
  go_enter Tryd.func22, Tryd.ntmps22
  go_wp2_with (first | ((with_reducible refine gate_callee (f := 20) rfl ?_); refine goesL_ (some 9) rfl rfl Tryd.func20 (by kernel_rfl) rfl #[.slice A0 l0.length c0] rfl (by (try simp only [List.map_toArray, List.map_cons, List.map_nil]); first | done | rfl | (simp only [List.length_drop, List.length_take]; rfl)) ?_; (with_reducible refine (gaolerref02_Right.calls k _ _ l0 t227 _ ?side1 ?side2 A2.out).mono ?_); (case side1 => repeat (first | exact HR0.out | (with_reducible refine Kd.C_alloc ?_ _) | (with_reducible refine Kd.C_drewN ?_ _) | (with_reducible refine Kd.C_drew ?_))); (case side2 => exact HC0.out); rintro e w3 ⟨rfl, hb⟩; refine ⟨_, rfl, ?_⟩; have n0_ := Aside0.mk (below_step (by repeat (first | (with_reducible first | exact HB.out | apply below_alloc | apply pw_below_drewN | apply below_drew1) | exact HB.out)) hb); clear HB; have HB := n0_; clear n0_; (try clear hb); (try clear hb2); (try clear hk); (try clear hi)))
  go_loopg [4, 5] k (fun kq v4 v5 w' => ∃ (x4_1 : ByteArray) (x5_1 : Int), v4 = .string x4_1 ∧ v5 = .int .i64 x5_1 ∧ Aside0 (gaolerref02_Show.l0 kq l0 t227 x4_1 x5_1 = some r) ∧ Aside0 (kq ≤ k) ∧ Aside0 (Below w.heap.size w w'))
  case atStart => exact ⟨((⟨#[]⟩ : ByteArray)), (0), (by first | rfl | (simp; done) | (simp [*]; done)), (by first | rfl | (simp; done) | (simp [*]; done)), H', ⟨Nat.le_refl _⟩, ⟨by repeat (first | (with_reducible first | exact HB.out | apply below_alloc | apply pw_below_drewN | apply below_drew1) | exact HB.out)⟩⟩
  case round =>
    clear H'
    try clear c2
    try clear p2
    obtain ⟨x4_1, x5_1, rfl, rfl, HA, HK1, HB⟩ := hrel
    cases gk with
    | zero => exact absurd HA.out (by simp [gaolerref02_Show.l0])
    | succ k1 =>
      have H := HA.out
      clear HA
      simp only [gaolerref02_Show.l0] at H
      have HC4 := Aside0.mk H
      clear H
      go_upto_region 4 with (fail)
      go_cut [16] (fun v16 wc => ∃ (kq : Nat) (x16_3 : Bool), v16 = .bool x16_3 ∧ Aside0 (gaolerref02_Show.j1 kq l0 t227 x4_1 x5_1 x16_3 = some r) ∧ Aside0 (kq ≤ k1) ∧ Aside0 (Below w.heap.size w wc))
      case first =>
        have H := HC4.out
        clear HC4
        by_cases c5 : x5_1 < (l0.length : Int)
        · rw [if_pos c5] at H
          have c5b0 : decide (x5_1 < (l0.length : Int)) = true := decide_eq_true c5
          clear c5
          (first | rw [c5b0] | (simp only [i64_w, i32_w]; rw [c5b0]) | skip)
          have H' := Aside0.mk H
          clear H
          go_wp2
          go_meet
          case rel => exact ⟨_, (t227), (by first | rfl | (simp; done) | (simp [*]; done)), H', ⟨by have := HK1.out; first | omega | exact Nat.le_refl _⟩, ⟨by repeat (first | (with_reducible first | exact HB.out | apply below_alloc | apply pw_below_drewN | apply below_drew1) | exact HB.out)⟩⟩
        · rw [if_neg c5] at H
          have c5b0 : decide (x5_1 < (l0.length : Int)) = false := decide_eq_false c5
          clear c5
          (first | rw [c5b0] | (simp only [i64_w, i32_w]; rw [c5b0]) | skip)
          have H' := Aside0.mk H
          clear H
          go_wp2
          go_meet
          case rel => exact ⟨_, (false), (by first | rfl | (simp; done) | (simp [*]; done)), H', ⟨by have := HK1.out; first | omega | exact Nat.le_refl _⟩, ⟨by repeat (first | (with_reducible first | exact HB.out | apply below_alloc | apply pw_below_drewN | apply below_drew1) | exact HB.out)⟩⟩
      case rest =>
        clear HC4
        try clear c2
        try clear p2
        try clear c5
        try clear c5b0
        try clear p2
        obtain ⟨kq, x16_3, rfl, HA, HJ3, HB⟩ := hcut
        cases kq with
        | zero => exact absurd HA.out (by simp [gaolerref02_Show.j1])
        | succ kj3 =>
          have H := HA.out
          clear HA
          simp only [gaolerref02_Show.j1] at H
          by_cases c6 : x16_3 = true
          · subst c6
            have H1 : (if x5_1 > 0 then (if x4_1.size + 1 ≤ 9223372036854775807 then (gaolerref02_Show.j2 kj3 l0 t227 (x4_1 ++ (⟨#[44]⟩ : ByteArray)) x5_1) else (none)) else (gaolerref02_Show.j2 kj3 l0 t227 x4_1 x5_1)) = some r := by rw [if_pos rfl] at H; exact H
            clear H
            have H := H1
            clear H1
            have HC7 := Aside0.mk H
            clear H
            go_upto_if 20 with (fail)
            go_cut [4] (fun v4 wc => ∃ (kq : Nat) (x4_6 : ByteArray), v4 = .string x4_6 ∧ Aside0 (gaolerref02_Show.j2 kq l0 t227 x4_6 x5_1 = some r) ∧ Aside0 (kq ≤ kj3) ∧ Aside0 (Below w.heap.size w wc))
            case first =>
              have H := HC7.out
              clear HC7
              by_cases c8 : x5_1 > 0
              · rw [if_pos c8] at H
                have c8b0 : decide (0 < x5_1) = true := decide_eq_true c8
                clear c8
                (first | rw [c8b0] | (simp only [i64_w, i32_w]; rw [c8b0]) | skip)
                by_cases c9 : x4_1.size + 1 ≤ 9223372036854775807
                · rw [if_pos c9] at H
                  have c9b0 := eq_true c9
                  have c9b1 : decide (x4_1.size + 1 ≤ 9223372036854775807) = true := decide_eq_true c9
                  try have c9b2 : (9223372036854775807 < x4_1.size + 1) = False := eq_false (Nat.not_lt.2 c9)
                  have H' := Aside0.mk H
                  clear H
                  go_wp2
                  go_meet
                  case rel => exact ⟨_, (x4_1 ++ (⟨#[44]⟩ : ByteArray)), (by first | rfl | (simp; done) | (simp [*]; done)), H', ⟨by have := HK1.out; have := HJ3.out; first | omega | exact Nat.le_refl _⟩, ⟨by repeat (first | (with_reducible first | exact HB.out | apply below_alloc | apply pw_below_drewN | apply below_drew1) | exact HB.out)⟩⟩
                · rw [if_neg c9] at H
                  exact absurd H (by simp)
              · rw [if_neg c8] at H
                have c8b0 : decide (0 < x5_1) = false := decide_eq_false c8
                clear c8
                (first | rw [c8b0] | (simp only [i64_w, i32_w]; rw [c8b0]) | skip)
                have H' := Aside0.mk H
                clear H
                go_wp2
                go_meet
                case rel => exact ⟨_, (x4_1), (by first | rfl | (simp; done) | (simp [*]; done)), H', ⟨by have := HK1.out; have := HJ3.out; first | omega | exact Nat.le_refl _⟩, ⟨by repeat (first | (with_reducible first | exact HB.out | apply below_alloc | apply pw_below_drewN | apply below_drew1) | exact HB.out)⟩⟩
            case rest =>
              clear HC7
              try clear c2
              try clear p2
              try clear c5
              try clear c5b0
              try clear c6
              try clear c8
              try clear c8b0
              try clear c9
              try clear c9b0
              try clear c9b1
              try clear c9b2
              try clear p2
              obtain ⟨kq, x4_6, rfl, HA, HJ6, HB⟩ := hcut
              cases kq with
              | zero => exact absurd HA.out (by simp [gaolerref02_Show.j2])
              | succ kj6 =>
                have H := HA.out
                clear HA
                simp only [gaolerref02_Show.j2] at H
                by_cases c10 : 0 ≤ x5_1
                · rw [if_pos c10] at H
                  have c10b0 : decide (0 ≤ x5_1) = true := decide_eq_true c10
                  clear c10
                  by_cases c11 : x5_1 < (l0.length : Int)
                  · rw [if_pos c11] at H
                    have c11b0 : decide (x5_1 < (l0.length : Int)) = true := decide_eq_true c11
                    clear c11
                    have HC12 := Aside0.mk H
                    clear H
                    have p228 : 0 ≤ (x5_1 : Int) := of_decide_eq_true (by first | (with_reducible assumption) | assumption)
                    have q228 : x5_1 < (l0.length : Int) := of_decide_eq_true (by first | (with_reducible assumption) | assumption)
                    obtain ⟨ad228, A228_1, c228_1, e228, hx228_0, hx228_1, hl228_1, hi228_1⟩ := at_T72 HR0.out x5_1 p228 q228
                    cases e228
                    replace hx228_0 := (HB.out.cell (World.block_lt_of_cell? w _ hx228_0)).trans hx228_0
                    replace hx228_1 := (HB.out.cell (World.block_lt_of_cell? w _ hx228_1)).trans hx228_1
                    have HR228_1 := Aside0.mk hi228_1
                    have HC228_1 := Aside0.mk hl228_1
                    clear hi228_1 hl228_1
                    replace p228 := eq_true p228
                    replace q228 := eq_true q228
                    go_upto_if 28 with (fail)
                    go_cut [4] (fun v4 wc => ∃ (kq : Nat) (x4_11 : ByteArray), v4 = .string x4_11 ∧ Aside0 (gaolerref02_Show.j3 kq l0 t227 x4_11 x5_1 = some r) ∧ Aside0 (kq ≤ kj6) ∧ Aside0 (Below w.heap.size w wc))
                    case first =>
                      have H := HC12.out
                      clear HC12
                      by_cases c13 : ((rd_T72 l0 x5_1).f0) = 7
                      · rw [if_pos c13] at H
                        have c13b0 : (((rd_T72 l0 x5_1).f0) == 7) = true := beq_iff_eq.mpr c13
                        have c13b1 : (((rd_T72 l0 x5_1).f0) != 7) = false := bne_eq_false_iff_eq.mpr c13
                        clear c13
                        (first | rw [c13b0] | (simp only [i64_w, i32_w]; rw [c13b0]) | skip)
                        by_cases c14 : x4_6.size + 1 ≤ 9223372036854775807
                        · rw [if_pos c14] at H
                          have c14b0 := eq_true c14
                          have c14b1 : decide (x4_6.size + 1 ≤ 9223372036854775807) = true := decide_eq_true c14
                          try have c14b2 : (9223372036854775807 < x4_6.size + 1) = False := eq_false (Nat.not_lt.2 c14)
                          have H' := Aside0.mk H
                          clear H
                          go_wp2
                          go_meet
                          case rel => exact ⟨_, (x4_6 ++ (⟨#[97]⟩ : ByteArray)), (by first | rfl | (simp; done) | (simp [*]; done)), H', ⟨by have := HK1.out; have := HJ3.out; have := HJ6.out; first | omega | exact Nat.le_refl _⟩, ⟨by repeat (first | (with_reducible first | exact HB.out | apply below_alloc | apply pw_below_drewN | apply below_drew1) | exact HB.out)⟩⟩
                        · rw [if_neg c14] at H
                          exact absurd H (by simp)
                      · rw [if_neg c13] at H
                        have c13b0 : (((rd_T72 l0 x5_1).f0) == 7) = false := beq_eq_false_iff_ne.mpr c13
                        have c13b1 : (((rd_T72 l0 x5_1).f0) != 7) = true := bne_iff_ne.mpr c13
                        (first | rw [c13b0] | (simp only [i64_w, i32_w]; rw [c13b0]) | skip)
                        replace H := Option.bind_eq_some_iff.mp H
                        obtain ⟨t230, A150, H⟩ := H
                        replace H : (if x4_6.size + t230.size ≤ 9223372036854775807 then (gaolerref02_Show.j3 kj6 l0 t227 (x4_6 ++ t230) x5_1) else (none)) = some r := H
                        have A15 := Aside0.mk A150
                        clear A150
                        by_cases c16 : x4_6.size + t230.size ≤ 9223372036854775807
                        · rw [if_pos c16] at H
                          have c16b0 := eq_true c16
                          have c16b1 : decide (x4_6.size + t230.size ≤ 9223372036854775807) = true := decide_eq_true c16
                          try have c16b2 : (9223372036854775807 < x4_6.size + t230.size) = False := eq_false (Nat.not_lt.2 c16)
                          have H' := Aside0.mk H
                          clear H
                          have p229 : 0 ≤ (x5_1 : Int) := of_decide_eq_true (by first | (with_reducible assumption) | assumption)
                          have q229 : x5_1 < (l0.length : Int) := of_decide_eq_true (by first | (with_reducible assumption) | assumption)
                          obtain ⟨ad229, A229_1, c229_1, e229, hx229_0, hx229_1, hl229_1, hi229_1⟩ := at_T72 HR0.out x5_1 p229 q229
                          obtain rfl : ad228 = ad229 := (by injection e229)
                          replace hx229_0 := (HB.out.cell (World.block_lt_of_cell? w _ hx229_0)).trans hx229_0
                          replace hx229_1 := (HB.out.cell (World.block_lt_of_cell? w _ hx229_1)).trans hx229_1
                          have HR229_1 := Aside0.mk hi229_1
                          have HC229_1 := Aside0.mk hl229_1
                          clear hi229_1 hl229_1
                          replace p229 := eq_true p229
                          replace q229 := eq_true q229
                          go_wp2_with (first | ((with_reducible refine gate_callee (f := 41) rfl ?_); refine goesL_ (some 37) rfl rfl Tryd.func41 (by kernel_rfl) rfl #[.int .i64 ((rd_T72 l0 x5_1).f0), .string (⟨#[117, 103, 111]⟩ : ByteArray), .string (⟨#[117, 103, 111]⟩ : ByteArray)] rfl (by (try simp only [List.map_toArray, List.map_cons, List.map_nil]); first | done | rfl | (simp only [List.length_drop, List.length_take]; rfl)) ?_; (with_reducible refine (gaolerref02_letters.calls kj6 ((rd_T72 l0 x5_1).f0) (⟨#[117, 103, 111]⟩ : ByteArray) (⟨#[117, 103, 111]⟩ : ByteArray) t230 _ A15.out).mono ?_); rintro e w' ⟨rfl, ⟨nd, rfl⟩⟩; refine ⟨_, rfl, ?_⟩))
                          go_meet
                          case rel => exact ⟨_, (x4_6 ++ t230), (by first | rfl | (simp; done) | (simp [*]; done)), H', ⟨by have := HK1.out; have := HJ3.out; have := HJ6.out; first | omega | exact Nat.le_refl _⟩, ⟨by repeat (first | (with_reducible first | exact HB.out | apply below_alloc | apply pw_below_drewN | apply below_drew1) | exact HB.out)⟩⟩
                        · rw [if_neg c16] at H
                          exact absurd H (by simp)
                    case rest =>
                      clear HC12
                      try clear c1
                      try clear c2
                      try clear p2
                      try clear q2
                      try clear hx2
                      try clear c4
                      try clear c5
                      try clear c5b0
                      try clear c6
                      try clear c8
                      try clear c8b0
                      try clear c9
                      try clear c9b0
                      try clear c9b1
                      try clear c9b2
                      try clear c10
                      try clear c10b0
                      try clear c11
                      try clear c11b0
                      try clear c13
                      try clear c13b0
                      try clear c13b1
                      try clear c14
                      try clear c14b0
                      try clear c14b1
                      try clear c14b2
                      try clear c16
                      try clear c16b0
                      try clear c16b1
                      try clear c16b2
                      try clear hx228_0
                      try clear hx228_1
                      try clear hx229_0
                      try clear hx229_1
                      try clear p2
                      try clear p228
                      try clear p229
                      try clear q228
                      try clear q229
                      obtain ⟨kq, x4_11, rfl, HA, HJ11, HB⟩ := hcut
                      cases kq with
                      | zero => exact absurd HA.out (by simp [gaolerref02_Show.j3])
                      | succ kj11 =>
                        have H := HA.out
                        clear HA
                        simp only [gaolerref02_Show.j3] at H
                        have H' := Aside0.mk H
                        clear H
                        go_wp2
                        go_loopg [4, 6] kj11 (fun kq v4 v6 w' => ∃ (x4_5 : ByteArray) (x6_5 : Int), v4 = .string x4_5 ∧ v6 = .int .i64 x6_5 ∧ Aside0 (gaolerref02_Show.l1 kq l0 t227 x4_5 x5_1 x6_5 = some r) ∧ Aside0 (kq ≤ kj11) ∧ Aside0 (Below w.heap.size w w'))
                        case atStart => exact ⟨(x4_11), (0), (by first | rfl | (simp; done) | (simp [*]; done)), (by first | rfl | (simp; done) | (simp [*]; done)), H', ⟨Nat.le_refl _⟩, ⟨by repeat (first | (with_reducible first | exact HB.out | apply below_alloc | apply pw_below_drewN | apply below_drew1) | exact HB.out)⟩⟩
                        case round =>
                          clear H'
                          try clear c1
                          try clear c2
                          try clear p2
                          try clear q2
                          try clear hx2
                          try clear c4
                          try clear c5
                          try clear c5b0
                          try clear c6
                          try clear c8
                          try clear c8b0
                          try clear c9
                          try clear c9b0
                          try clear c9b1
                          try clear c9b2
                          try clear c10
                          try clear c10b0
                          try clear c11
                          try clear c11b0
                          try clear c13
                          try clear c13b0
                          try clear c13b1
                          try clear c14
                          try clear c14b0
                          try clear c14b1
                          try clear c14b2
                          try clear c16
                          try clear c16b0
                          try clear c16b1
                          try clear c16b2
                          try clear hx228_0
                          try clear hx228_1
                          try clear hx229_0
                          try clear hx229_1
                          try clear p2
                          try clear p228
                          try clear p229
                          try clear q2
                          try clear q228
                          try clear q229
                          obtain ⟨x4_5, x6_5, rfl, rfl, HA, HK5, HB⟩ := hrel
                          cases gk with
                          | zero => exact absurd HA.out (by simp [gaolerref02_Show.l1])
                          | succ k5 =>
                            have H := HA.out
                            clear HA
                            simp only [gaolerref02_Show.l1] at H
                            by_cases c17 : 0 ≤ x5_1
                            · rw [if_pos c17] at H
                              have c17b0 : decide (0 ≤ x5_1) = true := decide_eq_true c17
                              clear c17
                              by_cases c18 : x5_1 < (l0.length : Int)
                              · rw [if_pos c18] at H
                                have c18b0 : decide (x5_1 < (l0.length : Int)) = true := decide_eq_true c18
                                clear c18
                                by_cases c19 : x6_5 < (((rd_T72 l0 x5_1).f1).length : Int)
                                · rw [if_pos c19] at H
                                  have c19b0 : decide (x6_5 < (((rd_T72 l0 x5_1).f1).length : Int)) = true := decide_eq_true c19
                                  clear c19
                                  by_cases c20 : 0 ≤ x6_5
                                  · rw [if_pos c20] at H
                                    have c20b0 : decide (0 ≤ x6_5) = true := decide_eq_true c20
                                    clear c20
                                    obtain ⟨y235, hy235⟩ : ∃ y_ : List Int, y_ = (([(rd_T75 ((rd_T72 l0 x5_1).f1) x6_5).f0] : List Int)) := ⟨_, rfl⟩
                                    replace H : (if x4_5.size + (strOfNums y235).size ≤ 9223372036854775807 then (if ((rd_T75 ((rd_T72 l0 x5_1).f1) x6_5).f2) > 0 then (if 0 ≤ (wrap64 (((rd_T75 ((rd_T72 l0 x5_1).f1) x6_5).f2) - 1)) then (if (wrap64 (((rd_T75 ((rd_T72 l0 x5_1).f1) x6_5).f2) - 1)) ≤ ((rd_T75 ((rd_T72 l0 x5_1).f1) x6_5).f2) then (if ((rd_T75 ((rd_T72 l0 x5_1).f1) x6_5).f2) ≤ 3 then (if (x4_5 ++ (strOfNums y235)).size + ((⟨#[117, 103, 111]⟩ : ByteArray).extract ((wrap64 (((rd_T75 ((rd_T72 l0 x5_1).f1) x6_5).f2) - 1)) : Int).toNat (((rd_T75 ((rd_T72 l0 x5_1).f1) x6_5).f2) : Int).toNat).size ≤ 9223372036854775807 then (gaolerref02_Show.l1 k5 l0 t227 ((x4_5 ++ (strOfNums y235)) ++ ((⟨#[117, 103, 111]⟩ : ByteArray).extract ((wrap64 (((rd_T75 ((rd_T72 l0 x5_1).f1) x6_5).f2) - 1)) : Int).toNat (((rd_T75 ((rd_T72 l0 x5_1).f1) x6_5).f2) : Int).toNat)) x5_1 (wrap64 (x6_5 + 1))) else (none)) else (none)) else (none)) else (none)) else ((gaolerref02_letters.f k5 ((rd_T75 ((rd_T72 l0 x5_1).f1) x6_5).f1) (⟨#[120, 119, 114, 88, 115, 116]⟩ : ByteArray) (⟨#[114, 119, 120, 88, 115, 116]⟩ : ByteArray)).bind fun t238 => (if (x4_5 ++ (strOfNums y235)).size + t238.size ≤ 9223372036854775807 then (gaolerref02_Show.l1 k5 l0 t227 ((x4_5 ++ (strOfNums y235)) ++ t238) x5_1 (wrap64 (x6_5 + 1))) else (none)))) else (none)) = some r := by first | (rw [hy235]; with_reducible exact H) | (have H2_ := (Option.bind_some _ _).symm.trans H; rw [hy235]; with_reducible exact H2_) | (have H2_ := (Option.bind_some _ _).symm.trans H; with_reducible exact H2_) | with_reducible exact H | (rw [hy235]; exact H) | exact H
                                    have Ny235 := Aside0.mk hy235
                                    clear hy235
                                    by_cases c21 : x4_5.size + (strOfNums y235).size ≤ 9223372036854775807
                                    · rw [if_pos c21] at H
                                      have c21b0 := eq_true c21
                                      have c21b1 : decide (x4_5.size + (strOfNums y235).size ≤ 9223372036854775807) = true := decide_eq_true c21
                                      try have c21b2 : (9223372036854775807 < x4_5.size + (strOfNums y235).size) = False := eq_false (Nat.not_lt.2 c21)
                                      by_cases c22 : ((rd_T75 ((rd_T72 l0 x5_1).f1) x6_5).f2) > 0
                                      · rw [if_pos c22] at H
                                        have c22b0 : decide (0 < ((rd_T75 ((rd_T72 l0 x5_1).f1) x6_5).f2)) = true := decide_eq_true c22
                                        clear c22
                                        obtain ⟨ji23, hji23⟩ : ∃ j_ : Int, (wrap64 (((rd_T75 ((rd_T72 l0 x5_1).f1) x6_5).f2) - 1)) = j_ := ⟨_, rfl⟩
                                        replace H : (if 0 ≤ (ji23) then (if (ji23) ≤ ((rd_T75 ((rd_T72 l0 x5_1).f1) x6_5).f2) then (if ((rd_T75 ((rd_T72 l0 x5_1).f1) x6_5).f2) ≤ 3 then (if (x4_5 ++ (strOfNums y235)).size + ((⟨#[117, 103, 111]⟩ : ByteArray).extract ((ji23) : Int).toNat (((rd_T75 ((rd_T72 l0 x5_1).f1) x6_5).f2) : Int).toNat).size ≤ 9223372036854775807 then (gaolerref02_Show.l1 k5 l0 t227 ((x4_5 ++ (strOfNums y235)) ++ ((⟨#[117, 103, 111]⟩ : ByteArray).extract ((ji23) : Int).toNat (((rd_T75 ((rd_T72 l0 x5_1).f1) x6_5).f2) : Int).toNat)) x5_1 (wrap64 (x6_5 + 1))) else (none)) else (none)) else (none)) else (none)) = some r := by first | (rw [hji23] at H; exact H) | (simp only [hji23] at H ⊢; exact H)
                                        have hji23w : (IntKind.i64.wrap (((rd_T75 ((rd_T72 l0 x5_1).f1) x6_5).f2) - 1)) = ji23 := (i64_w _).trans hji23
                                        by_cases c24 : 0 ≤ (ji23)
                                        · rw [if_pos c24] at H
                                          have c24b0 := eq_true c24
                                          have c24b1 : decide (0 ≤ (ji23)) = true := decide_eq_true c24
                                          clear c24
                                          by_cases c25 : (ji23) ≤ ((rd_T75 ((rd_T72 l0 x5_1).f1) x6_5).f2)
                                          · rw [if_pos c25] at H
                                            have c25b0 := eq_true c25
                                            have c25b1 : decide ((ji23) ≤ ((rd_T75 ((rd_T72 l0 x5_1).f1) x6_5).f2)) = true := decide_eq_true c25
                                            clear c25
                                            by_cases c26 : ((rd_T75 ((rd_T72 l0 x5_1).f1) x6_5).f2) ≤ 3
                                            · rw [if_pos c26] at H
                                              have c26b0 := eq_true c26
                                              have c26b1 : decide (((rd_T75 ((rd_T72 l0 x5_1).f1) x6_5).f2) ≤ 3) = true := decide_eq_true c26
                                              clear c26
                                              by_cases c27 : (x4_5 ++ (strOfNums y235)).size + ((⟨#[117, 103, 111]⟩ : ByteArray).extract ((ji23) : Int).toNat (((rd_T75 ((rd_T72 l0 x5_1).f1) x6_5).f2) : Int).toNat).size ≤ 9223372036854775807
                                              · rw [if_pos c27] at H
                                                have c27b0 := eq_true c27
                                                have c27b1 : decide ((x4_5 ++ (strOfNums y235)).size + ((⟨#[117, 103, 111]⟩ : ByteArray).extract ((ji23) : Int).toNat (((rd_T75 ((rd_T72 l0 x5_1).f1) x6_5).f2) : Int).toNat).size ≤ 9223372036854775807) = true := decide_eq_true c27
                                                try have c27b2 : (9223372036854775807 < (x4_5 ++ (strOfNums y235)).size + ((⟨#[117, 103, 111]⟩ : ByteArray).extract ((ji23) : Int).toNat (((rd_T75 ((rd_T72 l0 x5_1).f1) x6_5).f2) : Int).toNat).size) = False := eq_false (Nat.not_lt.2 c27)
                                                (try (have c27b3 := c27b2; simp only [ByteArray.size_append] at c27b3))
                                                have H' := Aside0.mk H
                                                clear H
                                                have p231 : 0 ≤ (x5_1 : Int) := of_decide_eq_true (by first | (with_reducible assumption) | assumption)
                                                have q231 : x5_1 < (l0.length : Int) := of_decide_eq_true (by first | (with_reducible assumption) | assumption)
                                                obtain ⟨ad231, A231_1, c231_1, e231, hx231_0, hx231_1, hl231_1, hi231_1⟩ := at_T72 HR0.out x5_1 p231 q231
                                                obtain rfl : ad228 = ad231 := (by injection e231)
                                                replace hx231_0 := (HB.out.cell (World.block_lt_of_cell? w _ hx231_0)).trans hx231_0
                                                replace hx231_1 := (HB.out.cell (World.block_lt_of_cell? w _ hx231_1)).trans hx231_1
                                                have HR231_1 := Aside0.mk hi231_1
                                                have HC231_1 := Aside0.mk hl231_1
                                                clear hi231_1 hl231_1
                                                replace p231 := eq_true p231
                                                replace q231 := eq_true q231
                                                have p232 : 0 ≤ (x5_1 : Int) := of_decide_eq_true (by first | (with_reducible assumption) | assumption)
                                                have q232 : x5_1 < (l0.length : Int) := of_decide_eq_true (by first | (with_reducible assumption) | assumption)
                                                obtain ⟨ad232, A232_1, c232_1, e232, hx232_0, hx232_1, hl232_1, hi232_1⟩ := at_T72 HR0.out x5_1 p232 q232
                                                obtain rfl : ad228 = ad232 := (by injection e232)
                                                replace hx232_0 := (HB.out.cell (World.block_lt_of_cell? w _ hx232_0)).trans hx232_0
                                                replace hx232_1 := (HB.out.cell (World.block_lt_of_cell? w _ hx232_1)).trans hx232_1
                                                have HR232_1 := Aside0.mk hi232_1
                                                have HC232_1 := Aside0.mk hl232_1
                                                clear hi232_1 hl232_1
                                                replace p232 := eq_true p232
                                                replace q232 := eq_true q232
                                                have ea_ := Option.some.inj (hx231_1.symm.trans hx232_1)
                                                injection ea_ with ea_ en_ ec_
                                                subst ea_
                                                subst ec_
                                                clear en_
                                                have p233 : 0 ≤ (x6_5 : Int) := of_decide_eq_true (by first | (with_reducible assumption) | assumption)
                                                have q233 : x6_5 < (((rd_T72 l0 x5_1).f1).length : Int) := of_decide_eq_true (by first | (with_reducible assumption) | assumption)
                                                obtain ⟨ad233, e233, hx233_0, hx233_1, hx233_2⟩ := at_T75 HR232_1.out x6_5 p233 q233
                                                cases e233
                                                replace hx233_0 := (HB.out.cell (World.block_lt_of_cell? w _ hx233_0)).trans hx233_0
                                                replace hx233_1 := (HB.out.cell (World.block_lt_of_cell? w _ hx233_1)).trans hx233_1
                                                replace hx233_2 := (HB.out.cell (World.block_lt_of_cell? w _ hx233_2)).trans hx233_2
                                                replace p233 := eq_true p233
                                                replace q233 := eq_true q233
                                                go_wp2_with (first | ((with_reducible refine gate_dst (N := 7) rfl ?_); refine box_event ?hg (N := 7) ?hd (cs := #[.int .u8 0, .int .i64 0, .int .i64 0]) (t := 75) ?hr ?_; (case hd => rfl); (case hg => rfl); (case hr => first | (go_simp; done) | (go_simp; rfl)); intro gb234 hg w28 hbox hb; have n0_ := Aside0.mk (below_step (by repeat (first | (with_reducible first | exact HB.out | apply below_alloc | apply pw_below_drewN | apply below_drew1) | exact HB.out)) hb); have n1_ := Aside0.mk (hbox); have n2_ := Aside0.mk ((by rw [hg]; exact (below_size (by repeat (first | (with_reducible first | exact HB.out | apply below_alloc | apply pw_below_drewN | apply below_drew1) | exact HB.out))) : w.heap.size ≤ gb234)); have n3_ := Aside0.mk ((by rw [hg]; exact (below_size (by repeat (first | (with_reducible first | exact HB.out | apply below_alloc | apply pw_below_drewN | apply below_drew1) | exact HB.out))) : w.heap.size ≤ gb234)); clear HB; have HB := n0_; have BK234 := n1_; have GW234 := n2_; have GE234 := n3_; clear n0_ n1_ n2_ n3_; clear hb hbox hg; have hcz29_0 : w28.cell? ⟨gb234, 0, none⟩ = some (.int .u8 0) := (blk_cell BK234.out 0).trans rfl; have hcz29_1 : w28.cell? ⟨gb234, 1, none⟩ = some (.int .i64 0) := (blk_cell BK234.out 1).trans rfl; have hcz29_2 : w28.cell? ⟨gb234, 2, none⟩ = some (.int .i64 0) := (blk_cell BK234.out 2).trans rfl; have hfz29_0 := blk_frozen BK234.out 0; have hfz29_1 := blk_frozen BK234.out 1; have hfz29_2 := blk_frozen BK234.out 2) | ((with_reducible refine gate_dst (N := 60) rfl ?_); refine Kd.R_lit (Kd.int .u8) _ 5 ?hg (N := 60) ?hd (xs := ([(rd_T75 ((rd_T72 l0 x5_1).f1) x6_5).f0] : List Int)) (inner := [.int .u8 ((rd_T75 ((rd_T72 l0 x5_1).f1) x6_5).f0)]) (ok := fun _ => True) (okp := fun _ => True) ?hr ?hp (fun _ hk => hk) trivial (Below.refl _ _) (Nat.le_refl _) (by simp) ?_; (case hd => rfl); (case hg => rfl); (case hr => first | (go_simp; done) | (go_simp; rfl)); (case hp => exact (Reps.one (show Kd.M (Kd.int .u8) _ _ _ ((rd_T75 ((rd_T72 l0 x5_1).f1) x6_5).f0) [.int .u8 ((rd_T75 ((rd_T72 l0 x5_1).f1) x6_5).f0)] from rfl) (Reps.none _ _))); intro v236 w30 ho31 hb hg_ hnew_; clear hg_ hnew_; (first | rw [← Ny235.out] at ho31 | (simp only [Int.reduceToNat] at ho31; rw [← Ny235.out] at ho31)); have n0_ := Aside0.mk (Kd.R_lower ho31 (below_size (by repeat (first | (with_reducible first | exact HB.out | apply below_alloc | apply pw_below_drewN | apply below_drew1 | refine below_set ?_ GE234.out) | exact HB.out)))); have n1_ := Aside0.mk (blk_below (g := gb234) (o := .cells #[.int .u8 ((rd_T75 ((rd_T72 l0 x5_1).f1) x6_5).f0), .int .i64 ((rd_T75 ((rd_T72 l0 x5_1).f1) x6_5).f1), .int .i64 ((rd_T75 ((rd_T72 l0 x5_1).f1) x6_5).f2)] 75 (0, 0)) (by (with_reducible repeat (first | refine blk_drewN ?_ _ | refine blk_drew ?_ | refine blk_alloc ?_ _)); refine blk_put (cs := #[.int .u8 ((rd_T75 ((rd_T72 l0 x5_1).f1) x6_5).f0), .int .i64 ((rd_T75 ((rd_T72 l0 x5_1).f1) x6_5).f1), .int .i64 0]) ?_ 2 _ rfl; (with_reducible repeat (first | refine blk_drewN ?_ _ | refine blk_drew ?_ | refine blk_alloc ?_ _)); refine blk_put (cs := #[.int .u8 ((rd_T75 ((rd_T72 l0 x5_1).f1) x6_5).f0), .int .i64 0, .int .i64 0]) ?_ 1 _ rfl; (with_reducible repeat (first | refine blk_drewN ?_ _ | refine blk_drew ?_ | refine blk_alloc ?_ _)); refine blk_put (cs := #[.int .u8 0, .int .i64 0, .int .i64 0]) ?_ 0 _ rfl; (with_reducible repeat (first | refine blk_drewN ?_ _ | refine blk_drew ?_ | refine blk_alloc ?_ _)); exact BK234.out) hb); have n2_ := Aside0.mk (below_step (by repeat (first | (with_reducible first | exact HB.out | apply below_alloc | apply pw_below_drewN | apply below_drew1 | refine below_set ?_ GE234.out) | exact HB.out)) hb); clear BK234; clear HB; have HO237 := n0_; have BK234 := n1_; have HB := n2_; clear n0_ n1_ n2_; clear hb ho31; have hcv32 := own_string (P := Tryd.prog) Tryd.underlying42 Tryd.underlying5 Tryd.underlying9 (Kd.own_of_R HO237.out); have hcz33_0 : w30.cell? ⟨gb234, 0, none⟩ = some (.int .u8 ((rd_T75 ((rd_T72 l0 x5_1).f1) x6_5).f0)) := (blk_cell BK234.out 0).trans rfl; have hcz33_1 : w30.cell? ⟨gb234, 1, none⟩ = some (.int .i64 ((rd_T75 ((rd_T72 l0 x5_1).f1) x6_5).f1)) := (blk_cell BK234.out 1).trans rfl; have hcz33_2 : w30.cell? ⟨gb234, 2, none⟩ = some (.int .i64 ((rd_T75 ((rd_T72 l0 x5_1).f1) x6_5).f2)) := (blk_cell BK234.out 2).trans rfl; have hfz33_0 := blk_frozen BK234.out 0; have hfz33_1 := blk_frozen BK234.out 1; have hfz33_2 := blk_frozen BK234.out 2))
                                                go_roundg k5
                                                case measure => have := HK1.out; have := HJ3.out; have := HJ6.out; have := HJ11.out; have := HK5.out; omega
                                                case rel => exact ⟨((x4_5 ++ (strOfNums y235)) ++ ((⟨#[117, 103, 111]⟩ : ByteArray).extract ((ji23) : Int).toNat (((rd_T75 ((rd_T72 l0 x5_1).f1) x6_5).f2) : Int).toNat)), (wrap64 (x6_5 + 1)), (by first | rfl | (simp; done) | (simp only [← hji23] <;> (first | rfl | simp)) | (simp [*]; done)), (by first | rfl | (simp; done) | (simp [*]; done)), H', ⟨by have := HK1.out; have := HJ3.out; have := HJ6.out; have := HJ11.out; have := HK5.out; omega⟩, ⟨by repeat (first | (with_reducible first | exact HB.out | apply below_alloc | apply pw_below_drewN | apply below_drew1 | refine below_set ?_ GE234.out) | exact HB.out)⟩⟩
                                              · rw [if_neg c27] at H
                                                exact absurd H (by simp)
                                            · rw [if_neg c26] at H
                                              exact absurd H (by simp)
                                          · rw [if_neg c25] at H
                                            exact absurd H (by simp)
                                        · rw [if_neg c24] at H
                                          exact absurd H (by simp)
                                      · rw [if_neg c22] at H
                                        have c22b0 : decide (0 < ((rd_T75 ((rd_T72 l0 x5_1).f1) x6_5).f2)) = false := decide_eq_false c22
                                        clear c22
                                        replace H := Option.bind_eq_some_iff.mp H
                                        obtain ⟨t238, A340, H⟩ := H
                                        replace H : (if (x4_5 ++ (strOfNums y235)).size + t238.size ≤ 9223372036854775807 then (gaolerref02_Show.l1 k5 l0 t227 ((x4_5 ++ (strOfNums y235)) ++ t238) x5_1 (wrap64 (x6_5 + 1))) else (none)) = some r := H
                                        have A34 := Aside0.mk A340
                                        clear A340
                                        by_cases c35 : (x4_5 ++ (strOfNums y235)).size + t238.size ≤ 9223372036854775807
                                        · rw [if_pos c35] at H
                                          have c35b0 := eq_true c35
                                          have c35b1 : decide ((x4_5 ++ (strOfNums y235)).size + t238.size ≤ 9223372036854775807) = true := decide_eq_true c35
                                          try have c35b2 : (9223372036854775807 < (x4_5 ++ (strOfNums y235)).size + t238.size) = False := eq_false (Nat.not_lt.2 c35)
                                          (try (have c35b3 := c35b2; simp only [ByteArray.size_append] at c35b3))
                                          have H' := Aside0.mk H
                                          clear H
                                          have p231 : 0 ≤ (x5_1 : Int) := of_decide_eq_true (by first | (with_reducible assumption) | assumption)
                                          have q231 : x5_1 < (l0.length : Int) := of_decide_eq_true (by first | (with_reducible assumption) | assumption)
                                          obtain ⟨ad231, A231_1, c231_1, e231, hx231_0, hx231_1, hl231_1, hi231_1⟩ := at_T72 HR0.out x5_1 p231 q231
                                          obtain rfl : ad228 = ad231 := (by injection e231)
                                          replace hx231_0 := (HB.out.cell (World.block_lt_of_cell? w _ hx231_0)).trans hx231_0
                                          replace hx231_1 := (HB.out.cell (World.block_lt_of_cell? w _ hx231_1)).trans hx231_1
                                          have HR231_1 := Aside0.mk hi231_1
                                          have HC231_1 := Aside0.mk hl231_1
                                          clear hi231_1 hl231_1
                                          replace p231 := eq_true p231
                                          replace q231 := eq_true q231
                                          have p232 : 0 ≤ (x5_1 : Int) := of_decide_eq_true (by first | (with_reducible assumption) | assumption)
                                          have q232 : x5_1 < (l0.length : Int) := of_decide_eq_true (by first | (with_reducible assumption) | assumption)
                                          obtain ⟨ad232, A232_1, c232_1, e232, hx232_0, hx232_1, hl232_1, hi232_1⟩ := at_T72 HR0.out x5_1 p232 q232
                                          obtain rfl : ad228 = ad232 := (by injection e232)
                                          replace hx232_0 := (HB.out.cell (World.block_lt_of_cell? w _ hx232_0)).trans hx232_0
                                          replace hx232_1 := (HB.out.cell (World.block_lt_of_cell? w _ hx232_1)).trans hx232_1
                                          have HR232_1 := Aside0.mk hi232_1
                                          have HC232_1 := Aside0.mk hl232_1
                                          clear hi232_1 hl232_1
                                          replace p232 := eq_true p232
                                          replace q232 := eq_true q232
                                          have ea_ := Option.some.inj (hx231_1.symm.trans hx232_1)
                                          injection ea_ with ea_ en_ ec_
                                          subst ea_
                                          subst ec_
                                          clear en_
                                          have p233 : 0 ≤ (x6_5 : Int) := of_decide_eq_true (by first | (with_reducible assumption) | assumption)
                                          have q233 : x6_5 < (((rd_T72 l0 x5_1).f1).length : Int) := of_decide_eq_true (by first | (with_reducible assumption) | assumption)
                                          obtain ⟨ad233, e233, hx233_0, hx233_1, hx233_2⟩ := at_T75 HR232_1.out x6_5 p233 q233
                                          cases e233
                                          replace hx233_0 := (HB.out.cell (World.block_lt_of_cell? w _ hx233_0)).trans hx233_0
                                          replace hx233_1 := (HB.out.cell (World.block_lt_of_cell? w _ hx233_1)).trans hx233_1
                                          replace hx233_2 := (HB.out.cell (World.block_lt_of_cell? w _ hx233_2)).trans hx233_2
                                          replace p233 := eq_true p233
                                          replace q233 := eq_true q233
                                          go_wp2_with (first | ((with_reducible refine gate_dst (N := 7) rfl ?_); refine box_event ?hg (N := 7) ?hd (cs := #[.int .u8 0, .int .i64 0, .int .i64 0]) (t := 75) ?hr ?_; (case hd => rfl); (case hg => rfl); (case hr => first | (go_simp; done) | (go_simp; rfl)); intro gb234 hg w36 hbox hb; have n0_ := Aside0.mk (below_step (by repeat (first | (with_reducible first | exact HB.out | apply below_alloc | apply pw_below_drewN | apply below_drew1) | exact HB.out)) hb); have n1_ := Aside0.mk (hbox); have n2_ := Aside0.mk ((by rw [hg]; exact (below_size (by repeat (first | (with_reducible first | exact HB.out | apply below_alloc | apply pw_below_drewN | apply below_drew1) | exact HB.out))) : w.heap.size ≤ gb234)); have n3_ := Aside0.mk ((by rw [hg]; exact (below_size (by repeat (first | (with_reducible first | exact HB.out | apply below_alloc | apply pw_below_drewN | apply below_drew1) | exact HB.out))) : w.heap.size ≤ gb234)); clear HB; have HB := n0_; have BK234 := n1_; have GW234 := n2_; have GE234 := n3_; clear n0_ n1_ n2_ n3_; clear hb hbox hg; have hcz37_0 : w36.cell? ⟨gb234, 0, none⟩ = some (.int .u8 0) := (blk_cell BK234.out 0).trans rfl; have hcz37_1 : w36.cell? ⟨gb234, 1, none⟩ = some (.int .i64 0) := (blk_cell BK234.out 1).trans rfl; have hcz37_2 : w36.cell? ⟨gb234, 2, none⟩ = some (.int .i64 0) := (blk_cell BK234.out 2).trans rfl; have hfz37_0 := blk_frozen BK234.out 0; have hfz37_1 := blk_frozen BK234.out 1; have hfz37_2 := blk_frozen BK234.out 2) | ((with_reducible refine gate_dst (N := 60) rfl ?_); refine Kd.R_lit (Kd.int .u8) _ 5 ?hg (N := 60) ?hd (xs := ([(rd_T75 ((rd_T72 l0 x5_1).f1) x6_5).f0] : List Int)) (inner := [.int .u8 ((rd_T75 ((rd_T72 l0 x5_1).f1) x6_5).f0)]) (ok := fun _ => True) (okp := fun _ => True) ?hr ?hp (fun _ hk => hk) trivial (Below.refl _ _) (Nat.le_refl _) (by simp) ?_; (case hd => rfl); (case hg => rfl); (case hr => first | (go_simp; done) | (go_simp; rfl)); (case hp => exact (Reps.one (show Kd.M (Kd.int .u8) _ _ _ ((rd_T75 ((rd_T72 l0 x5_1).f1) x6_5).f0) [.int .u8 ((rd_T75 ((rd_T72 l0 x5_1).f1) x6_5).f0)] from rfl) (Reps.none _ _))); intro v236 w38 ho39 hb hg_ hnew_; clear hg_ hnew_; (first | rw [← Ny235.out] at ho39 | (simp only [Int.reduceToNat] at ho39; rw [← Ny235.out] at ho39)); have n0_ := Aside0.mk (Kd.R_lower ho39 (below_size (by repeat (first | (with_reducible first | exact HB.out | apply below_alloc | apply pw_below_drewN | apply below_drew1 | refine below_set ?_ GE234.out) | exact HB.out)))); have n1_ := Aside0.mk (blk_below (g := gb234) (o := .cells #[.int .u8 ((rd_T75 ((rd_T72 l0 x5_1).f1) x6_5).f0), .int .i64 ((rd_T75 ((rd_T72 l0 x5_1).f1) x6_5).f1), .int .i64 ((rd_T75 ((rd_T72 l0 x5_1).f1) x6_5).f2)] 75 (0, 0)) (by (with_reducible repeat (first | refine blk_drewN ?_ _ | refine blk_drew ?_ | refine blk_alloc ?_ _)); refine blk_put (cs := #[.int .u8 ((rd_T75 ((rd_T72 l0 x5_1).f1) x6_5).f0), .int .i64 ((rd_T75 ((rd_T72 l0 x5_1).f1) x6_5).f1), .int .i64 0]) ?_ 2 _ rfl; (with_reducible repeat (first | refine blk_drewN ?_ _ | refine blk_drew ?_ | refine blk_alloc ?_ _)); refine blk_put (cs := #[.int .u8 ((rd_T75 ((rd_T72 l0 x5_1).f1) x6_5).f0), .int .i64 0, .int .i64 0]) ?_ 1 _ rfl; (with_reducible repeat (first | refine blk_drewN ?_ _ | refine blk_drew ?_ | refine blk_alloc ?_ _)); refine blk_put (cs := #[.int .u8 0, .int .i64 0, .int .i64 0]) ?_ 0 _ rfl; (with_reducible repeat (first | refine blk_drewN ?_ _ | refine blk_drew ?_ | refine blk_alloc ?_ _)); exact BK234.out) hb); have n2_ := Aside0.mk (below_step (by repeat (first | (with_reducible first | exact HB.out | apply below_alloc | apply pw_below_drewN | apply below_drew1 | refine below_set ?_ GE234.out) | exact HB.out)) hb); clear BK234; clear HB; have HO237 := n0_; have BK234 := n1_; have HB := n2_; clear n0_ n1_ n2_; clear hb ho39; have hcv40 := own_string (P := Tryd.prog) Tryd.underlying42 Tryd.underlying5 Tryd.underlying9 (Kd.own_of_R HO237.out); have hcz41_0 : w38.cell? ⟨gb234, 0, none⟩ = some (.int .u8 ((rd_T75 ((rd_T72 l0 x5_1).f1) x6_5).f0)) := (blk_cell BK234.out 0).trans rfl; have hcz41_1 : w38.cell? ⟨gb234, 1, none⟩ = some (.int .i64 ((rd_T75 ((rd_T72 l0 x5_1).f1) x6_5).f1)) := (blk_cell BK234.out 1).trans rfl; have hcz41_2 : w38.cell? ⟨gb234, 2, none⟩ = some (.int .i64 ((rd_T75 ((rd_T72 l0 x5_1).f1) x6_5).f2)) := (blk_cell BK234.out 2).trans rfl; have hfz41_0 := blk_frozen BK234.out 0; have hfz41_1 := blk_frozen BK234.out 1; have hfz41_2 := blk_frozen BK234.out 2) | ((with_reducible refine gate_callee (f := 41) rfl ?_); refine goesL_ (some 77) rfl rfl Tryd.func41 (by kernel_rfl) rfl #[.int .i64 ((rd_T75 ((rd_T72 l0 x5_1).f1) x6_5).f1), .string (⟨#[120, 119, 114, 88, 115, 116]⟩ : ByteArray), .string (⟨#[114, 119, 120, 88, 115, 116]⟩ : ByteArray)] rfl (by (try simp only [List.map_toArray, List.map_cons, List.map_nil]); first | done | rfl | (simp only [List.length_drop, List.length_take]; rfl)) ?_; (with_reducible refine (gaolerref02_letters.calls k5 ((rd_T75 ((rd_T72 l0 x5_1).f1) x6_5).f1) (⟨#[120, 119, 114, 88, 115, 116]⟩ : ByteArray) (⟨#[114, 119, 120, 88, 115, 116]⟩ : ByteArray) t238 _ A34.out).mono ?_); rintro e w' ⟨rfl, ⟨nd, rfl⟩⟩; refine ⟨_, rfl, ?_⟩))
                                          go_roundg k5
                                          case measure => have := HK1.out; have := HJ3.out; have := HJ6.out; have := HJ11.out; have := HK5.out; omega
                                          case rel => exact ⟨((x4_5 ++ (strOfNums y235)) ++ t238), (wrap64 (x6_5 + 1)), (by first | rfl | (simp; done) | (simp [*]; done)), (by first | rfl | (simp; done) | (simp [*]; done)), H', ⟨by have := HK1.out; have := HJ3.out; have := HJ6.out; have := HJ11.out; have := HK5.out; omega⟩, ⟨by repeat (first | (with_reducible first | exact HB.out | apply below_alloc | apply pw_below_drewN | apply below_drew1 | refine below_set ?_ GE234.out) | exact HB.out)⟩⟩
                                        · rw [if_neg c35] at H
                                          exact absurd H (by simp)
                                    · rw [if_neg c21] at H
                                      exact absurd H (by simp)
                                  · rw [if_neg c20] at H
                                    exact absurd H (by simp)
                                · rw [if_neg c19] at H
                                  have c19b0 : decide (x6_5 < (((rd_T72 l0 x5_1).f1).length : Int)) = false := decide_eq_false c19
                                  clear c19
                                  have H' := Aside0.mk H
                                  clear H
                                  have p231 : 0 ≤ (x5_1 : Int) := of_decide_eq_true (by first | (with_reducible assumption) | assumption)
                                  have q231 : x5_1 < (l0.length : Int) := of_decide_eq_true (by first | (with_reducible assumption) | assumption)
                                  obtain ⟨ad231, A231_1, c231_1, e231, hx231_0, hx231_1, hl231_1, hi231_1⟩ := at_T72 HR0.out x5_1 p231 q231
                                  obtain rfl : ad228 = ad231 := (by injection e231)
                                  replace hx231_0 := (HB.out.cell (World.block_lt_of_cell? w _ hx231_0)).trans hx231_0
                                  replace hx231_1 := (HB.out.cell (World.block_lt_of_cell? w _ hx231_1)).trans hx231_1
                                  have HR231_1 := Aside0.mk hi231_1
                                  have HC231_1 := Aside0.mk hl231_1
                                  clear hi231_1 hl231_1
                                  replace p231 := eq_true p231
                                  replace q231 := eq_true q231
                                  go_wp2
                                  go_roundg k5
                                  case measure => have := HK1.out; have := HJ3.out; have := HJ6.out; have := HJ11.out; have := HK5.out; omega
                                  case rel => exact ⟨(x4_5), (wrap64 (x5_1 + 1)), (by first | rfl | (simp; done) | (simp [*]; done)), (by first | rfl | (simp; done) | (simp [*]; done)), H', ⟨by have := HK1.out; have := HJ3.out; have := HJ6.out; have := HJ11.out; have := HK5.out; omega⟩, ⟨by repeat (first | (with_reducible first | exact HB.out | apply below_alloc | apply pw_below_drewN | apply below_drew1) | exact HB.out)⟩⟩
                              · rw [if_neg c18] at H
                                exact absurd H (by simp)
                            · rw [if_neg c17] at H
                              exact absurd H (by simp)
                  · rw [if_neg c11] at H
                    exact absurd H (by simp)
                · rw [if_neg c10] at H
                  exact absurd H (by simp)
          · replace c6 := Bool.eq_false_iff.mpr c6
            subst c6
            have H1 : (some x4_1) = some r := by rw [if_neg (show ¬ (false = true) by decide)] at H; exact H
            clear H
            have H := H1
            clear H1
            obtain rfl := Option.some.inj H
            go_wp2
            go_ret
            exact ⟨by first | rfl | (simp [errW_none, errW_some] <;> rfl) | (simp [*, errW_none, errW_some] <;> rfl), by repeat (first | (with_reducible first | exact HB.out | apply below_alloc | apply pw_below_drewN | apply below_drew1) | exact HB.out)⟩
end Go.Proofs.YtlohbepfecahdaaDoor.S
