-- Written by wip/tools/myprint.py, a session's own driver of the kit's printer.
import Derived.ArgAppend
import Derived.Below
import Derived.BigQuiet
import Derived.Deep.AppendLies
import Derived.Deep.CutBlock
import Derived.Deep.DeepCutAuto
import Derived.Deep.Draws
import Derived.Deep.LoopGhost
import Derived.Deep.OwnRows
import Derived.Deep.QuietTactic
import Derived.Deep.RegionHeld3
import Derived.Handy
import Derived.KernelRfl
import Derived.Laws.BitsAllLaws
import Derived.Laws.BitsLemmas
import Derived.Laws.BytesArg
import Derived.Laws.IdiomCopy
import Derived.Laws.MakeOwn
import Derived.Laws.OwnMore
import Derived.Laws.RangeAny
import Derived.Laws.Rows
import Derived.Laws.Slices
import Derived.Laws.StructEq
import Derived.Lib.AppendStr
import Derived.Lib.ConvBytes
import Derived.Lib.FieldsP
import Derived.Lib.Hide
import Derived.Lib.IndexAny
import Derived.Lib.OthersKept
import Derived.Lib.SlBytesConst
import Derived.Lib.SpaceUEq
import Derived.Maps.AppendAt
import Derived.OneCell
import Derived.OrdersHeld
import Derived.OwnWalk
import Derived.RowKit
import Derived.RowKit3
import Derived.Shelf.LaysM
import Derived.Shelf.Small.Strs
import Derived.Shelf.Small.Utf8
import Derived.Shelf.Strings.Builder1
import Derived.Shelf.Strings.Builder2
import Derived.Shelf.Strings.BuilderF
import Derived.Shelf.Strings.BuilderK
import Derived.Shelf.Strings.Count
import Derived.Shelf.Strings.OnBuilder
import Derived.Shelf.Strings.Runes
import Derived.Shelf.Strings.Search1
import Derived.Shelf.Strings.Search2
import Derived.Shelf.Strings.Search3
import Derived.Shelf.Strings.Shaped
import Derived.Shelf.Strings.Split
import Derived.Shelf.Strings.SplitShaped
import Derived.Shelf.Unicode.DecodeSlow
import Derived.Tactics
import Derived.Test.YtlohbepfecahdaaDoorProg
import Derived.WalkKit
import Derived.WideLaws
import Derived.Test.YtlohbepfecahdaaDoorZdWWords
import Derived.Test.YtlohbepfecahdaaDoorZdWLast
import Derived.Test.YtlohbepfecahdaaDoorZdWApart
import Derived.Test.YtlohbepfecahdaaDoorZdWFoot
import Derived.Test.YtlohbepfecahdaaDoorZdWMore
import Derived.Test.YtlohbepfecahdaaDoorZdB
import Derived.Test.YtlohbepfecahdaaDoorZdC
import Derived.Test.YtlohbepfecahdaaDoorZdShelf
import Derived.Test.YtlohbepfecahdaaDoorZdD
import Derived.Test.YtlohbepfecahdaaDoorZdWTab
import Derived.Test.YtlohbepfecahdaaDoorZdWEqStruct
import Derived.Test.YtlohbepfecahdaaDoorZdWRepsOne
import Derived.Test.YtlohbepfecahdaaDoorZdWGuard
import Derived.Test.YtlohbepfecahdaaDoorZdS0
import Derived.Test.YtlohbepfecahdaaDoorZdS6
import Derived.Test.YtlohbepfecahdaaDoorZdS7
namespace Go.Proofs.YtlohbepfecahdaaDoor.S
open Go.RowKit Go.Proofs.YtlohbepfecahdaaDoorW.PrintWords Go.Proofs.YtlohbepfecahdaaDoorW.PrintLast Go.Proofs.YtlohbepfecahdaaDoorW.PrintMore
set_option linter.unusedVariables false
set_option linter.unusedSimpArgs false
/-! ### gaolerref02_one: function 36 -/
mutual
def gaolerref02_one.j1 : Nat → ByteArray → Int → Option (Int × (List (S75)) × Bool)
  | 0, _, _ => none
  | k + 1, x0, x4 => if 0 ≤ x4 then (if x4 ≤ (x0.size : Int) then ((gaolerref02_sum.f k (x0.extract 0 (x4 : Int).toNat) (⟨#[117, 103, 111]⟩ : ByteArray)).bind fun t156 => ((gaolerref02_Place.f k (x0.extract 0 (x4 : Int).toNat) 97).bind fun t158 => (if t158 ≥ 0 then (gaolerref02_one.j2 k x0 x4 7) else (gaolerref02_one.j2 k x0 x4 t156)))) else (none)) else (none)
def gaolerref02_one.j2 : Nat → ByteArray → Int → Int → Option (Int × (List (S75)) × Bool)
  | 0, _, _, _ => none
  | k + 1, x0, x4, x158000 => gaolerref02_one.l1 k x0 x4 x158000 ([] : List (S75))
def gaolerref02_one.l1 : Nat → ByteArray → Int → Int → List (S75) → Option (Int × (List (S75)) × Bool)
  | 0, _, _, _, _ => none
  | k + 1, x0, x4, x158000, x158001 => if x4 < (x0.size : Int) then (if 0 ≤ x4 then ((gaolerref02_Place.f k (⟨#[43, 45, 61]⟩ : ByteArray) (bt x0 x4)).bind fun t159 => (if t159 < 0 then (some (0, ([] : List (S75)), false)) else (if (wrap64 (x4 + 1)) < (x0.size : Int) then (if 0 ≤ (wrap64 (x4 + 1)) then ((gaolerref02_Place.f k (⟨#[117, 103, 111]⟩ : ByteArray) (bt x0 (wrap64 (x4 + 1)))).bind fun t161 => (gaolerref02_one.j4 k x0 (wrap64 (x4 + 1)) (decide (t161 ≥ 0)) x158000 x158001 (bt x0 x4) 0 0)) else (none)) else (gaolerref02_one.j4 k x0 (wrap64 (x4 + 1)) false x158000 x158001 (bt x0 x4) 0 0)))) else (none)) else (some (x158000, x158001, decide ((x158001.length : Int) > 0)))
def gaolerref02_one.j4 : Nat → ByteArray → Int → Bool → Int → List (S75) → Int → Int → Int → Option (Int × (List (S75)) × Bool)
  | 0, _, _, _, _, _, _, _, _ => none
  | k + 1, x0, x4, x58, x158000, x158001, x161000, x161001, x161002 => if x58 = true then (if 0 ≤ x4 then (if x4 < (x0.size : Int) then ((gaolerref02_Place.f k (⟨#[117, 103, 111]⟩ : ByteArray) (bt x0 x4)).bind fun t162 => (if x158001.length < 5864062014805 then (gaolerref02_one.l1 k x0 (wrap64 (x4 + 1)) x158000 (x158001 ++ [(⟨x161000, x161001, wrap64 (t162 + 1)⟩ : S75)])) else (none))) else (none)) else (none)) else (gaolerref02_one.l2 k x0 x4 x4 x158000 x158001 x161000 x161001 x161002)
def gaolerref02_one.l2 : Nat → ByteArray → Int → Int → Int → List (S75) → Int → Int → Int → Option (Int × (List (S75)) × Bool)
  | 0, _, _, _, _, _, _, _, _ => none
  | k + 1, x0, x4, x7, x158000, x158001, x161000, x161001, x161002 => if x4 < (x0.size : Int) then (if 0 ≤ x4 then ((gaolerref02_Place.f k (⟨#[120, 119, 114, 88, 115, 116]⟩ : ByteArray) (bt x0 x4)).bind fun t166 => (if t166 ≥ 0 then (gaolerref02_one.l2 k x0 (wrap64 (x4 + 1)) x7 x158000 x158001 x161000 x161001 x161002) else (if 0 ≤ x7 then (if x7 ≤ x4 then (if x4 ≤ (x0.size : Int) then ((gaolerref02_sum.f k (x0.extract (x7 : Int).toNat (x4 : Int).toNat) (⟨#[120, 119, 114, 88, 115, 116]⟩ : ByteArray)).bind fun t167 => (if x158001.length < 5864062014805 then (gaolerref02_one.l1 k x0 x4 x158000 (x158001 ++ [(⟨x161000, t167, x161002⟩ : S75)])) else (none))) else (none)) else (none)) else (none)))) else (none)) else (if 0 ≤ x7 then (if x7 ≤ x4 then (if x4 ≤ (x0.size : Int) then ((gaolerref02_sum.f k (x0.extract (x7 : Int).toNat (x4 : Int).toNat) (⟨#[120, 119, 114, 88, 115, 116]⟩ : ByteArray)).bind fun t171 => (if x158001.length < 5864062014805 then (gaolerref02_one.l1 k x0 x4 x158000 (x158001 ++ [(⟨x161000, t171, x161002⟩ : S75)])) else (none))) else (none)) else (none)) else (none))
def gaolerref02_one.l0 : Nat → ByteArray → Int → Option (Int × (List (S75)) × Bool)
  | 0, _, _ => none
  | k + 1, x0, x4 => if x4 < (x0.size : Int) then (if 0 ≤ x4 then ((gaolerref02_Place.f k (⟨#[117, 103, 111, 97]⟩ : ByteArray) (bt x0 x4)).bind fun t155 => (if t155 ≥ 0 then (gaolerref02_one.l0 k x0 (wrap64 (x4 + 1))) else (gaolerref02_one.j1 k x0 x4))) else (none)) else (gaolerref02_one.j1 k x0 x4)
end
def gaolerref02_one.f (k : Nat) (a0 : ByteArray) : Option (Int × (List (S75)) × Bool) := gaolerref02_one.l0 k a0 0
set_option maxHeartbeats 8000000 in
set_option maxRecDepth 100000 in
theorem gaolerref02_one.calls (k : Nat) (a0 : ByteArray) (r1 : Int) (r2 : List (S75)) (r3 : Bool) (w : World) (h : gaolerref02_one.f k a0 = some (r1, r2, r3)) :
    Calls Tryd.prog 36 #[.string a0] w fun e w' => ∃ v1_ : Value, e = .returned (.tuple #[.agg #[.int .i64 r1, v1_], .bool r3]) ∧ Kd.R k75 75 w' w.heap.size (fun _ => True) v1_ r2 ∧ Below w.heap.size w w' := by
  have hu72 := Tryd.underlying72
  have hu75 := Tryd.underlying75
  have HB := Aside0.mk (Below.refl w.heap.size w)
  have H : (gaolerref02_one.l0 k a0 0) = some (r1, r2, r3) := h
  clear h
  have HC2 := Aside0.mk H
  clear H
  go_enter Tryd.func36, Tryd.ntmps36
  go_upto_block 0 with (first | ((with_reducible refine gate_dst (N := 2) rfl ?_); refine box_event ?hg (N := 2) ?hd (cs := #[.int .i64 0, .slice none 0 0]) (t := 72) ?hr ?_; (case hd => rfl); (case hg => rfl); (case hr => first | (go_simp; done) | (go_simp; rfl)); intro gb154 hg w3 hbox hb; have n0_ := Aside0.mk (below_step (by repeat (first | (with_reducible first | exact HB.out | apply below_alloc | apply pw_below_drewN | apply below_drew1) | exact HB.out)) hb); have n1_ := Aside0.mk (hbox); have n2_ := Aside0.mk ((by rw [hg]; exact (below_size (by repeat (first | (with_reducible first | exact HB.out | apply below_alloc | apply pw_below_drewN | apply below_drew1) | exact HB.out))) : w.heap.size ≤ gb154)); have n3_ := Aside0.mk ((by rw [hg]; exact (below_size (by repeat (first | (with_reducible first | exact HB.out | apply below_alloc | apply pw_below_drewN | apply below_drew1) | exact HB.out))) : w.heap.size ≤ gb154)); clear HB; have HB := n0_; have BK154 := n1_; have GW154 := n2_; have GE154 := n3_; clear n0_ n1_ n2_ n3_; clear hb hbox hg))
  (try simp only [Act.put, List.setIfInBounds_toArray, List.set_cons_zero, List.set_cons_succ])
  go_cut [4] (fun v4 wc => ∃ (kq : Nat) (x4_1 : Int), v4 = .int .i64 x4_1 ∧ Aside0 (gaolerref02_one.j1 kq a0 x4_1 = some (r1, r2, r3)) ∧ Aside0 (kq ≤ k) ∧ Aside0 (wc.heap[gb154]? = some (.cells #[.int .i64 0, (.slice none 0 0)] 72 (0, 0))) ∧ Aside0 (Below w.heap.size w wc))
  case first =>
    have H := HC2.out
    clear HC2
    have H' := Aside0.mk H
    clear H
    go_wp2
    go_loopg [4] k (fun kq v4 w' => ∃ (x4_1 : Int), v4 = .int .i64 x4_1 ∧ Aside0 (gaolerref02_one.l0 kq a0 x4_1 = some (r1, r2, r3)) ∧ Aside0 (kq ≤ k) ∧ Aside0 (w'.heap[gb154]? = some (.cells #[.int .i64 0, (.slice none 0 0)] 72 (0, 0))) ∧ Aside0 (Below w.heap.size w w'))
    case atStart => exact ⟨(0), (by first | rfl | (simp; done) | (simp [*]; done)), H', ⟨Nat.le_refl _⟩, ⟨by (with_reducible repeat (first | refine blk_drewN ?_ _ | refine blk_drew ?_ | refine blk_alloc ?_ _)); exact BK154.out⟩, ⟨by repeat (first | (with_reducible first | exact HB.out | apply below_alloc | apply pw_below_drewN | apply below_drew1 | refine below_set ?_ GE154.out) | exact HB.out)⟩⟩
    case round =>
      clear H'
      try clear p2
      try clear c3
      obtain ⟨x4_1, rfl, HA, HK1, BK154, HB⟩ := hrel
      cases gk with
      | zero => exact absurd HA.out (by simp [gaolerref02_one.l0])
      | succ k1 =>
        have H := HA.out
        clear HA
        simp only [gaolerref02_one.l0] at H
        by_cases c4 : x4_1 < (a0.size : Int)
        · rw [if_pos c4] at H
          have c4b0 : decide (x4_1 < (a0.size : Int)) = true := decide_eq_true c4
          clear c4
          (first | rw [c4b0] | (simp only [i64_w, i32_w]; rw [c4b0]) | skip)
          by_cases c5 : 0 ≤ x4_1
          · rw [if_pos c5] at H
            have c5b0 : decide (0 ≤ x4_1) = true := decide_eq_true c5
            clear c5
            replace H := Option.bind_eq_some_iff.mp H
            obtain ⟨t155, A70, H⟩ := H
            replace H : (if t155 ≥ 0 then (gaolerref02_one.l0 k1 a0 (wrap64 (x4_1 + 1))) else (gaolerref02_one.j1 k1 a0 x4_1)) = some (r1, r2, r3) := H
            have A7 := Aside0.mk A70
            clear A70
            by_cases c8 : t155 ≥ 0
            · rw [if_pos c8] at H
              have c8b0 : decide (0 ≤ t155) = true := decide_eq_true c8
              clear c8
              have H' := Aside0.mk H
              clear H
              have p6 : 0 ≤ (x4_1 : Int) := of_decide_eq_true (by first | (with_reducible assumption) | assumption)
              have q6 : x4_1 < (a0.size : Int) := of_decide_eq_true (by first | (with_reducible assumption) | assumption)
              have hx6 := bt_at a0 x4_1
              replace p6 := eq_true p6
              replace q6 := eq_true q6
              go_wp2_with (first | (go_at_call 38; (with_reducible refine (gaolerref02_Place.calls k1 (⟨#[117, 103, 111, 97]⟩ : ByteArray) (bt a0 x4_1) t155 _ A7.out).mono ?_); rintro e w' ⟨rfl, ⟨nd, rfl⟩⟩))
              go_roundg k1
              case measure => have := HK1.out; omega
              case rel => exact ⟨(wrap64 (x4_1 + 1)), (by first | rfl | (simp; done) | (simp [*]; done)), H', ⟨by have := HK1.out; omega⟩, ⟨by (with_reducible repeat (first | refine blk_drewN ?_ _ | refine blk_drew ?_ | refine blk_alloc ?_ _)); exact BK154.out⟩, ⟨by repeat (first | (with_reducible first | exact HB.out | apply below_alloc | apply pw_below_drewN | apply below_drew1 | refine below_set ?_ GE154.out) | exact HB.out)⟩⟩
            · rw [if_neg c8] at H
              have c8b0 : decide (0 ≤ t155) = false := decide_eq_false c8
              clear c8
              have H' := Aside0.mk H
              clear H
              have p6 : 0 ≤ (x4_1 : Int) := of_decide_eq_true (by first | (with_reducible assumption) | assumption)
              have q6 : x4_1 < (a0.size : Int) := of_decide_eq_true (by first | (with_reducible assumption) | assumption)
              have hx6 := bt_at a0 x4_1
              replace p6 := eq_true p6
              replace q6 := eq_true q6
              go_wp2_with (first | (go_at_call 38; (with_reducible refine (gaolerref02_Place.calls k1 (⟨#[117, 103, 111, 97]⟩ : ByteArray) (bt a0 x4_1) t155 _ A7.out).mono ?_); rintro e w' ⟨rfl, ⟨nd, rfl⟩⟩))
              go_meet
              case rel => exact ⟨_, (x4_1), (by first | rfl | (simp; done) | (simp [*]; done)), H', ⟨by have := HK1.out; first | omega | exact Nat.le_refl _⟩, ⟨by (with_reducible repeat (first | refine blk_drewN ?_ _ | refine blk_drew ?_ | refine blk_alloc ?_ _)); exact BK154.out⟩, ⟨by repeat (first | (with_reducible first | exact HB.out | apply below_alloc | apply pw_below_drewN | apply below_drew1 | refine below_set ?_ GE154.out) | exact HB.out)⟩⟩
          · rw [if_neg c5] at H
            exact absurd H (by simp)
        · rw [if_neg c4] at H
          have c4b0 : decide (x4_1 < (a0.size : Int)) = false := decide_eq_false c4
          clear c4
          (first | rw [c4b0] | (simp only [i64_w, i32_w]; rw [c4b0]) | skip)
          have H' := Aside0.mk H
          clear H
          go_wp2
          go_meet
          case rel => exact ⟨_, (x4_1), (by first | rfl | (simp; done) | (simp [*]; done)), H', ⟨by have := HK1.out; first | omega | exact Nat.le_refl _⟩, ⟨by (with_reducible repeat (first | refine blk_drewN ?_ _ | refine blk_drew ?_ | refine blk_alloc ?_ _)); exact BK154.out⟩, ⟨by repeat (first | (with_reducible first | exact HB.out | apply below_alloc | apply pw_below_drewN | apply below_drew1 | refine below_set ?_ GE154.out) | exact HB.out)⟩⟩
  case rest =>
    clear HC2
    try clear p2
    try clear c3
    try clear c4
    try clear c4b0
    try clear c5
    try clear c5b0
    try clear p6
    try clear q6
    try clear hx6
    try clear c8
    try clear c8b0
    try clear p2
    try clear p6
    try clear q6
    obtain ⟨kq, x4_1, rfl, HA, HJ1, BK154, HB⟩ := hcut
    cases kq with
    | zero => exact absurd HA.out (by simp [gaolerref02_one.j1])
    | succ kj1 =>
      have H := HA.out
      clear HA
      simp only [gaolerref02_one.j1] at H
      by_cases c9 : 0 ≤ x4_1
      · rw [if_pos c9] at H
        have c9b0 := eq_true c9
        have c9b1 : decide (0 ≤ x4_1) = true := decide_eq_true c9
        clear c9
        by_cases c10 : x4_1 ≤ (a0.size : Int)
        · rw [if_pos c10] at H
          have c10b0 := eq_true c10
          have c10b1 : decide (x4_1 ≤ (a0.size : Int)) = true := decide_eq_true c10
          clear c10
          replace H := Option.bind_eq_some_iff.mp H
          obtain ⟨t156, A110, H⟩ := H
          replace H : ((gaolerref02_Place.f kj1 (a0.extract 0 (x4_1 : Int).toNat) 97).bind fun t158 => (if t158 ≥ 0 then (gaolerref02_one.j2 kj1 a0 x4_1 7) else (gaolerref02_one.j2 kj1 a0 x4_1 t156))) = some (r1, r2, r3) := H
          have A11 := Aside0.mk A110
          clear A110
          have c12b0 := eq_true (of_decide_eq_true (by first | (with_reducible assumption) | assumption) : 0 ≤ x4_1)
          have c13b0 := eq_true (of_decide_eq_true (by first | (with_reducible assumption) | assumption) : x4_1 ≤ (a0.size : Int))
          replace H := Option.bind_eq_some_iff.mp H
          obtain ⟨t158, A140, H⟩ := H
          replace H : (if t158 ≥ 0 then (gaolerref02_one.j2 kj1 a0 x4_1 7) else (gaolerref02_one.j2 kj1 a0 x4_1 t156)) = some (r1, r2, r3) := H
          have A14 := Aside0.mk A140
          clear A140
          have HC15 := Aside0.mk H
          clear H
          go_upto_if 30 with (first | ((with_reducible refine gate_callee (f := 53) rfl ?_); refine goesL_ (some 24) rfl rfl Tryd.func53 (by kernel_rfl) rfl #[.string (a0.extract 0 (x4_1 : Int).toNat), .string (⟨#[117, 103, 111]⟩ : ByteArray)] rfl (by (try simp only [List.map_toArray, List.map_cons, List.map_nil]); first | done | rfl | (simp only [List.length_drop, List.length_take]; rfl)) ?_; (with_reducible refine (gaolerref02_sum.calls kj1 (a0.extract 0 (x4_1 : Int).toNat) (⟨#[117, 103, 111]⟩ : ByteArray) t156 _ A11.out).mono ?_); rintro e w' ⟨rfl, ⟨nd, rfl⟩⟩; refine ⟨_, rfl, ?_⟩; (try (rw [drewN_self wc]; generalize hq_ : World.drewN wc _ = wc; have n0_ : Aside0 (wc.heap[gb154]? = some (.cells #[.int .i64 0, .slice none 0 0] 72 (0, 0))) := ⟨by rw [← hq_]; exact (by (with_reducible repeat (first | refine blk_drewN ?_ _ | refine blk_drew ?_ | refine blk_alloc ?_ _)); exact BK154.out)⟩; have n1_ : Aside0 (Below w.heap.size w wc) := ⟨by rw [← hq_]; exact (by repeat (first | (with_reducible first | exact HB.out | apply below_alloc | apply pw_below_drewN | apply below_drew1 | refine below_set ?_ GE154.out) | exact HB.out))⟩; clear BK154 HB hq_; have BK154 := n0_; have HB := n1_; clear n0_ n1_))) | ((with_reducible refine gate_dst (N := 5) rfl ?_); refine box_event ?hg (N := 5) ?hd (cs := #[.int .i64 0, .slice none 0 0]) (t := 72) ?hr ?_; (case hd => rfl); (case hg => rfl); (case hr => first | (go_simp; done) | (go_simp; rfl)); intro gb157 hg w16 hbox hb; have n0_ := Aside0.mk (blk_below (g := gb154) (o := .cells #[.int .i64 0, .slice none 0 0] 72 (0, 0)) (by (with_reducible repeat (first | refine blk_drewN ?_ _ | refine blk_drew ?_ | refine blk_alloc ?_ _)); exact BK154.out) hb); have n1_ := Aside0.mk (below_step (by repeat (first | (with_reducible first | exact HB.out | apply below_alloc | apply pw_below_drewN | apply below_drew1 | refine below_set ?_ GE154.out) | exact HB.out)) hb); have n2_ := Aside0.mk (hbox); have n3_ := Aside0.mk ((by rw [hg]; exact (below_size (by repeat (first | (with_reducible first | exact HB.out | apply below_alloc | apply pw_below_drewN | apply below_drew1 | refine below_set ?_ GE154.out) | exact HB.out))) : w.heap.size ≤ gb157)); have n4_ := Aside0.mk ((by rw [hg]; exact (below_size (by repeat (first | (with_reducible first | exact HB.out | apply below_alloc | apply pw_below_drewN | apply below_drew1 | refine below_set ?_ GE154.out) | exact HB.out))) : w.heap.size ≤ gb157)); have n5_ := Aside0.mk ((by rw [hg]; exact Nat.ne_of_lt (blk_lt (g := gb154) (o := .cells #[.int .i64 0, .slice none 0 0] 72 (0, 0)) (by (with_reducible repeat (first | refine blk_drewN ?_ _ | refine blk_drew ?_ | refine blk_alloc ?_ _)); exact BK154.out)) : gb154 ≠ gb157)); have n6_ := Aside0.mk ((by rw [hg]; exact Nat.ne_of_gt (blk_lt (g := gb154) (o := .cells #[.int .i64 0, .slice none 0 0] 72 (0, 0)) (by (with_reducible repeat (first | refine blk_drewN ?_ _ | refine blk_drew ?_ | refine blk_alloc ?_ _)); exact BK154.out)) : gb157 ≠ gb154)); clear BK154; clear HB; have BK154 := n0_; have HB := n1_; have BK157 := n2_; have GW157 := n3_; have GE157 := n4_; have NB154_157 := n5_; have NB157_154 := n6_; clear n0_ n1_ n2_ n3_ n4_ n5_ n6_; clear hb hbox hg; have hnb17 := NB157_154.out; have hnc17 := NB154_157.out; have hcz18_0 : w16.cell? ⟨gb157, 0, none⟩ = some (.int .i64 0) := (blk_cell BK157.out 0).trans rfl; have hcz18_1 : w16.cell? ⟨gb157, 1, none⟩ = some (.slice none 0 0) := (blk_cell BK157.out 1).trans rfl; have hfz18_0 := blk_frozen BK157.out 0; have hfz18_1 := blk_frozen BK157.out 1) | ((with_reducible refine gate_callee (f := 38) rfl ?_); refine goesL_ (some 29) rfl rfl Tryd.func38 (by kernel_rfl) rfl #[.string (a0.extract 0 (x4_1 : Int).toNat), .int .u8 97] rfl (by (try simp only [List.map_toArray, List.map_cons, List.map_nil]); first | done | rfl | (simp only [List.length_drop, List.length_take]; rfl)) ?_; (with_reducible refine (gaolerref02_Place.calls kj1 (a0.extract 0 (x4_1 : Int).toNat) 97 t158 _ A14.out).mono ?_); rintro e w' ⟨rfl, ⟨nd, rfl⟩⟩; refine ⟨_, rfl, ?_⟩))
          (try simp only [Act.put, List.setIfInBounds_toArray, List.set_cons_zero, List.set_cons_succ])
          go_cut [] (fun wc => ∃ (kq : Nat) (x158000_14 : Int), Aside0 (gaolerref02_one.j2 kq a0 x4_1 x158000_14 = some (r1, r2, r3)) ∧ Aside0 (kq ≤ kj1) ∧ Aside0 (wc.heap[gb154]? = some (.cells #[.int .i64 0, (.slice none 0 0)] 72 (0, 0))) ∧ Aside0 (wc.heap[gb157]? = some (.cells #[.int .i64 x158000_14, (.slice none 0 0)] 72 (0, 0))) ∧ Aside0 (Below w.heap.size w wc))
          case first =>
            have H := HC15.out
            clear HC15
            by_cases c19 : t158 ≥ 0
            · rw [if_pos c19] at H
              have c19b0 : decide (0 ≤ t158) = true := decide_eq_true c19
              clear c19
              (first | rw [c19b0] | (simp only [i64_w, i32_w]; rw [c19b0]) | skip)
              have H' := Aside0.mk H
              clear H
              have hnb20 := NB157_154.out
              have hnc20 := NB154_157.out
              have hcz21_0 : w16.cell? ⟨gb157, 0, none⟩ = some (.int .i64 0) := (blk_cell BK157.out 0).trans rfl
              have hcz21_1 : w16.cell? ⟨gb157, 1, none⟩ = some (.slice none 0 0) := (blk_cell BK157.out 1).trans rfl
              have hfz21_0 := blk_frozen BK157.out 0
              have hfz21_1 := blk_frozen BK157.out 1
              go_wp2
              go_meet
              case rel => exact ⟨_, (7), H', ⟨by have := HJ1.out; first | omega | exact Nat.le_refl _⟩, ⟨by (with_reducible repeat (first | refine blk_drewN ?_ _ | refine blk_drew ?_ | refine blk_alloc ?_ _)); refine blk_far ?_ NB154_157.out _; (with_reducible repeat (first | refine blk_drewN ?_ _ | refine blk_drew ?_ | refine blk_alloc ?_ _)); refine blk_far ?_ NB154_157.out _; (with_reducible repeat (first | refine blk_drewN ?_ _ | refine blk_drew ?_ | refine blk_alloc ?_ _)); refine blk_far ?_ NB154_157.out _; (with_reducible repeat (first | refine blk_drewN ?_ _ | refine blk_drew ?_ | refine blk_alloc ?_ _)); exact BK154.out⟩, ⟨by (with_reducible repeat (first | refine blk_drewN ?_ _ | refine blk_drew ?_ | refine blk_alloc ?_ _)); refine blk_put (cs := #[.int .i64 t156, .slice none 0 0]) ?_ 0 _ rfl; (with_reducible repeat (first | refine blk_drewN ?_ _ | refine blk_drew ?_ | refine blk_alloc ?_ _)); refine blk_put (cs := #[.int .i64 t156, .slice none 0 0]) ?_ 1 _ rfl; (with_reducible repeat (first | refine blk_drewN ?_ _ | refine blk_drew ?_ | refine blk_alloc ?_ _)); refine blk_put (cs := #[.int .i64 0, .slice none 0 0]) ?_ 0 _ rfl; (with_reducible repeat (first | refine blk_drewN ?_ _ | refine blk_drew ?_ | refine blk_alloc ?_ _)); exact BK157.out⟩, ⟨by repeat (first | (with_reducible first | exact HB.out | apply below_alloc | apply pw_below_drewN | apply below_drew1 | refine below_set ?_ GE154.out | refine below_set ?_ GE157.out) | exact HB.out)⟩⟩
            · rw [if_neg c19] at H
              have c19b0 : decide (0 ≤ t158) = false := decide_eq_false c19
              clear c19
              (first | rw [c19b0] | (simp only [i64_w, i32_w]; rw [c19b0]) | skip)
              have H' := Aside0.mk H
              clear H
              go_wp2
              go_meet
              case rel => exact ⟨_, (t156), H', ⟨by have := HJ1.out; first | omega | exact Nat.le_refl _⟩, ⟨by (with_reducible repeat (first | refine blk_drewN ?_ _ | refine blk_drew ?_ | refine blk_alloc ?_ _)); refine blk_far ?_ NB154_157.out _; (with_reducible repeat (first | refine blk_drewN ?_ _ | refine blk_drew ?_ | refine blk_alloc ?_ _)); refine blk_far ?_ NB154_157.out _; (with_reducible repeat (first | refine blk_drewN ?_ _ | refine blk_drew ?_ | refine blk_alloc ?_ _)); exact BK154.out⟩, ⟨by (with_reducible repeat (first | refine blk_drewN ?_ _ | refine blk_drew ?_ | refine blk_alloc ?_ _)); refine blk_put (cs := #[.int .i64 t156, .slice none 0 0]) ?_ 1 _ rfl; (with_reducible repeat (first | refine blk_drewN ?_ _ | refine blk_drew ?_ | refine blk_alloc ?_ _)); refine blk_put (cs := #[.int .i64 0, .slice none 0 0]) ?_ 0 _ rfl; (with_reducible repeat (first | refine blk_drewN ?_ _ | refine blk_drew ?_ | refine blk_alloc ?_ _)); exact BK157.out⟩, ⟨by repeat (first | (with_reducible first | exact HB.out | apply below_alloc | apply pw_below_drewN | apply below_drew1 | refine below_set ?_ GE154.out | refine below_set ?_ GE157.out) | exact HB.out)⟩⟩
          case rest =>
            clear HC15
            try clear c1
            try clear c2
            try clear p2
            try clear c3
            try clear c4
            try clear c4b0
            try clear c5
            try clear c5b0
            try clear p6
            try clear q6
            try clear hx6
            try clear c8
            try clear c8b0
            try clear c9
            try clear c9b0
            try clear c9b1
            try clear c10
            try clear c10b0
            try clear c10b1
            try clear c12
            try clear c12b0
            try clear c13
            try clear c13b0
            try clear c17
            try clear c19
            try clear c19b0
            try clear c20
            try clear hcz18_0
            try clear hcz18_1
            try clear hcz21_0
            try clear hcz21_1
            try clear hfz18_0
            try clear hfz18_1
            try clear hfz21_0
            try clear hfz21_1
            try clear p2
            try clear p6
            try clear q6
            obtain ⟨kq, x158000_14, HA, HJ14, BK154, BK157, HB⟩ := hcut
            cases kq with
            | zero => exact absurd HA.out (by simp [gaolerref02_one.j2])
            | succ kj14 =>
              have H := HA.out
              clear HA
              simp only [gaolerref02_one.j2] at H
              have H' := Aside0.mk H
              clear H
              go_wp2
              go_loopg [4] kj14 (fun kq v4 w' => ∃ (x4_3 : Int) (x155000_3 : Int) (x158001_3 : List (S75)) (u158001 : Value), v4 = .int .i64 x4_3 ∧ Aside0 (gaolerref02_one.l1 kq a0 x4_3 x158000_14 x158001_3 = some (r1, r2, r3)) ∧ Aside0 (kq ≤ kj14) ∧ Aside0 (Kd.R k75 75 w' w.heap.size (fun _ => True) u158001 x158001_3) ∧ Aside0 (w'.heap[gb154]? = some (.cells #[.int .i64 x155000_3, (.slice none 0 0)] 72 (0, 0))) ∧ Aside0 (w'.heap[gb157]? = some (.cells #[.int .i64 x158000_14, u158001] 72 (0, 0))) ∧ Aside0 (Below w.heap.size w w'))
              case atStart => exact ⟨(x4_1), (0), (([] : List (S75))), (.slice none 0 0), (by first | rfl | (simp; done) | (simp [*]; done)), H', ⟨Nat.le_refl _⟩, ⟨by first | exact Kd.R_nil _ _ _ _ _ | exact Kd.N_nil _ _ _ _ _ | exact Kd.V_nil _ _ _ _ _ | exact Kd.Q_nil _ _ _ _ _ | exact Kd.S_nil _ _ _ _ _⟩, ⟨by (with_reducible repeat (first | refine blk_drewN ?_ _ | refine blk_drew ?_ | refine blk_alloc ?_ _)); exact BK154.out⟩, ⟨by (with_reducible repeat (first | refine blk_drewN ?_ _ | refine blk_drew ?_ | refine blk_alloc ?_ _)); exact BK157.out⟩, ⟨by repeat (first | (with_reducible first | exact HB.out | apply below_alloc | apply pw_below_drewN | apply below_drew1 | refine below_set ?_ GE154.out | refine below_set ?_ GE157.out) | exact HB.out)⟩⟩
              case round =>
                clear H'
                try clear c1
                try clear c2
                try clear p2
                try clear c3
                try clear c4
                try clear c4b0
                try clear c5
                try clear c5b0
                try clear p6
                try clear q6
                try clear hx6
                try clear c8
                try clear c8b0
                try clear c9
                try clear c9b0
                try clear c9b1
                try clear c10
                try clear c10b0
                try clear c10b1
                try clear c12
                try clear c12b0
                try clear c13
                try clear c13b0
                try clear c17
                try clear c19
                try clear c19b0
                try clear c20
                try clear hcz18_0
                try clear hcz18_1
                try clear hcz21_0
                try clear hcz21_1
                try clear hfz18_0
                try clear hfz18_1
                try clear hfz21_0
                try clear hfz21_1
                try clear p2
                try clear p6
                try clear q6
                obtain ⟨x4_3, x155000_3, x158001_3, u158001, rfl, HA, HK3, HO_158001, BK154, BK157, HB⟩ := hrel
                cases gk with
                | zero => exact absurd HA.out (by simp [gaolerref02_one.l1])
                | succ k3 =>
                  have H := HA.out
                  clear HA
                  simp only [gaolerref02_one.l1] at H
                  by_cases c22 : x4_3 < (a0.size : Int)
                  · rw [if_pos c22] at H
                    have c22b0 : decide (x4_3 < (a0.size : Int)) = true := decide_eq_true c22
                    clear c22
                    by_cases c23 : 0 ≤ x4_3
                    · rw [if_pos c23] at H
                      have c23b0 : decide (0 ≤ x4_3) = true := decide_eq_true c23
                      clear c23
                      replace H := Option.bind_eq_some_iff.mp H
                      obtain ⟨t159, A250, H⟩ := H
                      replace H : (if t159 < 0 then (some (0, ([] : List (S75)), false)) else (if (wrap64 (x4_3 + 1)) < (a0.size : Int) then (if 0 ≤ (wrap64 (x4_3 + 1)) then ((gaolerref02_Place.f k3 (⟨#[117, 103, 111]⟩ : ByteArray) (bt a0 (wrap64 (x4_3 + 1)))).bind fun t161 => (gaolerref02_one.j4 k3 a0 (wrap64 (x4_3 + 1)) (decide (t161 ≥ 0)) x158000_14 x158001_3 (bt a0 x4_3) 0 0)) else (none)) else (gaolerref02_one.j4 k3 a0 (wrap64 (x4_3 + 1)) false x158000_14 x158001_3 (bt a0 x4_3) 0 0))) = some (r1, r2, r3) := H
                      have A25 := Aside0.mk A250
                      clear A250
                      by_cases c26 : t159 < 0
                      · rw [if_pos c26] at H
                        have c26b0 : decide (t159 < 0) = true := decide_eq_true c26
                        clear c26
                        simp only [Option.some.injEq, Prod.mk.injEq] at H
                        obtain ⟨rfl, rfl, rfl⟩ := H
                        have p24 : 0 ≤ (x4_3 : Int) := of_decide_eq_true (by first | (with_reducible assumption) | assumption)
                        have q24 : x4_3 < (a0.size : Int) := of_decide_eq_true (by first | (with_reducible assumption) | assumption)
                        have hx24 := bt_at a0 x4_3
                        replace p24 := eq_true p24
                        replace q24 := eq_true q24
                        go_wp2_with (first | ((with_reducible refine gate_callee (f := 38) rfl ?_); refine goesL_ (some 39) rfl rfl Tryd.func38 (by kernel_rfl) rfl #[.string (⟨#[43, 45, 61]⟩ : ByteArray), .int .u8 (bt a0 x4_3)] rfl (by (try simp only [List.map_toArray, List.map_cons, List.map_nil]); first | done | rfl | (simp only [List.length_drop, List.length_take]; rfl)) ?_; (with_reducible refine (gaolerref02_Place.calls k3 (⟨#[43, 45, 61]⟩ : ByteArray) (bt a0 x4_3) t159 _ A25.out).mono ?_); rintro e w' ⟨rfl, ⟨nd, rfl⟩⟩; refine ⟨_, rfl, ?_⟩; (try (rw [drewN_self wr]; generalize hq_ : World.drewN wr _ = wr; have n0_ : Aside0 (Kd.R k75 75 wr w.heap.size (fun _ => True) u158001 x158001_3) := ⟨by rw [← hq_]; exact (by (with_reducible repeat (first | apply Kd.R_alloc | apply Kd.R_drewN | apply Kd.R_drew)); exact HO_158001.out)⟩; have n1_ : Aside0 (wr.heap[gb154]? = some (.cells #[.int .i64 x155000_3, .slice none 0 0] 72 (0, 0))) := ⟨by rw [← hq_]; exact (by (with_reducible repeat (first | refine blk_drewN ?_ _ | refine blk_drew ?_ | refine blk_alloc ?_ _)); exact BK154.out)⟩; have n2_ : Aside0 (wr.heap[gb157]? = some (.cells #[.int .i64 x158000_14, u158001] 72 (0, 0))) := ⟨by rw [← hq_]; exact (by (with_reducible repeat (first | refine blk_drewN ?_ _ | refine blk_drew ?_ | refine blk_alloc ?_ _)); exact BK157.out)⟩; have n3_ : Aside0 (Below w.heap.size w wr) := ⟨by rw [← hq_]; exact (by repeat (first | (with_reducible first | exact HB.out | apply below_alloc | apply pw_below_drewN | apply below_drew1 | refine below_set ?_ GE154.out | refine below_set ?_ GE157.out) | exact HB.out))⟩; clear HO_158001 BK154 BK157 HB hq_; have HO_158001 := n0_; have BK154 := n1_; have BK157 := n2_; have HB := n3_; clear n0_ n1_ n2_ n3_)); have hnb27 := NB154_157.out; have hnc27 := NB157_154.out; have hcz28_0 : wr.cell? ⟨gb154, 0, none⟩ = some (.int .i64 x155000_3) := (blk_cell BK154.out 0).trans rfl; have hcz28_1 : wr.cell? ⟨gb154, 1, none⟩ = some (.slice none 0 0) := (blk_cell BK154.out 1).trans rfl; have hfz28_0 := blk_frozen BK154.out 0; have hfz28_1 := blk_frozen BK154.out 1))
                        refine bodyPost_ret (results_ct rfl _ _ gb154 72 #[.int .i64 0, .slice none 0 0] (0, 0) _ rfl (by (with_reducible repeat (first | refine blk_drewN ?_ _ | refine blk_drew ?_ | refine blk_alloc ?_ _)); refine blk_put (cs := #[.int .i64 0, .slice none 0 0]) ?_ 1 _ rfl; (with_reducible repeat (first | refine blk_drewN ?_ _ | refine blk_drew ?_ | refine blk_alloc ?_ _)); refine blk_put (cs := #[.int .i64 x155000_3, .slice none 0 0]) ?_ 0 _ rfl; (with_reducible repeat (first | refine blk_drewN ?_ _ | refine blk_drew ?_ | refine blk_alloc ?_ _)); exact BK154.out) Tryd.underlying72 rfl (by kernel_rfl)) rfl ?_
                        exact ⟨_, by first | rfl | (simp [errW_none, errW_some] <;> rfl) | (simp [*, errW_none, errW_some] <;> rfl), by first | exact Kd.R_nil _ _ _ _ _ | exact Kd.N_nil _ _ _ _ _ | exact Kd.V_nil _ _ _ _ _ | exact Kd.Q_nil _ _ _ _ _ | exact Kd.S_nil _ _ _ _ _, by repeat (first | (with_reducible first | exact HB.out | apply below_alloc | apply pw_below_drewN | apply below_drew1 | refine below_set ?_ GE154.out | refine below_set ?_ GE157.out) | exact HB.out)⟩
                      · rw [if_neg c26] at H
                        have c26b0 : decide (t159 < 0) = false := decide_eq_false c26
                        clear c26
                        have HC30 := Aside0.mk H
                        clear H
                        have p24 : 0 ≤ (x4_3 : Int) := of_decide_eq_true (by first | (with_reducible assumption) | assumption)
                        have q24 : x4_3 < (a0.size : Int) := of_decide_eq_true (by first | (with_reducible assumption) | assumption)
                        have hx24 := bt_at a0 x4_3
                        replace p24 := eq_true p24
                        replace q24 := eq_true q24
                        go_upto_region 12 with (first | ((with_reducible refine gate_callee (f := 38) rfl ?_); refine goesL_ (some 39) rfl rfl Tryd.func38 (by kernel_rfl) rfl #[.string (⟨#[43, 45, 61]⟩ : ByteArray), .int .u8 (bt a0 x4_3)] rfl (by (try simp only [List.map_toArray, List.map_cons, List.map_nil]); first | done | rfl | (simp only [List.length_drop, List.length_take]; rfl)) ?_; (with_reducible refine (gaolerref02_Place.calls k3 (⟨#[43, 45, 61]⟩ : ByteArray) (bt a0 x4_3) t159 _ A25.out).mono ?_); rintro e w' ⟨rfl, ⟨nd, rfl⟩⟩; refine ⟨_, rfl, ?_⟩; (try (rw [drewN_self wr]; generalize hq_ : World.drewN wr _ = wr; have n0_ : Aside0 (Kd.R k75 75 wr w.heap.size (fun _ => True) u158001 x158001_3) := ⟨by rw [← hq_]; exact (by (with_reducible repeat (first | apply Kd.R_alloc | apply Kd.R_drewN | apply Kd.R_drew)); exact HO_158001.out)⟩; have n1_ : Aside0 (wr.heap[gb154]? = some (.cells #[.int .i64 x155000_3, .slice none 0 0] 72 (0, 0))) := ⟨by rw [← hq_]; exact (by (with_reducible repeat (first | refine blk_drewN ?_ _ | refine blk_drew ?_ | refine blk_alloc ?_ _)); exact BK154.out)⟩; have n2_ : Aside0 (wr.heap[gb157]? = some (.cells #[.int .i64 x158000_14, u158001] 72 (0, 0))) := ⟨by rw [← hq_]; exact (by (with_reducible repeat (first | refine blk_drewN ?_ _ | refine blk_drew ?_ | refine blk_alloc ?_ _)); exact BK157.out)⟩; have n3_ : Aside0 (Below w.heap.size w wr) := ⟨by rw [← hq_]; exact (by repeat (first | (with_reducible first | exact HB.out | apply below_alloc | apply pw_below_drewN | apply below_drew1 | refine below_set ?_ GE154.out | refine below_set ?_ GE157.out) | exact HB.out))⟩; clear HO_158001 BK154 BK157 HB hq_; have HO_158001 := n0_; have BK154 := n1_; have BK157 := n2_; have HB := n3_; clear n0_ n1_ n2_ n3_)); have p29 : 0 ≤ (x4_3 : Int) := of_decide_eq_true (by first | (with_reducible assumption) | assumption); have q29 : x4_3 < (a0.size : Int) := of_decide_eq_true (by first | (with_reducible assumption) | assumption); have hx29 := bt_at a0 x4_3; replace p29 := eq_true p29; replace q29 := eq_true q29) | ((with_reducible refine gate_dst (N := 6) rfl ?_); refine box_event ?hg (N := 6) ?hd (cs := #[.int .u8 0, .int .i64 0, .int .i64 0]) (t := 75) ?hr ?_; (case hd => rfl); (case hg => rfl); (case hr => first | (go_simp; done) | (go_simp; rfl)); intro gb160 hg w31 hbox hb; have n0_ := Aside0.mk (Kd.R_below (Kd.R_elderB (by (with_reducible repeat (first | apply Kd.R_alloc | apply Kd.R_drewN | apply Kd.R_drew)); exact HO_158001.out) gb160 (Nat.le_of_eq hg.symm)) hb); have n1_ := Aside0.mk (blk_below (g := gb154) (o := .cells #[.int .i64 x155000_3, .slice none 0 0] 72 (0, 0)) (by (with_reducible repeat (first | refine blk_drewN ?_ _ | refine blk_drew ?_ | refine blk_alloc ?_ _)); exact BK154.out) hb); have n2_ := Aside0.mk (blk_below (g := gb157) (o := .cells #[.int .i64 x158000_14, u158001] 72 (0, 0)) (by (with_reducible repeat (first | refine blk_drewN ?_ _ | refine blk_drew ?_ | refine blk_alloc ?_ _)); exact BK157.out) hb); have n3_ := Aside0.mk (below_step (by repeat (first | (with_reducible first | exact HB.out | apply below_alloc | apply pw_below_drewN | apply below_drew1 | refine below_set ?_ GE154.out | refine below_set ?_ GE157.out) | exact HB.out)) hb); have n4_ := Aside0.mk (hbox); have n5_ := Aside0.mk ((by rw [hg]; exact (below_size (by repeat (first | (with_reducible first | exact HB.out | apply below_alloc | apply pw_below_drewN | apply below_drew1 | refine below_set ?_ GE154.out | refine below_set ?_ GE157.out) | exact HB.out))) : w.heap.size ≤ gb160)); have n6_ := Aside0.mk ((by rw [hg]; exact (below_size (by repeat (first | (with_reducible first | exact HB.out | apply below_alloc | apply pw_below_drewN | apply below_drew1 | refine below_set ?_ GE154.out | refine below_set ?_ GE157.out) | exact HB.out))) : w.heap.size ≤ gb160)); have n7_ := Aside0.mk ((by rw [hg]; exact Nat.ne_of_lt (blk_lt (g := gb154) (o := .cells #[.int .i64 x155000_3, .slice none 0 0] 72 (0, 0)) (by (with_reducible repeat (first | refine blk_drewN ?_ _ | refine blk_drew ?_ | refine blk_alloc ?_ _)); exact BK154.out)) : gb154 ≠ gb160)); have n8_ := Aside0.mk ((by rw [hg]; exact Nat.ne_of_gt (blk_lt (g := gb154) (o := .cells #[.int .i64 x155000_3, .slice none 0 0] 72 (0, 0)) (by (with_reducible repeat (first | refine blk_drewN ?_ _ | refine blk_drew ?_ | refine blk_alloc ?_ _)); exact BK154.out)) : gb160 ≠ gb154)); have n9_ := Aside0.mk ((by rw [hg]; exact Nat.ne_of_lt (blk_lt (g := gb157) (o := .cells #[.int .i64 x158000_14, u158001] 72 (0, 0)) (by (with_reducible repeat (first | refine blk_drewN ?_ _ | refine blk_drew ?_ | refine blk_alloc ?_ _)); exact BK157.out)) : gb157 ≠ gb160)); have n10_ := Aside0.mk ((by rw [hg]; exact Nat.ne_of_gt (blk_lt (g := gb157) (o := .cells #[.int .i64 x158000_14, u158001] 72 (0, 0)) (by (with_reducible repeat (first | refine blk_drewN ?_ _ | refine blk_drew ?_ | refine blk_alloc ?_ _)); exact BK157.out)) : gb160 ≠ gb157)); clear HO_158001; clear BK154; clear BK157; clear HB; have HO_158001 := n0_; have BK154 := n1_; have BK157 := n2_; have HB := n3_; have BK160 := n4_; have GW160 := n5_; have GE160 := n6_; have NB154_160 := n7_; have NB160_154 := n8_; have NB157_160 := n9_; have NB160_157 := n10_; clear n0_ n1_ n2_ n3_ n4_ n5_ n6_ n7_ n8_ n9_ n10_; clear hb hbox hg; have hnb32 := NB160_154.out; have hnc32 := NB154_160.out; have hnb33 := NB160_157.out; have hnc33 := NB157_160.out; have hcz34_0 : w31.cell? ⟨gb160, 0, none⟩ = some (.int .u8 0) := (blk_cell BK160.out 0).trans rfl; have hcz34_1 : w31.cell? ⟨gb160, 1, none⟩ = some (.int .i64 0) := (blk_cell BK160.out 1).trans rfl; have hcz34_2 : w31.cell? ⟨gb160, 2, none⟩ = some (.int .i64 0) := (blk_cell BK160.out 2).trans rfl; have hfz34_0 := blk_frozen BK160.out 0; have hfz34_1 := blk_frozen BK160.out 1; have hfz34_2 := blk_frozen BK160.out 2))
                        (try simp only [Act.put, List.setIfInBounds_toArray, List.set_cons_zero, List.set_cons_succ])
                        go_cut [58] (fun v58 wc => ∃ (kq : Nat) (x58_29 : Bool), v58 = .bool x58_29 ∧ Aside0 (gaolerref02_one.j4 kq a0 (wrap64 (x4_3 + 1)) x58_29 x158000_14 x158001_3 (bt a0 x4_3) 0 0 = some (r1, r2, r3)) ∧ Aside0 (kq ≤ k3) ∧ Aside0 (Kd.R k75 75 wc w.heap.size (fun k_ => k_ ≠ gb160) u158001 x158001_3) ∧ Aside0 (wc.heap[gb154]? = some (.cells #[.int .i64 x155000_3, (.slice none 0 0)] 72 (0, 0))) ∧ Aside0 (wc.heap[gb157]? = some (.cells #[.int .i64 x158000_14, u158001] 72 (0, 0))) ∧ Aside0 (wc.heap[gb160]? = some (.cells #[.int .u8 (bt a0 x4_3), .int .i64 0, .int .i64 0] 75 (0, 0))) ∧ Aside0 (Below w.heap.size w wc))
                        case first =>
                          have H := HC30.out
                          clear HC30
                          by_cases c35 : (wrap64 (x4_3 + 1)) < (a0.size : Int)
                          · rw [if_pos c35] at H
                            have c35b0 : decide ((wrap64 (x4_3 + 1)) < (a0.size : Int)) = true := decide_eq_true c35
                            clear c35
                            (first | rw [c35b0] | (simp only [i64_w, i32_w]; rw [c35b0]) | skip)
                            obtain ⟨ji36, hji36⟩ : ∃ j_ : Int, (wrap64 (x4_3 + 1)) = j_ := ⟨_, rfl⟩
                            replace H : (if 0 ≤ (ji36) then ((gaolerref02_Place.f k3 (⟨#[117, 103, 111]⟩ : ByteArray) (bt a0 (ji36))).bind fun t161 => (gaolerref02_one.j4 k3 a0 ji36 (decide (t161 ≥ 0)) x158000_14 x158001_3 (bt a0 x4_3) 0 0)) else (none)) = some (r1, r2, r3) := by first | (rw [hji36] at H; exact H) | (simp only [hji36] at H ⊢; exact H)
                            (try rw [hji36] at c35b0)
                            have hji36w : (IntKind.i64.wrap (x4_3 + 1)) = ji36 := (i64_w _).trans hji36
                            by_cases c37 : 0 ≤ (ji36)
                            · rw [if_pos c37] at H
                              have c37b0 : decide (0 ≤ (ji36)) = true := decide_eq_true c37
                              clear c37
                              replace H := Option.bind_eq_some_iff.mp H
                              obtain ⟨t161, A390, H⟩ := H
                              replace H : (gaolerref02_one.j4 k3 a0 ji36 (decide (t161 ≥ 0)) x158000_14 x158001_3 (bt a0 x4_3) 0 0) = some (r1, r2, r3) := H
                              have A39 := Aside0.mk A390
                              clear A390
                              have H' := Aside0.mk H
                              clear H
                              have p38 : 0 ≤ ((ji36) : Int) := of_decide_eq_true (by first | (with_reducible assumption) | assumption)
                              have q38 : (ji36) < (a0.size : Int) := of_decide_eq_true (by first | (with_reducible assumption) | assumption)
                              have hx38 := bt_at a0 (ji36)
                              replace p38 := eq_true p38
                              replace q38 := eq_true q38
                              go_wp2_with (first | (go_at_call 38; (with_reducible refine (gaolerref02_Place.calls k3 (⟨#[117, 103, 111]⟩ : ByteArray) (bt a0 (ji36)) t161 _ A39.out).mono ?_); rintro e w' ⟨rfl, ⟨nd, rfl⟩⟩))
                              (try subst hji36)
                              go_meet
                              case rel => exact ⟨_, (decide (t161 ≥ 0)), (by first | rfl | (simp; done) | (simp [*]; done)), H', ⟨by have := HJ1.out; have := HJ14.out; have := HK3.out; first | omega | exact Nat.le_refl _⟩, ⟨by (with_reducible repeat (first | apply Kd.R_alloc | apply Kd.R_drewN | apply Kd.R_drew)); exact Kd.R_mono (Kd.R_far (p := ⟨gb160, 2, none⟩) (Kd.R_far (p := ⟨gb160, 1, none⟩) (Kd.R_far (p := ⟨gb160, 0, none⟩) (Kd.R_mono HO_158001.out (fun k_ hk => (⟨hk, hk.2⟩ : _ ∧ k_ ≠ gb160))) (fun _ hk => hk.2) (.int .u8 (bt a0 x4_3))) (fun _ hk => hk.2) (.int .i64 0)) (fun _ hk => hk.2) (.int .i64 0)) (fun _ hk => hk.1.2)⟩, ⟨by (with_reducible repeat (first | refine blk_drewN ?_ _ | refine blk_drew ?_ | refine blk_alloc ?_ _)); refine blk_far ?_ NB154_160.out _; (with_reducible repeat (first | refine blk_drewN ?_ _ | refine blk_drew ?_ | refine blk_alloc ?_ _)); refine blk_far ?_ NB154_160.out _; (with_reducible repeat (first | refine blk_drewN ?_ _ | refine blk_drew ?_ | refine blk_alloc ?_ _)); refine blk_far ?_ NB154_160.out _; (with_reducible repeat (first | refine blk_drewN ?_ _ | refine blk_drew ?_ | refine blk_alloc ?_ _)); exact BK154.out⟩, ⟨by (with_reducible repeat (first | refine blk_drewN ?_ _ | refine blk_drew ?_ | refine blk_alloc ?_ _)); refine blk_far ?_ NB157_160.out _; (with_reducible repeat (first | refine blk_drewN ?_ _ | refine blk_drew ?_ | refine blk_alloc ?_ _)); refine blk_far ?_ NB157_160.out _; (with_reducible repeat (first | refine blk_drewN ?_ _ | refine blk_drew ?_ | refine blk_alloc ?_ _)); refine blk_far ?_ NB157_160.out _; (with_reducible repeat (first | refine blk_drewN ?_ _ | refine blk_drew ?_ | refine blk_alloc ?_ _)); exact BK157.out⟩, ⟨by (with_reducible repeat (first | refine blk_drewN ?_ _ | refine blk_drew ?_ | refine blk_alloc ?_ _)); refine blk_put (cs := #[.int .u8 (bt a0 x4_3), .int .i64 0, .int .i64 0]) ?_ 2 _ rfl; (with_reducible repeat (first | refine blk_drewN ?_ _ | refine blk_drew ?_ | refine blk_alloc ?_ _)); refine blk_put (cs := #[.int .u8 (bt a0 x4_3), .int .i64 0, .int .i64 0]) ?_ 1 _ rfl; (with_reducible repeat (first | refine blk_drewN ?_ _ | refine blk_drew ?_ | refine blk_alloc ?_ _)); refine blk_put (cs := #[.int .u8 0, .int .i64 0, .int .i64 0]) ?_ 0 _ rfl; (with_reducible repeat (first | refine blk_drewN ?_ _ | refine blk_drew ?_ | refine blk_alloc ?_ _)); exact BK160.out⟩, ⟨by repeat (first | (with_reducible first | exact HB.out | apply below_alloc | apply pw_below_drewN | apply below_drew1 | refine below_set ?_ GE154.out | refine below_set ?_ GE157.out | refine below_set ?_ GE160.out) | exact HB.out)⟩⟩
                            · rw [if_neg c37] at H
                              exact absurd H (by simp)
                          · rw [if_neg c35] at H
                            have c35b0 : decide ((wrap64 (x4_3 + 1)) < (a0.size : Int)) = false := decide_eq_false c35
                            clear c35
                            (first | rw [c35b0] | (simp only [i64_w, i32_w]; rw [c35b0]) | skip)
                            have H' := Aside0.mk H
                            clear H
                            go_wp2
                            go_meet
                            case rel => exact ⟨_, (false), (by first | rfl | (simp; done) | (simp [*]; done)), H', ⟨by have := HJ1.out; have := HJ14.out; have := HK3.out; first | omega | exact Nat.le_refl _⟩, ⟨by (with_reducible repeat (first | apply Kd.R_alloc | apply Kd.R_drewN | apply Kd.R_drew)); exact Kd.R_mono (Kd.R_far (p := ⟨gb160, 2, none⟩) (Kd.R_far (p := ⟨gb160, 1, none⟩) (Kd.R_far (p := ⟨gb160, 0, none⟩) (Kd.R_mono HO_158001.out (fun k_ hk => (⟨hk, hk.2⟩ : _ ∧ k_ ≠ gb160))) (fun _ hk => hk.2) (.int .u8 (bt a0 x4_3))) (fun _ hk => hk.2) (.int .i64 0)) (fun _ hk => hk.2) (.int .i64 0)) (fun _ hk => hk.1.2)⟩, ⟨by (with_reducible repeat (first | refine blk_drewN ?_ _ | refine blk_drew ?_ | refine blk_alloc ?_ _)); refine blk_far ?_ NB154_160.out _; (with_reducible repeat (first | refine blk_drewN ?_ _ | refine blk_drew ?_ | refine blk_alloc ?_ _)); refine blk_far ?_ NB154_160.out _; (with_reducible repeat (first | refine blk_drewN ?_ _ | refine blk_drew ?_ | refine blk_alloc ?_ _)); refine blk_far ?_ NB154_160.out _; (with_reducible repeat (first | refine blk_drewN ?_ _ | refine blk_drew ?_ | refine blk_alloc ?_ _)); exact BK154.out⟩, ⟨by (with_reducible repeat (first | refine blk_drewN ?_ _ | refine blk_drew ?_ | refine blk_alloc ?_ _)); refine blk_far ?_ NB157_160.out _; (with_reducible repeat (first | refine blk_drewN ?_ _ | refine blk_drew ?_ | refine blk_alloc ?_ _)); refine blk_far ?_ NB157_160.out _; (with_reducible repeat (first | refine blk_drewN ?_ _ | refine blk_drew ?_ | refine blk_alloc ?_ _)); refine blk_far ?_ NB157_160.out _; (with_reducible repeat (first | refine blk_drewN ?_ _ | refine blk_drew ?_ | refine blk_alloc ?_ _)); exact BK157.out⟩, ⟨by (with_reducible repeat (first | refine blk_drewN ?_ _ | refine blk_drew ?_ | refine blk_alloc ?_ _)); refine blk_put (cs := #[.int .u8 (bt a0 x4_3), .int .i64 0, .int .i64 0]) ?_ 2 _ rfl; (with_reducible repeat (first | refine blk_drewN ?_ _ | refine blk_drew ?_ | refine blk_alloc ?_ _)); refine blk_put (cs := #[.int .u8 (bt a0 x4_3), .int .i64 0, .int .i64 0]) ?_ 1 _ rfl; (with_reducible repeat (first | refine blk_drewN ?_ _ | refine blk_drew ?_ | refine blk_alloc ?_ _)); refine blk_put (cs := #[.int .u8 0, .int .i64 0, .int .i64 0]) ?_ 0 _ rfl; (with_reducible repeat (first | refine blk_drewN ?_ _ | refine blk_drew ?_ | refine blk_alloc ?_ _)); exact BK160.out⟩, ⟨by repeat (first | (with_reducible first | exact HB.out | apply below_alloc | apply pw_below_drewN | apply below_drew1 | refine below_set ?_ GE154.out | refine below_set ?_ GE157.out | refine below_set ?_ GE160.out) | exact HB.out)⟩⟩
                        case rest =>
                          clear HC30
                          try clear c1
                          try clear c2
                          try clear p2
                          try clear q2
                          try clear hx2
                          try clear c3
                          try clear p3
                          try clear q3
                          try clear hx3
                          try clear c4
                          try clear c4b0
                          try clear c5
                          try clear c5b0
                          try clear p6
                          try clear q6
                          try clear hx6
                          try clear c8
                          try clear c8b0
                          try clear c9
                          try clear c9b0
                          try clear c9b1
                          try clear c10
                          try clear c10b0
                          try clear c10b1
                          try clear c12
                          try clear c12b0
                          try clear c13
                          try clear c13b0
                          try clear c17
                          try clear c19
                          try clear c19b0
                          try clear c20
                          try clear c22
                          try clear c22b0
                          try clear c23
                          try clear c23b0
                          try clear p24
                          try clear q24
                          try clear hx24
                          try clear c26
                          try clear c26b0
                          try clear c27
                          try clear p29
                          try clear q29
                          try clear hx29
                          try clear c32
                          try clear c33
                          try clear c35
                          try clear c35b0
                          try clear c36
                          try clear c37
                          try clear c37b0
                          try clear c38
                          try clear p38
                          try clear q38
                          try clear hx38
                          try clear hcz18_0
                          try clear hcz18_1
                          try clear hcz21_0
                          try clear hcz21_1
                          try clear hcz28_0
                          try clear hcz28_1
                          try clear hcz34_0
                          try clear hcz34_1
                          try clear hcz34_2
                          try clear hfz18_0
                          try clear hfz18_1
                          try clear hfz21_0
                          try clear hfz21_1
                          try clear hfz28_0
                          try clear hfz28_1
                          try clear hfz34_0
                          try clear hfz34_1
                          try clear hfz34_2
                          try clear p2
                          try clear p24
                          try clear p29
                          try clear p38
                          try clear p6
                          try clear q24
                          try clear q29
                          try clear q38
                          try clear q6
                          obtain ⟨kq, x58_29, rfl, HA, HJ29, HO_158001, BK154, BK157, BK160, HB⟩ := hcut
                          cases kq with
                          | zero => exact absurd HA.out (by simp [gaolerref02_one.j4])
                          | succ kj29 =>
                            have H := HA.out
                            clear HA
                            simp only [gaolerref02_one.j4] at H
                            by_cases c40 : x58_29 = true
                            · subst c40
                              have H1 : (if 0 ≤ (wrap64 (x4_3 + 1)) then (if (wrap64 (x4_3 + 1)) < (a0.size : Int) then ((gaolerref02_Place.f kj29 (⟨#[117, 103, 111]⟩ : ByteArray) (bt a0 (wrap64 (x4_3 + 1)))).bind fun t162 => (if x158001_3.length < 5864062014805 then (gaolerref02_one.l1 kj29 a0 (wrap64 ((wrap64 (x4_3 + 1)) + 1)) x158000_14 (x158001_3 ++ [(⟨(bt a0 x4_3), 0, wrap64 (t162 + 1)⟩ : S75)])) else (none))) else (none)) else (none)) = some (r1, r2, r3) := by rw [if_pos rfl] at H; exact H
                              clear H
                              have H := H1
                              clear H1
                              obtain ⟨ji41, hji41⟩ : ∃ j_ : Int, (wrap64 (x4_3 + 1)) = j_ := ⟨_, rfl⟩
                              replace H : (if 0 ≤ (ji41) then (if (ji41) < (a0.size : Int) then ((gaolerref02_Place.f kj29 (⟨#[117, 103, 111]⟩ : ByteArray) (bt a0 (ji41))).bind fun t162 => (if x158001_3.length < 5864062014805 then (gaolerref02_one.l1 kj29 a0 (wrap64 ((ji41) + 1)) x158000_14 (x158001_3 ++ [(⟨(bt a0 x4_3), 0, wrap64 (t162 + 1)⟩ : S75)])) else (none))) else (none)) else (none)) = some (r1, r2, r3) := by first | (rw [hji41] at H; exact H) | (simp only [hji41] at H ⊢; exact H)
                              have hji41w : (IntKind.i64.wrap (x4_3 + 1)) = ji41 := (i64_w _).trans hji41
                              by_cases c42 : 0 ≤ (ji41)
                              · rw [if_pos c42] at H
                                have c42b0 : decide (0 ≤ (ji41)) = true := decide_eq_true c42
                                clear c42
                                by_cases c43 : (ji41) < (a0.size : Int)
                                · rw [if_pos c43] at H
                                  have c43b0 : decide ((ji41) < (a0.size : Int)) = true := decide_eq_true c43
                                  clear c43
                                  replace H := Option.bind_eq_some_iff.mp H
                                  obtain ⟨t162, A450, H⟩ := H
                                  replace H : (if x158001_3.length < 5864062014805 then (gaolerref02_one.l1 kj29 a0 (wrap64 ((ji41) + 1)) x158000_14 (x158001_3 ++ [(⟨(bt a0 x4_3), 0, wrap64 (t162 + 1)⟩ : S75)])) else (none)) = some (r1, r2, r3) := H
                                  have A45 := Aside0.mk A450
                                  clear A450
                                  by_cases c46 : x158001_3.length < 5864062014805
                                  · rw [if_pos c46] at H
                                    have LMc46 := Aside0.mk c46
                                    clear c46
                                    obtain ⟨y163, hy163⟩ : ∃ y_ : List (S75), y_ = (x158001_3 ++ [(⟨(bt a0 x4_3), 0, wrap64 (t162 + 1)⟩ : S75)]) := ⟨_, rfl⟩
                                    replace H : (gaolerref02_one.l1 kj29 a0 (wrap64 ((ji41) + 1)) x158000_14 y163) = some (r1, r2, r3) := by first | (rw [hy163]; with_reducible exact H) | (have H2_ := (Option.bind_some _ _).symm.trans H; rw [hy163]; with_reducible exact H2_) | (have H2_ := (Option.bind_some _ _).symm.trans H; with_reducible exact H2_) | with_reducible exact H | (rw [hy163]; exact H) | exact H
                                    have Ny163 := Aside0.mk hy163
                                    clear hy163
                                    have H' := Aside0.mk H
                                    clear H
                                    have p44 : 0 ≤ ((ji41) : Int) := of_decide_eq_true (by first | (with_reducible assumption) | assumption)
                                    have q44 : (ji41) < (a0.size : Int) := of_decide_eq_true (by first | (with_reducible assumption) | assumption)
                                    have hx44 := bt_at a0 (ji41)
                                    replace p44 := eq_true p44
                                    replace q44 := eq_true q44
                                    go_wp2_with (first | ((with_reducible refine gate_callee (f := 38) rfl ?_); refine goesL_ (some 62) rfl rfl Tryd.func38 (by kernel_rfl) rfl #[.string (⟨#[117, 103, 111]⟩ : ByteArray), .int .u8 (bt a0 (ji41))] rfl (by (try simp only [List.map_toArray, List.map_cons, List.map_nil]); first | done | (simp only [hji41]; rfl) | rfl | (simp only [List.length_drop, List.length_take]; rfl)) ?_; (with_reducible refine (gaolerref02_Place.calls kj29 (⟨#[117, 103, 111]⟩ : ByteArray) (bt a0 (ji41)) t162 _ A45.out).mono ?_); rintro e w' ⟨rfl, ⟨nd, rfl⟩⟩; refine ⟨_, rfl, ?_⟩; (try (rw [drewN_self wc]; generalize hq_ : World.drewN wc _ = wc; have n0_ : Aside0 (Kd.R k75 75 wc w.heap.size (fun k_ => k_ ≠ gb160) u158001 x158001_3) := ⟨by rw [← hq_]; exact (by (with_reducible repeat (first | apply Kd.R_alloc | apply Kd.R_drewN | apply Kd.R_drew)); exact HO_158001.out)⟩; have n1_ : Aside0 (wc.heap[gb154]? = some (.cells #[.int .i64 x155000_3, .slice none 0 0] 72 (0, 0))) := ⟨by rw [← hq_]; exact (by (with_reducible repeat (first | refine blk_drewN ?_ _ | refine blk_drew ?_ | refine blk_alloc ?_ _)); exact BK154.out)⟩; have n2_ : Aside0 (wc.heap[gb157]? = some (.cells #[.int .i64 x158000_14, u158001] 72 (0, 0))) := ⟨by rw [← hq_]; exact (by (with_reducible repeat (first | refine blk_drewN ?_ _ | refine blk_drew ?_ | refine blk_alloc ?_ _)); exact BK157.out)⟩; have n3_ : Aside0 (wc.heap[gb160]? = some (.cells #[.int .u8 (bt a0 x4_3), .int .i64 0, .int .i64 0] 75 (0, 0))) := ⟨by rw [← hq_]; exact (by (with_reducible repeat (first | refine blk_drewN ?_ _ | refine blk_drew ?_ | refine blk_alloc ?_ _)); exact BK160.out)⟩; have n4_ : Aside0 (Below w.heap.size w wc) := ⟨by rw [← hq_]; exact (by repeat (first | (with_reducible first | exact HB.out | apply below_alloc | apply pw_below_drewN | apply below_drew1 | refine below_set ?_ GE154.out | refine below_set ?_ GE157.out | refine below_set ?_ GE160.out) | exact HB.out))⟩; clear HO_158001 BK154 BK157 BK160 HB hq_; have HO_158001 := n0_; have BK154 := n1_; have BK157 := n2_; have BK160 := n3_; have HB := n4_; clear n0_ n1_ n2_ n3_ n4_)); have hnb47 := NB160_154.out; have hnc47 := NB154_160.out; have hnb48 := NB160_157.out; have hnc48 := NB157_160.out; have hcz49_0 : wc.cell? ⟨gb160, 0, none⟩ = some (.int .u8 (bt a0 x4_3)) := (blk_cell BK160.out 0).trans rfl; have hcz49_1 : wc.cell? ⟨gb160, 1, none⟩ = some (.int .i64 0) := (blk_cell BK160.out 1).trans rfl; have hcz49_2 : wc.cell? ⟨gb160, 2, none⟩ = some (.int .i64 0) := (blk_cell BK160.out 2).trans rfl; have hfz49_0 := blk_frozen BK160.out 0; have hfz49_1 := blk_frozen BK160.out 1; have hfz49_2 := blk_frozen BK160.out 2; have hnb50 := NB157_154.out; have hnc50 := NB154_157.out; have hcz51_0 : wc.cell? ⟨gb157, 0, none⟩ = some (.int .i64 x158000_14) := (blk_cell BK157.out 0).trans rfl; have hcz51_1 : wc.cell? ⟨gb157, 1, none⟩ = some (u158001) := (blk_cell BK157.out 1).trans rfl; have hfz51_0 := blk_frozen BK157.out 0; have hfz51_1 := blk_frozen BK157.out 1) | ((with_reducible refine gate_builtin (b := .append) (xs := #[.tmp 88, .tmp 90]) rfl ?_); at_builtin; refine Kd.R_append k75 (w0 := w) w.heap.size rfl (.tmp 88) (.tmp 90) 70 75 (.agg #[(.int .u8 0), (.int .i64 0), (.int .i64 0)]) 24 rfl Tryd.underlying70 info75 rfl (by decide) (by omega) u158001 x158001_3 (⟨(bt a0 x4_3), 0, wrap64 (t162 + 1)⟩ : S75) [.int .u8 (bt a0 x4_3), .int .i64 0, .int .i64 (wrap64 (t162 + 1))] (fun k_ => k_ ≠ gb160) (fun _ => False) rfl (by first | (go_simp; done) | (go_simp; rfl)) ?aP (fun _ hk => hk.elim) ?aF ?aO ?aB ?aS ?aL ?_; (case aP => exact k75_mkM _ _ _ (⟨(bt a0 x4_3), 0, wrap64 (t162 + 1)⟩ : S75)); (case aB => exact (by repeat (first | (with_reducible first | exact HB.out | apply below_alloc | apply pw_below_drewN | apply below_drew1 | refine below_set ?_ GE154.out | refine below_set ?_ GE157.out | refine below_set ?_ GE160.out) | exact HB.out))); (case aF => exact (fun k_ hk => Kd.freshB (g := gb160) (o := .cells #[.int .u8 (bt a0 x4_3), .int .i64 0, .int .i64 (wrap64 (t162 + 1))] 75 (0, 0)) (by (with_reducible repeat (first | refine blk_drewN ?_ _ | refine blk_drew ?_ | refine blk_alloc ?_ _)); refine blk_put (cs := #[.int .u8 (bt a0 x4_3), .int .i64 0, .int .i64 0]) ?_ 2 _ rfl; (with_reducible repeat (first | refine blk_drewN ?_ _ | refine blk_drew ?_ | refine blk_alloc ?_ _)); exact BK160.out) k_ hk)); (case aO => exact (by (with_reducible repeat (first | apply Kd.R_alloc | apply Kd.R_drewN | apply Kd.R_drew)); exact Kd.R_mono (Kd.R_far (p := ⟨gb160, 2, none⟩) (Kd.R_mono HO_158001.out (fun k_ hk => (⟨hk, hk⟩ : _ ∧ k_ ≠ gb160))) (fun _ hk => hk.2) (.int .i64 (wrap64 (t162 + 1)))) (fun _ hk => hk.1))); (case aS => exact (below_size (by repeat (first | (with_reducible first | exact HB.out | apply below_alloc | apply pw_below_drewN | apply below_drew1 | refine below_set ?_ GE154.out | refine below_set ?_ GE157.out | refine below_set ?_ GE160.out) | exact HB.out)))); (case aL => have := LMc46.out; omega); intro v164 w52 ho hb hg hat; rw [← Ny163.out] at ho; have n0_ := Aside0.mk (blk_grown (g := gb154) (o := .cells #[.int .i64 x155000_3, .slice none 0 0] 72 (0, 0)) (by (with_reducible repeat (first | refine blk_drewN ?_ _ | refine blk_drew ?_ | refine blk_alloc ?_ _)); refine blk_far ?_ NB154_160.out _; (with_reducible repeat (first | refine blk_drewN ?_ _ | refine blk_drew ?_ | refine blk_alloc ?_ _)); exact BK154.out) hg (Kd.R_ne HO_158001.out BK154.out (by decide))); have n1_ := Aside0.mk (blk_grown (g := gb157) (o := .cells #[.int .i64 x158000_14, u158001] 72 (0, 0)) (by (with_reducible repeat (first | refine blk_drewN ?_ _ | refine blk_drew ?_ | refine blk_alloc ?_ _)); refine blk_far ?_ NB157_160.out _; (with_reducible repeat (first | refine blk_drewN ?_ _ | refine blk_drew ?_ | refine blk_alloc ?_ _)); exact BK157.out) hg (Kd.R_ne HO_158001.out BK157.out (by decide))); have n2_ := Aside0.mk (blk_grown (g := gb160) (o := .cells #[.int .u8 (bt a0 x4_3), .int .i64 0, .int .i64 (wrap64 (t162 + 1))] 75 (0, 0)) (by (with_reducible repeat (first | refine blk_drewN ?_ _ | refine blk_drew ?_ | refine blk_alloc ?_ _)); refine blk_put (cs := #[.int .u8 (bt a0 x4_3), .int .i64 0, .int .i64 0]) ?_ 2 _ rfl; (with_reducible repeat (first | refine blk_drewN ?_ _ | refine blk_drew ?_ | refine blk_alloc ?_ _)); exact BK160.out) hg (Kd.R_away HO_158001.out (fun _ hk => hk))); have n3_ := Aside0.mk (hb); have n4_ := Aside0.mk (ho); clear BK154; clear BK157; clear BK160; clear HB; clear HO_158001; have BK154 := n0_; have BK157 := n1_; have BK160 := n2_; have HB := n3_; have HO165 := n4_; clear n0_ n1_ n2_ n3_ n4_; clear ho hb hg hat; obtain ⟨Ao53, co53, eo53⟩ := Kd.R_slice HO165.out; subst eo53; have hcz54_0 : w52.cell? ⟨gb157, 0, none⟩ = some (.int .i64 x158000_14) := (blk_cell BK157.out 0).trans rfl; have hcz54_1 : w52.cell? ⟨gb157, 1, none⟩ = some (u158001) := (blk_cell BK157.out 1).trans rfl; have hfz54_0 := blk_frozen BK157.out 0; have hfz54_1 := blk_frozen BK157.out 1))
                                    go_roundg kj29
                                    case measure => have := HJ1.out; have := HJ14.out; have := HK3.out; have := HJ29.out; omega
                                    case rel => exact ⟨(wrap64 ((ji41) + 1)), (x155000_3), (y163), (.slice Ao53 y163.length co53), (by first | rfl | (simp; done) | (simp only [← hji41] <;> (first | rfl | simp)) | (simp [*]; done)), H', ⟨by have := HJ1.out; have := HJ14.out; have := HK3.out; have := HJ29.out; omega⟩, ⟨by (with_reducible repeat (first | apply Kd.R_alloc | apply Kd.R_drewN | apply Kd.R_drew)); exact Kd.R_mono (Kd.R_far (p := ⟨gb157, 1, none⟩) (Kd.R_types HO165.out BK157.out (by decide)) (fun _ hk => hk.2) (.slice Ao53 y163.length co53)) (fun _ hk => trivial)⟩, ⟨by (with_reducible repeat (first | refine blk_drewN ?_ _ | refine blk_drew ?_ | refine blk_alloc ?_ _)); refine blk_far ?_ NB154_157.out _; (with_reducible repeat (first | refine blk_drewN ?_ _ | refine blk_drew ?_ | refine blk_alloc ?_ _)); exact BK154.out⟩, ⟨by (with_reducible repeat (first | refine blk_drewN ?_ _ | refine blk_drew ?_ | refine blk_alloc ?_ _)); refine blk_put (cs := #[.int .i64 x158000_14, u158001]) ?_ 1 _ rfl; (with_reducible repeat (first | refine blk_drewN ?_ _ | refine blk_drew ?_ | refine blk_alloc ?_ _)); exact BK157.out⟩, ⟨by repeat (first | (with_reducible first | exact HB.out | apply below_alloc | apply pw_below_drewN | apply below_drew1 | refine below_set ?_ GE154.out | refine below_set ?_ GE157.out | refine below_set ?_ GE160.out) | exact HB.out)⟩⟩
                                  · rw [if_neg c46] at H
                                    exact absurd H (by simp)
                                · rw [if_neg c43] at H
                                  exact absurd H (by simp)
                              · rw [if_neg c42] at H
                                exact absurd H (by simp)
                            · replace c40 := Bool.eq_false_iff.mpr c40
                              subst c40
                              have H1 : (gaolerref02_one.l2 kj29 a0 (wrap64 (x4_3 + 1)) (wrap64 (x4_3 + 1)) x158000_14 x158001_3 (bt a0 x4_3) 0 0) = some (r1, r2, r3) := by rw [if_neg (show ¬ (false = true) by decide)] at H; exact H
                              clear H
                              have H := H1
                              clear H1
                              have H' := Aside0.mk H
                              clear H
                              go_wp2
                              go_loopg [4] kj29 (fun kq v4 w' => ∃ (x4_5 : Int), v4 = .int .i64 x4_5 ∧ Aside0 (gaolerref02_one.l2 kq a0 x4_5 (wrap64 (x4_3 + 1)) x158000_14 x158001_3 (bt a0 x4_3) 0 0 = some (r1, r2, r3)) ∧ Aside0 (kq ≤ kj29) ∧ Aside0 (Kd.R k75 75 w' w.heap.size (fun k_ => k_ ≠ gb160) u158001 x158001_3) ∧ Aside0 (w'.heap[gb154]? = some (.cells #[.int .i64 x155000_3, (.slice none 0 0)] 72 (0, 0))) ∧ Aside0 (w'.heap[gb157]? = some (.cells #[.int .i64 x158000_14, u158001] 72 (0, 0))) ∧ Aside0 (w'.heap[gb160]? = some (.cells #[.int .u8 (bt a0 x4_3), .int .i64 0, .int .i64 0] 75 (0, 0))) ∧ Aside0 (Below w.heap.size w w'))
                              case atStart => exact ⟨((wrap64 (x4_3 + 1))), (by first | rfl | (simp; done) | (simp [*]; done)), H', ⟨Nat.le_refl _⟩, ⟨by (with_reducible repeat (first | apply Kd.R_alloc | apply Kd.R_drewN | apply Kd.R_drew)); exact HO_158001.out⟩, ⟨by (with_reducible repeat (first | refine blk_drewN ?_ _ | refine blk_drew ?_ | refine blk_alloc ?_ _)); exact BK154.out⟩, ⟨by (with_reducible repeat (first | refine blk_drewN ?_ _ | refine blk_drew ?_ | refine blk_alloc ?_ _)); exact BK157.out⟩, ⟨by (with_reducible repeat (first | refine blk_drewN ?_ _ | refine blk_drew ?_ | refine blk_alloc ?_ _)); exact BK160.out⟩, ⟨by repeat (first | (with_reducible first | exact HB.out | apply below_alloc | apply pw_below_drewN | apply below_drew1 | refine below_set ?_ GE154.out | refine below_set ?_ GE157.out | refine below_set ?_ GE160.out) | exact HB.out)⟩⟩
                              case round =>
                                clear H'
                                try clear c1
                                try clear c2
                                try clear p2
                                try clear q2
                                try clear hx2
                                try clear c3
                                try clear p3
                                try clear q3
                                try clear hx3
                                try clear c4
                                try clear c4b0
                                try clear p4
                                try clear q4
                                try clear hx4
                                try clear c5
                                try clear c5b0
                                try clear p6
                                try clear q6
                                try clear hx6
                                try clear c8
                                try clear c8b0
                                try clear c9
                                try clear c9b0
                                try clear c9b1
                                try clear c10
                                try clear c10b0
                                try clear c10b1
                                try clear c12
                                try clear c12b0
                                try clear c13
                                try clear c13b0
                                try clear c17
                                try clear c19
                                try clear c19b0
                                try clear c20
                                try clear c22
                                try clear c22b0
                                try clear c23
                                try clear c23b0
                                try clear p24
                                try clear q24
                                try clear hx24
                                try clear c26
                                try clear c26b0
                                try clear c27
                                try clear p29
                                try clear q29
                                try clear hx29
                                try clear c32
                                try clear c33
                                try clear c35
                                try clear c35b0
                                try clear c36
                                try clear c37
                                try clear c37b0
                                try clear c38
                                try clear p38
                                try clear q38
                                try clear hx38
                                try clear c40
                                try clear c42
                                try clear c42b0
                                try clear c43
                                try clear c43b0
                                try clear p44
                                try clear q44
                                try clear hx44
                                try clear c46
                                try clear c47
                                try clear c48
                                try clear c50
                                try clear c53
                                try clear hcz18_0
                                try clear hcz18_1
                                try clear hcz21_0
                                try clear hcz21_1
                                try clear hcz28_0
                                try clear hcz28_1
                                try clear hcz34_0
                                try clear hcz34_1
                                try clear hcz34_2
                                try clear hcz49_0
                                try clear hcz49_1
                                try clear hcz49_2
                                try clear hcz51_0
                                try clear hcz51_1
                                try clear hcz54_0
                                try clear hcz54_1
                                try clear hfz18_0
                                try clear hfz18_1
                                try clear hfz21_0
                                try clear hfz21_1
                                try clear hfz28_0
                                try clear hfz28_1
                                try clear hfz34_0
                                try clear hfz34_1
                                try clear hfz34_2
                                try clear hfz49_0
                                try clear hfz49_1
                                try clear hfz49_2
                                try clear hfz51_0
                                try clear hfz51_1
                                try clear hfz54_0
                                try clear hfz54_1
                                try clear p2
                                try clear p24
                                try clear p29
                                try clear p3
                                try clear p38
                                try clear p44
                                try clear p6
                                try clear q2
                                try clear q24
                                try clear q29
                                try clear q3
                                try clear q38
                                try clear q44
                                try clear q6
                                obtain ⟨x4_5, rfl, HA, HK5, HO_158001, BK154, BK157, BK160, HB⟩ := hrel
                                cases gk with
                                | zero => exact absurd HA.out (by simp [gaolerref02_one.l2])
                                | succ k5 =>
                                  have H := HA.out
                                  clear HA
                                  simp only [gaolerref02_one.l2] at H
                                  by_cases c55 : x4_5 < (a0.size : Int)
                                  · rw [if_pos c55] at H
                                    have c55b0 : decide (x4_5 < (a0.size : Int)) = true := decide_eq_true c55
                                    clear c55
                                    by_cases c56 : 0 ≤ x4_5
                                    · rw [if_pos c56] at H
                                      have c56b0 : decide (0 ≤ x4_5) = true := decide_eq_true c56
                                      clear c56
                                      replace H := Option.bind_eq_some_iff.mp H
                                      obtain ⟨t166, A580, H⟩ := H
                                      replace H : (if t166 ≥ 0 then (gaolerref02_one.l2 k5 a0 (wrap64 (x4_5 + 1)) (wrap64 (x4_3 + 1)) x158000_14 x158001_3 (bt a0 x4_3) 0 0) else (if 0 ≤ (wrap64 (x4_3 + 1)) then (if (wrap64 (x4_3 + 1)) ≤ x4_5 then (if x4_5 ≤ (a0.size : Int) then ((gaolerref02_sum.f k5 (a0.extract ((wrap64 (x4_3 + 1)) : Int).toNat (x4_5 : Int).toNat) (⟨#[120, 119, 114, 88, 115, 116]⟩ : ByteArray)).bind fun t167 => (if x158001_3.length < 5864062014805 then (gaolerref02_one.l1 k5 a0 x4_5 x158000_14 (x158001_3 ++ [(⟨(bt a0 x4_3), t167, 0⟩ : S75)])) else (none))) else (none)) else (none)) else (none))) = some (r1, r2, r3) := H
                                      have A58 := Aside0.mk A580
                                      clear A580
                                      by_cases c59 : t166 ≥ 0
                                      · rw [if_pos c59] at H
                                        have c59b0 : decide (0 ≤ t166) = true := decide_eq_true c59
                                        clear c59
                                        have H' := Aside0.mk H
                                        clear H
                                        have p57 : 0 ≤ (x4_5 : Int) := of_decide_eq_true (by first | (with_reducible assumption) | assumption)
                                        have q57 : x4_5 < (a0.size : Int) := of_decide_eq_true (by first | (with_reducible assumption) | assumption)
                                        have hx57 := bt_at a0 x4_5
                                        replace p57 := eq_true p57
                                        replace q57 := eq_true q57
                                        go_wp2_with (first | (go_at_call 38; (with_reducible refine (gaolerref02_Place.calls k5 (⟨#[120, 119, 114, 88, 115, 116]⟩ : ByteArray) (bt a0 x4_5) t166 _ A58.out).mono ?_); rintro e w' ⟨rfl, ⟨nd, rfl⟩⟩))
                                        go_roundg k5
                                        case measure => have := HJ1.out; have := HJ14.out; have := HK3.out; have := HJ29.out; have := HK5.out; omega
                                        case rel => exact ⟨(wrap64 (x4_5 + 1)), (by first | rfl | (simp; done) | (simp [*]; done)), H', ⟨by have := HJ1.out; have := HJ14.out; have := HK3.out; have := HJ29.out; have := HK5.out; omega⟩, ⟨by (with_reducible repeat (first | apply Kd.R_alloc | apply Kd.R_drewN | apply Kd.R_drew)); exact HO_158001.out⟩, ⟨by (with_reducible repeat (first | refine blk_drewN ?_ _ | refine blk_drew ?_ | refine blk_alloc ?_ _)); exact BK154.out⟩, ⟨by (with_reducible repeat (first | refine blk_drewN ?_ _ | refine blk_drew ?_ | refine blk_alloc ?_ _)); exact BK157.out⟩, ⟨by (with_reducible repeat (first | refine blk_drewN ?_ _ | refine blk_drew ?_ | refine blk_alloc ?_ _)); exact BK160.out⟩, ⟨by repeat (first | (with_reducible first | exact HB.out | apply below_alloc | apply pw_below_drewN | apply below_drew1 | refine below_set ?_ GE154.out | refine below_set ?_ GE157.out | refine below_set ?_ GE160.out) | exact HB.out)⟩⟩
                                      · rw [if_neg c59] at H
                                        have c59b0 : decide (0 ≤ t166) = false := decide_eq_false c59
                                        clear c59
                                        obtain ⟨ji60, hji60⟩ : ∃ j_ : Int, (wrap64 (x4_3 + 1)) = j_ := ⟨_, rfl⟩
                                        replace H : (if 0 ≤ (ji60) then (if (ji60) ≤ x4_5 then (if x4_5 ≤ (a0.size : Int) then ((gaolerref02_sum.f k5 (a0.extract ((ji60) : Int).toNat (x4_5 : Int).toNat) (⟨#[120, 119, 114, 88, 115, 116]⟩ : ByteArray)).bind fun t167 => (if x158001_3.length < 5864062014805 then (gaolerref02_one.l1 k5 a0 x4_5 x158000_14 (x158001_3 ++ [(⟨(bt a0 x4_3), t167, 0⟩ : S75)])) else (none))) else (none)) else (none)) else (none)) = some (r1, r2, r3) := by first | (rw [hji60] at H; exact H) | (simp only [hji60] at H ⊢; exact H)
                                        (try rw [hji60] at A58)
                                        have hji60w : (IntKind.i64.wrap (x4_3 + 1)) = ji60 := (i64_w _).trans hji60
                                        by_cases c61 : 0 ≤ (ji60)
                                        · rw [if_pos c61] at H
                                          have c61b0 := eq_true c61
                                          have c61b1 : decide (0 ≤ (ji60)) = true := decide_eq_true c61
                                          clear c61
                                          by_cases c62 : (ji60) ≤ x4_5
                                          · rw [if_pos c62] at H
                                            have c62b0 := eq_true c62
                                            have c62b1 : decide ((ji60) ≤ x4_5) = true := decide_eq_true c62
                                            clear c62
                                            by_cases c63 : x4_5 ≤ (a0.size : Int)
                                            · rw [if_pos c63] at H
                                              have c63b0 := eq_true c63
                                              have c63b1 : decide (x4_5 ≤ (a0.size : Int)) = true := decide_eq_true c63
                                              clear c63
                                              replace H := Option.bind_eq_some_iff.mp H
                                              obtain ⟨t167, A640, H⟩ := H
                                              replace H : (if x158001_3.length < 5864062014805 then (gaolerref02_one.l1 k5 a0 x4_5 x158000_14 (x158001_3 ++ [(⟨(bt a0 x4_3), t167, 0⟩ : S75)])) else (none)) = some (r1, r2, r3) := H
                                              have A64 := Aside0.mk A640
                                              clear A640
                                              by_cases c65 : x158001_3.length < 5864062014805
                                              · rw [if_pos c65] at H
                                                have LMc65 := Aside0.mk c65
                                                clear c65
                                                obtain ⟨y168, hy168⟩ : ∃ y_ : List (S75), y_ = (x158001_3 ++ [(⟨(bt a0 x4_3), t167, 0⟩ : S75)]) := ⟨_, rfl⟩
                                                replace H : (gaolerref02_one.l1 k5 a0 x4_5 x158000_14 y168) = some (r1, r2, r3) := by first | (rw [hy168]; with_reducible exact H) | (have H2_ := (Option.bind_some _ _).symm.trans H; rw [hy168]; with_reducible exact H2_) | (have H2_ := (Option.bind_some _ _).symm.trans H; with_reducible exact H2_) | with_reducible exact H | (rw [hy168]; exact H) | exact H
                                                have Ny168 := Aside0.mk hy168
                                                clear hy168
                                                have H' := Aside0.mk H
                                                clear H
                                                have p57 : 0 ≤ (x4_5 : Int) := of_decide_eq_true (by first | (with_reducible assumption) | assumption)
                                                have q57 : x4_5 < (a0.size : Int) := of_decide_eq_true (by first | (with_reducible assumption) | assumption)
                                                have hx57 := bt_at a0 x4_5
                                                replace p57 := eq_true p57
                                                replace q57 := eq_true q57
                                                go_wp2_with (first | (go_at_call 38; (with_reducible refine (gaolerref02_Place.calls k5 (⟨#[120, 119, 114, 88, 115, 116]⟩ : ByteArray) (bt a0 x4_5) t166 _ A58.out).mono ?_); rintro e w' ⟨rfl, ⟨nd, rfl⟩⟩; (try (rw [drewN_self wr]; generalize hq_ : World.drewN wr _ = wr; have n0_ : Aside0 (Kd.R k75 75 wr w.heap.size (fun k_ => k_ ≠ gb160) u158001 x158001_3) := ⟨by rw [← hq_]; exact (by (with_reducible repeat (first | apply Kd.R_alloc | apply Kd.R_drewN | apply Kd.R_drew)); exact HO_158001.out)⟩; have n1_ : Aside0 (wr.heap[gb154]? = some (.cells #[.int .i64 x155000_3, .slice none 0 0] 72 (0, 0))) := ⟨by rw [← hq_]; exact (by (with_reducible repeat (first | refine blk_drewN ?_ _ | refine blk_drew ?_ | refine blk_alloc ?_ _)); exact BK154.out)⟩; have n2_ : Aside0 (wr.heap[gb157]? = some (.cells #[.int .i64 x158000_14, u158001] 72 (0, 0))) := ⟨by rw [← hq_]; exact (by (with_reducible repeat (first | refine blk_drewN ?_ _ | refine blk_drew ?_ | refine blk_alloc ?_ _)); exact BK157.out)⟩; have n3_ : Aside0 (wr.heap[gb160]? = some (.cells #[.int .u8 (bt a0 x4_3), .int .i64 0, .int .i64 0] 75 (0, 0))) := ⟨by rw [← hq_]; exact (by (with_reducible repeat (first | refine blk_drewN ?_ _ | refine blk_drew ?_ | refine blk_alloc ?_ _)); exact BK160.out)⟩; have n4_ : Aside0 (Below w.heap.size w wr) := ⟨by rw [← hq_]; exact (by repeat (first | (with_reducible first | exact HB.out | apply below_alloc | apply pw_below_drewN | apply below_drew1 | refine below_set ?_ GE154.out | refine below_set ?_ GE157.out | refine below_set ?_ GE160.out) | exact HB.out))⟩; clear HO_158001 BK154 BK157 BK160 HB hq_; have HO_158001 := n0_; have BK154 := n1_; have BK157 := n2_; have BK160 := n3_; have HB := n4_; clear n0_ n1_ n2_ n3_ n4_))) | ((with_reducible refine gate_callee (f := 53) rfl ?_); refine goesL_ (some 85) rfl rfl Tryd.func53 (by kernel_rfl) rfl #[.string (a0.extract ((ji60) : Int).toNat (x4_5 : Int).toNat), .string (⟨#[120, 119, 114, 88, 115, 116]⟩ : ByteArray)] rfl (by (try simp only [List.map_toArray, List.map_cons, List.map_nil]); first | done | (simp only [hji60]; rfl) | rfl | (simp only [List.length_drop, List.length_take]; rfl)) ?_; (with_reducible refine (gaolerref02_sum.calls k5 (a0.extract ((ji60) : Int).toNat (x4_5 : Int).toNat) (⟨#[120, 119, 114, 88, 115, 116]⟩ : ByteArray) t167 _ A64.out).mono ?_); rintro e w' ⟨rfl, ⟨nd, rfl⟩⟩; refine ⟨_, rfl, ?_⟩; (try (rw [drewN_self wr]; generalize hq_ : World.drewN wr _ = wr; have n0_ : Aside0 (Kd.R k75 75 wr w.heap.size (fun k_ => k_ ≠ gb160) u158001 x158001_3) := ⟨by rw [← hq_]; exact (by (with_reducible repeat (first | apply Kd.R_alloc | apply Kd.R_drewN | apply Kd.R_drew)); exact HO_158001.out)⟩; have n1_ : Aside0 (wr.heap[gb154]? = some (.cells #[.int .i64 x155000_3, .slice none 0 0] 72 (0, 0))) := ⟨by rw [← hq_]; exact (by (with_reducible repeat (first | refine blk_drewN ?_ _ | refine blk_drew ?_ | refine blk_alloc ?_ _)); exact BK154.out)⟩; have n2_ : Aside0 (wr.heap[gb157]? = some (.cells #[.int .i64 x158000_14, u158001] 72 (0, 0))) := ⟨by rw [← hq_]; exact (by (with_reducible repeat (first | refine blk_drewN ?_ _ | refine blk_drew ?_ | refine blk_alloc ?_ _)); exact BK157.out)⟩; have n3_ : Aside0 (wr.heap[gb160]? = some (.cells #[.int .u8 (bt a0 x4_3), .int .i64 0, .int .i64 0] 75 (0, 0))) := ⟨by rw [← hq_]; exact (by (with_reducible repeat (first | refine blk_drewN ?_ _ | refine blk_drew ?_ | refine blk_alloc ?_ _)); exact BK160.out)⟩; have n4_ : Aside0 (Below w.heap.size w wr) := ⟨by rw [← hq_]; exact (by repeat (first | (with_reducible first | exact HB.out | apply below_alloc | apply pw_below_drewN | apply below_drew1 | refine below_set ?_ GE154.out | refine below_set ?_ GE157.out | refine below_set ?_ GE160.out) | exact HB.out))⟩; clear HO_158001 BK154 BK157 BK160 HB hq_; have HO_158001 := n0_; have BK154 := n1_; have BK157 := n2_; have BK160 := n3_; have HB := n4_; clear n0_ n1_ n2_ n3_ n4_)); have hnb66 := NB160_154.out; have hnc66 := NB154_160.out; have hnb67 := NB160_157.out; have hnc67 := NB157_160.out; have hcz68_0 : wr.cell? ⟨gb160, 0, none⟩ = some (.int .u8 (bt a0 x4_3)) := (blk_cell BK160.out 0).trans rfl; have hcz68_1 : wr.cell? ⟨gb160, 1, none⟩ = some (.int .i64 0) := (blk_cell BK160.out 1).trans rfl; have hcz68_2 : wr.cell? ⟨gb160, 2, none⟩ = some (.int .i64 0) := (blk_cell BK160.out 2).trans rfl; have hfz68_0 := blk_frozen BK160.out 0; have hfz68_1 := blk_frozen BK160.out 1; have hfz68_2 := blk_frozen BK160.out 2; have hnb69 := NB157_154.out; have hnc69 := NB154_157.out; have hcz70_0 : wr.cell? ⟨gb157, 0, none⟩ = some (.int .i64 x158000_14) := (blk_cell BK157.out 0).trans rfl; have hcz70_1 : wr.cell? ⟨gb157, 1, none⟩ = some (u158001) := (blk_cell BK157.out 1).trans rfl; have hfz70_0 := blk_frozen BK157.out 0; have hfz70_1 := blk_frozen BK157.out 1) | ((with_reducible refine gate_builtin (b := .append) (xs := #[.tmp 88, .tmp 90]) rfl ?_); at_builtin; refine Kd.R_append k75 (w0 := w) w.heap.size rfl (.tmp 88) (.tmp 90) 70 75 (.agg #[(.int .u8 0), (.int .i64 0), (.int .i64 0)]) 24 rfl Tryd.underlying70 info75 rfl (by decide) (by omega) u158001 x158001_3 (⟨(bt a0 x4_3), t167, 0⟩ : S75) [.int .u8 (bt a0 x4_3), .int .i64 t167, .int .i64 0] (fun k_ => k_ ≠ gb160) (fun _ => False) rfl (by first | (go_simp; done) | (go_simp; rfl)) ?aP (fun _ hk => hk.elim) ?aF ?aO ?aB ?aS ?aL ?_; (case aP => exact k75_mkM _ _ _ (⟨(bt a0 x4_3), t167, 0⟩ : S75)); (case aB => exact (by repeat (first | (with_reducible first | exact HB.out | apply below_alloc | apply pw_below_drewN | apply below_drew1 | refine below_set ?_ GE154.out | refine below_set ?_ GE157.out | refine below_set ?_ GE160.out) | exact HB.out))); (case aF => exact (fun k_ hk => Kd.freshB (g := gb160) (o := .cells #[.int .u8 (bt a0 x4_3), .int .i64 t167, .int .i64 0] 75 (0, 0)) (by (with_reducible repeat (first | refine blk_drewN ?_ _ | refine blk_drew ?_ | refine blk_alloc ?_ _)); refine blk_put (cs := #[.int .u8 (bt a0 x4_3), .int .i64 0, .int .i64 0]) ?_ 1 _ rfl; (with_reducible repeat (first | refine blk_drewN ?_ _ | refine blk_drew ?_ | refine blk_alloc ?_ _)); exact BK160.out) k_ hk)); (case aO => exact (by (with_reducible repeat (first | apply Kd.R_alloc | apply Kd.R_drewN | apply Kd.R_drew)); exact Kd.R_mono (Kd.R_far (p := ⟨gb160, 1, none⟩) (Kd.R_mono HO_158001.out (fun k_ hk => (⟨hk, hk⟩ : _ ∧ k_ ≠ gb160))) (fun _ hk => hk.2) (.int .i64 t167)) (fun _ hk => hk.1))); (case aS => exact (below_size (by repeat (first | (with_reducible first | exact HB.out | apply below_alloc | apply pw_below_drewN | apply below_drew1 | refine below_set ?_ GE154.out | refine below_set ?_ GE157.out | refine below_set ?_ GE160.out) | exact HB.out)))); (case aL => have := LMc65.out; omega); intro v169 w71 ho hb hg hat; rw [← Ny168.out] at ho; have n0_ := Aside0.mk (blk_grown (g := gb154) (o := .cells #[.int .i64 x155000_3, .slice none 0 0] 72 (0, 0)) (by (with_reducible repeat (first | refine blk_drewN ?_ _ | refine blk_drew ?_ | refine blk_alloc ?_ _)); refine blk_far ?_ NB154_160.out _; (with_reducible repeat (first | refine blk_drewN ?_ _ | refine blk_drew ?_ | refine blk_alloc ?_ _)); exact BK154.out) hg (Kd.R_ne HO_158001.out BK154.out (by decide))); have n1_ := Aside0.mk (blk_grown (g := gb157) (o := .cells #[.int .i64 x158000_14, u158001] 72 (0, 0)) (by (with_reducible repeat (first | refine blk_drewN ?_ _ | refine blk_drew ?_ | refine blk_alloc ?_ _)); refine blk_far ?_ NB157_160.out _; (with_reducible repeat (first | refine blk_drewN ?_ _ | refine blk_drew ?_ | refine blk_alloc ?_ _)); exact BK157.out) hg (Kd.R_ne HO_158001.out BK157.out (by decide))); have n2_ := Aside0.mk (blk_grown (g := gb160) (o := .cells #[.int .u8 (bt a0 x4_3), .int .i64 t167, .int .i64 0] 75 (0, 0)) (by (with_reducible repeat (first | refine blk_drewN ?_ _ | refine blk_drew ?_ | refine blk_alloc ?_ _)); refine blk_put (cs := #[.int .u8 (bt a0 x4_3), .int .i64 0, .int .i64 0]) ?_ 1 _ rfl; (with_reducible repeat (first | refine blk_drewN ?_ _ | refine blk_drew ?_ | refine blk_alloc ?_ _)); exact BK160.out) hg (Kd.R_away HO_158001.out (fun _ hk => hk))); have n3_ := Aside0.mk (hb); have n4_ := Aside0.mk (ho); clear BK154; clear BK157; clear BK160; clear HB; clear HO_158001; have BK154 := n0_; have BK157 := n1_; have BK160 := n2_; have HB := n3_; have HO170 := n4_; clear n0_ n1_ n2_ n3_ n4_; clear ho hb hg hat; obtain ⟨Ao72, co72, eo72⟩ := Kd.R_slice HO170.out; subst eo72; have hcz73_0 : w71.cell? ⟨gb157, 0, none⟩ = some (.int .i64 x158000_14) := (blk_cell BK157.out 0).trans rfl; have hcz73_1 : w71.cell? ⟨gb157, 1, none⟩ = some (u158001) := (blk_cell BK157.out 1).trans rfl; have hfz73_0 := blk_frozen BK157.out 0; have hfz73_1 := blk_frozen BK157.out 1))
                                                go_roundg k5
                                                case measure => have := HJ1.out; have := HJ14.out; have := HK3.out; have := HJ29.out; have := HK5.out; omega
                                                case rel => exact ⟨(x4_5), (x155000_3), (y168), (.slice Ao72 y168.length co72), (by first | rfl | (simp; done) | (simp [*]; done)), H', ⟨by have := HJ1.out; have := HJ14.out; have := HK3.out; have := HJ29.out; have := HK5.out; omega⟩, ⟨by (with_reducible repeat (first | apply Kd.R_alloc | apply Kd.R_drewN | apply Kd.R_drew)); exact Kd.R_mono (Kd.R_far (p := ⟨gb157, 1, none⟩) (Kd.R_types HO170.out BK157.out (by decide)) (fun _ hk => hk.2) (.slice Ao72 y168.length co72)) (fun _ hk => trivial)⟩, ⟨by (with_reducible repeat (first | refine blk_drewN ?_ _ | refine blk_drew ?_ | refine blk_alloc ?_ _)); refine blk_far ?_ NB154_157.out _; (with_reducible repeat (first | refine blk_drewN ?_ _ | refine blk_drew ?_ | refine blk_alloc ?_ _)); exact BK154.out⟩, ⟨by (with_reducible repeat (first | refine blk_drewN ?_ _ | refine blk_drew ?_ | refine blk_alloc ?_ _)); refine blk_put (cs := #[.int .i64 x158000_14, u158001]) ?_ 1 _ rfl; (with_reducible repeat (first | refine blk_drewN ?_ _ | refine blk_drew ?_ | refine blk_alloc ?_ _)); exact BK157.out⟩, ⟨by repeat (first | (with_reducible first | exact HB.out | apply below_alloc | apply pw_below_drewN | apply below_drew1 | refine below_set ?_ GE154.out | refine below_set ?_ GE157.out | refine below_set ?_ GE160.out) | exact HB.out)⟩⟩
                                              · rw [if_neg c65] at H
                                                exact absurd H (by simp)
                                            · rw [if_neg c63] at H
                                              exact absurd H (by simp)
                                          · rw [if_neg c62] at H
                                            exact absurd H (by simp)
                                        · rw [if_neg c61] at H
                                          exact absurd H (by simp)
                                    · rw [if_neg c56] at H
                                      exact absurd H (by simp)
                                  · rw [if_neg c55] at H
                                    have c55b0 : decide (x4_5 < (a0.size : Int)) = false := decide_eq_false c55
                                    clear c55
                                    obtain ⟨ji74, hji74⟩ : ∃ j_ : Int, (wrap64 (x4_3 + 1)) = j_ := ⟨_, rfl⟩
                                    replace H : (if 0 ≤ (ji74) then (if (ji74) ≤ x4_5 then (if x4_5 ≤ (a0.size : Int) then ((gaolerref02_sum.f k5 (a0.extract ((ji74) : Int).toNat (x4_5 : Int).toNat) (⟨#[120, 119, 114, 88, 115, 116]⟩ : ByteArray)).bind fun t171 => (if x158001_3.length < 5864062014805 then (gaolerref02_one.l1 k5 a0 x4_5 x158000_14 (x158001_3 ++ [(⟨(bt a0 x4_3), t171, 0⟩ : S75)])) else (none))) else (none)) else (none)) else (none)) = some (r1, r2, r3) := by first | (rw [hji74] at H; exact H) | (simp only [hji74] at H ⊢; exact H)
                                    have hji74w : (IntKind.i64.wrap (x4_3 + 1)) = ji74 := (i64_w _).trans hji74
                                    by_cases c75 : 0 ≤ (ji74)
                                    · rw [if_pos c75] at H
                                      have c75b0 := eq_true c75
                                      have c75b1 : decide (0 ≤ (ji74)) = true := decide_eq_true c75
                                      clear c75
                                      by_cases c76 : (ji74) ≤ x4_5
                                      · rw [if_pos c76] at H
                                        have c76b0 := eq_true c76
                                        have c76b1 : decide ((ji74) ≤ x4_5) = true := decide_eq_true c76
                                        clear c76
                                        by_cases c77 : x4_5 ≤ (a0.size : Int)
                                        · rw [if_pos c77] at H
                                          have c77b0 := eq_true c77
                                          have c77b1 : decide (x4_5 ≤ (a0.size : Int)) = true := decide_eq_true c77
                                          clear c77
                                          replace H := Option.bind_eq_some_iff.mp H
                                          obtain ⟨t171, A780, H⟩ := H
                                          replace H : (if x158001_3.length < 5864062014805 then (gaolerref02_one.l1 k5 a0 x4_5 x158000_14 (x158001_3 ++ [(⟨(bt a0 x4_3), t171, 0⟩ : S75)])) else (none)) = some (r1, r2, r3) := H
                                          have A78 := Aside0.mk A780
                                          clear A780
                                          by_cases c79 : x158001_3.length < 5864062014805
                                          · rw [if_pos c79] at H
                                            have LMc79 := Aside0.mk c79
                                            clear c79
                                            obtain ⟨y172, hy172⟩ : ∃ y_ : List (S75), y_ = (x158001_3 ++ [(⟨(bt a0 x4_3), t171, 0⟩ : S75)]) := ⟨_, rfl⟩
                                            replace H : (gaolerref02_one.l1 k5 a0 x4_5 x158000_14 y172) = some (r1, r2, r3) := by first | (rw [hy172]; with_reducible exact H) | (have H2_ := (Option.bind_some _ _).symm.trans H; rw [hy172]; with_reducible exact H2_) | (have H2_ := (Option.bind_some _ _).symm.trans H; with_reducible exact H2_) | with_reducible exact H | (rw [hy172]; exact H) | exact H
                                            have Ny172 := Aside0.mk hy172
                                            clear hy172
                                            have H' := Aside0.mk H
                                            clear H
                                            go_wp2_with (first | ((with_reducible refine gate_callee (f := 53) rfl ?_); refine goesL_ (some 85) rfl rfl Tryd.func53 (by kernel_rfl) rfl #[.string (a0.extract ((ji74) : Int).toNat (x4_5 : Int).toNat), .string (⟨#[120, 119, 114, 88, 115, 116]⟩ : ByteArray)] rfl (by (try simp only [List.map_toArray, List.map_cons, List.map_nil]); first | done | (simp only [hji74]; rfl) | rfl | (simp only [List.length_drop, List.length_take]; rfl)) ?_; (with_reducible refine (gaolerref02_sum.calls k5 (a0.extract ((ji74) : Int).toNat (x4_5 : Int).toNat) (⟨#[120, 119, 114, 88, 115, 116]⟩ : ByteArray) t171 _ A78.out).mono ?_); rintro e w' ⟨rfl, ⟨nd, rfl⟩⟩; refine ⟨_, rfl, ?_⟩; (try (rw [drewN_self wr]; generalize hq_ : World.drewN wr _ = wr; have n0_ : Aside0 (Kd.R k75 75 wr w.heap.size (fun k_ => k_ ≠ gb160) u158001 x158001_3) := ⟨by rw [← hq_]; exact (by (with_reducible repeat (first | apply Kd.R_alloc | apply Kd.R_drewN | apply Kd.R_drew)); exact HO_158001.out)⟩; have n1_ : Aside0 (wr.heap[gb154]? = some (.cells #[.int .i64 x155000_3, .slice none 0 0] 72 (0, 0))) := ⟨by rw [← hq_]; exact (by (with_reducible repeat (first | refine blk_drewN ?_ _ | refine blk_drew ?_ | refine blk_alloc ?_ _)); exact BK154.out)⟩; have n2_ : Aside0 (wr.heap[gb157]? = some (.cells #[.int .i64 x158000_14, u158001] 72 (0, 0))) := ⟨by rw [← hq_]; exact (by (with_reducible repeat (first | refine blk_drewN ?_ _ | refine blk_drew ?_ | refine blk_alloc ?_ _)); exact BK157.out)⟩; have n3_ : Aside0 (wr.heap[gb160]? = some (.cells #[.int .u8 (bt a0 x4_3), .int .i64 0, .int .i64 0] 75 (0, 0))) := ⟨by rw [← hq_]; exact (by (with_reducible repeat (first | refine blk_drewN ?_ _ | refine blk_drew ?_ | refine blk_alloc ?_ _)); exact BK160.out)⟩; have n4_ : Aside0 (Below w.heap.size w wr) := ⟨by rw [← hq_]; exact (by repeat (first | (with_reducible first | exact HB.out | apply below_alloc | apply pw_below_drewN | apply below_drew1 | refine below_set ?_ GE154.out | refine below_set ?_ GE157.out | refine below_set ?_ GE160.out) | exact HB.out))⟩; clear HO_158001 BK154 BK157 BK160 HB hq_; have HO_158001 := n0_; have BK154 := n1_; have BK157 := n2_; have BK160 := n3_; have HB := n4_; clear n0_ n1_ n2_ n3_ n4_)); have hnb80 := NB160_154.out; have hnc80 := NB154_160.out; have hnb81 := NB160_157.out; have hnc81 := NB157_160.out; have hcz82_0 : wr.cell? ⟨gb160, 0, none⟩ = some (.int .u8 (bt a0 x4_3)) := (blk_cell BK160.out 0).trans rfl; have hcz82_1 : wr.cell? ⟨gb160, 1, none⟩ = some (.int .i64 0) := (blk_cell BK160.out 1).trans rfl; have hcz82_2 : wr.cell? ⟨gb160, 2, none⟩ = some (.int .i64 0) := (blk_cell BK160.out 2).trans rfl; have hfz82_0 := blk_frozen BK160.out 0; have hfz82_1 := blk_frozen BK160.out 1; have hfz82_2 := blk_frozen BK160.out 2; have hnb83 := NB157_154.out; have hnc83 := NB154_157.out; have hcz84_0 : wr.cell? ⟨gb157, 0, none⟩ = some (.int .i64 x158000_14) := (blk_cell BK157.out 0).trans rfl; have hcz84_1 : wr.cell? ⟨gb157, 1, none⟩ = some (u158001) := (blk_cell BK157.out 1).trans rfl; have hfz84_0 := blk_frozen BK157.out 0; have hfz84_1 := blk_frozen BK157.out 1) | ((with_reducible refine gate_builtin (b := .append) (xs := #[.tmp 88, .tmp 90]) rfl ?_); at_builtin; refine Kd.R_append k75 (w0 := w) w.heap.size rfl (.tmp 88) (.tmp 90) 70 75 (.agg #[(.int .u8 0), (.int .i64 0), (.int .i64 0)]) 24 rfl Tryd.underlying70 info75 rfl (by decide) (by omega) u158001 x158001_3 (⟨(bt a0 x4_3), t171, 0⟩ : S75) [.int .u8 (bt a0 x4_3), .int .i64 t171, .int .i64 0] (fun k_ => k_ ≠ gb160) (fun _ => False) rfl (by first | (go_simp; done) | (go_simp; rfl)) ?aP (fun _ hk => hk.elim) ?aF ?aO ?aB ?aS ?aL ?_; (case aP => exact k75_mkM _ _ _ (⟨(bt a0 x4_3), t171, 0⟩ : S75)); (case aB => exact (by repeat (first | (with_reducible first | exact HB.out | apply below_alloc | apply pw_below_drewN | apply below_drew1 | refine below_set ?_ GE154.out | refine below_set ?_ GE157.out | refine below_set ?_ GE160.out) | exact HB.out))); (case aF => exact (fun k_ hk => Kd.freshB (g := gb160) (o := .cells #[.int .u8 (bt a0 x4_3), .int .i64 t171, .int .i64 0] 75 (0, 0)) (by (with_reducible repeat (first | refine blk_drewN ?_ _ | refine blk_drew ?_ | refine blk_alloc ?_ _)); refine blk_put (cs := #[.int .u8 (bt a0 x4_3), .int .i64 0, .int .i64 0]) ?_ 1 _ rfl; (with_reducible repeat (first | refine blk_drewN ?_ _ | refine blk_drew ?_ | refine blk_alloc ?_ _)); exact BK160.out) k_ hk)); (case aO => exact (by (with_reducible repeat (first | apply Kd.R_alloc | apply Kd.R_drewN | apply Kd.R_drew)); exact Kd.R_mono (Kd.R_far (p := ⟨gb160, 1, none⟩) (Kd.R_mono HO_158001.out (fun k_ hk => (⟨hk, hk⟩ : _ ∧ k_ ≠ gb160))) (fun _ hk => hk.2) (.int .i64 t171)) (fun _ hk => hk.1))); (case aS => exact (below_size (by repeat (first | (with_reducible first | exact HB.out | apply below_alloc | apply pw_below_drewN | apply below_drew1 | refine below_set ?_ GE154.out | refine below_set ?_ GE157.out | refine below_set ?_ GE160.out) | exact HB.out)))); (case aL => have := LMc79.out; omega); intro v173 w85 ho hb hg hat; rw [← Ny172.out] at ho; have n0_ := Aside0.mk (blk_grown (g := gb154) (o := .cells #[.int .i64 x155000_3, .slice none 0 0] 72 (0, 0)) (by (with_reducible repeat (first | refine blk_drewN ?_ _ | refine blk_drew ?_ | refine blk_alloc ?_ _)); refine blk_far ?_ NB154_160.out _; (with_reducible repeat (first | refine blk_drewN ?_ _ | refine blk_drew ?_ | refine blk_alloc ?_ _)); exact BK154.out) hg (Kd.R_ne HO_158001.out BK154.out (by decide))); have n1_ := Aside0.mk (blk_grown (g := gb157) (o := .cells #[.int .i64 x158000_14, u158001] 72 (0, 0)) (by (with_reducible repeat (first | refine blk_drewN ?_ _ | refine blk_drew ?_ | refine blk_alloc ?_ _)); refine blk_far ?_ NB157_160.out _; (with_reducible repeat (first | refine blk_drewN ?_ _ | refine blk_drew ?_ | refine blk_alloc ?_ _)); exact BK157.out) hg (Kd.R_ne HO_158001.out BK157.out (by decide))); have n2_ := Aside0.mk (blk_grown (g := gb160) (o := .cells #[.int .u8 (bt a0 x4_3), .int .i64 t171, .int .i64 0] 75 (0, 0)) (by (with_reducible repeat (first | refine blk_drewN ?_ _ | refine blk_drew ?_ | refine blk_alloc ?_ _)); refine blk_put (cs := #[.int .u8 (bt a0 x4_3), .int .i64 0, .int .i64 0]) ?_ 1 _ rfl; (with_reducible repeat (first | refine blk_drewN ?_ _ | refine blk_drew ?_ | refine blk_alloc ?_ _)); exact BK160.out) hg (Kd.R_away HO_158001.out (fun _ hk => hk))); have n3_ := Aside0.mk (hb); have n4_ := Aside0.mk (ho); clear BK154; clear BK157; clear BK160; clear HB; clear HO_158001; have BK154 := n0_; have BK157 := n1_; have BK160 := n2_; have HB := n3_; have HO174 := n4_; clear n0_ n1_ n2_ n3_ n4_; clear ho hb hg hat; obtain ⟨Ao86, co86, eo86⟩ := Kd.R_slice HO174.out; subst eo86; have hcz87_0 : w85.cell? ⟨gb157, 0, none⟩ = some (.int .i64 x158000_14) := (blk_cell BK157.out 0).trans rfl; have hcz87_1 : w85.cell? ⟨gb157, 1, none⟩ = some (u158001) := (blk_cell BK157.out 1).trans rfl; have hfz87_0 := blk_frozen BK157.out 0; have hfz87_1 := blk_frozen BK157.out 1))
                                            go_roundg k5
                                            case measure => have := HJ1.out; have := HJ14.out; have := HK3.out; have := HJ29.out; have := HK5.out; omega
                                            case rel => exact ⟨(x4_5), (x155000_3), (y172), (.slice Ao86 y172.length co86), (by first | rfl | (simp; done) | (simp [*]; done)), H', ⟨by have := HJ1.out; have := HJ14.out; have := HK3.out; have := HJ29.out; have := HK5.out; omega⟩, ⟨by (with_reducible repeat (first | apply Kd.R_alloc | apply Kd.R_drewN | apply Kd.R_drew)); exact Kd.R_mono (Kd.R_far (p := ⟨gb157, 1, none⟩) (Kd.R_types HO174.out BK157.out (by decide)) (fun _ hk => hk.2) (.slice Ao86 y172.length co86)) (fun _ hk => trivial)⟩, ⟨by (with_reducible repeat (first | refine blk_drewN ?_ _ | refine blk_drew ?_ | refine blk_alloc ?_ _)); refine blk_far ?_ NB154_157.out _; (with_reducible repeat (first | refine blk_drewN ?_ _ | refine blk_drew ?_ | refine blk_alloc ?_ _)); exact BK154.out⟩, ⟨by (with_reducible repeat (first | refine blk_drewN ?_ _ | refine blk_drew ?_ | refine blk_alloc ?_ _)); refine blk_put (cs := #[.int .i64 x158000_14, u158001]) ?_ 1 _ rfl; (with_reducible repeat (first | refine blk_drewN ?_ _ | refine blk_drew ?_ | refine blk_alloc ?_ _)); exact BK157.out⟩, ⟨by repeat (first | (with_reducible first | exact HB.out | apply below_alloc | apply pw_below_drewN | apply below_drew1 | refine below_set ?_ GE154.out | refine below_set ?_ GE157.out | refine below_set ?_ GE160.out) | exact HB.out)⟩⟩
                                          · rw [if_neg c79] at H
                                            exact absurd H (by simp)
                                        · rw [if_neg c77] at H
                                          exact absurd H (by simp)
                                      · rw [if_neg c76] at H
                                        exact absurd H (by simp)
                                    · rw [if_neg c75] at H
                                      exact absurd H (by simp)
                    · rw [if_neg c23] at H
                      exact absurd H (by simp)
                  · rw [if_neg c22] at H
                    have c22b0 : decide (x4_3 < (a0.size : Int)) = false := decide_eq_false c22
                    clear c22
                    simp only [Option.some.injEq, Prod.mk.injEq] at H
                    obtain ⟨rfl, rfl, rfl⟩ := H
                    try go_wp2
                    have n0_ := Aside0.mk (Kd.R_drew HO_158001.out)
                    have n1_ := Aside0.mk (blk_drew BK154.out)
                    have n2_ := Aside0.mk (blk_drew BK157.out)
                    have n3_ := Aside0.mk (below_drew1 HB.out)
                    clear HO_158001
                    clear BK154
                    clear BK157
                    clear HB
                    have HO_158001 := n0_
                    have BK154 := n1_
                    have BK157 := n2_
                    have HB := n3_
                    clear n0_ n1_ n2_ n3_
                    obtain ⟨Ao89, co89, eo89⟩ := Kd.R_slice HO_158001.out
                    (first | subst eo89 | (injection eo89 with f1_ f2_ f3_; have f4_ := f1_.symm; have f5_ := f3_.symm; clear f1_ f2_ f3_; subst f4_; subst f5_))
                    refine start_ (n := 7) (S := fun w' => w'.cell? ⟨gb157, 0, none⟩ = some (.int .i64 x158000_14) ∧ w'.cell? ⟨gb157, 1, none⟩ = some (.slice Ao89 x158001_3.length co89)) (ds := []) #[false, false, false, false, false, false, false] (by kernel_rfl) rfl rfl ⟨(blk_cell BK157.out 0).trans rfl, (blk_cell BK157.out 1).trans rfl⟩ (fun hHeld => ?_)
                    generalize wr.drew = w88 at HO_158001 BK154 BK157 HB hHeld ⊢
                    refine pure_ (i := 1) (N := some 94) (v := ?_) (a' := ?_) #[false, true, false, false, false, false, false] rfl rfl (by kernel_rfl) (fun _ _ _ h => h) (Or.inl ⟨by rfl, ?_⟩) ?_ ?_
                    rotate_left
                    · intro w'
                      go_simp
                      with_reducible rfl
                    rotate_left
                    · simp only [Act.put, List.setIfInBounds_toArray, List.set_cons_zero, List.set_cons_succ, i64_w, i32_w]
                      rfl
                    refine take_ (i := 0) (N := some 93) (v := ?_) (a' := ?_) #[true, true, false, false, false, false, false] rfl rfl (by kernel_rfl) (fun _ _ _ h => h) (Or.inl ⟨by rfl, ?_⟩) hHeld ?_ ?_
                    rotate_left
                    · rintro w' ⟨s0, s1⟩
                      go_simp
                      with_reducible rfl
                    rotate_left
                    · simp only [Act.put, List.setIfInBounds_toArray, List.set_cons_zero, List.set_cons_succ, i64_w, i32_w]
                      rfl
                    refine take_ (i := 2) (N := some 95) (v := ?_) (a' := ?_) #[true, true, true, false, false, false, false] rfl rfl (by kernel_rfl) (fun _ _ _ h => h) (Or.inl ⟨by rfl, ?_⟩) hHeld ?_ ?_
                    rotate_left
                    · rintro w' ⟨s0, s1⟩
                      go_simp
                      with_reducible rfl
                    rotate_left
                    · simp only [Act.put, List.setIfInBounds_toArray, List.set_cons_zero, List.set_cons_succ, i64_w, i32_w]
                      rfl
                    refine pure_ (i := 3) (N := some 96) (v := ?_) (a' := ?_) #[true, true, true, true, false, false, false] rfl rfl (by kernel_rfl) (fun _ _ _ h => h) (Or.inl ⟨by rfl, ?_⟩) ?_ ?_
                    rotate_left
                    · intro w'
                      go_simp
                      with_reducible rfl
                    rotate_left
                    · simp only [Act.put, List.setIfInBounds_toArray, List.set_cons_zero, List.set_cons_succ, i64_w, i32_w]
                      rfl
                    refine pure_ (i := 4) (N := some 97) (v := ?_) (a' := ?_) #[true, true, true, true, true, false, false] rfl rfl (by kernel_rfl) (fun _ _ _ h => h) (Or.inl ⟨by rfl, ?_⟩) ?_ ?_
                    rotate_left
                    · intro w'
                      go_simp
                      with_reducible rfl
                    rotate_left
                    · simp only [Act.put, List.setIfInBounds_toArray, List.set_cons_zero, List.set_cons_succ, i64_w, i32_w]
                      rfl
                    refine one_ (i := 5) (N := none) #[true, true, true, true, true, true, false] rfl rfl (by kernel_rfl) (by decide) (fun K hK => ?_)
                    have hs90 : w88.cell? ⟨gb154, 0, none⟩ = some (.int .i64 x155000_3) := (blk_cell BK154.out 0).trans rfl
                    have hfs90 := blk_frozen BK154.out 0
                    have hns90_1 := NB157_154.out
                    have hms90_1 := NB154_157.out
                    have hs91 : w88.cell? ⟨gb154, 1, none⟩ = some (.slice none 0 0) := (blk_cell BK154.out 1).trans rfl
                    have hfs91 := blk_frozen BK154.out 1
                    have hns91_1 := NB157_154.out
                    have hms91_1 := NB154_157.out
                    refine skip_ (w1 := ?_) (by rfl) rfl ?_ ?_
                    rotate_left
                    · go_simp
                      rfl
                    refine hK.out _ _ ⟨((cell_far (p := ⟨gb154, _, none⟩) NB157_154.out _).trans (((cell_far (p := ⟨gb154, _, none⟩) NB157_154.out _).trans (hHeld.1)))), ((cell_far (p := ⟨gb154, _, none⟩) NB157_154.out _).trans (((cell_far (p := ⟨gb154, _, none⟩) NB157_154.out _).trans (hHeld.2))))⟩ (fun hHeld => ?_)
                    clear hK K
                    refine pure_ (i := 6) (N := some 3) (v := ?_) (a' := ?_) #[true, true, true, true, true, true, true] rfl rfl (by kernel_rfl) (fun _ _ _ h => h) (Or.inl ⟨by rfl, ?_⟩) ?_ ?_
                    rotate_left
                    · intro w'
                      go_simp
                      with_reducible rfl
                    rotate_left
                    · simp only [Act.put, List.setIfInBounds_toArray, List.set_cons_zero, List.set_cons_succ, i64_w, i32_w]
                      rfl
                    refine done_ (by kernel_rfl) ?_
                    try go_wp2
                    refine bodyPost_ret (results_ct rfl _ _ gb154 72 #[.int .i64 x158000_14, .slice Ao89 x158001_3.length co89] (0, 0) _ rfl (by (with_reducible repeat (first | refine blk_drewN ?_ _ | refine blk_drew ?_ | refine blk_alloc ?_ _)); refine blk_put (cs := #[.int .i64 x158000_14, .slice none 0 0]) ?_ 1 _ rfl; (with_reducible repeat (first | refine blk_drewN ?_ _ | refine blk_drew ?_ | refine blk_alloc ?_ _)); refine blk_put (cs := #[.int .i64 x155000_3, .slice none 0 0]) ?_ 0 _ rfl; (with_reducible repeat (first | refine blk_drewN ?_ _ | refine blk_drew ?_ | refine blk_alloc ?_ _)); exact BK154.out) Tryd.underlying72 rfl (by kernel_rfl)) rfl ?_
                    exact ⟨_, by first | rfl | (simp [errW_none, errW_some] <;> rfl) | (simp [*, errW_none, errW_some] <;> rfl), by (with_reducible repeat (first | apply Kd.R_alloc | apply Kd.R_drewN | apply Kd.R_drew)); exact Kd.R_mono (Kd.R_far (p := ⟨gb154, 1, none⟩) (Kd.R_far (p := ⟨gb154, 0, none⟩) (Kd.R_types HO_158001.out BK154.out (by decide)) (fun _ hk => hk.2) (.int .i64 x158000_14)) (fun _ hk => hk.2) (.slice Ao89 x158001_3.length co89)) (fun _ hk => trivial), by repeat (first | (with_reducible first | exact HB.out | apply below_alloc | apply pw_below_drewN | apply below_drew1 | refine below_set ?_ GE154.out | refine below_set ?_ GE157.out) | exact HB.out)⟩
        · rw [if_neg c10] at H
          exact absurd H (by simp)
      · rw [if_neg c9] at H
        exact absurd H (by simp)
end Go.Proofs.YtlohbepfecahdaaDoor.S
