-- Written by wip/tools/myprint.py, a session's own driver of the kit's printer.
import Derived.ArgAppend
import Derived.Below
import Derived.BigQuiet
import Derived.Deep.AppendLies
import Derived.Deep.CutBlock
import Derived.Deep.DeepCutAuto
import Derived.Deep.Draws
import Derived.Deep.LoopGhost
import Derived.Deep.OwnRows
import Derived.Deep.QuietTactic
import Derived.Deep.RegionHeld3
import Derived.Handy
import Derived.KernelRfl
import Derived.Laws.BitsAllLaws
import Derived.Laws.BitsLemmas
import Derived.Laws.BytesArg
import Derived.Laws.IdiomCopy
import Derived.Laws.MakeOwn
import Derived.Laws.OwnMore
import Derived.Laws.RangeAny
import Derived.Laws.Rows
import Derived.Laws.Slices
import Derived.Laws.StructEq
import Derived.Lib.AppendStr
import Derived.Lib.ConvBytes
import Derived.Lib.FieldsP
import Derived.Lib.Hide
import Derived.Lib.IndexAny
import Derived.Lib.OthersKept
import Derived.Lib.SlBytesConst
import Derived.Lib.SpaceUEq
import Derived.Maps.AppendAt
import Derived.OneCell
import Derived.OrdersHeld
import Derived.OwnWalk
import Derived.RowKit
import Derived.RowKit3
import Derived.Shelf.LaysM
import Derived.Shelf.Small.Strs
import Derived.Shelf.Small.Utf8
import Derived.Shelf.Strings.Builder1
import Derived.Shelf.Strings.Builder2
import Derived.Shelf.Strings.BuilderF
import Derived.Shelf.Strings.BuilderK
import Derived.Shelf.Strings.Count
import Derived.Shelf.Strings.OnBuilder
import Derived.Shelf.Strings.Runes
import Derived.Shelf.Strings.Search1
import Derived.Shelf.Strings.Search2
import Derived.Shelf.Strings.Search3
import Derived.Shelf.Strings.Shaped
import Derived.Shelf.Strings.Split
import Derived.Shelf.Strings.SplitShaped
import Derived.Shelf.Unicode.DecodeSlow
import Derived.Tactics
import Derived.Test.YtlohbepfecahdaaDoorProg
import Derived.WalkKit
import Derived.WideLaws
import Derived.Test.YtlohbepfecahdaaDoorZfWWords
import Derived.Test.YtlohbepfecahdaaDoorZfWLast
import Derived.Test.YtlohbepfecahdaaDoorZfWApart
import Derived.Test.YtlohbepfecahdaaDoorZfWFoot
import Derived.Test.YtlohbepfecahdaaDoorZfWShare
import Derived.Test.YtlohbepfecahdaaDoorZfWN
import Derived.Test.YtlohbepfecahdaaDoorZfWNEv
import Derived.Test.YtlohbepfecahdaaDoorZfWMore
import Derived.Test.YtlohbepfecahdaaDoorZfB
import Derived.Test.YtlohbepfecahdaaDoorZfC
import Derived.Test.YtlohbepfecahdaaDoorZfShelf
import Derived.Test.YtlohbepfecahdaaDoorZfD
import Derived.Test.YtlohbepfecahdaaDoorZfWTab
import Derived.Test.YtlohbepfecahdaaDoorZfWEqStruct
import Derived.Test.YtlohbepfecahdaaDoorZfWRepsOne
import Derived.Test.YtlohbepfecahdaaDoorZfWGuard
import Derived.Test.YtlohbepfecahdaaDoorZfS0
import Derived.Test.YtlohbepfecahdaaDoorZfS4
import Derived.Test.YtlohbepfecahdaaDoorZfS15
namespace Go.Proofs.YtlohbepfecahdaaDoor.S
open Go.RowKit Go.Proofs.YtlohbepfecahdaaDoorW.PrintWords Go.Proofs.YtlohbepfecahdaaDoorW.PrintLast Go.Proofs.YtlohbepfecahdaaDoorW.PrintMore
set_option linter.unusedVariables false
set_option linter.unusedSimpArgs false
/-! ### apply_Read: function 24 -/
def apply_Read.j0 : Nat → ByteArray → Bool → Option (Bool × Int × (List (S34)) × Int)
  | 0, _, _ => none
  | k + 1, x0, x19 => if x19 = true then ((modes_ReadOctal.f x0).bind fun bt317 => (if bt317.2 = 0 then (some (true, bt317.1, ([] : List (S34)), 0)) else (some (false, 0, ([] : List (S34)), bt317.2)))) else ((clause_Parse.f k x0).bind fun bt319 => (some (false, 0, bt319.1, bt319.2)))
def apply_Read.f (k : Nat) (a0 : ByteArray) : Option (Bool × Int × (List (S34)) × Int) := if a0.toList = ([] : List UInt8) then (apply_Read.j0 k a0 false) else (if 0 < (a0.size : Int) then (if (bt a0 0) ≥ 48 then (apply_Read.j0 k a0 (decide ((bt a0 0) ≤ 57))) else (apply_Read.j0 k a0 false)) else (none))
theorem apply_Read.mono_l : ∀ k, (∀ y0 y1, LeO (apply_Read.j0 k y0 y1) (apply_Read.j0 (k + 1) y0 y1))
  | 0 => fun _ _ r h => by simp [apply_Read.j0] at h
  | k + 1 => by
    have ih0 := apply_Read.mono_l k
    · intro y0 y1
      unfold apply_Read.j0
      repeat' first
      | (with_reducible exact ih0 _ _)
      | (with_reducible exact clause_Parse.mono _ _)
      | (with_reducible exact LeO.refl _)
      | (with_reducible exact LeO.none _)
      | (with_reducible refine LeO.ite ?_ ?_)
      | (with_reducible refine LeO.bind ?_ (fun _ => ?_))
      | exact ih0 _ _
      | exact clause_Parse.mono _ _
      | exact LeO.none _
      | refine LeO.ite ?_ ?_
      | refine LeO.bind ?_ (fun _ => ?_)
theorem apply_Read.mono : ∀ a0 k, LeO (apply_Read.f k a0) (apply_Read.f (k + 1) a0) := by
  intro a0 k
  have ih0 := apply_Read.mono_l k
  unfold apply_Read.f
  repeat' first
      | (with_reducible exact ih0 _ _)
      | (with_reducible exact clause_Parse.mono _ _)
      | (with_reducible exact LeO.refl _)
      | (with_reducible exact LeO.none _)
      | (with_reducible refine LeO.ite ?_ ?_)
      | (with_reducible refine LeO.bind ?_ (fun _ => ?_))
      | exact ih0 _ _
      | exact clause_Parse.mono _ _
      | exact LeO.none _
      | refine LeO.ite ?_ ?_
      | refine LeO.bind ?_ (fun _ => ?_)
set_option maxHeartbeats 8000000 in
set_option maxRecDepth 100000 in
theorem apply_Read.calls (k : Nat) (a0 : ByteArray) (r1 : Bool) (r2 : Int) (r3 : List (S34)) (r4 : Int) (w : World) (h : apply_Read.f k a0 = some (r1, r2, r3, r4)) :
    Calls Tryd.prog 24 #[.string a0] w fun e w' => ∃ v2_ : Value, e = .returned (.tuple #[.agg #[.bool r1, .int .i64 r2, v2_], .int .i64 r4]) ∧ Kd.S k34 34 w' w.heap.size (fun _ => True) v2_ r3 ∧ Below w.heap.size w w' := by
  have hu45 := Tryd.underlying45
  have HB := Aside0.mk (Below.refl w.heap.size w)
  have H : (if a0.toList = ([] : List UInt8) then (apply_Read.j0 k a0 false) else (if 0 < (a0.size : Int) then (if (bt a0 0) ≥ 48 then (apply_Read.j0 k a0 (decide ((bt a0 0) ≤ 57))) else (apply_Read.j0 k a0 false)) else (none))) = some (r1, r2, r3, r4) := h
  clear h
  have HC2 := Aside0.mk H
  clear H
  go_enter Tryd.func24, Tryd.ntmps24
  go_upto_region 1 with (first | ((with_reducible refine gate_dst (N := 2) rfl ?_); refine box_event ?hg (N := 2) ?hd (cs := #[.bool false, .int .i64 0, .slice none 0 0]) (t := 45) ?hr ?_; (case hd => rfl); (case hg => rfl); (case hr => first | (go_simp; done) | (go_simp; rfl)); intro gb316 hg w3 hbox hb; have n0_ := Aside0.mk (below_step (by repeat (first | (with_reducible first | exact HB.out | apply below_alloc | apply pw_below_drewN | apply below_drew1) | exact HB.out)) hb); have n1_ := Aside0.mk (hbox); have n2_ := Aside0.mk ((by rw [hg]; exact (below_size (by repeat (first | (with_reducible first | exact HB.out | apply below_alloc | apply pw_below_drewN | apply below_drew1) | exact HB.out))) : w.heap.size ≤ gb316)); have n3_ := Aside0.mk ((by rw [hg]; exact (below_size (by repeat (first | (with_reducible first | exact HB.out | apply below_alloc | apply pw_below_drewN | apply below_drew1) | exact HB.out))) : w.heap.size ≤ gb316)); clear HB; have HB := n0_; have BK316 := n1_; have GW316 := n2_; have GE316 := n3_; clear n0_ n1_ n2_ n3_; clear hb hbox hg))
  (try simp only [Act.put, List.setIfInBounds_toArray, List.set_cons_zero, List.set_cons_succ])
  go_cut [19] (fun v19 wc => ∃ (kq : Nat) (x19_1 : Bool), v19 = .bool x19_1 ∧ Aside0 (apply_Read.j0 kq a0 x19_1 = some (r1, r2, r3, r4)) ∧ Aside0 (kq ≤ k) ∧ Aside0 (wc.heap[gb316]? = some (.cells #[.bool false, .int .i64 0, (.slice none 0 0)] 45 (0, 0))) ∧ Aside0 (Below w.heap.size w wc))
  case first =>
    have H := HC2.out
    clear HC2
    by_cases c4 : a0.toList = ([] : List UInt8)
    · rw [if_pos c4] at H
      have c4b0 : (a0.toList == ([] : List UInt8)) = true := beq_iff_eq.mpr c4
      have c4b1 : (a0.toList != ([] : List UInt8)) = false := bne_eq_false_iff_eq.mpr c4
      clear c4
      (first | rw [c4b0] | (simp only [i64_w, i32_w]; rw [c4b0]) | skip)
      have H' := Aside0.mk H
      clear H
      go_wp2
      go_meet
      case rel => exact ⟨_, (false), (by first | rfl | (simp; done) | (simp [*]; done)), H', ⟨by first | omega | exact Nat.le_refl _⟩, ⟨by (with_reducible repeat (first | refine blk_drewN ?_ _ | refine blk_drew ?_ | refine blk_alloc ?_ _)); exact BK316.out⟩, ⟨by repeat (first | (with_reducible first | exact HB.out | apply below_alloc | apply pw_below_drewN | apply below_drew1 | refine below_set ?_ GE316.out) | exact HB.out)⟩⟩
    · rw [if_neg c4] at H
      have c4b0 : (a0.toList == ([] : List UInt8)) = false := beq_eq_false_iff_ne.mpr c4
      have c4b1 : (a0.toList != ([] : List UInt8)) = true := bne_iff_ne.mpr c4
      (first | rw [c4b0] | (simp only [i64_w, i32_w]; rw [c4b0]) | skip)
      by_cases c5 : 0 < (a0.size : Int)
      · rw [if_pos c5] at H
        have c5b0 : decide (0 < (a0.size : Int)) = true := decide_eq_true c5
        have c5b1 : decide (0 < a0.size) = true := decide_eq_true (by omega)
        clear c5
        by_cases c7 : (bt a0 0) ≥ 48
        · rw [if_pos c7] at H
          have c7b0 : decide (48 ≤ (bt a0 0)) = true := decide_eq_true c7
          clear c7
          have H' := Aside0.mk H
          clear H
          have p6 : 0 ≤ (0 : Int) := (by omega)
          have q6 : 0 < a0.size := (by have : (0 : Int) < (a0.size : Int) := of_decide_eq_true (by first | (with_reducible assumption) | assumption); omega)
          have hx6 : ∀ h : 0 < a0.size, ((a0[0]'h).toNat : Int) = bt a0 0 := bt_at a0 0
          clear p6
          have qi6 : (0 < (a0.size : Int)) = True := eq_true (of_decide_eq_true (by first | (with_reducible assumption) | assumption))
          replace q6 := eq_true q6
          have p8 : 0 ≤ (0 : Int) := (by omega)
          have q8 : 0 < a0.size := (by have : (0 : Int) < (a0.size : Int) := of_decide_eq_true (by first | (with_reducible assumption) | assumption); omega)
          have hx8 : ∀ h : 0 < a0.size, ((a0[0]'h).toNat : Int) = bt a0 0 := bt_at a0 0
          clear p8
          have qi8 : (0 < (a0.size : Int)) = True := eq_true (of_decide_eq_true (by first | (with_reducible assumption) | assumption))
          replace q8 := eq_true q8
          go_wp2
          go_meet
          case rel => exact ⟨_, (decide ((bt a0 0) ≤ 57)), (by first | rfl | (simp; done) | (simp [*]; done)), H', ⟨by first | omega | exact Nat.le_refl _⟩, ⟨by (with_reducible repeat (first | refine blk_drewN ?_ _ | refine blk_drew ?_ | refine blk_alloc ?_ _)); exact BK316.out⟩, ⟨by repeat (first | (with_reducible first | exact HB.out | apply below_alloc | apply pw_below_drewN | apply below_drew1 | refine below_set ?_ GE316.out) | exact HB.out)⟩⟩
        · rw [if_neg c7] at H
          have c7b0 : decide (48 ≤ (bt a0 0)) = false := decide_eq_false c7
          clear c7
          have H' := Aside0.mk H
          clear H
          have p6 : 0 ≤ (0 : Int) := (by omega)
          have q6 : 0 < a0.size := (by have : (0 : Int) < (a0.size : Int) := of_decide_eq_true (by first | (with_reducible assumption) | assumption); omega)
          have hx6 : ∀ h : 0 < a0.size, ((a0[0]'h).toNat : Int) = bt a0 0 := bt_at a0 0
          clear p6
          have qi6 : (0 < (a0.size : Int)) = True := eq_true (of_decide_eq_true (by first | (with_reducible assumption) | assumption))
          replace q6 := eq_true q6
          go_wp2
          go_meet
          case rel => exact ⟨_, (false), (by first | rfl | (simp; done) | (simp [*]; done)), H', ⟨by first | omega | exact Nat.le_refl _⟩, ⟨by (with_reducible repeat (first | refine blk_drewN ?_ _ | refine blk_drew ?_ | refine blk_alloc ?_ _)); exact BK316.out⟩, ⟨by repeat (first | (with_reducible first | exact HB.out | apply below_alloc | apply pw_below_drewN | apply below_drew1 | refine below_set ?_ GE316.out) | exact HB.out)⟩⟩
      · rw [if_neg c5] at H
        exact absurd H (by simp)
  case rest =>
    clear HC2
    try clear c2
    try clear p2
    try clear c4
    try clear c4b0
    try clear c4b1
    try clear c5
    try clear c5b0
    try clear c5b1
    try clear p6
    try clear q6
    try clear hx6
    try clear qi6
    try clear c7
    try clear c7b0
    try clear p8
    try clear q8
    try clear hx8
    try clear qi8
    try clear p6
    try clear p8
    try clear q6
    try clear q8
    obtain ⟨kq, x19_1, rfl, HA, HJ1, BK316, HB⟩ := hcut
    cases kq with
    | zero => exact absurd HA.out (by simp [apply_Read.j0])
    | succ kj1 =>
      have H := HA.out
      clear HA
      simp only [apply_Read.j0] at H
      by_cases c9 : x19_1 = true
      · subst c9
        have H1 : ((modes_ReadOctal.f a0).bind fun bt317 => (if bt317.2 = 0 then (some (true, bt317.1, ([] : List (S34)), 0)) else (some (false, 0, ([] : List (S34)), bt317.2)))) = some (r1, r2, r3, r4) := by rw [if_pos rfl] at H; exact H
        clear H
        have H := H1
        clear H1
        replace H := Option.bind_eq_some_iff.mp H
        obtain ⟨⟨t317, t318⟩, A100, H⟩ := H
        replace H : (if t318 = 0 then (some (true, t317, ([] : List (S34)), 0)) else (some (false, 0, ([] : List (S34)), t318))) = some (r1, r2, r3, r4) := H
        have A10 := Aside0.mk A100
        clear A100
        by_cases c11 : t318 = 0
        · rw [if_pos c11] at H
          have c11b0 : (t318 == 0) = true := beq_iff_eq.mpr c11
          have c11b1 : (t318 != 0) = false := bne_eq_false_iff_eq.mpr c11
          clear c11
          simp only [Option.some.injEq, Prod.mk.injEq] at H
          obtain ⟨rfl, rfl, rfl, rfl⟩ := H
          go_wp2_with (first | ((with_reducible refine gate_callee (f := 43) rfl ?_); refine goesL_ (some 22) rfl rfl Tryd.func43 (by kernel_rfl) rfl #[.string a0] rfl (by (try simp only [List.map_toArray, List.map_cons, List.map_nil]); first | done | rfl | (simp only [List.length_drop, List.length_take]; rfl)) ?_; (with_reducible refine (modes_ReadOctal.calls a0 t317 t318 _ A10.out).mono ?_); rintro e w12 ⟨rfl, hb⟩; refine ⟨_, rfl, ?_⟩; have n0_ := Aside0.mk (blk_below (g := gb316) (o := .cells #[.bool false, .int .i64 0, .slice none 0 0] 45 (0, 0)) (by (with_reducible repeat (first | refine blk_drewN ?_ _ | refine blk_drew ?_ | refine blk_alloc ?_ _)); exact BK316.out) hb); have n1_ := Aside0.mk (below_step (by repeat (first | (with_reducible first | exact HB.out | apply below_alloc | apply pw_below_drewN | apply below_drew1 | refine below_set ?_ GE316.out) | exact HB.out)) hb); clear BK316; clear HB; have BK316 := n0_; have HB := n1_; clear n0_ n1_; (try clear hb); (try clear hb2); (try clear hk); (try clear hi); have hcz13_0 : w12.cell? ⟨gb316, 0, none⟩ = some (.bool false) := (blk_cell BK316.out 0).trans rfl; have hcz13_1 : w12.cell? ⟨gb316, 1, none⟩ = some (.int .i64 0) := (blk_cell BK316.out 1).trans rfl; have hcz13_2 : w12.cell? ⟨gb316, 2, none⟩ = some (.slice none 0 0) := (blk_cell BK316.out 2).trans rfl; have hfz13_0 := blk_frozen BK316.out 0; have hfz13_1 := blk_frozen BK316.out 1; have hfz13_2 := blk_frozen BK316.out 2))
          refine bodyPost_ret (results_ct rfl _ _ gb316 45 #[.bool true, .int .i64 t317, .slice none 0 0] (0, 0) _ rfl (by (with_reducible repeat (first | refine blk_drewN ?_ _ | refine blk_drew ?_ | refine blk_alloc ?_ _)); refine blk_put (cs := #[.bool true, .int .i64 t317, .slice none 0 0]) ?_ 2 _ rfl; (with_reducible repeat (first | refine blk_drewN ?_ _ | refine blk_drew ?_ | refine blk_alloc ?_ _)); refine blk_put (cs := #[.bool true, .int .i64 0, .slice none 0 0]) ?_ 1 _ rfl; (with_reducible repeat (first | refine blk_drewN ?_ _ | refine blk_drew ?_ | refine blk_alloc ?_ _)); refine blk_put (cs := #[.bool false, .int .i64 0, .slice none 0 0]) ?_ 0 _ rfl; (with_reducible repeat (first | refine blk_drewN ?_ _ | refine blk_drew ?_ | refine blk_alloc ?_ _)); exact BK316.out) Tryd.underlying45 rfl (by kernel_rfl)) rfl ?_
          exact ⟨_, by first | rfl | (simp [errW_none, errW_some] <;> rfl) | (simp [*, errW_none, errW_some] <;> rfl), by first | exact Kd.S_nil _ _ _ _ _ | exact Kd.N_nil _ _ _ _ _ | exact Kd.V_nil _ _ _ _ _ | exact Kd.Q_nil _ _ _ _ _ | exact Kd.R_nil _ _ _ _ _, by repeat (first | (with_reducible first | exact HB.out | apply below_alloc | apply pw_below_drewN | apply below_drew1 | refine below_set ?_ GE316.out) | exact HB.out)⟩
        · rw [if_neg c11] at H
          have c11b0 : (t318 == 0) = false := beq_eq_false_iff_ne.mpr c11
          have c11b1 : (t318 != 0) = true := bne_iff_ne.mpr c11
          simp only [Option.some.injEq, Prod.mk.injEq] at H
          obtain ⟨rfl, rfl, rfl, rfl⟩ := H
          go_wp2_with (first | ((with_reducible refine gate_callee (f := 43) rfl ?_); refine goesL_ (some 22) rfl rfl Tryd.func43 (by kernel_rfl) rfl #[.string a0] rfl (by (try simp only [List.map_toArray, List.map_cons, List.map_nil]); first | done | rfl | (simp only [List.length_drop, List.length_take]; rfl)) ?_; (with_reducible refine (modes_ReadOctal.calls a0 t317 t318 _ A10.out).mono ?_); rintro e w14 ⟨rfl, hb⟩; refine ⟨_, rfl, ?_⟩; have n0_ := Aside0.mk (blk_below (g := gb316) (o := .cells #[.bool false, .int .i64 0, .slice none 0 0] 45 (0, 0)) (by (with_reducible repeat (first | refine blk_drewN ?_ _ | refine blk_drew ?_ | refine blk_alloc ?_ _)); exact BK316.out) hb); have n1_ := Aside0.mk (below_step (by repeat (first | (with_reducible first | exact HB.out | apply below_alloc | apply pw_below_drewN | apply below_drew1 | refine below_set ?_ GE316.out) | exact HB.out)) hb); clear BK316; clear HB; have BK316 := n0_; have HB := n1_; clear n0_ n1_; (try clear hb); (try clear hb2); (try clear hk); (try clear hi); have hcz15_0 : w14.cell? ⟨gb316, 0, none⟩ = some (.bool false) := (blk_cell BK316.out 0).trans rfl; have hcz15_1 : w14.cell? ⟨gb316, 1, none⟩ = some (.int .i64 0) := (blk_cell BK316.out 1).trans rfl; have hcz15_2 : w14.cell? ⟨gb316, 2, none⟩ = some (.slice none 0 0) := (blk_cell BK316.out 2).trans rfl; have hfz15_0 := blk_frozen BK316.out 0; have hfz15_1 := blk_frozen BK316.out 1; have hfz15_2 := blk_frozen BK316.out 2))
          refine bodyPost_ret (results_ct rfl _ _ gb316 45 #[.bool false, .int .i64 0, .slice none 0 0] (0, 0) _ rfl (by (with_reducible repeat (first | refine blk_drewN ?_ _ | refine blk_drew ?_ | refine blk_alloc ?_ _)); refine blk_put (cs := #[.bool false, .int .i64 0, .slice none 0 0]) ?_ 2 _ rfl; (with_reducible repeat (first | refine blk_drewN ?_ _ | refine blk_drew ?_ | refine blk_alloc ?_ _)); refine blk_put (cs := #[.bool false, .int .i64 0, .slice none 0 0]) ?_ 1 _ rfl; (with_reducible repeat (first | refine blk_drewN ?_ _ | refine blk_drew ?_ | refine blk_alloc ?_ _)); refine blk_put (cs := #[.bool false, .int .i64 0, .slice none 0 0]) ?_ 0 _ rfl; (with_reducible repeat (first | refine blk_drewN ?_ _ | refine blk_drew ?_ | refine blk_alloc ?_ _)); exact BK316.out) Tryd.underlying45 rfl (by kernel_rfl)) rfl ?_
          exact ⟨_, by first | rfl | (simp [errW_none, errW_some] <;> rfl) | (simp [*, errW_none, errW_some] <;> rfl), by first | exact Kd.S_nil _ _ _ _ _ | exact Kd.N_nil _ _ _ _ _ | exact Kd.V_nil _ _ _ _ _ | exact Kd.Q_nil _ _ _ _ _ | exact Kd.R_nil _ _ _ _ _, by repeat (first | (with_reducible first | exact HB.out | apply below_alloc | apply pw_below_drewN | apply below_drew1 | refine below_set ?_ GE316.out) | exact HB.out)⟩
      · replace c9 := Bool.eq_false_iff.mpr c9
        subst c9
        have H1 : ((clause_Parse.f kj1 a0).bind fun bt319 => (some (false, 0, bt319.1, bt319.2))) = some (r1, r2, r3, r4) := by rw [if_neg (show ¬ (false = true) by decide)] at H; exact H
        clear H
        have H := H1
        clear H1
        replace H := Option.bind_eq_some_iff.mp H
        obtain ⟨⟨t319, t320⟩, A160, H⟩ := H
        replace H : (some (false, 0, t319, t320)) = some (r1, r2, r3, r4) := H
        have A16 := Aside0.mk A160
        clear A160
        simp only [Option.some.injEq, Prod.mk.injEq] at H
        obtain ⟨rfl, rfl, rfl, rfl⟩ := H
        go_wp2_with (first | ((with_reducible refine gate_callee (f := 15) rfl ?_); refine goesL_ (some 33) rfl rfl Tryd.func15 (by kernel_rfl) rfl #[.string a0] rfl (by (try simp only [List.map_toArray, List.map_cons, List.map_nil]); first | done | rfl | (simp only [List.length_drop, List.length_take]; rfl)) ?_; (with_reducible refine (clause_Parse.calls kj1 a0 t319 t320 _ A16.out).mono ?_); rintro e w17 ⟨v321, rfl, ho0, hb⟩; refine ⟨_, rfl, ?_⟩; have n0_ := Aside0.mk (Kd.S_lower ho0 (below_size (by repeat (first | (with_reducible first | exact HB.out | apply below_alloc | apply pw_below_drewN | apply below_drew1 | refine below_set ?_ GE316.out) | exact HB.out)))); have n1_ := Aside0.mk (blk_below (g := gb316) (o := .cells #[.bool false, .int .i64 0, .slice none 0 0] 45 (0, 0)) (by (with_reducible repeat (first | refine blk_drewN ?_ _ | refine blk_drew ?_ | refine blk_alloc ?_ _)); exact BK316.out) hb); have n2_ := Aside0.mk (below_step (by repeat (first | (with_reducible first | exact HB.out | apply below_alloc | apply pw_below_drewN | apply below_drew1 | refine below_set ?_ GE316.out) | exact HB.out)) hb); clear BK316; clear HB; have HO322 := n0_; have BK316 := n1_; have HB := n2_; clear n0_ n1_ n2_; (try clear hb); (try clear hb2); (try clear hk); (try clear hi); (try clear ho0); obtain ⟨Ao18, co18, eo18⟩ := Kd.S_slice HO322.out; subst eo18; have hcz19_0 : w17.cell? ⟨gb316, 0, none⟩ = some (.bool false) := (blk_cell BK316.out 0).trans rfl; have hcz19_1 : w17.cell? ⟨gb316, 1, none⟩ = some (.int .i64 0) := (blk_cell BK316.out 1).trans rfl; have hcz19_2 : w17.cell? ⟨gb316, 2, none⟩ = some (.slice none 0 0) := (blk_cell BK316.out 2).trans rfl; have hfz19_0 := blk_frozen BK316.out 0; have hfz19_1 := blk_frozen BK316.out 1; have hfz19_2 := blk_frozen BK316.out 2))
        refine bodyPost_ret (results_ct rfl _ _ gb316 45 #[.bool false, .int .i64 0, .slice Ao18 t319.length co18] (0, 0) _ rfl (by (with_reducible repeat (first | refine blk_drewN ?_ _ | refine blk_drew ?_ | refine blk_alloc ?_ _)); refine blk_put (cs := #[.bool false, .int .i64 0, .slice none 0 0]) ?_ 2 _ rfl; (with_reducible repeat (first | refine blk_drewN ?_ _ | refine blk_drew ?_ | refine blk_alloc ?_ _)); refine blk_put (cs := #[.bool false, .int .i64 0, .slice none 0 0]) ?_ 1 _ rfl; (with_reducible repeat (first | refine blk_drewN ?_ _ | refine blk_drew ?_ | refine blk_alloc ?_ _)); refine blk_put (cs := #[.bool false, .int .i64 0, .slice none 0 0]) ?_ 0 _ rfl; (with_reducible repeat (first | refine blk_drewN ?_ _ | refine blk_drew ?_ | refine blk_alloc ?_ _)); exact BK316.out) Tryd.underlying45 rfl (by kernel_rfl)) rfl ?_
        exact ⟨_, by first | rfl | (simp [errW_none, errW_some] <;> rfl) | (simp [*, errW_none, errW_some] <;> rfl), by (with_reducible repeat (first | apply Kd.S_alloc | apply Kd.S_drewN | apply Kd.S_drew)); exact Kd.S_mono (Kd.S_far (p := ⟨gb316, 2, none⟩) (Kd.S_far (p := ⟨gb316, 1, none⟩) (Kd.S_far (p := ⟨gb316, 0, none⟩) (Kd.S_types HO322.out BK316.out (by decide)) (fun _ hk => hk.2) (.bool false)) (fun _ hk => hk.2) (.int .i64 0)) (fun _ hk => hk.2) (.slice Ao18 t319.length co18)) (fun _ hk => trivial), by repeat (first | (with_reducible first | exact HB.out | apply below_alloc | apply pw_below_drewN | apply below_drew1 | refine below_set ?_ GE316.out) | exact HB.out)⟩
/-! ### modes_shift: function 49 -/
def modes_shift.f (a0 : Int) : Option (Int) := some (wrap64 (3 * (wrap64 (2 - a0))))
/-! ### modes_With: function 61 -/
def withS (m k b : Int) : Int := if k = 0 then m % 4096 - m / 64 % 8 * 64 + b % 8 * 64 else if k = 1 then m % 4096 - m / 8 % 8 * 8 + b % 8 * 8 else if k = 2 then m % 4096 - m % 8 + b % 8 else m % 4096
def modes_With.f (a0 : Int) (a1 : Int) (a2 : Int) : Option (Int) := some (withS a0 a1 a2)
theorem with_eq (m b c : Nat) (s : Nat) (hm : m < 4096) (hb : b < 8) (hs : s = 0 ∨ s = 3 ∨ s = 6) : (m - (m &&& 7 * 2 ^ s)) ||| b * 2 ^ s = m - m / 2 ^ s % 8 * 2 ^ s + b * 2 ^ s := by
  have h1 : m &&& 7 * 2 ^ s = m / 2 ^ s % 8 * 2 ^ s := by
    apply Nat.eq_of_testBit_eq
    intro i
    rw [Nat.testBit_and, ← Nat.shiftLeft_eq, ← Nat.shiftLeft_eq, Nat.testBit_shiftLeft, Nat.testBit_shiftLeft]
    rw [show (8 : Nat) = 2 ^ 3 from rfl, Nat.testBit_mod_two_pow, Nat.testBit_div_two_pow, show (7 : Nat) = 2 ^ 3 - 1 from rfl, Nat.testBit_two_pow_sub_one]
    by_cases hi : s ≤ i
    · rw [Nat.sub_add_cancel hi]
      cases m.testBit i <;> simp [hi]
    · simp [hi]
  rw [h1]
  have hd : m = m / 2 ^ s / 8 * (8 * 2 ^ s) + m / 2 ^ s % 8 * 2 ^ s + m % 2 ^ s := by
    have e1 := Nat.div_add_mod m (2 ^ s)
    have e2 := Nat.div_add_mod (m / 2 ^ s) 8
    have e3 : m / 2 ^ s * 2 ^ s = (8 * (m / 2 ^ s / 8) + m / 2 ^ s % 8) * 2 ^ s := by rw [e2]
    rw [Nat.add_mul] at e3
    have e4 : m / 2 ^ s / 8 * (8 * 2 ^ s) = 8 * (m / 2 ^ s / 8) * 2 ^ s := by rw [← Nat.mul_assoc, Nat.mul_comm (m / 2 ^ s / 8) 8]
    rw [Nat.mul_comm] at e1
    omega
  have hsub : m - m / 2 ^ s % 8 * 2 ^ s = m / 2 ^ s / 8 * (8 * 2 ^ s) + m % 2 ^ s := by omega
  rw [hsub]
  have hl : m % 2 ^ s < 2 ^ s := Nat.mod_lt _ (Nat.two_pow_pos s)
  have hbs : b * 2 ^ s + m % 2 ^ s < 8 * 2 ^ s := by
    have : b * 2 ^ s + 2 ^ s ≤ 8 * 2 ^ s := by rw [← Nat.succ_mul]; exact Nat.mul_le_mul_right _ hb
    omega
  have p8 : 8 * 2 ^ s = 2 ^ (3 + s) := by rw [Nat.pow_add]
  rw [Nat.or_comm]
  have a1 : m / 2 ^ s / 8 * (8 * 2 ^ s) + m % 2 ^ s = (m / 2 ^ s / 8 * (8 * 2 ^ s)) ||| m % 2 ^ s := by
    rw [p8, Nat.mul_comm]; exact Nat.two_pow_add_eq_or_of_lt (Nat.lt_of_lt_of_le hl (Nat.pow_le_pow_right (by decide) (by omega))) _
  have a2 : b * 2 ^ s + m % 2 ^ s = b * 2 ^ s ||| m % 2 ^ s := by rw [Nat.mul_comm]; exact Nat.two_pow_add_eq_or_of_lt hl _
  have a3 : m / 2 ^ s / 8 * (8 * 2 ^ s) + (b * 2 ^ s + m % 2 ^ s) = (m / 2 ^ s / 8 * (8 * 2 ^ s)) ||| (b * 2 ^ s + m % 2 ^ s) := by
    rw [p8] at hbs ⊢; rw [Nat.mul_comm]; exact Nat.two_pow_add_eq_or_of_lt hbs _
  rw [a1, ← Nat.or_assoc, Nat.or_comm (b * 2 ^ s), Nat.or_assoc, ← a2, ← a3]
  omega
theorem with_int (m b d f : Int) (s : Nat) (hs : s = 0 ∨ s = 3 ∨ s = 6) (hd : d = 7 * 2 ^ s) (hf : f = b % 8 * 2 ^ s) :
    Go.bits .or .i64 (Go.bits .andNot .i64 (m % 4096) d) f = m % 4096 - m % 4096 / (2 ^ s : Nat) % 8 * (2 ^ s : Nat) + b % 8 * (2 ^ s : Nat) := by
  have hp : (2 : Int) ^ s = ((2 ^ s : Nat) : Int) := by simp
  have hle : 2 ^ s ≤ 64 := by rcases hs with rfl | rfl | rfl <;> decide
  have hpos : 0 < 2 ^ s := Nat.two_pow_pos s
  obtain ⟨M, hM⟩ := Int.eq_ofNat_of_zero_le (show 0 ≤ m % 4096 by omega)
  obtain ⟨C, hC⟩ := Int.eq_ofNat_of_zero_le (show 0 ≤ b % 8 by omega)
  have hM1 : M < 4096 := by omega
  have hC1 : C < 8 := by omega
  rw [hC, hp] at hf
  rw [hp] at hd
  rw [hM, hC]
  subst hd hf
  have e1 : (7 : Int) * ((2 ^ s : Nat) : Int) = ((7 * 2 ^ s : Nat) : Int) := by rw [Int.natCast_mul]; rfl
  have e2 : (C : Int) * ((2 ^ s : Nat) : Int) = ((C * 2 ^ s : Nat) : Int) := by rw [Int.natCast_mul]
  have hC2 : C * 2 ^ s ≤ 8 * 64 := Nat.mul_le_mul (by omega) hle
  rw [e1, e2, B.andNot_nat M (7 * 2 ^ s) (by omega) (by omega), B.or_nat _ _ (by omega) (by omega), with_eq M C 0 s hM1 hC1 hs]
  have hq : M / 2 ^ s % 8 * 2 ^ s ≤ M := by
    have := Nat.div_mul_le_self M (2 ^ s)
    have : M / 2 ^ s % 8 * 2 ^ s ≤ M / 2 ^ s * 2 ^ s := Nat.mul_le_mul_right _ (Nat.mod_le _ _)
    omega
  rw [Int.natCast_add, Int.ofNat_sub hq, Int.natCast_mul, Int.natCast_emod, Int.natCast_ediv]
  rfl
theorem shift_0 (w : World) : Calls Tryd.prog 49 #[.int .i64 0] w fun e w' => e = .returned (.int .i64 6) ∧ w' = w := by
  go_enter Tryd.func49, Tryd.ntmps49
  go_wp2
  go_ret
  exact ⟨rfl, rfl⟩
theorem shift_1 (w : World) : Calls Tryd.prog 49 #[.int .i64 1] w fun e w' => e = .returned (.int .i64 3) ∧ w' = w := by
  go_enter Tryd.func49, Tryd.ntmps49
  go_wp2
  go_ret
  exact ⟨rfl, rfl⟩
theorem shift_2 (w : World) : Calls Tryd.prog 49 #[.int .i64 2] w fun e w' => e = .returned (.int .i64 0) ∧ w' = w := by
  go_enter Tryd.func49, Tryd.ntmps49
  go_wp2
  go_ret
  exact ⟨rfl, rfl⟩
theorem with_0 (a0 a2 : Int) : withS a0 0 a2 = Go.bits .or .i64 (Go.bits .andNot .i64 (Go.bits .and .i64 a0 4095) 448) (wrap64 (Go.bits .and .i64 a2 7 * 64)) := by
  rw [B.and_4095, B.and_7, show wrap64 (a2 % 8 * 64) = a2 % 8 * 2 ^ 6 from by unfold wrap64; omega, with_int a0 a2 _ _ 6 (by decide) (by decide) rfl]
  simp [withS]
  try omega
theorem with_1 (a0 a2 : Int) : withS a0 1 a2 = Go.bits .or .i64 (Go.bits .andNot .i64 (Go.bits .and .i64 a0 4095) 56) (wrap64 (Go.bits .and .i64 a2 7 * 8)) := by
  rw [B.and_4095, B.and_7, show wrap64 (a2 % 8 * 8) = a2 % 8 * 2 ^ 3 from by unfold wrap64; omega, with_int a0 a2 _ _ 3 (by decide) (by decide) rfl]
  simp [withS]
  try omega
theorem with_2 (a0 a2 : Int) : withS a0 2 a2 = Go.bits .or .i64 (Go.bits .andNot .i64 (Go.bits .and .i64 a0 4095) 7) (wrap64 (Go.bits .and .i64 a2 7)) := by
  rw [B.and_4095, B.and_7, show wrap64 (a2 % 8) = a2 % 8 * 2 ^ 0 from by unfold wrap64; omega, with_int a0 a2 _ _ 0 (by decide) (by decide) rfl]
  simp [withS]
  try omega
set_option maxHeartbeats 800000 in
theorem modes_With.calls (a0 : Int) (a1 : Int) (a2 : Int) (r : Int) (w : World) (h : modes_With.f a0 a1 a2 = some r) :
    Calls Tryd.prog 61 #[.int .i64 a0, .int .i64 a1, .int .i64 a2] w fun e w' => e = .returned (.int .i64 r) ∧ Drawn0 w w' := by
  obtain rfl := Option.some.inj h
  clear h
  by_cases k0 : a1 < 0
  · have e : Hid (withS a0 a1 a2 = Go.bits .and .i64 a0 4095) := Lib.hid (by unfold withS; rw [if_neg (by omega), if_neg (by omega), if_neg (by omega), B.and_4095])
    go_enter Tryd.func61, Tryd.ntmps61
    go_wp2
    go_ret
    exact ⟨ret_int e.out.symm, by repeat (first | exact Drawn0.refl _ | apply Drawn0.step)⟩
  · by_cases k3 : 3 ≤ a1
    · have e : Hid (withS a0 a1 a2 = Go.bits .and .i64 a0 4095) := Lib.hid (by unfold withS; rw [if_neg (by omega), if_neg (by omega), if_neg (by omega), B.and_4095])
      go_enter Tryd.func61, Tryd.ntmps61
      go_wp2
      go_ret
      exact ⟨ret_int e.out.symm, by repeat (first | exact Drawn0.refl _ | apply Drawn0.step)⟩
    · have hk : a1 = 0 ∨ a1 = 1 ∨ a1 = 2 := by omega
      clear k0 k3
      rcases hk with rfl | rfl | rfl
      · have e : Hid (withS a0 0 a2 = Go.bits .or .i64 (Go.bits .andNot .i64 (Go.bits .and .i64 a0 4095) 448) (wrap64 (Go.bits .and .i64 a2 7 * 64))) := Lib.hid (with_0 a0 a2)
        go_enter Tryd.func61, Tryd.ntmps61
        go_wp2
        go_quiet ((go_at_call 49; exact Calls.quiet_of_same (shift_0 _)))
        go_wp2
        go_ret
        exact ⟨ret_int e.out.symm, by repeat (first | exact Drawn0.refl _ | apply Drawn0.step)⟩
      · have e : Hid (withS a0 1 a2 = Go.bits .or .i64 (Go.bits .andNot .i64 (Go.bits .and .i64 a0 4095) 56) (wrap64 (Go.bits .and .i64 a2 7 * 8))) := Lib.hid (with_1 a0 a2)
        go_enter Tryd.func61, Tryd.ntmps61
        go_wp2
        go_quiet ((go_at_call 49; exact Calls.quiet_of_same (shift_1 _)))
        go_wp2
        go_ret
        exact ⟨ret_int e.out.symm, by repeat (first | exact Drawn0.refl _ | apply Drawn0.step)⟩
      · have e : Hid (withS a0 2 a2 = Go.bits .or .i64 (Go.bits .andNot .i64 (Go.bits .and .i64 a0 4095) 7) (wrap64 (Go.bits .and .i64 a2 7))) := Lib.hid (with_2 a0 a2)
        go_enter Tryd.func61, Tryd.ntmps61
        go_wp2
        go_quiet ((go_at_call 49; exact Calls.quiet_of_same (shift_2 _)))
        go_wp2
        go_ret
        exact ⟨ret_int e.out.symm, by repeat (first | exact Drawn0.refl _ | apply Drawn0.step)⟩
/-! ### apply_has: function 46 -/
def apply_has.l0 : Nat → Int → Int → List Int → Int → Int → Option (Int)
  | 0, _, _, _, _, _ => none
  | k + 1, x0, x5, x13, x14, x15 => if x15 < x14 then (if 0 ≤ x15 then (if x15 < (x13.length : Int) then (if (Go.bits .and .i64 (shr .i64 x0 x15) 1) = 1 then ((modes_With.f 0 x15 7).bind fun t327 => (apply_has.l0 k x0 (Go.bits .or .i64 x5 (Go.bits .or .i64 (rd x13 x15) t327)) x13 x14 (wrap64 (x15 + 1)))) else (apply_has.l0 k x0 x5 x13 x14 (wrap64 (x15 + 1)))) else (none)) else (none)) else (some x5)
def apply_has.f (k : Nat) (a0 : Int) (a1 : Int) : Option (Int) := if a0 = 0 then (some (Go.bits .andNot .i64 4095 (Go.bits .and .i64 a1 511))) else ((some (([2048, 1024, 512] : List Int) : List Int)).bind fun y323 => (apply_has.l0 k a0 0 y323 (y323.length : Int) 0))
theorem apply_has.mono_l : ∀ k, (∀ y0 y1 y2 y3 y4, LeO (apply_has.l0 k y0 y1 y2 y3 y4) (apply_has.l0 (k + 1) y0 y1 y2 y3 y4))
  | 0 => fun _ _ _ _ _ r h => by simp [apply_has.l0] at h
  | k + 1 => by
    have ih0 := apply_has.mono_l k
    · intro y0 y1 y2 y3 y4
      unfold apply_has.l0
      repeat' first
      | (with_reducible exact ih0 _ _ _ _ _)
      | (with_reducible exact LeO.refl _)
      | (with_reducible exact LeO.none _)
      | (with_reducible refine LeO.ite ?_ ?_)
      | (with_reducible refine LeO.bind ?_ (fun _ => ?_))
      | exact ih0 _ _ _ _ _
      | exact LeO.none _
      | refine LeO.ite ?_ ?_
      | refine LeO.bind ?_ (fun _ => ?_)
theorem apply_has.mono : ∀ a0 a1 k, LeO (apply_has.f k a0 a1) (apply_has.f (k + 1) a0 a1) := by
  intro a0 a1 k
  have ih0 := apply_has.mono_l k
  unfold apply_has.f
  repeat' first
      | (with_reducible exact ih0 _ _ _ _ _)
      | (with_reducible exact LeO.refl _)
      | (with_reducible exact LeO.none _)
      | (with_reducible refine LeO.ite ?_ ?_)
      | (with_reducible refine LeO.bind ?_ (fun _ => ?_))
      | exact ih0 _ _ _ _ _
      | exact LeO.none _
      | refine LeO.ite ?_ ?_
      | refine LeO.bind ?_ (fun _ => ?_)
set_option maxHeartbeats 8000000 in
set_option maxRecDepth 100000 in
theorem apply_has.calls (k : Nat) (a0 : Int) (a1 : Int) (r : Int) (w : World) (h : apply_has.f k a0 a1 = some r) :
    Calls Tryd.prog 46 #[.int .i64 a0, .int .i64 a1] w fun e w' => e = .returned (.int .i64 r) ∧ Below w.heap.size w w' := by
  have HB := Aside0.mk (Below.refl w.heap.size w)
  have H : (if a0 = 0 then (some (Go.bits .andNot .i64 4095 (Go.bits .and .i64 a1 511))) else ((some (([2048, 1024, 512] : List Int) : List Int)).bind fun y323 => (apply_has.l0 k a0 0 y323 (y323.length : Int) 0))) = some r := h
  clear h
  by_cases c3 : a0 = 0
  · rw [if_pos c3] at H
    have c3b0 : (a0 == 0) = true := beq_iff_eq.mpr c3
    have c3b1 : (a0 != 0) = false := bne_eq_false_iff_eq.mpr c3
    clear c3
    obtain rfl := Option.some.inj H
    go_enter Tryd.func46, Tryd.ntmps46
    go_wp2
    go_ret
    exact ⟨by first | rfl | (simp [errW_none, errW_some] <;> rfl) | (simp [*, errW_none, errW_some] <;> rfl), by repeat (first | (with_reducible first | exact HB.out | apply below_alloc | apply pw_below_drewN | apply below_drew1) | exact HB.out)⟩
  · rw [if_neg c3] at H
    have c3b0 : (a0 == 0) = false := beq_eq_false_iff_ne.mpr c3
    have c3b1 : (a0 != 0) = true := bne_iff_ne.mpr c3
    obtain ⟨y323, hy323⟩ : ∃ y_ : List Int, y_ = (([2048, 1024, 512] : List Int)) := ⟨_, rfl⟩
    replace H : (apply_has.l0 k a0 0 y323 (y323.length : Int) 0) = some r := by first | (rw [hy323]; with_reducible exact H) | (have H2_ := (Option.bind_some _ _).symm.trans H; rw [hy323]; with_reducible exact H2_) | (have H2_ := (Option.bind_some _ _).symm.trans H; with_reducible exact H2_) | with_reducible exact H | (rw [hy323]; exact H) | exact H
    have Ny323 := Aside0.mk hy323
    clear hy323
    have H' := Aside0.mk H
    clear H
    go_enter Tryd.func46, Tryd.ntmps46
    go_wp2_with (first | ((with_reducible refine gate_dst (N := 13) rfl ?_); refine Kd.R_lit (Kd.int .i64) _ 3 ?hg (N := 13) ?hd (xs := ([2048, 1024, 512] : List Int)) (inner := [.int .i64 2048, .int .i64 1024, .int .i64 512]) (ok := fun _ => True) (okp := fun _ => True) ?hr ?hp (fun _ hk => hk) trivial (Below.refl _ _) (Nat.le_refl _) (by simp) ?_; (case hd => rfl); (case hg => rfl); (case hr => first | (go_simp; done) | (go_simp; rfl)); (case hp => exact (Reps.one (show Kd.M (Kd.int .i64) _ _ _ 2048 [.int .i64 2048] from rfl) (Reps.one (show Kd.M (Kd.int .i64) _ _ _ 1024 [.int .i64 1024] from rfl) (Reps.one (show Kd.M (Kd.int .i64) _ _ _ 512 [.int .i64 512] from rfl) (Reps.none _ _))))); intro v324 w4 ho5 hb hg_ hnew_; clear hg_ hnew_; (first | rw [← Ny323.out] at ho5 | (simp only [Int.reduceToNat] at ho5; rw [← Ny323.out] at ho5)); have n0_ := Aside0.mk (Kd.R_lower ho5 (below_size (by repeat (first | (with_reducible first | exact HB.out | apply below_alloc | apply pw_below_drewN | apply below_drew1) | exact HB.out)))); have n1_ := Aside0.mk (below_step (by repeat (first | (with_reducible first | exact HB.out | apply below_alloc | apply pw_below_drewN | apply below_drew1) | exact HB.out)) hb); clear HB; have HO325 := n0_; have HB := n1_; clear n0_ n1_; clear hb ho5; obtain ⟨Ao6, co6, eo6⟩ := Kd.R_slice HO325.out; subst eo6))
    go_loopg [5, 15] k (fun kq v5 v15 w' => ∃ (x5_1 : Int) (x15_1 : Int), v5 = .int .i64 x5_1 ∧ v15 = .int .i64 x15_1 ∧ Aside0 (apply_has.l0 kq a0 x5_1 y323 (y323.length : Int) x15_1 = some r) ∧ Aside0 (kq ≤ k) ∧ Aside0 (Kd.R (Kd.int .i64) 3 w' w.heap.size (fun _ => True) (.slice Ao6 y323.length co6) y323) ∧ Aside0 (Below w.heap.size w w'))
    case atStart => exact ⟨(0), (0), (by first | rfl | (simp; done) | (simp [*]; done)), (by first | rfl | (simp; done) | (simp [*]; done)), H', ⟨Nat.le_refl _⟩, ⟨by (with_reducible repeat (first | apply Kd.R_alloc | apply Kd.R_drewN | apply Kd.R_drew)); exact HO325.out⟩, ⟨by repeat (first | (with_reducible first | exact HB.out | apply below_alloc | apply pw_below_drewN | apply below_drew1) | exact HB.out)⟩⟩
    case round =>
      clear H'
      try clear p2
      try clear c3
      try clear c3b0
      try clear c3b1
      try clear c4
      obtain ⟨x5_1, x15_1, rfl, rfl, HA, HK1, HO_13, HB⟩ := hrel
      cases gk with
      | zero => exact absurd HA.out (by simp [apply_has.l0])
      | succ k1 =>
        have H := HA.out
        clear HA
        simp only [apply_has.l0] at H
        by_cases c7 : x15_1 < (y323.length : Int)
        · rw [if_pos c7] at H
          have c7b0 : decide (x15_1 < (y323.length : Int)) = true := decide_eq_true c7
          clear c7
          by_cases c8 : 0 ≤ x15_1
          · rw [if_pos c8] at H
            have c8b0 : decide (0 ≤ x15_1) = true := decide_eq_true c8
            clear c8
            by_cases c9 : x15_1 < (y323.length : Int)
            · rw [if_pos c9] at H
              have c9b0 : decide (x15_1 < (y323.length : Int)) = true := decide_eq_true c9
              clear c9
              have c10b0 := eq_true (of_decide_eq_true (by first | (with_reducible assumption) | assumption) : 0 ≤ x15_1)
              obtain ⟨ji11, hji11⟩ : ∃ j_ : Int, (shr .i64 a0 x15_1) = j_ := ⟨_, rfl⟩
              replace H : (if (Go.bits .and .i64 (ji11) 1) = 1 then ((modes_With.f 0 x15_1 7).bind fun t327 => (apply_has.l0 k1 a0 (Go.bits .or .i64 x5_1 (Go.bits .or .i64 (rd y323 x15_1) t327)) y323 (y323.length : Int) (wrap64 (x15_1 + 1)))) else (apply_has.l0 k1 a0 x5_1 y323 (y323.length : Int) (wrap64 (x15_1 + 1)))) = some r := by first | (rw [hji11] at H; exact H) | (simp only [hji11] at H ⊢; exact H)
              have hji11_ : (a0 / 2 ^ min x15_1.toNat 64) = ji11 := hji11
              have hji11z : x15_1 ≤ 64 → (a0 / 2 ^ x15_1.toNat) = ji11 := shr_small hji11
              by_cases c12 : (Go.bits .and .i64 (ji11) 1) = 1
              · rw [if_pos c12] at H
                have c12b0 : ((Go.bits .and .i64 (ji11) 1) == 1) = true := beq_iff_eq.mpr c12
                have c12b1 : ((Go.bits .and .i64 (ji11) 1) != 1) = false := bne_eq_false_iff_eq.mpr c12
                clear c12
                replace H := Option.bind_eq_some_iff.mp H
                obtain ⟨t327, A130, H⟩ := H
                replace H : (apply_has.l0 k1 a0 (Go.bits .or .i64 x5_1 (Go.bits .or .i64 (rd y323 x15_1) t327)) y323 (y323.length : Int) (wrap64 (x15_1 + 1))) = some r := H
                have A13 := Aside0.mk A130
                clear A130
                have H' := Aside0.mk H
                clear H
                have p326 : 0 ≤ (x15_1 : Int) := of_decide_eq_true (by first | (with_reducible assumption) | assumption)
                have q326 : x15_1 < (y323.length : Int) := of_decide_eq_true (by first | (with_reducible assumption) | assumption)
                obtain ⟨ad326, e326, hx326_0⟩ := Kd.at_int (Kd.R_reads' HO_13.out).2.2 x15_1 p326 q326
                cases e326
                replace p326 := eq_true p326
                replace q326 := eq_true q326
                go_wp2_with (first | ((with_reducible refine gate_callee (f := 61) rfl ?_); refine goesL_ (some 28) rfl rfl Tryd.func61 (by kernel_rfl) rfl #[.int .i64 0, .int .i64 x15_1, .int .i64 7] rfl (by (try simp only [List.map_toArray, List.map_cons, List.map_nil]); first | done | rfl | (simp only [List.length_drop, List.length_take]; rfl)) ?_; (with_reducible refine (modes_With.calls 0 x15_1 7 t327 _ A13.out).mono ?_); rintro e w' ⟨rfl, ⟨nd, rfl⟩⟩; refine ⟨_, rfl, ?_⟩))
                go_roundg k1
                case measure => have := HK1.out; omega
                case rel => exact ⟨(Go.bits .or .i64 x5_1 (Go.bits .or .i64 (rd y323 x15_1) t327)), (wrap64 (x15_1 + 1)), (by first | rfl | (simp; done) | (simp [*]; done)), (by first | rfl | (simp; done) | (simp [*]; done)), H', ⟨by have := HK1.out; omega⟩, ⟨by (with_reducible repeat (first | apply Kd.R_alloc | apply Kd.R_drewN | apply Kd.R_drew)); exact HO_13.out⟩, ⟨by repeat (first | (with_reducible first | exact HB.out | apply below_alloc | apply pw_below_drewN | apply below_drew1) | exact HB.out)⟩⟩
              · rw [if_neg c12] at H
                have c12b0 : ((Go.bits .and .i64 (ji11) 1) == 1) = false := beq_eq_false_iff_ne.mpr c12
                have c12b1 : ((Go.bits .and .i64 (ji11) 1) != 1) = true := bne_iff_ne.mpr c12
                have H' := Aside0.mk H
                clear H
                have p326 : 0 ≤ (x15_1 : Int) := of_decide_eq_true (by first | (with_reducible assumption) | assumption)
                have q326 : x15_1 < (y323.length : Int) := of_decide_eq_true (by first | (with_reducible assumption) | assumption)
                obtain ⟨ad326, e326, hx326_0⟩ := Kd.at_int (Kd.R_reads' HO_13.out).2.2 x15_1 p326 q326
                cases e326
                replace p326 := eq_true p326
                replace q326 := eq_true q326
                go_wp2
                go_roundg k1
                case measure => have := HK1.out; omega
                case rel => exact ⟨(x5_1), (wrap64 (x15_1 + 1)), (by first | rfl | (simp; done) | (simp [*]; done)), (by first | rfl | (simp; done) | (simp [*]; done)), H', ⟨by have := HK1.out; omega⟩, ⟨by (with_reducible repeat (first | apply Kd.R_alloc | apply Kd.R_drewN | apply Kd.R_drew)); exact HO_13.out⟩, ⟨by repeat (first | (with_reducible first | exact HB.out | apply below_alloc | apply pw_below_drewN | apply below_drew1) | exact HB.out)⟩⟩
            · rw [if_neg c9] at H
              exact absurd H (by simp)
          · rw [if_neg c8] at H
            exact absurd H (by simp)
        · rw [if_neg c7] at H
          have c7b0 : decide (x15_1 < (y323.length : Int)) = false := decide_eq_false c7
          clear c7
          obtain rfl := Option.some.inj H
          go_wp2
          go_ret
          exact ⟨by first | rfl | (simp [errW_none, errW_some] <;> rfl) | (simp [*, errW_none, errW_some] <;> rfl), by repeat (first | (with_reducible first | exact HB.out | apply below_alloc | apply pw_below_drewN | apply below_drew1) | exact HB.out)⟩
/-! ### modes_Class: function 32 -/
def clsS (m k : Int) : Int := if k = 0 then m / 64 % 8 else if k = 1 then m / 8 % 8 else if k = 2 then m % 8 else 0
def modes_Class.f (a0 : Int) (a1 : Int) : Option (Int) := some (clsS a0 a1)
set_option maxHeartbeats 800000 in
theorem modes_Class.calls (a0 : Int) (a1 : Int) (r : Int) (w : World) (h : modes_Class.f a0 a1 = some r) :
    Calls Tryd.prog 32 #[.int .i64 a0, .int .i64 a1] w fun e w' => e = .returned (.int .i64 r) ∧ Drawn0 w w' := by
  obtain rfl := Option.some.inj h
  clear h
  by_cases k0 : a1 < 0
  · have e : Hid (clsS a0 a1 = 0) := Lib.hid (by unfold clsS; rw [if_neg (by omega), if_neg (by omega), if_neg (by omega)])
    go_enter Tryd.func32, Tryd.ntmps32
    go_wp2
    go_ret
    exact ⟨ret_int e.out.symm, by repeat (first | exact Drawn0.refl _ | apply Drawn0.step)⟩
  · by_cases k3 : 3 ≤ a1
    · have e : Hid (clsS a0 a1 = 0) := Lib.hid (by unfold clsS; rw [if_neg (by omega), if_neg (by omega), if_neg (by omega)])
      go_enter Tryd.func32, Tryd.ntmps32
      go_wp2
      go_ret
      exact ⟨ret_int e.out.symm, by repeat (first | exact Drawn0.refl _ | apply Drawn0.step)⟩
    · have hk : a1 = 0 ∨ a1 = 1 ∨ a1 = 2 := by omega
      clear k0 k3
      rcases hk with rfl | rfl | rfl
      · go_enter Tryd.func32, Tryd.ntmps32
        go_wp2
        go_ret
        exact ⟨ret_int (by rw [B.and_7]; rfl), by repeat (first | exact Drawn0.refl _ | apply Drawn0.step)⟩
      · go_enter Tryd.func32, Tryd.ntmps32
        go_wp2
        go_ret
        exact ⟨ret_int (by rw [B.and_7]; rfl), by repeat (first | exact Drawn0.refl _ | apply Drawn0.step)⟩
      · go_enter Tryd.func32, Tryd.ntmps32
        go_wp2
        go_ret
        exact ⟨ret_int (by rw [B.and_7]; rfl), by repeat (first | exact Drawn0.refl _ | apply Drawn0.step)⟩
/-! ### apply_spread: function 62 -/
def apply_spread.f (a0 : Int) : Option (Int) := some (Go.bits .or .i64 (Go.bits .or .i64 (wrap64 (a0 * 64)) (wrap64 (a0 * 8))) a0)
set_option maxHeartbeats 8000000 in
set_option maxRecDepth 100000 in
theorem apply_spread.calls (a0 : Int) (r : Int) (w : World) (h : apply_spread.f a0 = some r) :
    Calls Tryd.prog 62 #[.int .i64 a0] w fun e w' => e = .returned (.int .i64 r) ∧ Drawn0 w w' := by
  have H : (some (Go.bits .or .i64 (Go.bits .or .i64 (wrap64 (a0 * 64)) (wrap64 (a0 * 8))) a0)) = some r := h
  clear h
  obtain rfl := Option.some.inj H
  go_enter Tryd.func62, Tryd.ntmps62
  go_wp2
  go_ret
  exact ⟨by first | rfl | (simp; done) | (simp [*]; done), by repeat (first | exact Drawn0.refl _ | apply Drawn0.step)⟩
/-! ### apply_bits: function 47 -/
set_option maxHeartbeats 1600000 in
set_option maxRecDepth 100000 in
/-- The closure: the bits more, where an act has one. -/
theorem apply_bits.add (g0 g1 : Nat) (o p c q m n : Int) (W : World) (h0 : W.heap[g0]? = some (.cells #[.int .u8 o, .int .i64 p, .int .i64 c] 60 (0, 0))) (h1 : W.heap[g1]? = some (.cells #[.int .i64 n] 3 (0, 0))) :
    Calls Tryd.prog 63 #[.int .i64 q, .int .i64 m, .pointer (some ⟨g0, 0, none⟩), .pointer (some ⟨g1, 0, none⟩)] W fun e w' => e = .returned (.tuple #[]) ∧ w' = (if Go.bits .and .i64 p q = 0 then W else W.setCell ⟨g1, 0, none⟩ (.int .i64 (Go.bits .or .i64 n m))) := by
  have c1 : W.cell? ⟨g0, 1, none⟩ = some (.int .i64 p) := blk_cell h0 1
  have c2 : W.cell? ⟨g1, 0, none⟩ = some (.int .i64 n) := blk_cell h1 0
  have c3 := blk_frozen h1 0
  clear h0 h1
  by_cases hq : Go.bits .and .i64 p q = 0
  · have g : (Go.bits .and .i64 p q != 0) = false := bne_eq_false_iff_eq.mpr hq
    rw [if_pos hq]
    clear hq
    go_enter Tryd.func63, Tryd.ntmps63
    go_wp2
    go_end0
    exact ⟨rfl, rfl⟩
  · have g : (Go.bits .and .i64 p q != 0) = true := bne_iff_ne.mpr hq
    rw [if_neg hq]
    clear hq
    go_enter Tryd.func63, Tryd.ntmps63
    go_wp2
    go_end0
    exact ⟨rfl, rfl⟩
def spreadS (b : Int) : Int := Go.bits .or .i64 (Go.bits .or .i64 (wrap64 (b * 64)) (wrap64 (b * 8))) b
theorem spread_f (b : Int) : apply_spread.f b = some (spreadS b) := rfl
def anyX (m : Int) (d : Bool) : Bool := d || (Go.bits .and .i64 m (spreadS 1) != 0)
def more (p q n m : Int) : Int := if Go.bits .and .i64 p q = 0 then n else Go.bits .or .i64 n m
def plainS (p m : Int) (d : Bool) : Int := more p 32 (more p 16 (if anyX m d = true then more p 8 (spreadS (Go.bits .and .i64 p 7)) (spreadS 1) else spreadS (Go.bits .and .i64 p 7)) 3072) 512
def apply_bits.f (a0_0 : Int) (a0_1 : Int) (a0_2 : Int) (a1 : Int) (a2 : Bool) : Option Int :=
  if a0_2 > 0 then (modes_Class.f a1 (wrap64 (a0_2 - 1))).bind fun t => some (spreadS t) else some (plainS a0_1 a1 a2)
theorem apply_bits.put (g0 g1 : Nat) (o p c q m n : Int) (w0 W : World) (h0 : W.heap[g0]? = some (.cells #[.int .u8 o, .int .i64 p, .int .i64 c] 60 (0, 0))) (h1 : W.heap[g1]? = some (.cells #[.int .i64 n] 3 (0, 0))) (hb : Below w0.heap.size w0 W) (hg : w0.heap.size ≤ g1) :
    Calls Tryd.prog 63 #[.int .i64 q, .int .i64 m, .pointer (some ⟨g0, 0, none⟩), .pointer (some ⟨g1, 0, none⟩)] W fun e w' => e = .returned (.tuple #[]) ∧ w'.heap[g0]? = some (.cells #[.int .u8 o, .int .i64 p, .int .i64 c] 60 (0, 0)) ∧ w'.heap[g1]? = some (.cells #[.int .i64 (more p q n m)] 3 (0, 0)) ∧ Below w0.heap.size w0 w' := by
  have hne : g0 ≠ g1 := blk_ne h0 h1 (by decide)
  refine (apply_bits.add g0 g1 o p c q m n W h0 h1).mono ?_
  rintro e w' ⟨rfl, rfl⟩
  unfold more
  by_cases hq : Go.bits .and .i64 p q = 0
  · rw [if_pos hq, if_pos hq]
    exact ⟨rfl, h0, h1, hb⟩
  · rw [if_neg hq, if_neg hq]
    exact ⟨rfl, blk_far h0 hne _, blk_put h1 0 _ rfl, below_set hb hg⟩
set_option maxHeartbeats 3200000 in
set_option maxRecDepth 100000 in
theorem apply_bits.copied (o p c m t : Int) (d : Bool) (w : World) (hc : 0 < c) (ht : modes_Class.f m (wrap64 (c - 1)) = some t) :
    Calls Tryd.prog 47 #[.agg #[.int .u8 o, .int .i64 p, .int .i64 c], .int .i64 m, .bool d] w fun e w' => e = .returned (.int .i64 (spreadS t)) ∧ Below w.heap.size w w' := by
  have hc1 : decide (0 < c) = true := decide_eq_true hc
  obtain ⟨s, hs0⟩ : ∃ s, spreadS t = s := ⟨_, rfl⟩
  have hs : apply_spread.f t = some s := by rw [← hs0]; exact spread_f t
  rw [hs0]
  have HS := Aside0.mk hs
  have HT := Aside0.mk ht
  clear hc hs ht hs0
  obtain ⟨c1, hw⟩ : ∃ c1, wrap64 (c - 1) = c1 := ⟨_, rfl⟩
  rw [hw] at HT
  have hw2 : IntKind.i64.wrap (c - 1) = c1 := by rw [i64_w]; exact hw
  clear hw
  go_enter Tryd.func47, Tryd.ntmps47
  go_wp2_with (first | (go_at_call 32; refine (modes_Class.calls m c1 t _ HT.out).mono ?_; rintro e w' ⟨rfl, ⟨nd, rfl⟩⟩) | (go_at_call 62; refine (apply_spread.calls t s _ HS.out).mono ?_; rintro e w' ⟨rfl, ⟨nd2, rfl⟩⟩))
  go_ret
  exact ⟨rfl, by repeat (first | exact Below.refl _ _ | apply below_alloc | apply pw_below_drewN)⟩
set_option maxHeartbeats 3200000 in
set_option maxRecDepth 100000 in
theorem apply_bits.plain (o p c m : Int) (d : Bool) (w : World) (hc : ¬ 0 < c) :
    Calls Tryd.prog 47 #[.agg #[.int .u8 o, .int .i64 p, .int .i64 c], .int .i64 m, .bool d] w fun e w' => e = .returned (.int .i64 (plainS p m d)) ∧ Below w.heap.size w w' := by
  have hmf : ∀ (fn : Fn) (first cap : Array Value) (w : World), (Instr.makeFunc fn first cap).run Tryd.prog w = .ok (.func fn first cap) w := fun _ _ _ _ => rfl
  have hc1 : decide (0 < c) = false := decide_eq_false hc
  clear hc
  unfold plainS
  obtain ⟨n0, hn0⟩ : ∃ n0, spreadS (Go.bits .and .i64 p 7) = n0 := ⟨_, rfl⟩
  have HS := Aside0.mk (show apply_spread.f (Go.bits .and .i64 p 7) = some n0 by rw [← hn0]; exact spread_f _)
  rw [hn0]
  clear hn0
  unfold anyX
  obtain ⟨s1, hs1⟩ : ∃ s1, spreadS 1 = s1 := ⟨_, rfl⟩
  have HS1 := Aside0.mk (show apply_spread.f 1 = some s1 by rw [← hs1]; exact spread_f _)
  rw [hs1]
  clear hs1
  cases d with
  | true =>
    go_enter Tryd.func47, Tryd.ntmps47
    go_wp2_with (first
      | (go_at_call 62; (with_reducible refine (apply_spread.calls (Go.bits .and .i64 p 7) n0 _ HS.out).mono ?_); rintro e w' ⟨rfl, ⟨nd, rfl⟩⟩)
      | (go_at_call 62; (with_reducible refine (apply_spread.calls 1 s1 _ HS1.out).mono ?_); rintro e w' ⟨rfl, ⟨nd2, rfl⟩⟩)
      | ((with_reducible refine gate_dst (N := 7) rfl ?_); refine box_event ?hg (N := 7) ?hd (cs := #[.int .i64 0]) (t := 3) ?hr ?_; (case hd => rfl); (case hg => rfl); (case hr => first | (go_simp; done) | (go_simp; rfl)); intro g1 hg w3 hbox hb; have BX0 : Aside0 (w3.heap[w.heap.size]? = some (.cells #[.int .u8 o, .int .i64 p, .int .i64 c] 60 (0, 0))) := ⟨blk_below (blk_drewN (blk_new w _) _) hb⟩; have BX1 := Aside0.mk hbox; have NE : Aside0 (w.heap.size ≠ g1) := ⟨by rw [hg]; show w.heap.size ≠ (w.heap.push _).size; rw [Array.size_push]; omega⟩; have HG : Aside0 (w.heap.size ≤ g1) := ⟨by rw [hg]; show w.heap.size ≤ (w.heap.push _).size; rw [Array.size_push]; omega⟩; have BB : Aside0 (Below w.heap.size w w3) := ⟨below_step (pw_below_drewN ((Below.refl _ _).alloc (Nat.le_refl _) _) _) hb⟩; have v1 : w3.cell? ⟨g1, 0, none⟩ = some (.int .i64 0) := blk_cell hbox 0; have v2 := blk_frozen hbox 0; clear hg hbox hb)
      | (go_at_call 63; first | ((with_reducible refine (apply_bits.put w.heap.size g1 o p c 8 s1 n0 w _ ?b0 ?b1 ?bb HG.out).mono ?_); (case b1 => (repeat (first | exact BX1.out | exact blk_put BX1.out 0 _ rfl | refine blk_drewN ?_ _))); (case b0 => (repeat (first | exact BX0.out | refine blk_drewN ?_ _ | exact blk_far BX0.out NE.out _))); (case bb => (repeat (first | exact BB.out | refine pw_below_drewN ?_ _ | exact below_set BB.out HG.out))); rintro e w5 ⟨rfl, b0, b1, bb⟩; clear BX0 BX1 BB; have BX0 := Aside0.mk b0; have BX1 := Aside0.mk b1; have BB := Aside0.mk bb; clear b0 b1 bb) | ((with_reducible refine (apply_bits.put w.heap.size g1 o p c 16 3072 (more p 8 n0 s1) w _ ?b0 ?b1 ?bb HG.out).mono ?_); (case b1 => (repeat (first | exact BX1.out | exact blk_put BX1.out 0 _ rfl | refine blk_drewN ?_ _))); (case b0 => (repeat (first | exact BX0.out | refine blk_drewN ?_ _ | exact blk_far BX0.out NE.out _))); (case bb => (repeat (first | exact BB.out | refine pw_below_drewN ?_ _ | exact below_set BB.out HG.out))); rintro e w5 ⟨rfl, b0, b1, bb⟩; clear BX0 BX1 BB; have BX0 := Aside0.mk b0; have BX1 := Aside0.mk b1; have BB := Aside0.mk bb; clear b0 b1 bb) | ((with_reducible refine (apply_bits.put w.heap.size g1 o p c 32 512 (more p 16 (more p 8 n0 s1) 3072) w _ ?b0 ?b1 ?bb HG.out).mono ?_); (case b1 => (repeat (first | exact BX1.out | exact blk_put BX1.out 0 _ rfl | refine blk_drewN ?_ _))); (case b0 => (repeat (first | exact BX0.out | refine blk_drewN ?_ _ | exact blk_far BX0.out NE.out _))); (case bb => (repeat (first | exact BB.out | refine pw_below_drewN ?_ _ | exact below_set BB.out HG.out))); rintro e w5 ⟨rfl, b0, b1, bb⟩; clear BX0 BX1 BB; have BX0 := Aside0.mk b0; have BX1 := Aside0.mk b1; have BB := Aside0.mk bb; clear b0 b1 bb; have z1 : w5.cell? ⟨g1, 0, none⟩ = _ := blk_cell BX1.out 0)))
    go_ret
    exact ⟨rfl, BB.out⟩
  | false =>
    by_cases hm : (Go.bits .and .i64 m s1 != 0) = true
    · rw [if_pos (by rw [hm]; rfl)]
      go_enter Tryd.func47, Tryd.ntmps47
      go_wp2_with (first
        | (go_at_call 62; (with_reducible refine (apply_spread.calls (Go.bits .and .i64 p 7) n0 _ HS.out).mono ?_); rintro e w' ⟨rfl, ⟨nd, rfl⟩⟩)
        | (go_at_call 62; (with_reducible refine (apply_spread.calls 1 s1 _ HS1.out).mono ?_); rintro e w' ⟨rfl, ⟨nd2, rfl⟩⟩)
        | ((with_reducible refine gate_dst (N := 7) rfl ?_); refine box_event ?hg (N := 7) ?hd (cs := #[.int .i64 0]) (t := 3) ?hr ?_; (case hd => rfl); (case hg => rfl); (case hr => first | (go_simp; done) | (go_simp; rfl)); intro g1 hg w3 hbox hb; have BX0 : Aside0 (w3.heap[w.heap.size]? = some (.cells #[.int .u8 o, .int .i64 p, .int .i64 c] 60 (0, 0))) := ⟨blk_below (blk_drewN (blk_new w _) _) hb⟩; have BX1 := Aside0.mk hbox; have NE : Aside0 (w.heap.size ≠ g1) := ⟨by rw [hg]; show w.heap.size ≠ (w.heap.push _).size; rw [Array.size_push]; omega⟩; have HG : Aside0 (w.heap.size ≤ g1) := ⟨by rw [hg]; show w.heap.size ≤ (w.heap.push _).size; rw [Array.size_push]; omega⟩; have BB : Aside0 (Below w.heap.size w w3) := ⟨below_step (pw_below_drewN ((Below.refl _ _).alloc (Nat.le_refl _) _) _) hb⟩; have v1 : w3.cell? ⟨g1, 0, none⟩ = some (.int .i64 0) := blk_cell hbox 0; have v2 := blk_frozen hbox 0; clear hg hbox hb)
        | (go_at_call 63; first | ((with_reducible refine (apply_bits.put w.heap.size g1 o p c 8 s1 n0 w _ ?b0 ?b1 ?bb HG.out).mono ?_); (case b1 => (repeat (first | exact BX1.out | exact blk_put BX1.out 0 _ rfl | refine blk_drewN ?_ _))); (case b0 => (repeat (first | exact BX0.out | refine blk_drewN ?_ _ | exact blk_far BX0.out NE.out _))); (case bb => (repeat (first | exact BB.out | refine pw_below_drewN ?_ _ | exact below_set BB.out HG.out))); rintro e w5 ⟨rfl, b0, b1, bb⟩; clear BX0 BX1 BB; have BX0 := Aside0.mk b0; have BX1 := Aside0.mk b1; have BB := Aside0.mk bb; clear b0 b1 bb) | ((with_reducible refine (apply_bits.put w.heap.size g1 o p c 16 3072 (more p 8 n0 s1) w _ ?b0 ?b1 ?bb HG.out).mono ?_); (case b1 => (repeat (first | exact BX1.out | exact blk_put BX1.out 0 _ rfl | refine blk_drewN ?_ _))); (case b0 => (repeat (first | exact BX0.out | refine blk_drewN ?_ _ | exact blk_far BX0.out NE.out _))); (case bb => (repeat (first | exact BB.out | refine pw_below_drewN ?_ _ | exact below_set BB.out HG.out))); rintro e w5 ⟨rfl, b0, b1, bb⟩; clear BX0 BX1 BB; have BX0 := Aside0.mk b0; have BX1 := Aside0.mk b1; have BB := Aside0.mk bb; clear b0 b1 bb) | ((with_reducible refine (apply_bits.put w.heap.size g1 o p c 32 512 (more p 16 (more p 8 n0 s1) 3072) w _ ?b0 ?b1 ?bb HG.out).mono ?_); (case b1 => (repeat (first | exact BX1.out | exact blk_put BX1.out 0 _ rfl | refine blk_drewN ?_ _))); (case b0 => (repeat (first | exact BX0.out | refine blk_drewN ?_ _ | exact blk_far BX0.out NE.out _))); (case bb => (repeat (first | exact BB.out | refine pw_below_drewN ?_ _ | exact below_set BB.out HG.out))); rintro e w5 ⟨rfl, b0, b1, bb⟩; clear BX0 BX1 BB; have BX0 := Aside0.mk b0; have BX1 := Aside0.mk b1; have BB := Aside0.mk bb; clear b0 b1 bb; have z1 : w5.cell? ⟨g1, 0, none⟩ = _ := blk_cell BX1.out 0)))
      go_ret
      exact ⟨rfl, BB.out⟩
    · rw [Bool.not_eq_true] at hm
      rw [if_neg (by rw [hm]; decide)]
      go_enter Tryd.func47, Tryd.ntmps47
      go_wp2_with (first
        | (go_at_call 62; (with_reducible refine (apply_spread.calls (Go.bits .and .i64 p 7) n0 _ HS.out).mono ?_); rintro e w' ⟨rfl, ⟨nd, rfl⟩⟩)
        | (go_at_call 62; (with_reducible refine (apply_spread.calls 1 s1 _ HS1.out).mono ?_); rintro e w' ⟨rfl, ⟨nd2, rfl⟩⟩)
        | ((with_reducible refine gate_dst (N := 7) rfl ?_); refine box_event ?hg (N := 7) ?hd (cs := #[.int .i64 0]) (t := 3) ?hr ?_; (case hd => rfl); (case hg => rfl); (case hr => first | (go_simp; done) | (go_simp; rfl)); intro g1 hg w3 hbox hb; have BX0 : Aside0 (w3.heap[w.heap.size]? = some (.cells #[.int .u8 o, .int .i64 p, .int .i64 c] 60 (0, 0))) := ⟨blk_below (blk_drewN (blk_new w _) _) hb⟩; have BX1 := Aside0.mk hbox; have NE : Aside0 (w.heap.size ≠ g1) := ⟨by rw [hg]; show w.heap.size ≠ (w.heap.push _).size; rw [Array.size_push]; omega⟩; have HG : Aside0 (w.heap.size ≤ g1) := ⟨by rw [hg]; show w.heap.size ≤ (w.heap.push _).size; rw [Array.size_push]; omega⟩; have BB : Aside0 (Below w.heap.size w w3) := ⟨below_step (pw_below_drewN ((Below.refl _ _).alloc (Nat.le_refl _) _) _) hb⟩; have v1 : w3.cell? ⟨g1, 0, none⟩ = some (.int .i64 0) := blk_cell hbox 0; have v2 := blk_frozen hbox 0; clear hg hbox hb)
        | (go_at_call 63; first | ((with_reducible refine (apply_bits.put w.heap.size g1 o p c 8 s1 n0 w _ ?b0 ?b1 ?bb HG.out).mono ?_); (case b1 => (repeat (first | exact BX1.out | exact blk_put BX1.out 0 _ rfl | refine blk_drewN ?_ _))); (case b0 => (repeat (first | exact BX0.out | refine blk_drewN ?_ _ | exact blk_far BX0.out NE.out _))); (case bb => (repeat (first | exact BB.out | refine pw_below_drewN ?_ _ | exact below_set BB.out HG.out))); rintro e w5 ⟨rfl, b0, b1, bb⟩; clear BX0 BX1 BB; have BX0 := Aside0.mk b0; have BX1 := Aside0.mk b1; have BB := Aside0.mk bb; clear b0 b1 bb) | ((with_reducible refine (apply_bits.put w.heap.size g1 o p c 16 3072 n0 w _ ?b0 ?b1 ?bb HG.out).mono ?_); (case b1 => (repeat (first | exact BX1.out | exact blk_put BX1.out 0 _ rfl | refine blk_drewN ?_ _))); (case b0 => (repeat (first | exact BX0.out | refine blk_drewN ?_ _ | exact blk_far BX0.out NE.out _))); (case bb => (repeat (first | exact BB.out | refine pw_below_drewN ?_ _ | exact below_set BB.out HG.out))); rintro e w5 ⟨rfl, b0, b1, bb⟩; clear BX0 BX1 BB; have BX0 := Aside0.mk b0; have BX1 := Aside0.mk b1; have BB := Aside0.mk bb; clear b0 b1 bb) | ((with_reducible refine (apply_bits.put w.heap.size g1 o p c 32 512 (more p 16 n0 3072) w _ ?b0 ?b1 ?bb HG.out).mono ?_); (case b1 => (repeat (first | exact BX1.out | exact blk_put BX1.out 0 _ rfl | refine blk_drewN ?_ _))); (case b0 => (repeat (first | exact BX0.out | refine blk_drewN ?_ _ | exact blk_far BX0.out NE.out _))); (case bb => (repeat (first | exact BB.out | refine pw_below_drewN ?_ _ | exact below_set BB.out HG.out))); rintro e w5 ⟨rfl, b0, b1, bb⟩; clear BX0 BX1 BB; have BX0 := Aside0.mk b0; have BX1 := Aside0.mk b1; have BB := Aside0.mk bb; clear b0 b1 bb; have z1 : w5.cell? ⟨g1, 0, none⟩ = _ := blk_cell BX1.out 0)))
      go_ret
      exact ⟨rfl, BB.out⟩
theorem apply_bits.calls (a0_0 : Int) (a0_1 : Int) (a0_2 : Int) (a1 : Int) (a2 : Bool) (r : Int) (w : World) (h : apply_bits.f a0_0 a0_1 a0_2 a1 a2 = some r) :
    Calls Tryd.prog 47 #[.agg #[.int .u8 a0_0, .int .i64 a0_1, .int .i64 a0_2], .int .i64 a1, .bool a2] w fun e w' => e = .returned (.int .i64 r) ∧ Below w.heap.size w w' := by
  unfold apply_bits.f at h
  split at h
  · rename_i hc
    obtain ⟨t, ht, h⟩ := Option.bind_eq_some_iff.mp h
    have hr : spreadS t = r := Option.some.inj h
    subst hr
    exact apply_bits.copied a0_0 a0_1 a0_2 a1 t a2 w hc ht
  · rename_i hc
    have hr : plainS a0_1 a1 a2 = r := Option.some.inj h
    subst hr
    exact apply_bits.plain a0_0 a0_1 a0_2 a1 a2 w hc
end Go.Proofs.YtlohbepfecahdaaDoor.S
