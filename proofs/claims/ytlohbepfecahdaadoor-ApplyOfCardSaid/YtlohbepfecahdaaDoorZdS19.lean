-- Written by wip/tools/myprint.py, a session's own driver of the kit's printer.
import Derived.ArgAppend
import Derived.Below
import Derived.BigQuiet
import Derived.Deep.AppendLies
import Derived.Deep.CutBlock
import Derived.Deep.DeepCutAuto
import Derived.Deep.Draws
import Derived.Deep.LoopGhost
import Derived.Deep.OwnRows
import Derived.Deep.QuietTactic
import Derived.Deep.RegionHeld3
import Derived.Handy
import Derived.KernelRfl
import Derived.Laws.BitsAllLaws
import Derived.Laws.BitsLemmas
import Derived.Laws.BytesArg
import Derived.Laws.IdiomCopy
import Derived.Laws.MakeOwn
import Derived.Laws.OwnMore
import Derived.Laws.RangeAny
import Derived.Laws.Rows
import Derived.Laws.Slices
import Derived.Laws.StructEq
import Derived.Lib.AppendStr
import Derived.Lib.ConvBytes
import Derived.Lib.FieldsP
import Derived.Lib.Hide
import Derived.Lib.IndexAny
import Derived.Lib.OthersKept
import Derived.Lib.SlBytesConst
import Derived.Lib.SpaceUEq
import Derived.Maps.AppendAt
import Derived.OneCell
import Derived.OrdersHeld
import Derived.OwnWalk
import Derived.RowKit
import Derived.RowKit3
import Derived.Shelf.LaysM
import Derived.Shelf.Small.Strs
import Derived.Shelf.Small.Utf8
import Derived.Shelf.Strings.Builder1
import Derived.Shelf.Strings.Builder2
import Derived.Shelf.Strings.BuilderF
import Derived.Shelf.Strings.BuilderK
import Derived.Shelf.Strings.Count
import Derived.Shelf.Strings.OnBuilder
import Derived.Shelf.Strings.Runes
import Derived.Shelf.Strings.Search1
import Derived.Shelf.Strings.Search2
import Derived.Shelf.Strings.Search3
import Derived.Shelf.Strings.Shaped
import Derived.Shelf.Strings.Split
import Derived.Shelf.Strings.SplitShaped
import Derived.Shelf.Unicode.DecodeSlow
import Derived.Tactics
import Derived.Test.YtlohbepfecahdaaDoorProg
import Derived.WalkKit
import Derived.WideLaws
import Derived.Test.YtlohbepfecahdaaDoorZdWWords
import Derived.Test.YtlohbepfecahdaaDoorZdWLast
import Derived.Test.YtlohbepfecahdaaDoorZdWApart
import Derived.Test.YtlohbepfecahdaaDoorZdWFoot
import Derived.Test.YtlohbepfecahdaaDoorZdWMore
import Derived.Test.YtlohbepfecahdaaDoorZdB
import Derived.Test.YtlohbepfecahdaaDoorZdC
import Derived.Test.YtlohbepfecahdaaDoorZdShelf
import Derived.Test.YtlohbepfecahdaaDoorZdD
import Derived.Test.YtlohbepfecahdaaDoorZdWTab
import Derived.Test.YtlohbepfecahdaaDoorZdWEqStruct
import Derived.Test.YtlohbepfecahdaaDoorZdWRepsOne
import Derived.Test.YtlohbepfecahdaaDoorZdWGuard
import Derived.Test.YtlohbepfecahdaaDoorZdS0
import Derived.Test.YtlohbepfecahdaaDoorZdS7
import Derived.Test.YtlohbepfecahdaaDoorZdS18
namespace Go.Proofs.YtlohbepfecahdaaDoor.S
open Go.RowKit Go.Proofs.YtlohbepfecahdaaDoorW.PrintWords Go.Proofs.YtlohbepfecahdaaDoorW.PrintLast Go.Proofs.YtlohbepfecahdaaDoorW.PrintMore
set_option linter.unusedVariables false
set_option linter.unusedSimpArgs false
/-! ### gaolerref03_act: function 48 -/
mutual
def gaolerref03_act.l0 : Nat → Int → Int → Bool → Int → Int → Int → Int → Int → Int → Option (Int)
  | 0, _, _, _, _, _, _, _, _, _ => none
  | k + 1, x1, x2, x3, x4, x11, x12, x378000, x378001, x378002 => if x12 < 12 then ((gaolerref01_Bit.f k x2 x12).bind fun t378 => ((gaolerref03_has.f k x1 x4 x12).bind fun t379 => (if t379 = true then ((gaolerref03_in.f k x378000 x378001 x378002 x2 x3 x12).bind fun t380 => (gaolerref03_act.j1 k x1 x2 x3 x4 x11 x12 t378 t379 t380 x378000 x378001 x378002)) else (gaolerref03_act.j1 k x1 x2 x3 x4 x11 x12 t378 t379 false x378000 x378001 x378002)))) else (some x11)
def gaolerref03_act.j1 : Nat → Int → Int → Bool → Int → Int → Int → Bool → Bool → Bool → Int → Int → Int → Option (Int)
  | 0, _, _, _, _, _, _, _, _, _, _, _, _ => none
  | k + 1, x1, x2, x3, x4, x11, x12, x13, x14, x15, x378000, x378001, x378002 => if x378000 = 43 then (if x13 = true then (gaolerref03_act.j2 k x1 x2 x3 x4 x11 x12 true x14 x15 x378000 x378001 x378002) else (gaolerref03_act.j2 k x1 x2 x3 x4 x11 x12 x15 x14 x15 x378000 x378001 x378002)) else (gaolerref03_act.j2 k x1 x2 x3 x4 x11 x12 x13 x14 x15 x378000 x378001 x378002)
def gaolerref03_act.j2 : Nat → Int → Int → Bool → Int → Int → Int → Bool → Bool → Bool → Int → Int → Int → Option (Int)
  | 0, _, _, _, _, _, _, _, _, _, _, _, _ => none
  | k + 1, x1, x2, x3, x4, x11, x12, x13, x14, x15, x378000, x378001, x378002 => if x378000 = 45 then (if x13 = true then (gaolerref03_act.j3 k x1 x2 x3 x4 x11 x12 (!x15) x14 x15 x378000 x378001 x378002) else (gaolerref03_act.j3 k x1 x2 x3 x4 x11 x12 false x14 x15 x378000 x378001 x378002)) else (gaolerref03_act.j3 k x1 x2 x3 x4 x11 x12 x13 x14 x15 x378000 x378001 x378002)
def gaolerref03_act.j3 : Nat → Int → Int → Bool → Int → Int → Int → Bool → Bool → Bool → Int → Int → Int → Option (Int)
  | 0, _, _, _, _, _, _, _, _, _, _, _, _ => none
  | k + 1, x1, x2, x3, x4, x11, x12, x13, x14, x15, x378000, x378001, x378002 => if x378000 = 61 then (if x15 = true then ((gaolerref02_Pow.f k x12).bind fun t381 => (gaolerref03_act.l0 k x1 x2 x3 x4 (wrap64 (x11 + t381)) (wrap64 (x12 + 1)) x378000 x378001 x378002)) else (if x13 = true then (if x14 = true then (gaolerref03_act.l0 k x1 x2 x3 x4 x11 (wrap64 (x12 + 1)) x378000 x378001 x378002) else (if x1 > 0 then ((gaolerref02_Pow.f k x12).bind fun t382 => (gaolerref03_act.l0 k x1 x2 x3 x4 (wrap64 (x11 + t382)) (wrap64 (x12 + 1)) x378000 x378001 x378002)) else (gaolerref03_act.l0 k x1 x2 x3 x4 x11 (wrap64 (x12 + 1)) x378000 x378001 x378002))) else (gaolerref03_act.l0 k x1 x2 x3 x4 x11 (wrap64 (x12 + 1)) x378000 x378001 x378002))) else (if x13 = true then ((gaolerref02_Pow.f k x12).bind fun t383 => (gaolerref03_act.l0 k x1 x2 x3 x4 (wrap64 (x11 + t383)) (wrap64 (x12 + 1)) x378000 x378001 x378002)) else (gaolerref03_act.l0 k x1 x2 x3 x4 x11 (wrap64 (x12 + 1)) x378000 x378001 x378002))
end
def gaolerref03_act.f (k : Nat) (a0_0 : Int) (a0_1 : Int) (a0_2 : Int) (a1 : Int) (a2 : Int) (a3 : Bool) (a4 : Int) : Option (Int) := gaolerref03_act.l0 k a1 a2 a3 a4 0 0 a0_0 a0_1 a0_2
set_option maxHeartbeats 8000000 in
set_option maxRecDepth 100000 in
theorem gaolerref03_act.calls (k : Nat) (a0_0 : Int) (a0_1 : Int) (a0_2 : Int) (a1 : Int) (a2 : Int) (a3 : Bool) (a4 : Int) (r : Int) (w : World) (h : gaolerref03_act.f k a0_0 a0_1 a0_2 a1 a2 a3 a4 = some r) :
    Calls Tryd.prog 48 #[.agg #[.int .u8 a0_0, .int .i64 a0_1, .int .i64 a0_2], .int .i64 a1, .int .i64 a2, .bool a3, .int .i64 a4] w fun e w' => e = .returned (.int .i64 r) ∧ Below w.heap.size w w' := by
  have hu75 := Tryd.underlying75
  have HB := Aside0.mk (Below.refl w.heap.size w)
  have H : (gaolerref03_act.l0 k a1 a2 a3 a4 0 0 a0_0 a0_1 a0_2) = some r := h
  clear h
  have H' := Aside0.mk H
  clear H
  go_enter Tryd.func48, Tryd.ntmps48
  go_wp2_with (first | ((with_reducible refine gate_dst (N := 5) rfl ?_); refine box_event ?hg (N := 5) ?hd (cs := #[.int .u8 a0_0, .int .i64 a0_1, .int .i64 a0_2]) (t := 75) ?hr ?_; (case hd => rfl); (case hg => rfl); (case hr => first | (go_simp; done) | (go_simp; rfl)); intro gb377 hg w6 hbox hb; have n0_ := Aside0.mk (below_step (by repeat (first | (with_reducible first | exact HB.out | apply below_alloc | apply pw_below_drewN | apply below_drew1) | exact HB.out)) hb); have n1_ := Aside0.mk (hbox); have n2_ := Aside0.mk ((by rw [hg]; exact (below_size (by repeat (first | (with_reducible first | exact HB.out | apply below_alloc | apply pw_below_drewN | apply below_drew1) | exact HB.out))) : w.heap.size ≤ gb377)); have n3_ := Aside0.mk ((by rw [hg]; exact (below_size (by repeat (first | (with_reducible first | exact HB.out | apply below_alloc | apply pw_below_drewN | apply below_drew1) | exact HB.out))) : w.heap.size ≤ gb377)); clear HB; have HB := n0_; have BK377 := n1_; have GW377 := n2_; have GE377 := n3_; clear n0_ n1_ n2_ n3_; clear hb hbox hg))
  go_loopg [11, 12] k (fun kq v11 v12 w' => ∃ (x11_1 : Int) (x12_1 : Int), v11 = .int .i64 x11_1 ∧ v12 = .int .i64 x12_1 ∧ Aside0 (gaolerref03_act.l0 kq a1 a2 a3 a4 x11_1 x12_1 a0_0 a0_1 a0_2 = some r) ∧ Aside0 (kq ≤ k) ∧ Aside0 (w'.heap[gb377]? = some (.cells #[.int .u8 a0_0, .int .i64 a0_1, .int .i64 a0_2] 75 (0, 0))) ∧ Aside0 (Below w.heap.size w w'))
  case atStart => exact ⟨(0), (0), (by first | rfl | (simp; done) | (simp [*]; done)), (by first | rfl | (simp; done) | (simp [*]; done)), H', ⟨Nat.le_refl _⟩, ⟨by (with_reducible repeat (first | refine blk_drewN ?_ _ | refine blk_drew ?_ | refine blk_alloc ?_ _)); exact BK377.out⟩, ⟨by repeat (first | (with_reducible first | exact HB.out | apply below_alloc | apply pw_below_drewN | apply below_drew1 | refine below_set ?_ GE377.out) | exact HB.out)⟩⟩
  case round =>
    clear H'
    try clear p2
    try clear c4
    obtain ⟨x11_1, x12_1, rfl, rfl, HA, HK1, BK377, HB⟩ := hrel
    cases gk with
    | zero => exact absurd HA.out (by simp [gaolerref03_act.l0])
    | succ k1 =>
      have H := HA.out
      clear HA
      simp only [gaolerref03_act.l0] at H
      by_cases c7 : x12_1 < 12
      · rw [if_pos c7] at H
        have c7b0 : decide (x12_1 < 12) = true := decide_eq_true c7
        clear c7
        replace H := Option.bind_eq_some_iff.mp H
        obtain ⟨t378, A80, H⟩ := H
        replace H : ((gaolerref03_has.f k1 a1 a4 x12_1).bind fun t379 => (if t379 = true then ((gaolerref03_in.f k1 a0_0 a0_1 a0_2 a2 a3 x12_1).bind fun t380 => (gaolerref03_act.j1 k1 a1 a2 a3 a4 x11_1 x12_1 t378 t379 t380 a0_0 a0_1 a0_2)) else (gaolerref03_act.j1 k1 a1 a2 a3 a4 x11_1 x12_1 t378 t379 false a0_0 a0_1 a0_2))) = some r := H
        have A8 := Aside0.mk A80
        clear A80
        replace H := Option.bind_eq_some_iff.mp H
        obtain ⟨t379, A90, H⟩ := H
        replace H : (if t379 = true then ((gaolerref03_in.f k1 a0_0 a0_1 a0_2 a2 a3 x12_1).bind fun t380 => (gaolerref03_act.j1 k1 a1 a2 a3 a4 x11_1 x12_1 t378 t379 t380 a0_0 a0_1 a0_2)) else (gaolerref03_act.j1 k1 a1 a2 a3 a4 x11_1 x12_1 t378 t379 false a0_0 a0_1 a0_2)) = some r := H
        have A9 := Aside0.mk A90
        clear A90
        have HC10 := Aside0.mk H
        clear H
        go_upto_region 7 with (first | ((with_reducible refine gate_callee (f := 64) rfl ?_); refine goesL_ (some 22) rfl rfl Tryd.func64 (by kernel_rfl) rfl #[.int .i64 a2, .int .i64 x12_1] rfl (by (try simp only [List.map_toArray, List.map_cons, List.map_nil]); first | done | rfl | (simp only [List.length_drop, List.length_take]; rfl)) ?_; (with_reducible refine (gaolerref01_Bit.calls k1 a2 x12_1 t378 _ A8.out).mono ?_); rintro e w' ⟨rfl, ⟨nd, rfl⟩⟩; refine ⟨_, rfl, ?_⟩) | ((with_reducible refine gate_callee (f := 65) rfl ?_); refine goesL_ (some 26) rfl rfl Tryd.func65 (by kernel_rfl) rfl #[.int .i64 a1, .int .i64 a4, .int .i64 x12_1] rfl (by (try simp only [List.map_toArray, List.map_cons, List.map_nil]); first | done | rfl | (simp only [List.length_drop, List.length_take]; rfl)) ?_; (with_reducible refine (gaolerref03_has.calls k1 a1 a4 x12_1 t379 _ A9.out).mono ?_); rintro e w' ⟨rfl, ⟨nd, rfl⟩⟩; refine ⟨_, rfl, ?_⟩))
        (try simp only [Act.put, List.setIfInBounds_toArray, List.set_cons_zero, List.set_cons_succ])
        go_cut [15] (fun v15 wc => ∃ (kq : Nat) (x15_9 : Bool), v15 = .bool x15_9 ∧ Aside0 (gaolerref03_act.j1 kq a1 a2 a3 a4 x11_1 x12_1 t378 t379 x15_9 a0_0 a0_1 a0_2 = some r) ∧ Aside0 (kq ≤ k1) ∧ Aside0 (wc.heap[gb377]? = some (.cells #[.int .u8 a0_0, .int .i64 a0_1, .int .i64 a0_2] 75 (0, 0))) ∧ Aside0 (Below w.heap.size w wc))
        case first =>
          have H := HC10.out
          clear HC10
          by_cases c11 : t379 = true
          · subst c11
            have H1 : ((gaolerref03_in.f k1 a0_0 a0_1 a0_2 a2 a3 x12_1).bind fun t380 => (gaolerref03_act.j1 k1 a1 a2 a3 a4 x11_1 x12_1 t378 true t380 a0_0 a0_1 a0_2)) = some r := by rw [if_pos rfl] at H; exact H
            clear H
            have H := H1
            clear H1
            replace H := Option.bind_eq_some_iff.mp H
            obtain ⟨t380, A120, H⟩ := H
            replace H : (gaolerref03_act.j1 k1 a1 a2 a3 a4 x11_1 x12_1 t378 true t380 a0_0 a0_1 a0_2) = some r := H
            have A12 := Aside0.mk A120
            clear A120
            have H' := Aside0.mk H
            clear H
            have hcz13_0 : wr.cell? ⟨gb377, 0, none⟩ = some (.int .u8 a0_0) := (blk_cell BK377.out 0).trans rfl
            have hcz13_1 : wr.cell? ⟨gb377, 1, none⟩ = some (.int .i64 a0_1) := (blk_cell BK377.out 1).trans rfl
            have hcz13_2 : wr.cell? ⟨gb377, 2, none⟩ = some (.int .i64 a0_2) := (blk_cell BK377.out 2).trans rfl
            have hfz13_0 := blk_frozen BK377.out 0
            have hfz13_1 := blk_frozen BK377.out 1
            have hfz13_2 := blk_frozen BK377.out 2
            go_wp2_with (first | (go_at_call 66; (with_reducible refine (gaolerref03_in.calls k1 a0_0 a0_1 a0_2 a2 a3 x12_1 t380 _ A12.out).mono ?_); rintro e w14 ⟨rfl, hb⟩; have n0_ := Aside0.mk (blk_below (g := gb377) (o := .cells #[.int .u8 a0_0, .int .i64 a0_1, .int .i64 a0_2] 75 (0, 0)) (by (with_reducible repeat (first | refine blk_drewN ?_ _ | refine blk_drew ?_ | refine blk_alloc ?_ _)); exact BK377.out) hb); have n1_ := Aside0.mk (below_step (by repeat (first | (with_reducible first | exact HB.out | apply below_alloc | apply pw_below_drewN | apply below_drew1 | refine below_set ?_ GE377.out) | exact HB.out)) hb); clear BK377; clear HB; have BK377 := n0_; have HB := n1_; clear n0_ n1_; (try clear hb); (try clear hb2); (try clear hk); (try clear hi)))
            go_meet
            case rel => exact ⟨_, (t380), (by first | rfl | (simp; done) | (simp [*]; done)), H', ⟨by have := HK1.out; first | omega | exact Nat.le_refl _⟩, ⟨by (with_reducible repeat (first | refine blk_drewN ?_ _ | refine blk_drew ?_ | refine blk_alloc ?_ _)); exact BK377.out⟩, ⟨by repeat (first | (with_reducible first | exact HB.out | apply below_alloc | apply pw_below_drewN | apply below_drew1 | refine below_set ?_ GE377.out) | exact HB.out)⟩⟩
          · replace c11 := Bool.eq_false_iff.mpr c11
            subst c11
            have H1 : (gaolerref03_act.j1 k1 a1 a2 a3 a4 x11_1 x12_1 t378 false false a0_0 a0_1 a0_2) = some r := by rw [if_neg (show ¬ (false = true) by decide)] at H; exact H
            clear H
            have H := H1
            clear H1
            have H' := Aside0.mk H
            clear H
            go_wp2
            go_meet
            case rel => exact ⟨_, (false), (by first | rfl | (simp; done) | (simp [*]; done)), H', ⟨by have := HK1.out; first | omega | exact Nat.le_refl _⟩, ⟨by (with_reducible repeat (first | refine blk_drewN ?_ _ | refine blk_drew ?_ | refine blk_alloc ?_ _)); exact BK377.out⟩, ⟨by repeat (first | (with_reducible first | exact HB.out | apply below_alloc | apply pw_below_drewN | apply below_drew1 | refine below_set ?_ GE377.out) | exact HB.out)⟩⟩
        case rest =>
          clear HC10
          try clear c1
          try clear p2
          try clear c4
          try clear c6
          try clear c7
          try clear c7b0
          try clear c11
          try clear hcz13_0
          try clear hcz13_1
          try clear hcz13_2
          try clear hfz13_0
          try clear hfz13_1
          try clear hfz13_2
          try clear p2
          obtain ⟨kq, x15_9, rfl, HA, HJ9, BK377, HB⟩ := hcut
          cases kq with
          | zero => exact absurd HA.out (by simp [gaolerref03_act.j1])
          | succ kj9 =>
            have H := HA.out
            clear HA
            simp only [gaolerref03_act.j1] at H
            have HC15 := Aside0.mk H
            clear H
            have hcz16_0 : wc.cell? ⟨gb377, 0, none⟩ = some (.int .u8 a0_0) := (blk_cell BK377.out 0).trans rfl
            have hcz16_1 : wc.cell? ⟨gb377, 1, none⟩ = some (.int .i64 a0_1) := (blk_cell BK377.out 1).trans rfl
            have hcz16_2 : wc.cell? ⟨gb377, 2, none⟩ = some (.int .i64 a0_2) := (blk_cell BK377.out 2).trans rfl
            have hfz16_0 := blk_frozen BK377.out 0
            have hfz16_1 := blk_frozen BK377.out 1
            have hfz16_2 := blk_frozen BK377.out 2
            go_upto_if 37 with (fail)
            go_cut [13] (fun v13 wc => ∃ (kq : Nat) (x13_14 : Bool), v13 = .bool x13_14 ∧ Aside0 (gaolerref03_act.j2 kq a1 a2 a3 a4 x11_1 x12_1 x13_14 t379 x15_9 a0_0 a0_1 a0_2 = some r) ∧ Aside0 (kq ≤ kj9) ∧ Aside0 (wc.heap[gb377]? = some (.cells #[.int .u8 a0_0, .int .i64 a0_1, .int .i64 a0_2] 75 (0, 0))) ∧ Aside0 (Below w.heap.size w wc))
            case first =>
              have H := HC15.out
              clear HC15
              by_cases c17 : a0_0 = 43
              · rw [if_pos c17] at H
                have c17b0 : (a0_0 == 43) = true := beq_iff_eq.mpr c17
                have c17b1 : (a0_0 != 43) = false := bne_eq_false_iff_eq.mpr c17
                clear c17
                (first | rw [c17b0] | (simp only [i64_w, i32_w]; rw [c17b0]) | skip)
                by_cases c18 : t378 = true
                · subst c18
                  have H1 : (gaolerref03_act.j2 kj9 a1 a2 a3 a4 x11_1 x12_1 true t379 x15_9 a0_0 a0_1 a0_2) = some r := by rw [if_pos rfl] at H; exact H
                  clear H
                  have H := H1
                  clear H1
                  have H' := Aside0.mk H
                  clear H
                  go_wp2
                  go_meet
                  case rel => exact ⟨_, (true), (by first | rfl | (simp; done) | (simp [*]; done)), H', ⟨by have := HK1.out; have := HJ9.out; first | omega | exact Nat.le_refl _⟩, ⟨by (with_reducible repeat (first | refine blk_drewN ?_ _ | refine blk_drew ?_ | refine blk_alloc ?_ _)); exact BK377.out⟩, ⟨by repeat (first | (with_reducible first | exact HB.out | apply below_alloc | apply pw_below_drewN | apply below_drew1 | refine below_set ?_ GE377.out) | exact HB.out)⟩⟩
                · replace c18 := Bool.eq_false_iff.mpr c18
                  subst c18
                  have H1 : (gaolerref03_act.j2 kj9 a1 a2 a3 a4 x11_1 x12_1 x15_9 t379 x15_9 a0_0 a0_1 a0_2) = some r := by rw [if_neg (show ¬ (false = true) by decide)] at H; exact H
                  clear H
                  have H := H1
                  clear H1
                  have H' := Aside0.mk H
                  clear H
                  go_wp2
                  go_meet
                  case rel => exact ⟨_, (x15_9), (by first | rfl | (simp; done) | (simp [*]; done)), H', ⟨by have := HK1.out; have := HJ9.out; first | omega | exact Nat.le_refl _⟩, ⟨by (with_reducible repeat (first | refine blk_drewN ?_ _ | refine blk_drew ?_ | refine blk_alloc ?_ _)); exact BK377.out⟩, ⟨by repeat (first | (with_reducible first | exact HB.out | apply below_alloc | apply pw_below_drewN | apply below_drew1 | refine below_set ?_ GE377.out) | exact HB.out)⟩⟩
              · rw [if_neg c17] at H
                have c17b0 : (a0_0 == 43) = false := beq_eq_false_iff_ne.mpr c17
                have c17b1 : (a0_0 != 43) = true := bne_iff_ne.mpr c17
                (first | rw [c17b0] | (simp only [i64_w, i32_w]; rw [c17b0]) | skip)
                have H' := Aside0.mk H
                clear H
                go_wp2
                go_meet
                case rel => exact ⟨_, (t378), (by first | rfl | (simp; done) | (simp [*]; done)), H', ⟨by have := HK1.out; have := HJ9.out; first | omega | exact Nat.le_refl _⟩, ⟨by (with_reducible repeat (first | refine blk_drewN ?_ _ | refine blk_drew ?_ | refine blk_alloc ?_ _)); exact BK377.out⟩, ⟨by repeat (first | (with_reducible first | exact HB.out | apply below_alloc | apply pw_below_drewN | apply below_drew1 | refine below_set ?_ GE377.out) | exact HB.out)⟩⟩
            case rest =>
              clear HC15
              try clear c1
              try clear p2
              try clear c4
              try clear c6
              try clear c7
              try clear c7b0
              try clear c11
              try clear c17
              try clear c17b0
              try clear c17b1
              try clear c18
              try clear hcz13_0
              try clear hcz13_1
              try clear hcz13_2
              try clear hcz16_0
              try clear hcz16_1
              try clear hcz16_2
              try clear hfz13_0
              try clear hfz13_1
              try clear hfz13_2
              try clear hfz16_0
              try clear hfz16_1
              try clear hfz16_2
              try clear p2
              obtain ⟨kq, x13_14, rfl, HA, HJ14, BK377, HB⟩ := hcut
              cases kq with
              | zero => exact absurd HA.out (by simp [gaolerref03_act.j2])
              | succ kj14 =>
                have H := HA.out
                clear HA
                simp only [gaolerref03_act.j2] at H
                have HC19 := Aside0.mk H
                clear H
                have hcz20_0 : wc.cell? ⟨gb377, 0, none⟩ = some (.int .u8 a0_0) := (blk_cell BK377.out 0).trans rfl
                have hcz20_1 : wc.cell? ⟨gb377, 1, none⟩ = some (.int .i64 a0_1) := (blk_cell BK377.out 1).trans rfl
                have hcz20_2 : wc.cell? ⟨gb377, 2, none⟩ = some (.int .i64 a0_2) := (blk_cell BK377.out 2).trans rfl
                have hfz20_0 := blk_frozen BK377.out 0
                have hfz20_1 := blk_frozen BK377.out 1
                have hfz20_2 := blk_frozen BK377.out 2
                go_upto_if 44 with (fail)
                go_cut [13] (fun v13 wc => ∃ (kq : Nat) (x13_18 : Bool), v13 = .bool x13_18 ∧ Aside0 (gaolerref03_act.j3 kq a1 a2 a3 a4 x11_1 x12_1 x13_18 t379 x15_9 a0_0 a0_1 a0_2 = some r) ∧ Aside0 (kq ≤ kj14) ∧ Aside0 (wc.heap[gb377]? = some (.cells #[.int .u8 a0_0, .int .i64 a0_1, .int .i64 a0_2] 75 (0, 0))) ∧ Aside0 (Below w.heap.size w wc))
                case first =>
                  have H := HC19.out
                  clear HC19
                  by_cases c21 : a0_0 = 45
                  · rw [if_pos c21] at H
                    have c21b0 : (a0_0 == 45) = true := beq_iff_eq.mpr c21
                    have c21b1 : (a0_0 != 45) = false := bne_eq_false_iff_eq.mpr c21
                    clear c21
                    (first | rw [c21b0] | (simp only [i64_w, i32_w]; rw [c21b0]) | skip)
                    by_cases c22 : x13_14 = true
                    · subst c22
                      have H1 : (gaolerref03_act.j3 kj14 a1 a2 a3 a4 x11_1 x12_1 (!x15_9) t379 x15_9 a0_0 a0_1 a0_2) = some r := by rw [if_pos rfl] at H; exact H
                      clear H
                      have H := H1
                      clear H1
                      have H' := Aside0.mk H
                      clear H
                      go_wp2
                      go_meet
                      case rel => exact ⟨_, (!x15_9), (by first | rfl | (simp; done) | (simp [*]; done)), H', ⟨by have := HK1.out; have := HJ9.out; have := HJ14.out; first | omega | exact Nat.le_refl _⟩, ⟨by (with_reducible repeat (first | refine blk_drewN ?_ _ | refine blk_drew ?_ | refine blk_alloc ?_ _)); exact BK377.out⟩, ⟨by repeat (first | (with_reducible first | exact HB.out | apply below_alloc | apply pw_below_drewN | apply below_drew1 | refine below_set ?_ GE377.out) | exact HB.out)⟩⟩
                    · replace c22 := Bool.eq_false_iff.mpr c22
                      subst c22
                      have H1 : (gaolerref03_act.j3 kj14 a1 a2 a3 a4 x11_1 x12_1 false t379 x15_9 a0_0 a0_1 a0_2) = some r := by rw [if_neg (show ¬ (false = true) by decide)] at H; exact H
                      clear H
                      have H := H1
                      clear H1
                      have H' := Aside0.mk H
                      clear H
                      go_wp2
                      go_meet
                      case rel => exact ⟨_, (false), (by first | rfl | (simp; done) | (simp [*]; done)), H', ⟨by have := HK1.out; have := HJ9.out; have := HJ14.out; first | omega | exact Nat.le_refl _⟩, ⟨by (with_reducible repeat (first | refine blk_drewN ?_ _ | refine blk_drew ?_ | refine blk_alloc ?_ _)); exact BK377.out⟩, ⟨by repeat (first | (with_reducible first | exact HB.out | apply below_alloc | apply pw_below_drewN | apply below_drew1 | refine below_set ?_ GE377.out) | exact HB.out)⟩⟩
                  · rw [if_neg c21] at H
                    have c21b0 : (a0_0 == 45) = false := beq_eq_false_iff_ne.mpr c21
                    have c21b1 : (a0_0 != 45) = true := bne_iff_ne.mpr c21
                    (first | rw [c21b0] | (simp only [i64_w, i32_w]; rw [c21b0]) | skip)
                    have H' := Aside0.mk H
                    clear H
                    go_wp2
                    go_meet
                    case rel => exact ⟨_, (x13_14), (by first | rfl | (simp; done) | (simp [*]; done)), H', ⟨by have := HK1.out; have := HJ9.out; have := HJ14.out; first | omega | exact Nat.le_refl _⟩, ⟨by (with_reducible repeat (first | refine blk_drewN ?_ _ | refine blk_drew ?_ | refine blk_alloc ?_ _)); exact BK377.out⟩, ⟨by repeat (first | (with_reducible first | exact HB.out | apply below_alloc | apply pw_below_drewN | apply below_drew1 | refine below_set ?_ GE377.out) | exact HB.out)⟩⟩
                case rest =>
                  clear HC19
                  try clear c1
                  try clear c2
                  try clear p2
                  try clear c4
                  try clear c6
                  try clear c7
                  try clear c7b0
                  try clear c11
                  try clear c17
                  try clear c17b0
                  try clear c17b1
                  try clear c18
                  try clear c21
                  try clear c21b0
                  try clear c21b1
                  try clear c22
                  try clear hcz13_0
                  try clear hcz13_1
                  try clear hcz13_2
                  try clear hcz16_0
                  try clear hcz16_1
                  try clear hcz16_2
                  try clear hcz20_0
                  try clear hcz20_1
                  try clear hcz20_2
                  try clear hfz13_0
                  try clear hfz13_1
                  try clear hfz13_2
                  try clear hfz16_0
                  try clear hfz16_1
                  try clear hfz16_2
                  try clear hfz20_0
                  try clear hfz20_1
                  try clear hfz20_2
                  try clear p2
                  obtain ⟨kq, x13_18, rfl, HA, HJ18, BK377, HB⟩ := hcut
                  cases kq with
                  | zero => exact absurd HA.out (by simp [gaolerref03_act.j3])
                  | succ kj18 =>
                    have H := HA.out
                    clear HA
                    simp only [gaolerref03_act.j3] at H
                    by_cases c23 : a0_0 = 61
                    · rw [if_pos c23] at H
                      have c23b0 : (a0_0 == 61) = true := beq_iff_eq.mpr c23
                      have c23b1 : (a0_0 != 61) = false := bne_eq_false_iff_eq.mpr c23
                      clear c23
                      by_cases c24 : x15_9 = true
                      · subst c24
                        have H1 : ((gaolerref02_Pow.f kj18 x12_1).bind fun t381 => (gaolerref03_act.l0 kj18 a1 a2 a3 a4 (wrap64 (x11_1 + t381)) (wrap64 (x12_1 + 1)) a0_0 a0_1 a0_2)) = some r := by rw [if_pos rfl] at H; exact H
                        clear H
                        have H := H1
                        clear H1
                        replace H := Option.bind_eq_some_iff.mp H
                        obtain ⟨t381, A250, H⟩ := H
                        replace H : (gaolerref03_act.l0 kj18 a1 a2 a3 a4 (wrap64 (x11_1 + t381)) (wrap64 (x12_1 + 1)) a0_0 a0_1 a0_2) = some r := H
                        have A25 := Aside0.mk A250
                        clear A250
                        have H' := Aside0.mk H
                        clear H
                        have hcz26_0 : wc.cell? ⟨gb377, 0, none⟩ = some (.int .u8 a0_0) := (blk_cell BK377.out 0).trans rfl
                        have hcz26_1 : wc.cell? ⟨gb377, 1, none⟩ = some (.int .i64 a0_1) := (blk_cell BK377.out 1).trans rfl
                        have hcz26_2 : wc.cell? ⟨gb377, 2, none⟩ = some (.int .i64 a0_2) := (blk_cell BK377.out 2).trans rfl
                        have hfz26_0 := blk_frozen BK377.out 0
                        have hfz26_1 := blk_frozen BK377.out 1
                        have hfz26_2 := blk_frozen BK377.out 2
                        go_wp2_with (first | ((with_reducible refine gate_callee (f := 59) rfl ?_); refine goesL_ (some 68) rfl rfl Tryd.func59 (by kernel_rfl) rfl #[.int .i64 x12_1] rfl (by (try simp only [List.map_toArray, List.map_cons, List.map_nil]); first | done | rfl | (simp only [List.length_drop, List.length_take]; rfl)) ?_; (with_reducible refine (gaolerref02_Pow.calls kj18 x12_1 t381 _ A25.out).mono ?_); rintro e w' ⟨rfl, ⟨nd, rfl⟩⟩; refine ⟨_, rfl, ?_⟩))
                        go_roundg kj18
                        case measure => have := HK1.out; have := HJ9.out; have := HJ14.out; have := HJ18.out; omega
                        case rel => exact ⟨(wrap64 (x11_1 + t381)), (wrap64 (x12_1 + 1)), (by first | rfl | (simp; done) | (simp [*]; done)), (by first | rfl | (simp; done) | (simp [*]; done)), H', ⟨by have := HK1.out; have := HJ9.out; have := HJ14.out; have := HJ18.out; omega⟩, ⟨by (with_reducible repeat (first | refine blk_drewN ?_ _ | refine blk_drew ?_ | refine blk_alloc ?_ _)); exact BK377.out⟩, ⟨by repeat (first | (with_reducible first | exact HB.out | apply below_alloc | apply pw_below_drewN | apply below_drew1 | refine below_set ?_ GE377.out) | exact HB.out)⟩⟩
                      · replace c24 := Bool.eq_false_iff.mpr c24
                        subst c24
                        have H1 : (if x13_18 = true then (if t379 = true then (gaolerref03_act.l0 kj18 a1 a2 a3 a4 x11_1 (wrap64 (x12_1 + 1)) a0_0 a0_1 a0_2) else (if a1 > 0 then ((gaolerref02_Pow.f kj18 x12_1).bind fun t382 => (gaolerref03_act.l0 kj18 a1 a2 a3 a4 (wrap64 (x11_1 + t382)) (wrap64 (x12_1 + 1)) a0_0 a0_1 a0_2)) else (gaolerref03_act.l0 kj18 a1 a2 a3 a4 x11_1 (wrap64 (x12_1 + 1)) a0_0 a0_1 a0_2))) else (gaolerref03_act.l0 kj18 a1 a2 a3 a4 x11_1 (wrap64 (x12_1 + 1)) a0_0 a0_1 a0_2)) = some r := by rw [if_neg (show ¬ (false = true) by decide)] at H; exact H
                        clear H
                        have H := H1
                        clear H1
                        by_cases c27 : x13_18 = true
                        · subst c27
                          have H1 : (if t379 = true then (gaolerref03_act.l0 kj18 a1 a2 a3 a4 x11_1 (wrap64 (x12_1 + 1)) a0_0 a0_1 a0_2) else (if a1 > 0 then ((gaolerref02_Pow.f kj18 x12_1).bind fun t382 => (gaolerref03_act.l0 kj18 a1 a2 a3 a4 (wrap64 (x11_1 + t382)) (wrap64 (x12_1 + 1)) a0_0 a0_1 a0_2)) else (gaolerref03_act.l0 kj18 a1 a2 a3 a4 x11_1 (wrap64 (x12_1 + 1)) a0_0 a0_1 a0_2))) = some r := by rw [if_pos rfl] at H; exact H
                          clear H
                          have H := H1
                          clear H1
                          by_cases c28 : t379 = true
                          · subst c28
                            have H1 : (gaolerref03_act.l0 kj18 a1 a2 a3 a4 x11_1 (wrap64 (x12_1 + 1)) a0_0 a0_1 a0_2) = some r := by rw [if_pos rfl] at H; exact H
                            clear H
                            have H := H1
                            clear H1
                            have H' := Aside0.mk H
                            clear H
                            have hcz29_0 : wc.cell? ⟨gb377, 0, none⟩ = some (.int .u8 a0_0) := (blk_cell BK377.out 0).trans rfl
                            have hcz29_1 : wc.cell? ⟨gb377, 1, none⟩ = some (.int .i64 a0_1) := (blk_cell BK377.out 1).trans rfl
                            have hcz29_2 : wc.cell? ⟨gb377, 2, none⟩ = some (.int .i64 a0_2) := (blk_cell BK377.out 2).trans rfl
                            have hfz29_0 := blk_frozen BK377.out 0
                            have hfz29_1 := blk_frozen BK377.out 1
                            have hfz29_2 := blk_frozen BK377.out 2
                            go_wp2
                            go_roundg kj18
                            case measure => have := HK1.out; have := HJ9.out; have := HJ14.out; have := HJ18.out; omega
                            case rel => exact ⟨(x11_1), (wrap64 (x12_1 + 1)), (by first | rfl | (simp; done) | (simp [*]; done)), (by first | rfl | (simp; done) | (simp [*]; done)), H', ⟨by have := HK1.out; have := HJ9.out; have := HJ14.out; have := HJ18.out; omega⟩, ⟨by (with_reducible repeat (first | refine blk_drewN ?_ _ | refine blk_drew ?_ | refine blk_alloc ?_ _)); exact BK377.out⟩, ⟨by repeat (first | (with_reducible first | exact HB.out | apply below_alloc | apply pw_below_drewN | apply below_drew1 | refine below_set ?_ GE377.out) | exact HB.out)⟩⟩
                          · replace c28 := Bool.eq_false_iff.mpr c28
                            subst c28
                            have H1 : (if a1 > 0 then ((gaolerref02_Pow.f kj18 x12_1).bind fun t382 => (gaolerref03_act.l0 kj18 a1 a2 a3 a4 (wrap64 (x11_1 + t382)) (wrap64 (x12_1 + 1)) a0_0 a0_1 a0_2)) else (gaolerref03_act.l0 kj18 a1 a2 a3 a4 x11_1 (wrap64 (x12_1 + 1)) a0_0 a0_1 a0_2)) = some r := by rw [if_neg (show ¬ (false = true) by decide)] at H; exact H
                            clear H
                            have H := H1
                            clear H1
                            by_cases c30 : a1 > 0
                            · rw [if_pos c30] at H
                              have c30b0 : decide (0 < a1) = true := decide_eq_true c30
                              clear c30
                              replace H := Option.bind_eq_some_iff.mp H
                              obtain ⟨t382, A310, H⟩ := H
                              replace H : (gaolerref03_act.l0 kj18 a1 a2 a3 a4 (wrap64 (x11_1 + t382)) (wrap64 (x12_1 + 1)) a0_0 a0_1 a0_2) = some r := H
                              have A31 := Aside0.mk A310
                              clear A310
                              have H' := Aside0.mk H
                              clear H
                              have hcz32_0 : wc.cell? ⟨gb377, 0, none⟩ = some (.int .u8 a0_0) := (blk_cell BK377.out 0).trans rfl
                              have hcz32_1 : wc.cell? ⟨gb377, 1, none⟩ = some (.int .i64 a0_1) := (blk_cell BK377.out 1).trans rfl
                              have hcz32_2 : wc.cell? ⟨gb377, 2, none⟩ = some (.int .i64 a0_2) := (blk_cell BK377.out 2).trans rfl
                              have hfz32_0 := blk_frozen BK377.out 0
                              have hfz32_1 := blk_frozen BK377.out 1
                              have hfz32_2 := blk_frozen BK377.out 2
                              go_wp2_with (first | ((with_reducible refine gate_callee (f := 59) rfl ?_); refine goesL_ (some 68) rfl rfl Tryd.func59 (by kernel_rfl) rfl #[.int .i64 x12_1] rfl (by (try simp only [List.map_toArray, List.map_cons, List.map_nil]); first | done | rfl | (simp only [List.length_drop, List.length_take]; rfl)) ?_; (with_reducible refine (gaolerref02_Pow.calls kj18 x12_1 t382 _ A31.out).mono ?_); rintro e w' ⟨rfl, ⟨nd, rfl⟩⟩; refine ⟨_, rfl, ?_⟩))
                              go_roundg kj18
                              case measure => have := HK1.out; have := HJ9.out; have := HJ14.out; have := HJ18.out; omega
                              case rel => exact ⟨(wrap64 (x11_1 + t382)), (wrap64 (x12_1 + 1)), (by first | rfl | (simp; done) | (simp [*]; done)), (by first | rfl | (simp; done) | (simp [*]; done)), H', ⟨by have := HK1.out; have := HJ9.out; have := HJ14.out; have := HJ18.out; omega⟩, ⟨by (with_reducible repeat (first | refine blk_drewN ?_ _ | refine blk_drew ?_ | refine blk_alloc ?_ _)); exact BK377.out⟩, ⟨by repeat (first | (with_reducible first | exact HB.out | apply below_alloc | apply pw_below_drewN | apply below_drew1 | refine below_set ?_ GE377.out) | exact HB.out)⟩⟩
                            · rw [if_neg c30] at H
                              have c30b0 : decide (0 < a1) = false := decide_eq_false c30
                              clear c30
                              have H' := Aside0.mk H
                              clear H
                              have hcz33_0 : wc.cell? ⟨gb377, 0, none⟩ = some (.int .u8 a0_0) := (blk_cell BK377.out 0).trans rfl
                              have hcz33_1 : wc.cell? ⟨gb377, 1, none⟩ = some (.int .i64 a0_1) := (blk_cell BK377.out 1).trans rfl
                              have hcz33_2 : wc.cell? ⟨gb377, 2, none⟩ = some (.int .i64 a0_2) := (blk_cell BK377.out 2).trans rfl
                              have hfz33_0 := blk_frozen BK377.out 0
                              have hfz33_1 := blk_frozen BK377.out 1
                              have hfz33_2 := blk_frozen BK377.out 2
                              go_wp2
                              go_roundg kj18
                              case measure => have := HK1.out; have := HJ9.out; have := HJ14.out; have := HJ18.out; omega
                              case rel => exact ⟨(x11_1), (wrap64 (x12_1 + 1)), (by first | rfl | (simp; done) | (simp [*]; done)), (by first | rfl | (simp; done) | (simp [*]; done)), H', ⟨by have := HK1.out; have := HJ9.out; have := HJ14.out; have := HJ18.out; omega⟩, ⟨by (with_reducible repeat (first | refine blk_drewN ?_ _ | refine blk_drew ?_ | refine blk_alloc ?_ _)); exact BK377.out⟩, ⟨by repeat (first | (with_reducible first | exact HB.out | apply below_alloc | apply pw_below_drewN | apply below_drew1 | refine below_set ?_ GE377.out) | exact HB.out)⟩⟩
                        · replace c27 := Bool.eq_false_iff.mpr c27
                          subst c27
                          have H1 : (gaolerref03_act.l0 kj18 a1 a2 a3 a4 x11_1 (wrap64 (x12_1 + 1)) a0_0 a0_1 a0_2) = some r := by rw [if_neg (show ¬ (false = true) by decide)] at H; exact H
                          clear H
                          have H := H1
                          clear H1
                          have H' := Aside0.mk H
                          clear H
                          have hcz34_0 : wc.cell? ⟨gb377, 0, none⟩ = some (.int .u8 a0_0) := (blk_cell BK377.out 0).trans rfl
                          have hcz34_1 : wc.cell? ⟨gb377, 1, none⟩ = some (.int .i64 a0_1) := (blk_cell BK377.out 1).trans rfl
                          have hcz34_2 : wc.cell? ⟨gb377, 2, none⟩ = some (.int .i64 a0_2) := (blk_cell BK377.out 2).trans rfl
                          have hfz34_0 := blk_frozen BK377.out 0
                          have hfz34_1 := blk_frozen BK377.out 1
                          have hfz34_2 := blk_frozen BK377.out 2
                          go_wp2
                          go_roundg kj18
                          case measure => have := HK1.out; have := HJ9.out; have := HJ14.out; have := HJ18.out; omega
                          case rel => exact ⟨(x11_1), (wrap64 (x12_1 + 1)), (by first | rfl | (simp; done) | (simp [*]; done)), (by first | rfl | (simp; done) | (simp [*]; done)), H', ⟨by have := HK1.out; have := HJ9.out; have := HJ14.out; have := HJ18.out; omega⟩, ⟨by (with_reducible repeat (first | refine blk_drewN ?_ _ | refine blk_drew ?_ | refine blk_alloc ?_ _)); exact BK377.out⟩, ⟨by repeat (first | (with_reducible first | exact HB.out | apply below_alloc | apply pw_below_drewN | apply below_drew1 | refine below_set ?_ GE377.out) | exact HB.out)⟩⟩
                    · rw [if_neg c23] at H
                      have c23b0 : (a0_0 == 61) = false := beq_eq_false_iff_ne.mpr c23
                      have c23b1 : (a0_0 != 61) = true := bne_iff_ne.mpr c23
                      by_cases c35 : x13_18 = true
                      · subst c35
                        have H1 : ((gaolerref02_Pow.f kj18 x12_1).bind fun t383 => (gaolerref03_act.l0 kj18 a1 a2 a3 a4 (wrap64 (x11_1 + t383)) (wrap64 (x12_1 + 1)) a0_0 a0_1 a0_2)) = some r := by rw [if_pos rfl] at H; exact H
                        clear H
                        have H := H1
                        clear H1
                        replace H := Option.bind_eq_some_iff.mp H
                        obtain ⟨t383, A360, H⟩ := H
                        replace H : (gaolerref03_act.l0 kj18 a1 a2 a3 a4 (wrap64 (x11_1 + t383)) (wrap64 (x12_1 + 1)) a0_0 a0_1 a0_2) = some r := H
                        have A36 := Aside0.mk A360
                        clear A360
                        have H' := Aside0.mk H
                        clear H
                        have hcz37_0 : wc.cell? ⟨gb377, 0, none⟩ = some (.int .u8 a0_0) := (blk_cell BK377.out 0).trans rfl
                        have hcz37_1 : wc.cell? ⟨gb377, 1, none⟩ = some (.int .i64 a0_1) := (blk_cell BK377.out 1).trans rfl
                        have hcz37_2 : wc.cell? ⟨gb377, 2, none⟩ = some (.int .i64 a0_2) := (blk_cell BK377.out 2).trans rfl
                        have hfz37_0 := blk_frozen BK377.out 0
                        have hfz37_1 := blk_frozen BK377.out 1
                        have hfz37_2 := blk_frozen BK377.out 2
                        go_wp2_with (first | ((with_reducible refine gate_callee (f := 59) rfl ?_); refine goesL_ (some 68) rfl rfl Tryd.func59 (by kernel_rfl) rfl #[.int .i64 x12_1] rfl (by (try simp only [List.map_toArray, List.map_cons, List.map_nil]); first | done | rfl | (simp only [List.length_drop, List.length_take]; rfl)) ?_; (with_reducible refine (gaolerref02_Pow.calls kj18 x12_1 t383 _ A36.out).mono ?_); rintro e w' ⟨rfl, ⟨nd, rfl⟩⟩; refine ⟨_, rfl, ?_⟩))
                        go_roundg kj18
                        case measure => have := HK1.out; have := HJ9.out; have := HJ14.out; have := HJ18.out; omega
                        case rel => exact ⟨(wrap64 (x11_1 + t383)), (wrap64 (x12_1 + 1)), (by first | rfl | (simp; done) | (simp [*]; done)), (by first | rfl | (simp; done) | (simp [*]; done)), H', ⟨by have := HK1.out; have := HJ9.out; have := HJ14.out; have := HJ18.out; omega⟩, ⟨by (with_reducible repeat (first | refine blk_drewN ?_ _ | refine blk_drew ?_ | refine blk_alloc ?_ _)); exact BK377.out⟩, ⟨by repeat (first | (with_reducible first | exact HB.out | apply below_alloc | apply pw_below_drewN | apply below_drew1 | refine below_set ?_ GE377.out) | exact HB.out)⟩⟩
                      · replace c35 := Bool.eq_false_iff.mpr c35
                        subst c35
                        have H1 : (gaolerref03_act.l0 kj18 a1 a2 a3 a4 x11_1 (wrap64 (x12_1 + 1)) a0_0 a0_1 a0_2) = some r := by rw [if_neg (show ¬ (false = true) by decide)] at H; exact H
                        clear H
                        have H := H1
                        clear H1
                        have H' := Aside0.mk H
                        clear H
                        have hcz38_0 : wc.cell? ⟨gb377, 0, none⟩ = some (.int .u8 a0_0) := (blk_cell BK377.out 0).trans rfl
                        have hcz38_1 : wc.cell? ⟨gb377, 1, none⟩ = some (.int .i64 a0_1) := (blk_cell BK377.out 1).trans rfl
                        have hcz38_2 : wc.cell? ⟨gb377, 2, none⟩ = some (.int .i64 a0_2) := (blk_cell BK377.out 2).trans rfl
                        have hfz38_0 := blk_frozen BK377.out 0
                        have hfz38_1 := blk_frozen BK377.out 1
                        have hfz38_2 := blk_frozen BK377.out 2
                        go_wp2
                        go_roundg kj18
                        case measure => have := HK1.out; have := HJ9.out; have := HJ14.out; have := HJ18.out; omega
                        case rel => exact ⟨(x11_1), (wrap64 (x12_1 + 1)), (by first | rfl | (simp; done) | (simp [*]; done)), (by first | rfl | (simp; done) | (simp [*]; done)), H', ⟨by have := HK1.out; have := HJ9.out; have := HJ14.out; have := HJ18.out; omega⟩, ⟨by (with_reducible repeat (first | refine blk_drewN ?_ _ | refine blk_drew ?_ | refine blk_alloc ?_ _)); exact BK377.out⟩, ⟨by repeat (first | (with_reducible first | exact HB.out | apply below_alloc | apply pw_below_drewN | apply below_drew1 | refine below_set ?_ GE377.out) | exact HB.out)⟩⟩
      · rw [if_neg c7] at H
        have c7b0 : decide (x12_1 < 12) = false := decide_eq_false c7
        clear c7
        obtain rfl := Option.some.inj H
        go_wp2
        go_ret
        exact ⟨by first | rfl | (simp [errW_none, errW_some] <;> rfl) | (simp [*, errW_none, errW_some] <;> rfl), by repeat (first | (with_reducible first | exact HB.out | apply below_alloc | apply pw_below_drewN | apply below_drew1 | refine below_set ?_ GE377.out) | exact HB.out)⟩
end Go.Proofs.YtlohbepfecahdaaDoor.S
