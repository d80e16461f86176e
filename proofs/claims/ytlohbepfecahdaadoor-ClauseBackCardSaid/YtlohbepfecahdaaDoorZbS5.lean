-- Written by wip/tools/myprint.py, a session's own driver of the kit's printer.
import Derived.ArgAppend
import Derived.Below
import Derived.BigQuiet
import Derived.Deep.AppendLies
import Derived.Deep.CutBlock
import Derived.Deep.DeepCutAuto
import Derived.Deep.Draws
import Derived.Deep.LoopGhost
import Derived.Deep.OwnRows
import Derived.Deep.QuietTactic
import Derived.Deep.RegionHeld3
import Derived.Handy
import Derived.KernelRfl
import Derived.Laws.BitsAllLaws
import Derived.Laws.BitsLemmas
import Derived.Laws.BytesArg
import Derived.Laws.IdiomCopy
import Derived.Laws.MakeOwn
import Derived.Laws.OwnMore
import Derived.Laws.RangeAny
import Derived.Laws.Rows
import Derived.Laws.Slices
import Derived.Laws.StructEq
import Derived.Lib.AppendStr
import Derived.Lib.ConvBytes
import Derived.Lib.FieldsP
import Derived.Lib.Hide
import Derived.Lib.IndexAny
import Derived.Lib.OthersKept
import Derived.Lib.SlBytesConst
import Derived.Lib.SpaceUEq
import Derived.Maps.AppendAt
import Derived.OneCell
import Derived.OrdersHeld
import Derived.OwnWalk
import Derived.RowKit
import Derived.RowKit3
import Derived.Shelf.LaysM
import Derived.Shelf.Small.Strs
import Derived.Shelf.Small.Utf8
import Derived.Shelf.Strings.Builder1
import Derived.Shelf.Strings.Builder2
import Derived.Shelf.Strings.BuilderF
import Derived.Shelf.Strings.BuilderK
import Derived.Shelf.Strings.Count
import Derived.Shelf.Strings.OnBuilder
import Derived.Shelf.Strings.Runes
import Derived.Shelf.Strings.Search1
import Derived.Shelf.Strings.Search2
import Derived.Shelf.Strings.Search3
import Derived.Shelf.Strings.Shaped
import Derived.Shelf.Strings.Split
import Derived.Shelf.Strings.SplitShaped
import Derived.Shelf.Unicode.DecodeSlow
import Derived.Tactics
import Derived.Test.YtlohbepfecahdaaDoorProg
import Derived.WalkKit
import Derived.WideLaws
import Derived.Test.YtlohbepfecahdaaDoorZbWWords
import Derived.Test.YtlohbepfecahdaaDoorZbWLast
import Derived.Test.YtlohbepfecahdaaDoorZbWApart
import Derived.Test.YtlohbepfecahdaaDoorZbWShare
import Derived.Test.YtlohbepfecahdaaDoorZbWN
import Derived.Test.YtlohbepfecahdaaDoorZbWNEv
import Derived.Test.YtlohbepfecahdaaDoorZbWMore
import Derived.Test.YtlohbepfecahdaaDoorZbB
import Derived.Test.YtlohbepfecahdaaDoorZbC
import Derived.Test.YtlohbepfecahdaaDoorZbShelf
import Derived.Test.YtlohbepfecahdaaDoorZbD
import Derived.Test.YtlohbepfecahdaaDoorZbWTab
import Derived.Test.YtlohbepfecahdaaDoorZbWEqStruct
import Derived.Test.YtlohbepfecahdaaDoorZbWRepsOne
import Derived.Test.YtlohbepfecahdaaDoorZbWGuard
import Derived.Test.YtlohbepfecahdaaDoorZbS0
import Derived.Test.YtlohbepfecahdaaDoorZbS4
namespace Go.Proofs.YtlohbepfecahdaaDoor.S
open Go.RowKit Go.Proofs.YtlohbepfecahdaaDoorW.PrintWords Go.Proofs.YtlohbepfecahdaaDoorW.PrintLast Go.Proofs.YtlohbepfecahdaaDoorW.PrintMore
set_option linter.unusedVariables false
set_option linter.unusedSimpArgs false
/-! ### clause_Right: function 19 -/
mutual
def clause_Right.l0 : Nat → List (S34) → List (S34) → Int → Int → Option (Bool)
  | 0, _, _, _, _ => none
  | k + 1, x0, x7, x8, x9 => if x9 < x8 then (if 0 ≤ x9 then (if x9 < (x7.length : Int) then (if ((rd_T34 x7 x9).f0) < 0 then (clause_Right.j1 k x0 x7 x8 x9 true ((rd_T34 x7 x9).f0) ((rd_T34 x7 x9).f1)) else (if ((rd_T34 x7 x9).f0) > 7 then (clause_Right.j1 k x0 x7 x8 x9 true ((rd_T34 x7 x9).f0) ((rd_T34 x7 x9).f1)) else (clause_Right.j1 k x0 x7 x8 x9 ((((rd_T34 x7 x9).f1).length : Int) == 0) ((rd_T34 x7 x9).f0) ((rd_T34 x7 x9).f1)))) else (none)) else (none)) else (some (decide ((x0.length : Int) > 0)))
def clause_Right.j1 : Nat → List (S34) → List (S34) → Int → Int → Bool → Int → List (S60) → Option (Bool)
  | 0, _, _, _, _, _, _, _ => none
  | k + 1, x0, x7, x8, x9, x26, x130000, x130001 => if x26 = true then (some false) else (clause_Right.l1 k x0 x7 x8 x9 x130001 (x130001.length : Int) 0)
def clause_Right.l1 : Nat → List (S34) → List (S34) → Int → Int → List (S60) → Int → Int → Option (Bool)
  | 0, _, _, _, _, _, _, _ => none
  | k + 1, x0, x7, x8, x9, x28, x29, x30 => if x30 < x29 then (if 0 ≤ x30 then (if x30 < (x28.length : Int) then ((clause_Act_right.f ((rd_T60 x28 x30).f0) ((rd_T60 x28 x30).f1) ((rd_T60 x28 x30).f2)).bind fun t132 => (if t132 = true then (clause_Right.l1 k x0 x7 x8 x9 x28 x29 (wrap64 (x30 + 1))) else (some false))) else (none)) else (none)) else (clause_Right.l0 k x0 x7 x8 (wrap64 (x9 + 1)))
end
def clause_Right.f (k : Nat) (l0 : List (S34)) : Option (Bool) := clause_Right.l0 k l0 l0 (l0.length : Int) 0
set_option maxHeartbeats 8000000 in
set_option maxRecDepth 100000 in
theorem clause_Right.calls (k : Nat) (A0 : Option Addr) (c0 : Nat) (l0 : List (S34)) (r : Bool) (w : World) (hr0 : Kd.C k34 w A0 l0.length l0) (hc0 : l0.length ≤ c0) (h : clause_Right.f k l0 = some r) :
    Calls Tryd.prog 19 #[.slice A0 l0.length c0] w fun e w' => e = .returned (.bool r) ∧ Below w.heap.size w w' := by
  have hu34 := Tryd.underlying34
  have hu60 := Tryd.underlying60
  have HR0 := Aside0.mk hr0
  have HC0 := Aside0.mk hc0
  clear hr0 hc0
  have HB := Aside0.mk (Below.refl w.heap.size w)
  have H : (clause_Right.l0 k l0 l0 (l0.length : Int) 0) = some r := h
  clear h
  have H' := Aside0.mk H
  clear H
  go_enter Tryd.func19, Tryd.ntmps19
  go_wp2
  go_loopg [9] k (fun kq v9 w' => ∃ (x9_1 : Int), v9 = .int .i64 x9_1 ∧ Aside0 (clause_Right.l0 kq l0 l0 (l0.length : Int) x9_1 = some r) ∧ Aside0 (kq ≤ k) ∧ Aside0 (Below w.heap.size w w'))
  case atStart => exact ⟨(0), (by first | rfl | (simp; done) | (simp [*]; done)), H', ⟨Nat.le_refl _⟩, ⟨by repeat (first | (with_reducible first | exact HB.out | apply below_alloc | apply pw_below_drewN | apply below_drew1) | exact HB.out)⟩⟩
  case round =>
    clear H'
    try clear c1
    obtain ⟨x9_1, rfl, HA, HK1, HB⟩ := hrel
    cases gk with
    | zero => exact absurd HA.out (by simp [clause_Right.l0])
    | succ k1 =>
      have H := HA.out
      clear HA
      simp only [clause_Right.l0] at H
      by_cases c2 : x9_1 < (l0.length : Int)
      · rw [if_pos c2] at H
        have c2b0 : decide (x9_1 < (l0.length : Int)) = true := decide_eq_true c2
        clear c2
        by_cases c3 : 0 ≤ x9_1
        · rw [if_pos c3] at H
          have c3b0 : decide (0 ≤ x9_1) = true := decide_eq_true c3
          clear c3
          by_cases c4 : x9_1 < (l0.length : Int)
          · rw [if_pos c4] at H
            have c4b0 : decide (x9_1 < (l0.length : Int)) = true := decide_eq_true c4
            clear c4
            have HC5 := Aside0.mk H
            clear H
            have p128 : 0 ≤ (x9_1 : Int) := of_decide_eq_true (by first | (with_reducible assumption) | assumption)
            have q128 : x9_1 < (l0.length : Int) := of_decide_eq_true (by first | (with_reducible assumption) | assumption)
            obtain ⟨ad128, A128_1, c128_1, e128, hx128_0, hx128_1, hl128_1, hi128_1⟩ := at_T34 HR0.out x9_1 p128 q128
            cases e128
            replace hx128_0 := (HB.out.cell (World.block_lt_of_cell? w _ hx128_0)).trans hx128_0
            replace hx128_1 := (HB.out.cell (World.block_lt_of_cell? w _ hx128_1)).trans hx128_1
            have HR128_1 := Aside0.mk hi128_1
            have HC128_1 := Aside0.mk hl128_1
            clear hi128_1 hl128_1
            replace p128 := eq_true p128
            replace q128 := eq_true q128
            go_upto_region 4 with (first | ((with_reducible refine gate_dst (N := 4) rfl ?_); (try (refine gate_guard (by rfl) ?_; dsimp only)); refine box_event ?hg (N := 4) ?hd (cs := #[.int .i64 0, .slice none 0 0]) (t := 34) ?hr ?_; (case hd => rfl); (case hg => rfl); (case hr => first | (go_simp; done) | (go_simp; rfl)); intro gb129 hg w6 hbox hb; have n0_ := Aside0.mk (below_step (by repeat (first | (with_reducible first | exact HB.out | apply below_alloc | apply pw_below_drewN | apply below_drew1) | exact HB.out)) hb); have n1_ := Aside0.mk (hbox); have n2_ := Aside0.mk ((by rw [hg]; exact (below_size (by repeat (first | (with_reducible first | exact HB.out | apply below_alloc | apply pw_below_drewN | apply below_drew1) | exact HB.out))) : w.heap.size ≤ gb129)); have n3_ := Aside0.mk ((by rw [hg]; exact (below_size (by repeat (first | (with_reducible first | exact HB.out | apply below_alloc | apply pw_below_drewN | apply below_drew1) | exact HB.out))) : w.heap.size ≤ gb129)); clear HB; have HB := n0_; have BK129 := n1_; have GW129 := n2_; have GE129 := n3_; clear n0_ n1_ n2_ n3_; clear hb hbox hg; have hcz7_0 : w6.cell? ⟨gb129, 0, none⟩ = some (.int .i64 0) := (blk_cell BK129.out 0).trans rfl; have hcz7_1 : w6.cell? ⟨gb129, 1, none⟩ = some (.slice none 0 0) := (blk_cell BK129.out 1).trans rfl; have hfz7_0 := blk_frozen BK129.out 0; have hfz7_1 := blk_frozen BK129.out 1))
            (try simp only [Act.put, List.setIfInBounds_toArray, List.set_cons_zero, List.set_cons_succ])
            go_cut [26] (fun v26 wc => ∃ (kq : Nat) (x26_4 : Bool), v26 = .bool x26_4 ∧ Aside0 (clause_Right.j1 kq l0 l0 (l0.length : Int) x9_1 x26_4 ((rd_T34 l0 x9_1).f0) ((rd_T34 l0 x9_1).f1) = some r) ∧ Aside0 (kq ≤ k1) ∧ Aside0 (wc.heap[gb129]? = some (.cells #[.int .i64 ((rd_T34 l0 x9_1).f0), (.slice A128_1 ((rd_T34 l0 x9_1).f1).length c128_1)] 34 (0, 0))) ∧ Aside0 (Below w.heap.size w wc))
            case first =>
              have H := HC5.out
              clear HC5
              by_cases c8 : ((rd_T34 l0 x9_1).f0) < 0
              · rw [if_pos c8] at H
                have c8b0 : decide (((rd_T34 l0 x9_1).f0) < 0) = true := decide_eq_true c8
                clear c8
                (first | rw [c8b0] | (simp only [i64_w, i32_w]; rw [c8b0]) | skip)
                have H' := Aside0.mk H
                clear H
                have hcz9_0 : w6.cell? ⟨gb129, 0, none⟩ = some (.int .i64 0) := (blk_cell BK129.out 0).trans rfl
                have hcz9_1 : w6.cell? ⟨gb129, 1, none⟩ = some (.slice none 0 0) := (blk_cell BK129.out 1).trans rfl
                have hfz9_0 := blk_frozen BK129.out 0
                have hfz9_1 := blk_frozen BK129.out 1
                go_wp2
                go_meet
                case rel => exact ⟨_, (true), (by first | rfl | (simp; done) | (simp [*]; done)), H', ⟨by have := HK1.out; first | omega | exact Nat.le_refl _⟩, ⟨by (with_reducible repeat (first | refine blk_drewN ?_ _ | refine blk_drew ?_ | refine blk_alloc ?_ _)); refine blk_put (cs := #[.int .i64 ((rd_T34 l0 x9_1).f0), .slice none 0 0]) ?_ 1 _ rfl; (with_reducible repeat (first | refine blk_drewN ?_ _ | refine blk_drew ?_ | refine blk_alloc ?_ _)); refine blk_put (cs := #[.int .i64 0, .slice none 0 0]) ?_ 0 _ rfl; (with_reducible repeat (first | refine blk_drewN ?_ _ | refine blk_drew ?_ | refine blk_alloc ?_ _)); exact BK129.out⟩, ⟨by repeat (first | (with_reducible first | exact HB.out | apply below_alloc | apply pw_below_drewN | apply below_drew1 | refine below_set ?_ GE129.out) | exact HB.out)⟩⟩
              · rw [if_neg c8] at H
                have c8b0 : decide (((rd_T34 l0 x9_1).f0) < 0) = false := decide_eq_false c8
                clear c8
                (first | rw [c8b0] | (simp only [i64_w, i32_w]; rw [c8b0]) | skip)
                by_cases c10 : ((rd_T34 l0 x9_1).f0) > 7
                · rw [if_pos c10] at H
                  have c10b0 : decide (7 < ((rd_T34 l0 x9_1).f0)) = true := decide_eq_true c10
                  clear c10
                  have H' := Aside0.mk H
                  clear H
                  have hcz11_0 : w6.cell? ⟨gb129, 0, none⟩ = some (.int .i64 0) := (blk_cell BK129.out 0).trans rfl
                  have hcz11_1 : w6.cell? ⟨gb129, 1, none⟩ = some (.slice none 0 0) := (blk_cell BK129.out 1).trans rfl
                  have hfz11_0 := blk_frozen BK129.out 0
                  have hfz11_1 := blk_frozen BK129.out 1
                  go_wp2
                  go_meet
                  case rel => exact ⟨_, (true), (by first | rfl | (simp; done) | (simp [*]; done)), H', ⟨by have := HK1.out; first | omega | exact Nat.le_refl _⟩, ⟨by (with_reducible repeat (first | refine blk_drewN ?_ _ | refine blk_drew ?_ | refine blk_alloc ?_ _)); refine blk_put (cs := #[.int .i64 ((rd_T34 l0 x9_1).f0), .slice none 0 0]) ?_ 1 _ rfl; (with_reducible repeat (first | refine blk_drewN ?_ _ | refine blk_drew ?_ | refine blk_alloc ?_ _)); refine blk_put (cs := #[.int .i64 0, .slice none 0 0]) ?_ 0 _ rfl; (with_reducible repeat (first | refine blk_drewN ?_ _ | refine blk_drew ?_ | refine blk_alloc ?_ _)); exact BK129.out⟩, ⟨by repeat (first | (with_reducible first | exact HB.out | apply below_alloc | apply pw_below_drewN | apply below_drew1 | refine below_set ?_ GE129.out) | exact HB.out)⟩⟩
                · rw [if_neg c10] at H
                  have c10b0 : decide (7 < ((rd_T34 l0 x9_1).f0)) = false := decide_eq_false c10
                  clear c10
                  have H' := Aside0.mk H
                  clear H
                  have hcz12_0 : w6.cell? ⟨gb129, 0, none⟩ = some (.int .i64 0) := (blk_cell BK129.out 0).trans rfl
                  have hcz12_1 : w6.cell? ⟨gb129, 1, none⟩ = some (.slice none 0 0) := (blk_cell BK129.out 1).trans rfl
                  have hfz12_0 := blk_frozen BK129.out 0
                  have hfz12_1 := blk_frozen BK129.out 1
                  go_wp2
                  go_meet
                  case rel => exact ⟨_, (((((rd_T34 l0 x9_1).f1).length : Int) == 0)), (by first | rfl | (simp; done) | (simp [*]; done)), H', ⟨by have := HK1.out; first | omega | exact Nat.le_refl _⟩, ⟨by (with_reducible repeat (first | refine blk_drewN ?_ _ | refine blk_drew ?_ | refine blk_alloc ?_ _)); refine blk_put (cs := #[.int .i64 ((rd_T34 l0 x9_1).f0), .slice none 0 0]) ?_ 1 _ rfl; (with_reducible repeat (first | refine blk_drewN ?_ _ | refine blk_drew ?_ | refine blk_alloc ?_ _)); refine blk_put (cs := #[.int .i64 0, .slice none 0 0]) ?_ 0 _ rfl; (with_reducible repeat (first | refine blk_drewN ?_ _ | refine blk_drew ?_ | refine blk_alloc ?_ _)); exact BK129.out⟩, ⟨by repeat (first | (with_reducible first | exact HB.out | apply below_alloc | apply pw_below_drewN | apply below_drew1 | refine below_set ?_ GE129.out) | exact HB.out)⟩⟩
            case rest =>
              clear HC5
              try clear c1
              try clear p1
              try clear q1
              try clear hx1
              try clear c2
              try clear c2b0
              try clear p2
              try clear c3
              try clear c3b0
              try clear c4
              try clear c4b0
              try clear c8
              try clear c8b0
              try clear c10
              try clear c10b0
              try clear c12
              try clear p12
              try clear q12
              try clear hx12
              try clear hcz11_0
              try clear hcz11_1
              try clear hcz12_0
              try clear hcz12_1
              try clear hcz7_0
              try clear hcz7_1
              try clear hcz9_0
              try clear hcz9_1
              try clear hfz11_0
              try clear hfz11_1
              try clear hfz12_0
              try clear hfz12_1
              try clear hfz7_0
              try clear hfz7_1
              try clear hfz9_0
              try clear hfz9_1
              try clear hx128_0
              try clear hx128_1
              try clear p128
              try clear q128
              obtain ⟨kq, x26_4, rfl, HA, HJ4, BK129, HB⟩ := hcut
              cases kq with
              | zero => exact absurd HA.out (by simp [clause_Right.j1])
              | succ kj4 =>
                have H := HA.out
                clear HA
                simp only [clause_Right.j1] at H
                by_cases c13 : x26_4 = true
                · subst c13
                  have H1 : (some false) = some r := by rw [if_pos rfl] at H; exact H
                  clear H
                  have H := H1
                  clear H1
                  obtain rfl := Option.some.inj H
                  go_wp2
                  go_ret
                  exact ⟨by first | rfl | (simp [errW_none, errW_some] <;> rfl) | (simp [*, errW_none, errW_some] <;> rfl), by repeat (first | (with_reducible first | exact HB.out | apply below_alloc | apply pw_below_drewN | apply below_drew1 | refine below_set ?_ GE129.out) | exact HB.out)⟩
                · replace c13 := Bool.eq_false_iff.mpr c13
                  subst c13
                  have H1 : (clause_Right.l1 kj4 l0 l0 (l0.length : Int) x9_1 ((rd_T34 l0 x9_1).f1) (((rd_T34 l0 x9_1).f1).length : Int) 0) = some r := by rw [if_neg (show ¬ (false = true) by decide)] at H; exact H
                  clear H
                  have H := H1
                  clear H1
                  have H' := Aside0.mk H
                  clear H
                  have hcz14_0 : wc.cell? ⟨gb129, 0, none⟩ = some (.int .i64 ((rd_T34 l0 x9_1).f0)) := (blk_cell BK129.out 0).trans rfl
                  have hcz14_1 : wc.cell? ⟨gb129, 1, none⟩ = some (.slice A128_1 ((rd_T34 l0 x9_1).f1).length c128_1) := (blk_cell BK129.out 1).trans rfl
                  have hfz14_0 := blk_frozen BK129.out 0
                  have hfz14_1 := blk_frozen BK129.out 1
                  go_wp2
                  go_loopg [30] kj4 (fun kq v30 w' => ∃ (x30_3 : Int), v30 = .int .i64 x30_3 ∧ Aside0 (clause_Right.l1 kq l0 l0 (l0.length : Int) x9_1 ((rd_T34 l0 x9_1).f1) (((rd_T34 l0 x9_1).f1).length : Int) x30_3 = some r) ∧ Aside0 (kq ≤ kj4) ∧ Aside0 (w'.heap[gb129]? = some (.cells #[.int .i64 ((rd_T34 l0 x9_1).f0), (.slice A128_1 ((rd_T34 l0 x9_1).f1).length c128_1)] 34 (0, 0))) ∧ Aside0 (Below w.heap.size w w'))
                  case atStart => exact ⟨(0), (by first | rfl | (simp; done) | (simp [*]; done)), H', ⟨Nat.le_refl _⟩, ⟨by (with_reducible repeat (first | refine blk_drewN ?_ _ | refine blk_drew ?_ | refine blk_alloc ?_ _)); exact BK129.out⟩, ⟨by repeat (first | (with_reducible first | exact HB.out | apply below_alloc | apply pw_below_drewN | apply below_drew1 | refine below_set ?_ GE129.out) | exact HB.out)⟩⟩
                  case round =>
                    clear H'
                    try clear c1
                    try clear p1
                    try clear q1
                    try clear hx1
                    try clear c2
                    try clear c2b0
                    try clear p2
                    try clear c3
                    try clear c3b0
                    try clear c4
                    try clear c4b0
                    try clear c8
                    try clear c8b0
                    try clear c10
                    try clear c10b0
                    try clear c12
                    try clear p12
                    try clear q12
                    try clear hx12
                    try clear c13
                    try clear hcz11_0
                    try clear hcz11_1
                    try clear hcz12_0
                    try clear hcz12_1
                    try clear hcz14_0
                    try clear hcz14_1
                    try clear hcz7_0
                    try clear hcz7_1
                    try clear hcz9_0
                    try clear hcz9_1
                    try clear hfz11_0
                    try clear hfz11_1
                    try clear hfz12_0
                    try clear hfz12_1
                    try clear hfz14_0
                    try clear hfz14_1
                    try clear hfz7_0
                    try clear hfz7_1
                    try clear hfz9_0
                    try clear hfz9_1
                    try clear hx128_0
                    try clear hx128_1
                    try clear p1
                    try clear p12
                    try clear p128
                    try clear p2
                    try clear q1
                    try clear q12
                    try clear q128
                    obtain ⟨x30_3, rfl, HA, HK3, BK129, HB⟩ := hrel
                    cases gk with
                    | zero => exact absurd HA.out (by simp [clause_Right.l1])
                    | succ k3 =>
                      have H := HA.out
                      clear HA
                      simp only [clause_Right.l1] at H
                      by_cases c15 : x30_3 < (((rd_T34 l0 x9_1).f1).length : Int)
                      · rw [if_pos c15] at H
                        have c15b0 : decide (x30_3 < (((rd_T34 l0 x9_1).f1).length : Int)) = true := decide_eq_true c15
                        clear c15
                        by_cases c16 : 0 ≤ x30_3
                        · rw [if_pos c16] at H
                          have c16b0 : decide (0 ≤ x30_3) = true := decide_eq_true c16
                          clear c16
                          by_cases c17 : x30_3 < (((rd_T34 l0 x9_1).f1).length : Int)
                          · rw [if_pos c17] at H
                            have c17b0 : decide (x30_3 < (((rd_T34 l0 x9_1).f1).length : Int)) = true := decide_eq_true c17
                            clear c17
                            replace H := Option.bind_eq_some_iff.mp H
                            obtain ⟨t132, A180, H⟩ := H
                            replace H : (if t132 = true then (clause_Right.l1 k3 l0 l0 (l0.length : Int) x9_1 ((rd_T34 l0 x9_1).f1) (((rd_T34 l0 x9_1).f1).length : Int) (wrap64 (x30_3 + 1))) else (some false)) = some r := H
                            have A18 := Aside0.mk A180
                            clear A180
                            by_cases c19 : t132 = true
                            · subst c19
                              have H1 : (clause_Right.l1 k3 l0 l0 (l0.length : Int) x9_1 ((rd_T34 l0 x9_1).f1) (((rd_T34 l0 x9_1).f1).length : Int) (wrap64 (x30_3 + 1))) = some r := by rw [if_pos rfl] at H; exact H
                              clear H
                              have H := H1
                              clear H1
                              have H' := Aside0.mk H
                              clear H
                              have p130 : 0 ≤ (x30_3 : Int) := of_decide_eq_true (by first | (with_reducible assumption) | assumption)
                              have q130 : x30_3 < (((rd_T34 l0 x9_1).f1).length : Int) := of_decide_eq_true (by first | (with_reducible assumption) | assumption)
                              obtain ⟨ad130, e130, hx130_0, hx130_1, hx130_2⟩ := at_T60 HR128_1.out x30_3 p130 q130
                              cases e130
                              replace hx130_0 := (HB.out.cell (World.block_lt_of_cell? w _ hx130_0)).trans hx130_0
                              replace hx130_1 := (HB.out.cell (World.block_lt_of_cell? w _ hx130_1)).trans hx130_1
                              replace hx130_2 := (HB.out.cell (World.block_lt_of_cell? w _ hx130_2)).trans hx130_2
                              replace p130 := eq_true p130
                              replace q130 := eq_true q130
                              go_wp2_with (first | ((with_reducible refine gate_dst (N := 6) rfl ?_); (try (refine gate_guard (by rfl) ?_; dsimp only)); refine box_event ?hg (N := 6) ?hd (cs := #[.int .u8 0, .int .i64 0, .int .i64 0]) (t := 60) ?hr ?_; (case hd => rfl); (case hg => rfl); (case hr => first | (go_simp; done) | (go_simp; rfl)); intro gb131 hg w20 hbox hb; have n0_ := Aside0.mk (blk_below (g := gb129) (o := .cells #[.int .i64 ((rd_T34 l0 x9_1).f0), .slice (some ad130) ((rd_T34 l0 x9_1).f1).length c128_1] 34 (0, 0)) (by (with_reducible repeat (first | refine blk_drewN ?_ _ | refine blk_drew ?_ | refine blk_alloc ?_ _)); exact BK129.out) hb); have n1_ := Aside0.mk (below_step (by repeat (first | (with_reducible first | exact HB.out | apply below_alloc | apply pw_below_drewN | apply below_drew1 | refine below_set ?_ GE129.out) | exact HB.out)) hb); have n2_ := Aside0.mk (hbox); have n3_ := Aside0.mk ((by rw [hg]; exact (below_size (by repeat (first | (with_reducible first | exact HB.out | apply below_alloc | apply pw_below_drewN | apply below_drew1 | refine below_set ?_ GE129.out) | exact HB.out))) : w.heap.size ≤ gb131)); have n4_ := Aside0.mk ((by rw [hg]; exact (below_size (by repeat (first | (with_reducible first | exact HB.out | apply below_alloc | apply pw_below_drewN | apply below_drew1 | refine below_set ?_ GE129.out) | exact HB.out))) : w.heap.size ≤ gb131)); have n5_ := Aside0.mk ((by rw [hg]; exact Nat.ne_of_lt (blk_lt (g := gb129) (o := .cells #[.int .i64 ((rd_T34 l0 x9_1).f0), .slice (some ad130) ((rd_T34 l0 x9_1).f1).length c128_1] 34 (0, 0)) (by (with_reducible repeat (first | refine blk_drewN ?_ _ | refine blk_drew ?_ | refine blk_alloc ?_ _)); exact BK129.out)) : gb129 ≠ gb131)); have n6_ := Aside0.mk ((by rw [hg]; exact Nat.ne_of_gt (blk_lt (g := gb129) (o := .cells #[.int .i64 ((rd_T34 l0 x9_1).f0), .slice (some ad130) ((rd_T34 l0 x9_1).f1).length c128_1] 34 (0, 0)) (by (with_reducible repeat (first | refine blk_drewN ?_ _ | refine blk_drew ?_ | refine blk_alloc ?_ _)); exact BK129.out)) : gb131 ≠ gb129)); clear BK129; clear HB; have BK129 := n0_; have HB := n1_; have BK131 := n2_; have GW131 := n3_; have GE131 := n4_; have NB129_131 := n5_; have NB131_129 := n6_; clear n0_ n1_ n2_ n3_ n4_ n5_ n6_; clear hb hbox hg; have hnb21 := NB131_129.out; have hnc21 := NB129_131.out; have hcz22_0 : w20.cell? ⟨gb131, 0, none⟩ = some (.int .u8 0) := (blk_cell BK131.out 0).trans rfl; have hcz22_1 : w20.cell? ⟨gb131, 1, none⟩ = some (.int .i64 0) := (blk_cell BK131.out 1).trans rfl; have hcz22_2 : w20.cell? ⟨gb131, 2, none⟩ = some (.int .i64 0) := (blk_cell BK131.out 2).trans rfl; have hfz22_0 := blk_frozen BK131.out 0; have hfz22_1 := blk_frozen BK131.out 1; have hfz22_2 := blk_frozen BK131.out 2) | ((with_reducible refine gate_callee (f := 37) rfl ?_); refine goesL_ (some 35) rfl rfl Tryd.func37 (by kernel_rfl) rfl #[.agg #[.int .u8 ((rd_T60 ((rd_T34 l0 x9_1).f1) x30_3).f0), .int .i64 ((rd_T60 ((rd_T34 l0 x9_1).f1) x30_3).f1), .int .i64 ((rd_T60 ((rd_T34 l0 x9_1).f1) x30_3).f2)]] rfl (by (try simp only [List.map_toArray, List.map_cons, List.map_nil]); first | done | rfl | (simp only [List.length_drop, List.length_take]; rfl)) ?_; (with_reducible refine (clause_Act_right.calls ((rd_T60 ((rd_T34 l0 x9_1).f1) x30_3).f0) ((rd_T60 ((rd_T34 l0 x9_1).f1) x30_3).f1) ((rd_T60 ((rd_T34 l0 x9_1).f1) x30_3).f2) true _ A18.out).mono ?_); rintro e w23 ⟨rfl, hb⟩; refine ⟨_, rfl, ?_⟩; have n0_ := Aside0.mk (blk_below (g := gb129) (o := .cells #[.int .i64 ((rd_T34 l0 x9_1).f0), .slice (some ad130) ((rd_T34 l0 x9_1).f1).length c128_1] 34 (0, 0)) (by (with_reducible repeat (first | refine blk_drewN ?_ _ | refine blk_drew ?_ | refine blk_alloc ?_ _)); refine blk_far ?_ NB129_131.out _; (with_reducible repeat (first | refine blk_drewN ?_ _ | refine blk_drew ?_ | refine blk_alloc ?_ _)); refine blk_far ?_ NB129_131.out _; (with_reducible repeat (first | refine blk_drewN ?_ _ | refine blk_drew ?_ | refine blk_alloc ?_ _)); refine blk_far ?_ NB129_131.out _; (with_reducible repeat (first | refine blk_drewN ?_ _ | refine blk_drew ?_ | refine blk_alloc ?_ _)); exact BK129.out) hb); have n1_ := Aside0.mk (blk_below (g := gb131) (o := .cells #[.int .u8 ((rd_T60 ((rd_T34 l0 x9_1).f1) x30_3).f0), .int .i64 ((rd_T60 ((rd_T34 l0 x9_1).f1) x30_3).f1), .int .i64 ((rd_T60 ((rd_T34 l0 x9_1).f1) x30_3).f2)] 60 (0, 0)) (by (with_reducible repeat (first | refine blk_drewN ?_ _ | refine blk_drew ?_ | refine blk_alloc ?_ _)); refine blk_put (cs := #[.int .u8 ((rd_T60 ((rd_T34 l0 x9_1).f1) x30_3).f0), .int .i64 ((rd_T60 ((rd_T34 l0 x9_1).f1) x30_3).f1), .int .i64 0]) ?_ 2 _ rfl; (with_reducible repeat (first | refine blk_drewN ?_ _ | refine blk_drew ?_ | refine blk_alloc ?_ _)); refine blk_put (cs := #[.int .u8 ((rd_T60 ((rd_T34 l0 x9_1).f1) x30_3).f0), .int .i64 0, .int .i64 0]) ?_ 1 _ rfl; (with_reducible repeat (first | refine blk_drewN ?_ _ | refine blk_drew ?_ | refine blk_alloc ?_ _)); refine blk_put (cs := #[.int .u8 0, .int .i64 0, .int .i64 0]) ?_ 0 _ rfl; (with_reducible repeat (first | refine blk_drewN ?_ _ | refine blk_drew ?_ | refine blk_alloc ?_ _)); exact BK131.out) hb); have n2_ := Aside0.mk (below_step (by repeat (first | (with_reducible first | exact HB.out | apply below_alloc | apply pw_below_drewN | apply below_drew1 | refine below_set ?_ GE129.out | refine below_set ?_ GE131.out) | exact HB.out)) hb); clear BK129; clear BK131; clear HB; have BK129 := n0_; have BK131 := n1_; have HB := n2_; clear n0_ n1_ n2_; (try clear hb); (try clear hb2); (try clear hk); (try clear hi)))
                              go_roundg k3
                              case measure => have := HK1.out; have := HJ4.out; have := HK3.out; omega
                              case rel => exact ⟨(wrap64 (x30_3 + 1)), (by first | rfl | (simp; done) | (simp [*]; done)), H', ⟨by have := HK1.out; have := HJ4.out; have := HK3.out; omega⟩, ⟨by (with_reducible repeat (first | refine blk_drewN ?_ _ | refine blk_drew ?_ | refine blk_alloc ?_ _)); exact BK129.out⟩, ⟨by repeat (first | (with_reducible first | exact HB.out | apply below_alloc | apply pw_below_drewN | apply below_drew1 | refine below_set ?_ GE129.out | refine below_set ?_ GE131.out) | exact HB.out)⟩⟩
                            · replace c19 := Bool.eq_false_iff.mpr c19
                              subst c19
                              have H1 : (some false) = some r := by rw [if_neg (show ¬ (false = true) by decide)] at H; exact H
                              clear H
                              have H := H1
                              clear H1
                              obtain rfl := Option.some.inj H
                              have p130 : 0 ≤ (x30_3 : Int) := of_decide_eq_true (by first | (with_reducible assumption) | assumption)
                              have q130 : x30_3 < (((rd_T34 l0 x9_1).f1).length : Int) := of_decide_eq_true (by first | (with_reducible assumption) | assumption)
                              obtain ⟨ad130, e130, hx130_0, hx130_1, hx130_2⟩ := at_T60 HR128_1.out x30_3 p130 q130
                              cases e130
                              replace hx130_0 := (HB.out.cell (World.block_lt_of_cell? w _ hx130_0)).trans hx130_0
                              replace hx130_1 := (HB.out.cell (World.block_lt_of_cell? w _ hx130_1)).trans hx130_1
                              replace hx130_2 := (HB.out.cell (World.block_lt_of_cell? w _ hx130_2)).trans hx130_2
                              replace p130 := eq_true p130
                              replace q130 := eq_true q130
                              go_wp2_with (first | ((with_reducible refine gate_dst (N := 6) rfl ?_); (try (refine gate_guard (by rfl) ?_; dsimp only)); refine box_event ?hg (N := 6) ?hd (cs := #[.int .u8 0, .int .i64 0, .int .i64 0]) (t := 60) ?hr ?_; (case hd => rfl); (case hg => rfl); (case hr => first | (go_simp; done) | (go_simp; rfl)); intro gb131 hg w24 hbox hb; have n0_ := Aside0.mk (blk_below (g := gb129) (o := .cells #[.int .i64 ((rd_T34 l0 x9_1).f0), .slice (some ad130) ((rd_T34 l0 x9_1).f1).length c128_1] 34 (0, 0)) (by (with_reducible repeat (first | refine blk_drewN ?_ _ | refine blk_drew ?_ | refine blk_alloc ?_ _)); exact BK129.out) hb); have n1_ := Aside0.mk (below_step (by repeat (first | (with_reducible first | exact HB.out | apply below_alloc | apply pw_below_drewN | apply below_drew1 | refine below_set ?_ GE129.out) | exact HB.out)) hb); have n2_ := Aside0.mk (hbox); have n3_ := Aside0.mk ((by rw [hg]; exact (below_size (by repeat (first | (with_reducible first | exact HB.out | apply below_alloc | apply pw_below_drewN | apply below_drew1 | refine below_set ?_ GE129.out) | exact HB.out))) : w.heap.size ≤ gb131)); have n4_ := Aside0.mk ((by rw [hg]; exact (below_size (by repeat (first | (with_reducible first | exact HB.out | apply below_alloc | apply pw_below_drewN | apply below_drew1 | refine below_set ?_ GE129.out) | exact HB.out))) : w.heap.size ≤ gb131)); have n5_ := Aside0.mk ((by rw [hg]; exact Nat.ne_of_lt (blk_lt (g := gb129) (o := .cells #[.int .i64 ((rd_T34 l0 x9_1).f0), .slice (some ad130) ((rd_T34 l0 x9_1).f1).length c128_1] 34 (0, 0)) (by (with_reducible repeat (first | refine blk_drewN ?_ _ | refine blk_drew ?_ | refine blk_alloc ?_ _)); exact BK129.out)) : gb129 ≠ gb131)); have n6_ := Aside0.mk ((by rw [hg]; exact Nat.ne_of_gt (blk_lt (g := gb129) (o := .cells #[.int .i64 ((rd_T34 l0 x9_1).f0), .slice (some ad130) ((rd_T34 l0 x9_1).f1).length c128_1] 34 (0, 0)) (by (with_reducible repeat (first | refine blk_drewN ?_ _ | refine blk_drew ?_ | refine blk_alloc ?_ _)); exact BK129.out)) : gb131 ≠ gb129)); clear BK129; clear HB; have BK129 := n0_; have HB := n1_; have BK131 := n2_; have GW131 := n3_; have GE131 := n4_; have NB129_131 := n5_; have NB131_129 := n6_; clear n0_ n1_ n2_ n3_ n4_ n5_ n6_; clear hb hbox hg; have hnb25 := NB131_129.out; have hnc25 := NB129_131.out; have hcz26_0 : w24.cell? ⟨gb131, 0, none⟩ = some (.int .u8 0) := (blk_cell BK131.out 0).trans rfl; have hcz26_1 : w24.cell? ⟨gb131, 1, none⟩ = some (.int .i64 0) := (blk_cell BK131.out 1).trans rfl; have hcz26_2 : w24.cell? ⟨gb131, 2, none⟩ = some (.int .i64 0) := (blk_cell BK131.out 2).trans rfl; have hfz26_0 := blk_frozen BK131.out 0; have hfz26_1 := blk_frozen BK131.out 1; have hfz26_2 := blk_frozen BK131.out 2) | ((with_reducible refine gate_callee (f := 37) rfl ?_); refine goesL_ (some 35) rfl rfl Tryd.func37 (by kernel_rfl) rfl #[.agg #[.int .u8 ((rd_T60 ((rd_T34 l0 x9_1).f1) x30_3).f0), .int .i64 ((rd_T60 ((rd_T34 l0 x9_1).f1) x30_3).f1), .int .i64 ((rd_T60 ((rd_T34 l0 x9_1).f1) x30_3).f2)]] rfl (by (try simp only [List.map_toArray, List.map_cons, List.map_nil]); first | done | rfl | (simp only [List.length_drop, List.length_take]; rfl)) ?_; (with_reducible refine (clause_Act_right.calls ((rd_T60 ((rd_T34 l0 x9_1).f1) x30_3).f0) ((rd_T60 ((rd_T34 l0 x9_1).f1) x30_3).f1) ((rd_T60 ((rd_T34 l0 x9_1).f1) x30_3).f2) false _ A18.out).mono ?_); rintro e w27 ⟨rfl, hb⟩; refine ⟨_, rfl, ?_⟩; have n0_ := Aside0.mk (blk_below (g := gb129) (o := .cells #[.int .i64 ((rd_T34 l0 x9_1).f0), .slice (some ad130) ((rd_T34 l0 x9_1).f1).length c128_1] 34 (0, 0)) (by (with_reducible repeat (first | refine blk_drewN ?_ _ | refine blk_drew ?_ | refine blk_alloc ?_ _)); refine blk_far ?_ NB129_131.out _; (with_reducible repeat (first | refine blk_drewN ?_ _ | refine blk_drew ?_ | refine blk_alloc ?_ _)); refine blk_far ?_ NB129_131.out _; (with_reducible repeat (first | refine blk_drewN ?_ _ | refine blk_drew ?_ | refine blk_alloc ?_ _)); refine blk_far ?_ NB129_131.out _; (with_reducible repeat (first | refine blk_drewN ?_ _ | refine blk_drew ?_ | refine blk_alloc ?_ _)); exact BK129.out) hb); have n1_ := Aside0.mk (blk_below (g := gb131) (o := .cells #[.int .u8 ((rd_T60 ((rd_T34 l0 x9_1).f1) x30_3).f0), .int .i64 ((rd_T60 ((rd_T34 l0 x9_1).f1) x30_3).f1), .int .i64 ((rd_T60 ((rd_T34 l0 x9_1).f1) x30_3).f2)] 60 (0, 0)) (by (with_reducible repeat (first | refine blk_drewN ?_ _ | refine blk_drew ?_ | refine blk_alloc ?_ _)); refine blk_put (cs := #[.int .u8 ((rd_T60 ((rd_T34 l0 x9_1).f1) x30_3).f0), .int .i64 ((rd_T60 ((rd_T34 l0 x9_1).f1) x30_3).f1), .int .i64 0]) ?_ 2 _ rfl; (with_reducible repeat (first | refine blk_drewN ?_ _ | refine blk_drew ?_ | refine blk_alloc ?_ _)); refine blk_put (cs := #[.int .u8 ((rd_T60 ((rd_T34 l0 x9_1).f1) x30_3).f0), .int .i64 0, .int .i64 0]) ?_ 1 _ rfl; (with_reducible repeat (first | refine blk_drewN ?_ _ | refine blk_drew ?_ | refine blk_alloc ?_ _)); refine blk_put (cs := #[.int .u8 0, .int .i64 0, .int .i64 0]) ?_ 0 _ rfl; (with_reducible repeat (first | refine blk_drewN ?_ _ | refine blk_drew ?_ | refine blk_alloc ?_ _)); exact BK131.out) hb); have n2_ := Aside0.mk (below_step (by repeat (first | (with_reducible first | exact HB.out | apply below_alloc | apply pw_below_drewN | apply below_drew1 | refine below_set ?_ GE129.out | refine below_set ?_ GE131.out) | exact HB.out)) hb); clear BK129; clear BK131; clear HB; have BK129 := n0_; have BK131 := n1_; have HB := n2_; clear n0_ n1_ n2_; (try clear hb); (try clear hb2); (try clear hk); (try clear hi)))
                              go_ret
                              exact ⟨by first | rfl | (simp [errW_none, errW_some] <;> rfl) | (simp [*, errW_none, errW_some] <;> rfl), by repeat (first | (with_reducible first | exact HB.out | apply below_alloc | apply pw_below_drewN | apply below_drew1 | refine below_set ?_ GE129.out | refine below_set ?_ GE131.out) | exact HB.out)⟩
                          · rw [if_neg c17] at H
                            exact absurd H (by simp)
                        · rw [if_neg c16] at H
                          exact absurd H (by simp)
                      · rw [if_neg c15] at H
                        have c15b0 : decide (x30_3 < (((rd_T34 l0 x9_1).f1).length : Int)) = false := decide_eq_false c15
                        clear c15
                        have H' := Aside0.mk H
                        clear H
                        go_wp2
                        go_roundg k3
                        case measure => have := HK1.out; have := HJ4.out; have := HK3.out; omega
                        case rel => exact ⟨(wrap64 (x9_1 + 1)), (by first | rfl | (simp; done) | (simp [*]; done)), H', ⟨by have := HK1.out; have := HJ4.out; have := HK3.out; omega⟩, ⟨by repeat (first | (with_reducible first | exact HB.out | apply below_alloc | apply pw_below_drewN | apply below_drew1 | refine below_set ?_ GE129.out) | exact HB.out)⟩⟩
          · rw [if_neg c4] at H
            exact absurd H (by simp)
        · rw [if_neg c3] at H
          exact absurd H (by simp)
      · rw [if_neg c2] at H
        have c2b0 : decide (x9_1 < (l0.length : Int)) = false := decide_eq_false c2
        clear c2
        obtain rfl := Option.some.inj H
        go_wp2
        go_ret
        exact ⟨by first | rfl | (simp [errW_none, errW_some] <;> rfl) | (simp [*, errW_none, errW_some] <;> rfl), by repeat (first | (with_reducible first | exact HB.out | apply below_alloc | apply pw_below_drewN | apply below_drew1) | exact HB.out)⟩
/-! ### clause_Act_text: function 39 -/
def permL : List (UInt8 × Nat) := [(114, 2), (119, 1), (120, 0), (88, 3), (115, 4), (116, 5)]
def permT (p : Int) (l : List (UInt8 × Nat)) : List UInt8 := (l.filter (fun c => decide (p / ((2 ^ c.2 : Nat) : Int) % 2 = 1))).map (·.1)
theorem permT_len (p : Int) (l : List (UInt8 × Nat)) : (permT p l).length ≤ l.length := by unfold permT; rw [List.length_map]; exact List.length_filter_le _ _
theorem permT_snoc (p : Int) (l : List (UInt8 × Nat)) (c : UInt8 × Nat) : permT p (l ++ [c]) = permT p l ++ (if p / ((2 ^ c.2 : Nat) : Int) % 2 = 1 then [c.1] else []) := by
  unfold permT
  rw [List.filter_append, List.map_append]
  by_cases h : p / ((2 ^ c.2 : Nat) : Int) % 2 = 1
  · rw [if_pos h, List.filter_cons_of_pos (by simpa using h)]; rfl
  · rw [if_neg h, List.filter_cons_of_neg (by simpa using h)]; rfl
def classT (i : Int) : UInt8 := if i = 1 then 117 else if i = 2 then 103 else 111
def textS (o p c : Int) : List UInt8 := o.toNat.toUInt8 :: (if 0 < c then [classT c] else permT p permL)
def clause_Act_text.f (a0_0 : Int) (a0_1 : Int) (a0_2 : Int) : Option ByteArray := if (0 ≤ a0_0 ∧ a0_0 < 128) ∧ (0 ≤ a0_1 ∧ a0_1 ≤ 63) ∧ (0 ≤ a0_2 ∧ a0_2 ≤ 3) then some ⟨⟨textS a0_0 a0_1 a0_2⟩⟩ else none
theorem enc_low (o : Int) (h0 : 0 ≤ o) (h1 : o < 128) : Utf8.encode o = ⟨#[o.toNat.toUInt8]⟩ := by
  obtain ⟨n, rfl⟩ := Int.eq_ofNat_of_zero_le h0
  have hn : n < 128 := by omega
  have f : ∀ x : Fin 128, Utf8.encode (x.val : Int) = ⟨#[((x.val : Int)).toNat.toUInt8]⟩ := by decide +kernel
  exact f ⟨n, hn⟩
set_option maxHeartbeats 3200000 in
set_option maxRecDepth 100000 in
theorem clause_Act_text.copied (o p c : Int) (w : World) (ho : 0 ≤ o ∧ o < 128) (hc : c = 1 ∨ c = 2 ∨ c = 3) :
    Calls Tryd.prog 39 #[.agg #[.int .u8 o, .int .i64 p, .int .i64 c]] w fun e w' => e = .returned (.string ⟨⟨textS o p c⟩⟩) ∧ Below w.heap.size w w' := by
  have HE := Aside0.mk (enc_low o ho.1 ho.2)
  have h1 : (9223372036854775807 < (Utf8.encode o).size + 1) = False := eq_false (by rw [HE.out]; show ¬ (9223372036854775807 < 1 + 1); decide)
  rcases hc with rfl | rfl | rfl
  all_goals
    go_enter Tryd.func39, Tryd.ntmps39
    go_wp2_with fail
    go_ret
    exact ⟨by rw [HE.out]; rfl, (Below.refl _ _).alloc (Nat.le_refl _) _⟩
theorem perm_idx_114 (w : World) : Calls Tryd.prog 55 #[.string ⟨#[120, 119, 114, 88, 115, 116]⟩, .int .i32 114] w fun e w' => e = .returned (.int .i64 2) ∧ w' = w :=
  (Tryd.strings_IndexRune_ascii _ _ _ (by decide) (by decide)).mono fun e w' ⟨he, hw⟩ => ⟨he.trans (by rw [show Lib.indexByte ({ data := #[120, 119, 114, 88, 115, 116] } : ByteArray).data.toList (114 : Int).toNat.toUInt8 = 2 by decide +kernel]), hw⟩
theorem perm_idx_119 (w : World) : Calls Tryd.prog 55 #[.string ⟨#[120, 119, 114, 88, 115, 116]⟩, .int .i32 119] w fun e w' => e = .returned (.int .i64 1) ∧ w' = w :=
  (Tryd.strings_IndexRune_ascii _ _ _ (by decide) (by decide)).mono fun e w' ⟨he, hw⟩ => ⟨he.trans (by rw [show Lib.indexByte ({ data := #[120, 119, 114, 88, 115, 116] } : ByteArray).data.toList (119 : Int).toNat.toUInt8 = 1 by decide +kernel]), hw⟩
theorem perm_idx_120 (w : World) : Calls Tryd.prog 55 #[.string ⟨#[120, 119, 114, 88, 115, 116]⟩, .int .i32 120] w fun e w' => e = .returned (.int .i64 0) ∧ w' = w :=
  (Tryd.strings_IndexRune_ascii _ _ _ (by decide) (by decide)).mono fun e w' ⟨he, hw⟩ => ⟨he.trans (by rw [show Lib.indexByte ({ data := #[120, 119, 114, 88, 115, 116] } : ByteArray).data.toList (120 : Int).toNat.toUInt8 = 0 by decide +kernel]), hw⟩
theorem perm_idx_88 (w : World) : Calls Tryd.prog 55 #[.string ⟨#[120, 119, 114, 88, 115, 116]⟩, .int .i32 88] w fun e w' => e = .returned (.int .i64 3) ∧ w' = w :=
  (Tryd.strings_IndexRune_ascii _ _ _ (by decide) (by decide)).mono fun e w' ⟨he, hw⟩ => ⟨he.trans (by rw [show Lib.indexByte ({ data := #[120, 119, 114, 88, 115, 116] } : ByteArray).data.toList (88 : Int).toNat.toUInt8 = 3 by decide +kernel]), hw⟩
theorem perm_idx_115 (w : World) : Calls Tryd.prog 55 #[.string ⟨#[120, 119, 114, 88, 115, 116]⟩, .int .i32 115] w fun e w' => e = .returned (.int .i64 4) ∧ w' = w :=
  (Tryd.strings_IndexRune_ascii _ _ _ (by decide) (by decide)).mono fun e w' ⟨he, hw⟩ => ⟨he.trans (by rw [show Lib.indexByte ({ data := #[120, 119, 114, 88, 115, 116] } : ByteArray).data.toList (115 : Int).toNat.toUInt8 = 4 by decide +kernel]), hw⟩
theorem perm_idx_116 (w : World) : Calls Tryd.prog 55 #[.string ⟨#[120, 119, 114, 88, 115, 116]⟩, .int .i32 116] w fun e w' => e = .returned (.int .i64 5) ∧ w' = w :=
  (Tryd.strings_IndexRune_ascii _ _ _ (by decide) (by decide)).mono fun e w' ⟨he, hw⟩ => ⟨he.trans (by rw [show Lib.indexByte ({ data := #[120, 119, 114, 88, 115, 116] } : ByteArray).data.toList (116 : Int).toNat.toUInt8 = 5 by decide +kernel]), hw⟩
set_option maxHeartbeats 3200000 in
set_option maxRecDepth 100000 in
theorem clause_Act_text.plain (o p : Int) (w : World) (ho : 0 ≤ o ∧ o < 128) (hp : 0 ≤ p ∧ p ≤ 63) :
    Calls Tryd.prog 39 #[.agg #[.int .u8 o, .int .i64 p, .int .i64 0]] w fun e w' => e = .returned (.string ⟨⟨textS o p 0⟩⟩) ∧ Below w.heap.size w w' := by
  have HE := Aside0.mk (enc_low o ho.1 ho.2)
  go_enter Tryd.func39, Tryd.ntmps39
  go_wp2_with fail
  go_loopg [3, 5] 6 (fun gk v3 _ wr => ∃ (pos : Nat), v3 = .string ⟨⟨o.toNat.toUInt8 :: permT p (permL.take pos)⟩⟩ ∧ pos ≤ 6 ∧ wr.heap[w.heap.size]? = some (.cells #[.int .u8 o, .int .i64 p, .int .i64 0] 60 (0, 0)) ∧ wr.heap[w.heap.size + 1]? = some (.stringIter ⟨#[114, 119, 120, 88, 115, 116]⟩ pos) ∧ Below w.heap.size w wr ∧ 6 ≤ pos + gk)
  case atStart =>
    refine ⟨0, by rw [HE.out]; rfl, by omega, ?_, ?_, ?_, by omega⟩
    · show ((w.heap.push _).push _)[w.heap.size]? = _
      rw [Array.getElem?_push, if_neg (by simp), Array.getElem?_push, if_pos rfl]
    · show ((w.heap.push _).push _)[w.heap.size + 1]? = _
      rw [Array.getElem?_push, if_pos (by simp)]
    · repeat (first | exact Below.refl _ _ | apply below_alloc)
  case round =>
    obtain ⟨pos, rfl, hpos, b0, b1, hbw, hfu⟩ := hrel
    obtain ⟨L, hL⟩ : ∃ L : ByteArray, (⟨⟨o.toNat.toUInt8 :: permT p (permL.take pos)⟩⟩ : ByteArray) = L := ⟨_, rfl⟩
    rw [hL]
    have hLs : L.size ≤ 7 := by
      rw [← hL]
      show (o.toNat.toUInt8 :: permT p (permL.take pos)).length ≤ 7
      have h1 := permT_len p (permL.take pos)
      have h2 : (permL.take pos).length ≤ 6 := by rw [List.length_take]; show min pos 6 ≤ 6; omega
      rw [List.length_cons]; omega
    have HL := Aside0.mk hL
    clear hL
    obtain ⟨s, hs⟩ : ∃ s : ByteArray, s = ⟨#[114, 119, 120, 88, 115, 116]⟩ := ⟨_, rfl⟩
    have hsz : s.size = 6 := by rw [hs]; rfl
    rw [← hs] at b1
    by_cases hp : pos < 6
    · obtain ⟨g', rfl⟩ : ∃ g', gk = g' + 1 := ⟨gk - 1, by omega⟩
      have hcase : pos = 0 ∨ pos = 1 ∨ pos = 2 ∨ pos = 3 ∨ pos = 4 ∨ pos = 5 := by omega
      rcases hcase with rfl | rfl | rfl | rfl | rfl | rfl
      · have hnx : ∀ ty, (Instr.next (.pointer (some ⟨w.heap.size + 1, 0, none⟩)) true ty).run Tryd.prog wr = _ := fun ty => Lib.run_next_any_at wr (w.heap.size + 1) s 0 ty b1 (by omega)
        have hdec : Utf8.decode s 0 = (114, 1) := by rw [hs]; decide +kernel
        rw [hdec] at hnx
        have hit2 := Lib.iterAt_heap wr (w.heap.size + 1) s 0 (0 + 1) b1
        have b0w := (Lib.iterAt_other wr (w.heap.size + 1) w.heap.size s (0 + 1) (by omega)).trans b0
        have hbw2 := Lib.below_iterAt hbw (k := w.heap.size + 1) (by omega) s (0 + 1)
        obtain ⟨W, hWd⟩ : ∃ W, wr.iterAt (w.heap.size + 1) s (0 + 1) = W := ⟨_, rfl⟩
        simp only [hWd] at hnx hit2 hbw2 b0w
        have c1 : W.cell? ⟨w.heap.size, 1, none⟩ = some (.int .i64 p) := cell_of_row W w.heap.size 1 _ 60 (0, 0) b0w
        have B0 := Aside0.mk b0w
        have B2 := Aside0.mk hit2
        have BW := Aside0.mk hbw2
        have HS := Aside0.mk hs
        have FU := Aside0.mk hfu
        clear b0 b1 hbw b0w hit2 hbw2 hs hfu hWd hsz
        have hq := B.and_1 (p / 4)
        have e1 : (9223372036854775807 < L.size + (Utf8.encode 114).size) = False := eq_false (by rw [show (Utf8.encode 114).size = 1 by decide +kernel]; omega)
        have e2 : (9223372036854775807 < L.size + 1) = False := eq_false (by omega)
        by_cases hm : p / 4 % 2 = 1
        · have hbit : (Go.bits .and .i64 (p / 4) 1 == 1) = true := by rw [hq, hm]; rfl
          have HM := Aside0.mk hm
          clear hm hq
          go_wp2_with fail
          go_quiet ((go_at_call 55; exact Calls.quiet_of_same (perm_idx_114 _)))
          (try rw [hbit])
          go_wp2_with fail
          go_roundg g'
          case measure => omega
          case rel =>
            refine ⟨0 + 1, ?_, by omega, B0.out, by have h := B2.out; rw [HS.out] at h; exact h, pw_below_drewN BW.out nq, by have := FU.out; omega⟩
            have hp1 : permL.take (0 + 1) = permL.take 0 ++ [(114, 2)] := rfl
            have hm2 := HM.out
            rw [hp1, permT_snoc, ← HL.out]
            rw [if_pos (by simpa using hm2), show Utf8.encode 114 = ⟨⟨[114]⟩⟩ by decide +kernel]
            rfl
        · have hbit : (Go.bits .and .i64 (p / 4) 1 == 1) = false := by rw [hq]; exact beq_eq_false_iff_ne.2 hm
          have HM := Aside0.mk hm
          clear hm hq
          go_wp2_with fail
          go_quiet ((go_at_call 55; exact Calls.quiet_of_same (perm_idx_114 _)))
          (try rw [hbit])
          go_wp2_with fail
          go_roundg g'
          case measure => omega
          case rel =>
            refine ⟨0 + 1, ?_, by omega, B0.out, by have h := B2.out; rw [HS.out] at h; exact h, pw_below_drewN BW.out nq, by have := FU.out; omega⟩
            have hp1 : permL.take (0 + 1) = permL.take 0 ++ [(114, 2)] := rfl
            have hm2 := HM.out
            rw [hp1, permT_snoc, ← HL.out]
            rw [if_neg (by simpa using hm2), List.append_nil]
      · have hnx : ∀ ty, (Instr.next (.pointer (some ⟨w.heap.size + 1, 0, none⟩)) true ty).run Tryd.prog wr = _ := fun ty => Lib.run_next_any_at wr (w.heap.size + 1) s 1 ty b1 (by omega)
        have hdec : Utf8.decode s 1 = (119, 1) := by rw [hs]; decide +kernel
        rw [hdec] at hnx
        have hit2 := Lib.iterAt_heap wr (w.heap.size + 1) s 1 (1 + 1) b1
        have b0w := (Lib.iterAt_other wr (w.heap.size + 1) w.heap.size s (1 + 1) (by omega)).trans b0
        have hbw2 := Lib.below_iterAt hbw (k := w.heap.size + 1) (by omega) s (1 + 1)
        obtain ⟨W, hWd⟩ : ∃ W, wr.iterAt (w.heap.size + 1) s (1 + 1) = W := ⟨_, rfl⟩
        simp only [hWd] at hnx hit2 hbw2 b0w
        have c1 : W.cell? ⟨w.heap.size, 1, none⟩ = some (.int .i64 p) := cell_of_row W w.heap.size 1 _ 60 (0, 0) b0w
        have B0 := Aside0.mk b0w
        have B2 := Aside0.mk hit2
        have BW := Aside0.mk hbw2
        have HS := Aside0.mk hs
        have FU := Aside0.mk hfu
        clear b0 b1 hbw b0w hit2 hbw2 hs hfu hWd hsz
        have hq := B.and_1 (p / 2)
        have e1 : (9223372036854775807 < L.size + (Utf8.encode 119).size) = False := eq_false (by rw [show (Utf8.encode 119).size = 1 by decide +kernel]; omega)
        have e2 : (9223372036854775807 < L.size + 1) = False := eq_false (by omega)
        by_cases hm : p / 2 % 2 = 1
        · have hbit : (Go.bits .and .i64 (p / 2) 1 == 1) = true := by rw [hq, hm]; rfl
          have HM := Aside0.mk hm
          clear hm hq
          go_wp2_with fail
          go_quiet ((go_at_call 55; exact Calls.quiet_of_same (perm_idx_119 _)))
          (try rw [hbit])
          go_wp2_with fail
          go_roundg g'
          case measure => omega
          case rel =>
            refine ⟨1 + 1, ?_, by omega, B0.out, by have h := B2.out; rw [HS.out] at h; exact h, pw_below_drewN BW.out nq, by have := FU.out; omega⟩
            have hp1 : permL.take (1 + 1) = permL.take 1 ++ [(119, 1)] := rfl
            have hm2 := HM.out
            rw [hp1, permT_snoc, ← HL.out]
            rw [if_pos (by simpa using hm2), show Utf8.encode 119 = ⟨⟨[119]⟩⟩ by decide +kernel]
            rfl
        · have hbit : (Go.bits .and .i64 (p / 2) 1 == 1) = false := by rw [hq]; exact beq_eq_false_iff_ne.2 hm
          have HM := Aside0.mk hm
          clear hm hq
          go_wp2_with fail
          go_quiet ((go_at_call 55; exact Calls.quiet_of_same (perm_idx_119 _)))
          (try rw [hbit])
          go_wp2_with fail
          go_roundg g'
          case measure => omega
          case rel =>
            refine ⟨1 + 1, ?_, by omega, B0.out, by have h := B2.out; rw [HS.out] at h; exact h, pw_below_drewN BW.out nq, by have := FU.out; omega⟩
            have hp1 : permL.take (1 + 1) = permL.take 1 ++ [(119, 1)] := rfl
            have hm2 := HM.out
            rw [hp1, permT_snoc, ← HL.out]
            rw [if_neg (by simpa using hm2), List.append_nil]
      · have hnx : ∀ ty, (Instr.next (.pointer (some ⟨w.heap.size + 1, 0, none⟩)) true ty).run Tryd.prog wr = _ := fun ty => Lib.run_next_any_at wr (w.heap.size + 1) s 2 ty b1 (by omega)
        have hdec : Utf8.decode s 2 = (120, 1) := by rw [hs]; decide +kernel
        rw [hdec] at hnx
        have hit2 := Lib.iterAt_heap wr (w.heap.size + 1) s 2 (2 + 1) b1
        have b0w := (Lib.iterAt_other wr (w.heap.size + 1) w.heap.size s (2 + 1) (by omega)).trans b0
        have hbw2 := Lib.below_iterAt hbw (k := w.heap.size + 1) (by omega) s (2 + 1)
        obtain ⟨W, hWd⟩ : ∃ W, wr.iterAt (w.heap.size + 1) s (2 + 1) = W := ⟨_, rfl⟩
        simp only [hWd] at hnx hit2 hbw2 b0w
        have c1 : W.cell? ⟨w.heap.size, 1, none⟩ = some (.int .i64 p) := cell_of_row W w.heap.size 1 _ 60 (0, 0) b0w
        have B0 := Aside0.mk b0w
        have B2 := Aside0.mk hit2
        have BW := Aside0.mk hbw2
        have HS := Aside0.mk hs
        have FU := Aside0.mk hfu
        clear b0 b1 hbw b0w hit2 hbw2 hs hfu hWd hsz
        have hq := B.and_1 (p)
        have e1 : (9223372036854775807 < L.size + (Utf8.encode 120).size) = False := eq_false (by rw [show (Utf8.encode 120).size = 1 by decide +kernel]; omega)
        have e2 : (9223372036854775807 < L.size + 1) = False := eq_false (by omega)
        by_cases hm : p % 2 = 1
        · have hbit : (Go.bits .and .i64 (p) 1 == 1) = true := by rw [hq, hm]; rfl
          have HM := Aside0.mk hm
          clear hm hq
          go_wp2_with fail
          go_quiet ((go_at_call 55; exact Calls.quiet_of_same (perm_idx_120 _)))
          (try rw [hbit])
          go_wp2_with fail
          go_roundg g'
          case measure => omega
          case rel =>
            refine ⟨2 + 1, ?_, by omega, B0.out, by have h := B2.out; rw [HS.out] at h; exact h, pw_below_drewN BW.out nq, by have := FU.out; omega⟩
            have hp1 : permL.take (2 + 1) = permL.take 2 ++ [(120, 0)] := rfl
            have hm2 := HM.out
            rw [hp1, permT_snoc, ← HL.out]
            rw [if_pos (by simpa using hm2), show Utf8.encode 120 = ⟨⟨[120]⟩⟩ by decide +kernel]
            rfl
        · have hbit : (Go.bits .and .i64 (p) 1 == 1) = false := by rw [hq]; exact beq_eq_false_iff_ne.2 hm
          have HM := Aside0.mk hm
          clear hm hq
          go_wp2_with fail
          go_quiet ((go_at_call 55; exact Calls.quiet_of_same (perm_idx_120 _)))
          (try rw [hbit])
          go_wp2_with fail
          go_roundg g'
          case measure => omega
          case rel =>
            refine ⟨2 + 1, ?_, by omega, B0.out, by have h := B2.out; rw [HS.out] at h; exact h, pw_below_drewN BW.out nq, by have := FU.out; omega⟩
            have hp1 : permL.take (2 + 1) = permL.take 2 ++ [(120, 0)] := rfl
            have hm2 := HM.out
            rw [hp1, permT_snoc, ← HL.out]
            rw [if_neg (by simpa using hm2), List.append_nil]
      · have hnx : ∀ ty, (Instr.next (.pointer (some ⟨w.heap.size + 1, 0, none⟩)) true ty).run Tryd.prog wr = _ := fun ty => Lib.run_next_any_at wr (w.heap.size + 1) s 3 ty b1 (by omega)
        have hdec : Utf8.decode s 3 = (88, 1) := by rw [hs]; decide +kernel
        rw [hdec] at hnx
        have hit2 := Lib.iterAt_heap wr (w.heap.size + 1) s 3 (3 + 1) b1
        have b0w := (Lib.iterAt_other wr (w.heap.size + 1) w.heap.size s (3 + 1) (by omega)).trans b0
        have hbw2 := Lib.below_iterAt hbw (k := w.heap.size + 1) (by omega) s (3 + 1)
        obtain ⟨W, hWd⟩ : ∃ W, wr.iterAt (w.heap.size + 1) s (3 + 1) = W := ⟨_, rfl⟩
        simp only [hWd] at hnx hit2 hbw2 b0w
        have c1 : W.cell? ⟨w.heap.size, 1, none⟩ = some (.int .i64 p) := cell_of_row W w.heap.size 1 _ 60 (0, 0) b0w
        have B0 := Aside0.mk b0w
        have B2 := Aside0.mk hit2
        have BW := Aside0.mk hbw2
        have HS := Aside0.mk hs
        have FU := Aside0.mk hfu
        clear b0 b1 hbw b0w hit2 hbw2 hs hfu hWd hsz
        have hq := B.and_1 (p / 8)
        have e1 : (9223372036854775807 < L.size + (Utf8.encode 88).size) = False := eq_false (by rw [show (Utf8.encode 88).size = 1 by decide +kernel]; omega)
        have e2 : (9223372036854775807 < L.size + 1) = False := eq_false (by omega)
        by_cases hm : p / 8 % 2 = 1
        · have hbit : (Go.bits .and .i64 (p / 8) 1 == 1) = true := by rw [hq, hm]; rfl
          have HM := Aside0.mk hm
          clear hm hq
          go_wp2_with fail
          go_quiet ((go_at_call 55; exact Calls.quiet_of_same (perm_idx_88 _)))
          (try rw [hbit])
          go_wp2_with fail
          go_roundg g'
          case measure => omega
          case rel =>
            refine ⟨3 + 1, ?_, by omega, B0.out, by have h := B2.out; rw [HS.out] at h; exact h, pw_below_drewN BW.out nq, by have := FU.out; omega⟩
            have hp1 : permL.take (3 + 1) = permL.take 3 ++ [(88, 3)] := rfl
            have hm2 := HM.out
            rw [hp1, permT_snoc, ← HL.out]
            rw [if_pos (by simpa using hm2), show Utf8.encode 88 = ⟨⟨[88]⟩⟩ by decide +kernel]
            rfl
        · have hbit : (Go.bits .and .i64 (p / 8) 1 == 1) = false := by rw [hq]; exact beq_eq_false_iff_ne.2 hm
          have HM := Aside0.mk hm
          clear hm hq
          go_wp2_with fail
          go_quiet ((go_at_call 55; exact Calls.quiet_of_same (perm_idx_88 _)))
          (try rw [hbit])
          go_wp2_with fail
          go_roundg g'
          case measure => omega
          case rel =>
            refine ⟨3 + 1, ?_, by omega, B0.out, by have h := B2.out; rw [HS.out] at h; exact h, pw_below_drewN BW.out nq, by have := FU.out; omega⟩
            have hp1 : permL.take (3 + 1) = permL.take 3 ++ [(88, 3)] := rfl
            have hm2 := HM.out
            rw [hp1, permT_snoc, ← HL.out]
            rw [if_neg (by simpa using hm2), List.append_nil]
      · have hnx : ∀ ty, (Instr.next (.pointer (some ⟨w.heap.size + 1, 0, none⟩)) true ty).run Tryd.prog wr = _ := fun ty => Lib.run_next_any_at wr (w.heap.size + 1) s 4 ty b1 (by omega)
        have hdec : Utf8.decode s 4 = (115, 1) := by rw [hs]; decide +kernel
        rw [hdec] at hnx
        have hit2 := Lib.iterAt_heap wr (w.heap.size + 1) s 4 (4 + 1) b1
        have b0w := (Lib.iterAt_other wr (w.heap.size + 1) w.heap.size s (4 + 1) (by omega)).trans b0
        have hbw2 := Lib.below_iterAt hbw (k := w.heap.size + 1) (by omega) s (4 + 1)
        obtain ⟨W, hWd⟩ : ∃ W, wr.iterAt (w.heap.size + 1) s (4 + 1) = W := ⟨_, rfl⟩
        simp only [hWd] at hnx hit2 hbw2 b0w
        have c1 : W.cell? ⟨w.heap.size, 1, none⟩ = some (.int .i64 p) := cell_of_row W w.heap.size 1 _ 60 (0, 0) b0w
        have B0 := Aside0.mk b0w
        have B2 := Aside0.mk hit2
        have BW := Aside0.mk hbw2
        have HS := Aside0.mk hs
        have FU := Aside0.mk hfu
        clear b0 b1 hbw b0w hit2 hbw2 hs hfu hWd hsz
        have hq := B.and_1 (p / 16)
        have e1 : (9223372036854775807 < L.size + (Utf8.encode 115).size) = False := eq_false (by rw [show (Utf8.encode 115).size = 1 by decide +kernel]; omega)
        have e2 : (9223372036854775807 < L.size + 1) = False := eq_false (by omega)
        by_cases hm : p / 16 % 2 = 1
        · have hbit : (Go.bits .and .i64 (p / 16) 1 == 1) = true := by rw [hq, hm]; rfl
          have HM := Aside0.mk hm
          clear hm hq
          go_wp2_with fail
          go_quiet ((go_at_call 55; exact Calls.quiet_of_same (perm_idx_115 _)))
          (try rw [hbit])
          go_wp2_with fail
          go_roundg g'
          case measure => omega
          case rel =>
            refine ⟨4 + 1, ?_, by omega, B0.out, by have h := B2.out; rw [HS.out] at h; exact h, pw_below_drewN BW.out nq, by have := FU.out; omega⟩
            have hp1 : permL.take (4 + 1) = permL.take 4 ++ [(115, 4)] := rfl
            have hm2 := HM.out
            rw [hp1, permT_snoc, ← HL.out]
            rw [if_pos (by simpa using hm2), show Utf8.encode 115 = ⟨⟨[115]⟩⟩ by decide +kernel]
            rfl
        · have hbit : (Go.bits .and .i64 (p / 16) 1 == 1) = false := by rw [hq]; exact beq_eq_false_iff_ne.2 hm
          have HM := Aside0.mk hm
          clear hm hq
          go_wp2_with fail
          go_quiet ((go_at_call 55; exact Calls.quiet_of_same (perm_idx_115 _)))
          (try rw [hbit])
          go_wp2_with fail
          go_roundg g'
          case measure => omega
          case rel =>
            refine ⟨4 + 1, ?_, by omega, B0.out, by have h := B2.out; rw [HS.out] at h; exact h, pw_below_drewN BW.out nq, by have := FU.out; omega⟩
            have hp1 : permL.take (4 + 1) = permL.take 4 ++ [(115, 4)] := rfl
            have hm2 := HM.out
            rw [hp1, permT_snoc, ← HL.out]
            rw [if_neg (by simpa using hm2), List.append_nil]
      · have hnx : ∀ ty, (Instr.next (.pointer (some ⟨w.heap.size + 1, 0, none⟩)) true ty).run Tryd.prog wr = _ := fun ty => Lib.run_next_any_at wr (w.heap.size + 1) s 5 ty b1 (by omega)
        have hdec : Utf8.decode s 5 = (116, 1) := by rw [hs]; decide +kernel
        rw [hdec] at hnx
        have hit2 := Lib.iterAt_heap wr (w.heap.size + 1) s 5 (5 + 1) b1
        have b0w := (Lib.iterAt_other wr (w.heap.size + 1) w.heap.size s (5 + 1) (by omega)).trans b0
        have hbw2 := Lib.below_iterAt hbw (k := w.heap.size + 1) (by omega) s (5 + 1)
        obtain ⟨W, hWd⟩ : ∃ W, wr.iterAt (w.heap.size + 1) s (5 + 1) = W := ⟨_, rfl⟩
        simp only [hWd] at hnx hit2 hbw2 b0w
        have c1 : W.cell? ⟨w.heap.size, 1, none⟩ = some (.int .i64 p) := cell_of_row W w.heap.size 1 _ 60 (0, 0) b0w
        have B0 := Aside0.mk b0w
        have B2 := Aside0.mk hit2
        have BW := Aside0.mk hbw2
        have HS := Aside0.mk hs
        have FU := Aside0.mk hfu
        clear b0 b1 hbw b0w hit2 hbw2 hs hfu hWd hsz
        have hq := B.and_1 (p / 32)
        have e1 : (9223372036854775807 < L.size + (Utf8.encode 116).size) = False := eq_false (by rw [show (Utf8.encode 116).size = 1 by decide +kernel]; omega)
        have e2 : (9223372036854775807 < L.size + 1) = False := eq_false (by omega)
        by_cases hm : p / 32 % 2 = 1
        · have hbit : (Go.bits .and .i64 (p / 32) 1 == 1) = true := by rw [hq, hm]; rfl
          have HM := Aside0.mk hm
          clear hm hq
          go_wp2_with fail
          go_quiet ((go_at_call 55; exact Calls.quiet_of_same (perm_idx_116 _)))
          (try rw [hbit])
          go_wp2_with fail
          go_roundg g'
          case measure => omega
          case rel =>
            refine ⟨5 + 1, ?_, by omega, B0.out, by have h := B2.out; rw [HS.out] at h; exact h, pw_below_drewN BW.out nq, by have := FU.out; omega⟩
            have hp1 : permL.take (5 + 1) = permL.take 5 ++ [(116, 5)] := rfl
            have hm2 := HM.out
            rw [hp1, permT_snoc, ← HL.out]
            rw [if_pos (by simpa using hm2), show Utf8.encode 116 = ⟨⟨[116]⟩⟩ by decide +kernel]
            rfl
        · have hbit : (Go.bits .and .i64 (p / 32) 1 == 1) = false := by rw [hq]; exact beq_eq_false_iff_ne.2 hm
          have HM := Aside0.mk hm
          clear hm hq
          go_wp2_with fail
          go_quiet ((go_at_call 55; exact Calls.quiet_of_same (perm_idx_116 _)))
          (try rw [hbit])
          go_wp2_with fail
          go_roundg g'
          case measure => omega
          case rel =>
            refine ⟨5 + 1, ?_, by omega, B0.out, by have h := B2.out; rw [HS.out] at h; exact h, pw_below_drewN BW.out nq, by have := FU.out; omega⟩
            have hp1 : permL.take (5 + 1) = permL.take 5 ++ [(116, 5)] := rfl
            have hm2 := HM.out
            rw [hp1, permT_snoc, ← HL.out]
            rw [if_neg (by simpa using hm2), List.append_nil]
    · obtain rfl : pos = 6 := by omega
      have hnx := fun ty => Lib.run_next_end_at (P := Tryd.prog) wr (w.heap.size + 1) s 6 ty b1 (by omega)
      have BW := Aside0.mk hbw
      clear b0 b1 hbw hs hsz hfu
      go_wp2_with fail
      go_ret
      exact ⟨by rw [← HL.out]; rfl, BW.out⟩
theorem clause_Act_text.calls (a0_0 : Int) (a0_1 : Int) (a0_2 : Int) (r : ByteArray) (w : World) (h : clause_Act_text.f a0_0 a0_1 a0_2 = some r) :
    Calls Tryd.prog 39 #[.agg #[.int .u8 a0_0, .int .i64 a0_1, .int .i64 a0_2]] w fun e w' => e = .returned (.string r) ∧ Below w.heap.size w w' := by
  unfold clause_Act_text.f at h
  split at h
  · rename_i hc
    obtain ⟨h1, h2, h3⟩ := hc
    simp only [Option.some.injEq] at h
    subst h
    by_cases h0 : a0_2 = 0
    · subst h0
      exact clause_Act_text.plain a0_0 a0_1 w h1 h2
    · exact clause_Act_text.copied a0_0 a0_1 a0_2 w h1 (by omega)
  · exact absurd h (by simp)
-- NOT PRINTED: function 83 (abi_NoEscape)
-- NOT PRINTED: function 74 (strings_Builder_copyCheck)
-- NOT PRINTED: function 84 (bytealg_MakeNoZero)
-- NOT PRINTED: function 75 (strings_Builder_grow)
-- NOT PRINTED: function 56 (strings_Builder_Grow)
-- NOT PRINTED: function 57 (strings_Builder_WriteString)
-- NOT PRINTED: function 58 (strings_Builder_String)
/-! ### strings_Join: function 40 -/
end Go.Proofs.YtlohbepfecahdaaDoor.S
