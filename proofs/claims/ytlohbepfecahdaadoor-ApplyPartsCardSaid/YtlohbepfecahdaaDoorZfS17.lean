-- Written by wip/tools/myprint.py, a session's own driver of the kit's printer.
import Derived.ArgAppend
import Derived.Below
import Derived.BigQuiet
import Derived.Deep.AppendLies
import Derived.Deep.CutBlock
import Derived.Deep.DeepCutAuto
import Derived.Deep.Draws
import Derived.Deep.LoopGhost
import Derived.Deep.OwnRows
import Derived.Deep.QuietTactic
import Derived.Deep.RegionHeld3
import Derived.Handy
import Derived.KernelRfl
import Derived.Laws.BitsAllLaws
import Derived.Laws.BitsLemmas
import Derived.Laws.BytesArg
import Derived.Laws.IdiomCopy
import Derived.Laws.MakeOwn
import Derived.Laws.OwnMore
import Derived.Laws.RangeAny
import Derived.Laws.Rows
import Derived.Laws.Slices
import Derived.Laws.StructEq
import Derived.Lib.AppendStr
import Derived.Lib.ConvBytes
import Derived.Lib.FieldsP
import Derived.Lib.Hide
import Derived.Lib.IndexAny
import Derived.Lib.OthersKept
import Derived.Lib.SlBytesConst
import Derived.Lib.SpaceUEq
import Derived.Maps.AppendAt
import Derived.OneCell
import Derived.OrdersHeld
import Derived.OwnWalk
import Derived.RowKit
import Derived.RowKit3
import Derived.Shelf.LaysM
import Derived.Shelf.Small.Strs
import Derived.Shelf.Small.Utf8
import Derived.Shelf.Strings.Builder1
import Derived.Shelf.Strings.Builder2
import Derived.Shelf.Strings.BuilderF
import Derived.Shelf.Strings.BuilderK
import Derived.Shelf.Strings.Count
import Derived.Shelf.Strings.OnBuilder
import Derived.Shelf.Strings.Runes
import Derived.Shelf.Strings.Search1
import Derived.Shelf.Strings.Search2
import Derived.Shelf.Strings.Search3
import Derived.Shelf.Strings.Shaped
import Derived.Shelf.Strings.Split
import Derived.Shelf.Strings.SplitShaped
import Derived.Shelf.Unicode.DecodeSlow
import Derived.Tactics
import Derived.Test.YtlohbepfecahdaaDoorProg
import Derived.WalkKit
import Derived.WideLaws
import Derived.Test.YtlohbepfecahdaaDoorZfWWords
import Derived.Test.YtlohbepfecahdaaDoorZfWLast
import Derived.Test.YtlohbepfecahdaaDoorZfWApart
import Derived.Test.YtlohbepfecahdaaDoorZfWFoot
import Derived.Test.YtlohbepfecahdaaDoorZfWShare
import Derived.Test.YtlohbepfecahdaaDoorZfWN
import Derived.Test.YtlohbepfecahdaaDoorZfWNEv
import Derived.Test.YtlohbepfecahdaaDoorZfWMore
import Derived.Test.YtlohbepfecahdaaDoorZfB
import Derived.Test.YtlohbepfecahdaaDoorZfC
import Derived.Test.YtlohbepfecahdaaDoorZfShelf
import Derived.Test.YtlohbepfecahdaaDoorZfD
import Derived.Test.YtlohbepfecahdaaDoorZfWTab
import Derived.Test.YtlohbepfecahdaaDoorZfWEqStruct
import Derived.Test.YtlohbepfecahdaaDoorZfWRepsOne
import Derived.Test.YtlohbepfecahdaaDoorZfWGuard
import Derived.Test.YtlohbepfecahdaaDoorZfS0
import Derived.Test.YtlohbepfecahdaaDoorZfS4
import Derived.Test.YtlohbepfecahdaaDoorZfS5
import Derived.Test.YtlohbepfecahdaaDoorZfS6
import Derived.Test.YtlohbepfecahdaaDoorZfS7
import Derived.Test.YtlohbepfecahdaaDoorZfS8
import Derived.Test.YtlohbepfecahdaaDoorZfS9
import Derived.Test.YtlohbepfecahdaaDoorZfS10
import Derived.Test.YtlohbepfecahdaaDoorZfS15
import Derived.Test.YtlohbepfecahdaaDoorZfS16
namespace Go.Proofs.YtlohbepfecahdaaDoor.S
open Go.RowKit Go.Proofs.YtlohbepfecahdaaDoorW.PrintWords Go.Proofs.YtlohbepfecahdaaDoorW.PrintLast Go.Proofs.YtlohbepfecahdaaDoorW.PrintMore
set_option linter.unusedVariables false
set_option linter.unusedSimpArgs false
/-! ### apply_Apply: function 29 -/
mutual
def apply_Apply.l0 : Nat → Int → Bool → Int → List (S34) → Int → Int → Option (Int)
  | 0, _, _, _, _, _, _ => none
  | k + 1, x1, x2, x3, x21, x22, x23 => if x23 < x22 then (if 0 ≤ x23 then (if x23 < (x21.length : Int) then ((apply_has.f k ((rd_T34 x21 x23).f0) x3).bind fun t331 => (apply_Apply.l1 k x1 x2 x3 t331 x21 x22 x23 (((rd_T34 x21 x23).f1).length : Int) 0 ((rd_T34 x21 x23).f0) ((rd_T34 x21 x23).f1))) else (none)) else (none)) else (some x1)
def apply_Apply.l1 : Nat → Int → Bool → Int → Int → List (S34) → Int → Int → Int → Int → Int → List (S60) → Option (Int)
  | 0, _, _, _, _, _, _, _, _, _, _, _ => none
  | k + 1, x1, x2, x3, x11, x21, x22, x23, x33, x34, x331000, x331001 => if x34 < x33 then (if 0 ≤ x34 then (if x34 < (x331001.length : Int) then ((apply_bits.f ((rd_T60 x331001 x34).f0) ((rd_T60 x331001 x34).f1) ((rd_T60 x331001 x34).f2) x1 x2).bind fun t334 => (if ((rd_T60 x331001 x34).f0) = 45 then (apply_Apply.l1 k (Go.bits .andNot .i64 x1 (Go.bits .and .i64 t334 x11)) x2 x3 x11 x21 x22 x23 x33 (wrap64 (x34 + 1)) x331000 x331001) else (if ((rd_T60 x331001 x34).f0) = 61 then (if x331000 = 0 then (apply_Apply.l1 k (Go.bits .or .i64 (Go.bits .andNot .i64 0 x11) (Go.bits .and .i64 t334 x11)) x2 x3 x11 x21 x22 x23 x33 (wrap64 (x34 + 1)) x331000 x331001) else (apply_Apply.l1 k (Go.bits .or .i64 (Go.bits .andNot .i64 x1 x11) (Go.bits .and .i64 t334 x11)) x2 x3 x11 x21 x22 x23 x33 (wrap64 (x34 + 1)) x331000 x331001)) else (apply_Apply.l1 k (Go.bits .or .i64 x1 (Go.bits .and .i64 t334 x11)) x2 x3 x11 x21 x22 x23 x33 (wrap64 (x34 + 1)) x331000 x331001)))) else (none)) else (none)) else (apply_Apply.l0 k x1 x2 x3 x21 x22 (wrap64 (x23 + 1)))
end
def apply_Apply.f (k : Nat) (l0 : List (S34)) (a1 : Int) (a2 : Bool) (a3 : Int) : Option (Int) := (clause_Right.f k l0).bind fun t328 => (if t328 = true then (apply_Apply.l0 k (Go.bits .and .i64 a1 4095) a2 a3 l0 (l0.length : Int) 0) else (some (Go.bits .and .i64 a1 4095)))
theorem apply_Apply.mono_l : ∀ k, (∀ y0 y1 y2 y3 y4 y5, LeO (apply_Apply.l0 k y0 y1 y2 y3 y4 y5) (apply_Apply.l0 (k + 1) y0 y1 y2 y3 y4 y5)) ∧ (∀ y0 y1 y2 y3 y4 y5 y6 y7 y8 y9 y10, LeO (apply_Apply.l1 k y0 y1 y2 y3 y4 y5 y6 y7 y8 y9 y10) (apply_Apply.l1 (k + 1) y0 y1 y2 y3 y4 y5 y6 y7 y8 y9 y10))
  | 0 => ⟨fun _ _ _ _ _ _ r h => by simp [apply_Apply.l0] at h, fun _ _ _ _ _ _ _ _ _ _ _ r h => by simp [apply_Apply.l1] at h⟩
  | k + 1 => by
    obtain ⟨ih0, ih1⟩ := apply_Apply.mono_l k
    refine ⟨?_, ?_⟩
    · intro y0 y1 y2 y3 y4 y5
      unfold apply_Apply.l0
      repeat' first
      | (with_reducible exact ih0 _ _ _ _ _ _)
      | (with_reducible exact ih1 _ _ _ _ _ _ _ _ _ _ _)
      | (with_reducible exact apply_has.mono _ _ _)
      | (with_reducible exact clause_Right.mono _ _)
      | (with_reducible exact LeO.refl _)
      | (with_reducible exact LeO.none _)
      | (with_reducible refine LeO.ite ?_ ?_)
      | (with_reducible refine LeO.bind ?_ (fun _ => ?_))
      | exact ih0 _ _ _ _ _ _
      | exact ih1 _ _ _ _ _ _ _ _ _ _ _
      | exact apply_has.mono _ _ _
      | exact clause_Right.mono _ _
      | exact LeO.none _
      | refine LeO.ite ?_ ?_
      | refine LeO.bind ?_ (fun _ => ?_)
    · intro y0 y1 y2 y3 y4 y5 y6 y7 y8 y9 y10
      unfold apply_Apply.l1
      repeat' first
      | (with_reducible exact ih0 _ _ _ _ _ _)
      | (with_reducible exact ih1 _ _ _ _ _ _ _ _ _ _ _)
      | (with_reducible exact apply_has.mono _ _ _)
      | (with_reducible exact clause_Right.mono _ _)
      | (with_reducible exact LeO.refl _)
      | (with_reducible exact LeO.none _)
      | (with_reducible refine LeO.ite ?_ ?_)
      | (with_reducible refine LeO.bind ?_ (fun _ => ?_))
      | exact ih0 _ _ _ _ _ _
      | exact ih1 _ _ _ _ _ _ _ _ _ _ _
      | exact apply_has.mono _ _ _
      | exact clause_Right.mono _ _
      | exact LeO.none _
      | refine LeO.ite ?_ ?_
      | refine LeO.bind ?_ (fun _ => ?_)
theorem apply_Apply.mono : ∀ a0 a1 a2 a3 k, LeO (apply_Apply.f k a0 a1 a2 a3) (apply_Apply.f (k + 1) a0 a1 a2 a3) := by
  intro a0 a1 a2 a3 k
  obtain ⟨ih0, ih1⟩ := apply_Apply.mono_l k
  unfold apply_Apply.f
  repeat' first
      | (with_reducible exact ih0 _ _ _ _ _ _)
      | (with_reducible exact ih1 _ _ _ _ _ _ _ _ _ _ _)
      | (with_reducible exact apply_has.mono _ _ _)
      | (with_reducible exact clause_Right.mono _ _)
      | (with_reducible exact LeO.refl _)
      | (with_reducible exact LeO.none _)
      | (with_reducible refine LeO.ite ?_ ?_)
      | (with_reducible refine LeO.bind ?_ (fun _ => ?_))
      | exact ih0 _ _ _ _ _ _
      | exact ih1 _ _ _ _ _ _ _ _ _ _ _
      | exact apply_has.mono _ _ _
      | exact clause_Right.mono _ _
      | exact LeO.none _
      | refine LeO.ite ?_ ?_
      | refine LeO.bind ?_ (fun _ => ?_)
set_option maxHeartbeats 8000000 in
set_option maxRecDepth 100000 in
theorem apply_Apply.calls (k : Nat) (A0 : Option Addr) (c0 : Nat) (l0 : List (S34)) (a1 : Int) (a2 : Bool) (a3 : Int) (r : Int) (w : World) (hr0 : Kd.C k34 w A0 l0.length l0) (hc0 : l0.length ≤ c0) (h : apply_Apply.f k l0 a1 a2 a3 = some r) :
    Calls Tryd.prog 29 #[.slice A0 l0.length c0, .int .i64 a1, .bool a2, .int .i64 a3] w fun e w' => e = .returned (.int .i64 r) ∧ Below w.heap.size w w' := by
  have hu34 := Tryd.underlying34
  have hu60 := Tryd.underlying60
  have HR0 := Aside0.mk hr0
  have HC0 := Aside0.mk hc0
  clear hr0 hc0
  have HB := Aside0.mk (Below.refl w.heap.size w)
  have H : ((clause_Right.f k l0).bind fun t328 => (if t328 = true then (apply_Apply.l0 k (Go.bits .and .i64 a1 4095) a2 a3 l0 (l0.length : Int) 0) else (some (Go.bits .and .i64 a1 4095)))) = some r := h
  clear h
  replace H := Option.bind_eq_some_iff.mp H
  obtain ⟨t328, A50, H⟩ := H
  replace H : (if t328 = true then (apply_Apply.l0 k (Go.bits .and .i64 a1 4095) a2 a3 l0 (l0.length : Int) 0) else (some (Go.bits .and .i64 a1 4095))) = some r := H
  have A5 := Aside0.mk A50
  clear A50
  by_cases c6 : t328 = true
  · subst c6
    have H1 : (apply_Apply.l0 k (Go.bits .and .i64 a1 4095) a2 a3 l0 (l0.length : Int) 0) = some r := by rw [if_pos rfl] at H; exact H
    clear H
    have H := H1
    clear H1
    have H' := Aside0.mk H
    clear H
    go_enter Tryd.func29, Tryd.ntmps29
    go_wp2_with (first | ((with_reducible refine gate_callee (f := 19) rfl ?_); refine goesL_ (some 18) rfl rfl Tryd.func19 (by kernel_rfl) rfl #[.slice A0 l0.length c0] rfl (by (try simp only [List.map_toArray, List.map_cons, List.map_nil]); first | done | rfl | (simp only [List.length_drop, List.length_take]; rfl)) ?_; (with_reducible refine (clause_Right.calls k _ _ l0 true _ ?side1 ?side2 A5.out).mono ?_); (case side1 => repeat (first | exact HR0.out | (with_reducible refine Kd.C_alloc ?_ _) | (with_reducible refine Kd.C_drewN ?_ _) | (with_reducible refine Kd.C_drew ?_))); (case side2 => exact HC0.out); rintro e w7 ⟨rfl, hb⟩; refine ⟨_, rfl, ?_⟩; have n0_ := Aside0.mk (below_step (by repeat (first | (with_reducible first | exact HB.out | apply below_alloc | apply pw_below_drewN | apply below_drew1) | exact HB.out)) hb); clear HB; have HB := n0_; clear n0_; (try clear hb); (try clear hb2); (try clear hk); (try clear hi)))
    go_loopg [1, 23] k (fun kq v1 v23 w' => ∃ (x1_1 : Int) (x23_1 : Int), v1 = .int .i64 x1_1 ∧ v23 = .int .i64 x23_1 ∧ Aside0 (apply_Apply.l0 kq x1_1 a2 a3 l0 (l0.length : Int) x23_1 = some r) ∧ Aside0 (kq ≤ k) ∧ Aside0 (Below w.heap.size w w'))
    case atStart => exact ⟨(Go.bits .and .i64 a1 4095), (0), (by first | rfl | (simp; done) | (simp [*]; done)), (by first | rfl | (simp; done) | (simp [*]; done)), H', ⟨Nat.le_refl _⟩, ⟨by repeat (first | (with_reducible first | exact HB.out | apply below_alloc | apply pw_below_drewN | apply below_drew1) | exact HB.out)⟩⟩
    case round =>
      clear H'
      try clear c1
      try clear c2
      try clear p2
      try clear c6
      obtain ⟨x1_1, x23_1, rfl, rfl, HA, HK1, HB⟩ := hrel
      cases gk with
      | zero => exact absurd HA.out (by simp [apply_Apply.l0])
      | succ k1 =>
        have H := HA.out
        clear HA
        simp only [apply_Apply.l0] at H
        by_cases c8 : x23_1 < (l0.length : Int)
        · rw [if_pos c8] at H
          have c8b0 : decide (x23_1 < (l0.length : Int)) = true := decide_eq_true c8
          clear c8
          by_cases c9 : 0 ≤ x23_1
          · rw [if_pos c9] at H
            have c9b0 : decide (0 ≤ x23_1) = true := decide_eq_true c9
            clear c9
            by_cases c10 : x23_1 < (l0.length : Int)
            · rw [if_pos c10] at H
              have c10b0 : decide (x23_1 < (l0.length : Int)) = true := decide_eq_true c10
              clear c10
              replace H := Option.bind_eq_some_iff.mp H
              obtain ⟨t331, A110, H⟩ := H
              replace H : (apply_Apply.l1 k1 x1_1 a2 a3 t331 l0 (l0.length : Int) x23_1 (((rd_T34 l0 x23_1).f1).length : Int) 0 ((rd_T34 l0 x23_1).f0) ((rd_T34 l0 x23_1).f1)) = some r := H
              have A11 := Aside0.mk A110
              clear A110
              have H' := Aside0.mk H
              clear H
              have p329 : 0 ≤ (x23_1 : Int) := of_decide_eq_true (by first | (with_reducible assumption) | assumption)
              have q329 : x23_1 < (l0.length : Int) := of_decide_eq_true (by first | (with_reducible assumption) | assumption)
              obtain ⟨ad329, A329_1, c329_1, e329, hx329_0, hx329_1, hl329_1, hi329_1⟩ := at_T34 HR0.out x23_1 p329 q329
              cases e329
              replace hx329_0 := (HB.out.cell (World.block_lt_of_cell? w _ hx329_0)).trans hx329_0
              replace hx329_1 := (HB.out.cell (World.block_lt_of_cell? w _ hx329_1)).trans hx329_1
              have HR329_1 := Aside0.mk hi329_1
              have HC329_1 := Aside0.mk hl329_1
              clear hi329_1 hl329_1
              replace p329 := eq_true p329
              replace q329 := eq_true q329
              go_wp2_with (first | ((with_reducible refine gate_dst (N := 10) rfl ?_); refine box_event ?hg (N := 10) ?hd (cs := #[.int .i64 0, .slice none 0 0]) (t := 34) ?hr ?_; (case hd => rfl); (case hg => rfl); (case hr => first | (go_simp; done) | (go_simp; rfl)); intro gb330 hg w12 hbox hb; have n0_ := Aside0.mk (below_step (by repeat (first | (with_reducible first | exact HB.out | apply below_alloc | apply pw_below_drewN | apply below_drew1) | exact HB.out)) hb); have n1_ := Aside0.mk (hbox); have n2_ := Aside0.mk ((by rw [hg]; exact (below_size (by repeat (first | (with_reducible first | exact HB.out | apply below_alloc | apply pw_below_drewN | apply below_drew1) | exact HB.out))) : w.heap.size ≤ gb330)); have n3_ := Aside0.mk ((by rw [hg]; exact (below_size (by repeat (first | (with_reducible first | exact HB.out | apply below_alloc | apply pw_below_drewN | apply below_drew1) | exact HB.out))) : w.heap.size ≤ gb330)); clear HB; have HB := n0_; have BK330 := n1_; have GW330 := n2_; have GE330 := n3_; clear n0_ n1_ n2_ n3_; clear hb hbox hg; have hcz13_0 : w12.cell? ⟨gb330, 0, none⟩ = some (.int .i64 0) := (blk_cell BK330.out 0).trans rfl; have hcz13_1 : w12.cell? ⟨gb330, 1, none⟩ = some (.slice none 0 0) := (blk_cell BK330.out 1).trans rfl; have hfz13_0 := blk_frozen BK330.out 0; have hfz13_1 := blk_frozen BK330.out 1) | ((with_reducible refine gate_callee (f := 46) rfl ?_); refine goesL_ (some 30) rfl rfl Tryd.func46 (by kernel_rfl) rfl #[.int .i64 ((rd_T34 l0 x23_1).f0), .int .i64 a3] rfl (by (try simp only [List.map_toArray, List.map_cons, List.map_nil]); first | done | rfl | (simp only [List.length_drop, List.length_take]; rfl)) ?_; (with_reducible refine (apply_has.calls k1 ((rd_T34 l0 x23_1).f0) a3 t331 _ A11.out).mono ?_); rintro e w14 ⟨rfl, hb⟩; refine ⟨_, rfl, ?_⟩; have n0_ := Aside0.mk (blk_below (g := gb330) (o := .cells #[.int .i64 ((rd_T34 l0 x23_1).f0), .slice A329_1 ((rd_T34 l0 x23_1).f1).length c329_1] 34 (0, 0)) (by (with_reducible repeat (first | refine blk_drewN ?_ _ | refine blk_drew ?_ | refine blk_alloc ?_ _)); refine blk_put (cs := #[.int .i64 ((rd_T34 l0 x23_1).f0), .slice none 0 0]) ?_ 1 _ rfl; (with_reducible repeat (first | refine blk_drewN ?_ _ | refine blk_drew ?_ | refine blk_alloc ?_ _)); refine blk_put (cs := #[.int .i64 0, .slice none 0 0]) ?_ 0 _ rfl; (with_reducible repeat (first | refine blk_drewN ?_ _ | refine blk_drew ?_ | refine blk_alloc ?_ _)); exact BK330.out) hb); have n1_ := Aside0.mk (below_step (by repeat (first | (with_reducible first | exact HB.out | apply below_alloc | apply pw_below_drewN | apply below_drew1 | refine below_set ?_ GE330.out) | exact HB.out)) hb); clear BK330; clear HB; have BK330 := n0_; have HB := n1_; clear n0_ n1_; (try clear hb); (try clear hb2); (try clear hk); (try clear hi); have hcz15_0 : w14.cell? ⟨gb330, 0, none⟩ = some (.int .i64 ((rd_T34 l0 x23_1).f0)) := (blk_cell BK330.out 0).trans rfl; have hcz15_1 : w14.cell? ⟨gb330, 1, none⟩ = some (.slice A329_1 ((rd_T34 l0 x23_1).f1).length c329_1) := (blk_cell BK330.out 1).trans rfl; have hfz15_0 := blk_frozen BK330.out 0; have hfz15_1 := blk_frozen BK330.out 1))
              go_loopg [1, 34] k1 (fun kq v1 v34 w' => ∃ (x1_2 : Int) (x34_2 : Int), v1 = .int .i64 x1_2 ∧ v34 = .int .i64 x34_2 ∧ Aside0 (apply_Apply.l1 kq x1_2 a2 a3 t331 l0 (l0.length : Int) x23_1 (((rd_T34 l0 x23_1).f1).length : Int) x34_2 ((rd_T34 l0 x23_1).f0) ((rd_T34 l0 x23_1).f1) = some r) ∧ Aside0 (kq ≤ k1) ∧ Aside0 (w'.heap[gb330]? = some (.cells #[.int .i64 ((rd_T34 l0 x23_1).f0), (.slice A329_1 ((rd_T34 l0 x23_1).f1).length c329_1)] 34 (0, 0))) ∧ Aside0 (Below w.heap.size w w'))
              case atStart => exact ⟨(x1_1), (0), (by first | rfl | (simp; done) | (simp [*]; done)), (by first | rfl | (simp; done) | (simp [*]; done)), H', ⟨Nat.le_refl _⟩, ⟨by (with_reducible repeat (first | refine blk_drewN ?_ _ | refine blk_drew ?_ | refine blk_alloc ?_ _)); exact BK330.out⟩, ⟨by repeat (first | (with_reducible first | exact HB.out | apply below_alloc | apply pw_below_drewN | apply below_drew1 | refine below_set ?_ GE330.out) | exact HB.out)⟩⟩
              case round =>
                clear H'
                try clear c1
                try clear c2
                try clear p2
                try clear c3
                try clear p3
                try clear q3
                try clear hx3
                try clear c4
                try clear c6
                try clear c8
                try clear c8b0
                try clear c9
                try clear c9b0
                try clear c10
                try clear c10b0
                try clear hcz13_0
                try clear hcz13_1
                try clear hcz15_0
                try clear hcz15_1
                try clear hfz13_0
                try clear hfz13_1
                try clear hfz15_0
                try clear hfz15_1
                try clear hx329_0
                try clear hx329_1
                try clear p2
                try clear p329
                try clear q329
                obtain ⟨x1_2, x34_2, rfl, rfl, HA, HK2, BK330, HB⟩ := hrel
                cases gk with
                | zero => exact absurd HA.out (by simp [apply_Apply.l1])
                | succ k2 =>
                  have H := HA.out
                  clear HA
                  simp only [apply_Apply.l1] at H
                  by_cases c16 : x34_2 < (((rd_T34 l0 x23_1).f1).length : Int)
                  · rw [if_pos c16] at H
                    have c16b0 : decide (x34_2 < (((rd_T34 l0 x23_1).f1).length : Int)) = true := decide_eq_true c16
                    clear c16
                    by_cases c17 : 0 ≤ x34_2
                    · rw [if_pos c17] at H
                      have c17b0 : decide (0 ≤ x34_2) = true := decide_eq_true c17
                      clear c17
                      by_cases c18 : x34_2 < (((rd_T34 l0 x23_1).f1).length : Int)
                      · rw [if_pos c18] at H
                        have c18b0 : decide (x34_2 < (((rd_T34 l0 x23_1).f1).length : Int)) = true := decide_eq_true c18
                        clear c18
                        replace H := Option.bind_eq_some_iff.mp H
                        obtain ⟨t334, A190, H⟩ := H
                        replace H : (if ((rd_T60 ((rd_T34 l0 x23_1).f1) x34_2).f0) = 45 then (apply_Apply.l1 k2 (Go.bits .andNot .i64 x1_2 (Go.bits .and .i64 t334 t331)) a2 a3 t331 l0 (l0.length : Int) x23_1 (((rd_T34 l0 x23_1).f1).length : Int) (wrap64 (x34_2 + 1)) ((rd_T34 l0 x23_1).f0) ((rd_T34 l0 x23_1).f1)) else (if ((rd_T60 ((rd_T34 l0 x23_1).f1) x34_2).f0) = 61 then (if ((rd_T34 l0 x23_1).f0) = 0 then (apply_Apply.l1 k2 (Go.bits .or .i64 (Go.bits .andNot .i64 0 t331) (Go.bits .and .i64 t334 t331)) a2 a3 t331 l0 (l0.length : Int) x23_1 (((rd_T34 l0 x23_1).f1).length : Int) (wrap64 (x34_2 + 1)) ((rd_T34 l0 x23_1).f0) ((rd_T34 l0 x23_1).f1)) else (apply_Apply.l1 k2 (Go.bits .or .i64 (Go.bits .andNot .i64 x1_2 t331) (Go.bits .and .i64 t334 t331)) a2 a3 t331 l0 (l0.length : Int) x23_1 (((rd_T34 l0 x23_1).f1).length : Int) (wrap64 (x34_2 + 1)) ((rd_T34 l0 x23_1).f0) ((rd_T34 l0 x23_1).f1))) else (apply_Apply.l1 k2 (Go.bits .or .i64 x1_2 (Go.bits .and .i64 t334 t331)) a2 a3 t331 l0 (l0.length : Int) x23_1 (((rd_T34 l0 x23_1).f1).length : Int) (wrap64 (x34_2 + 1)) ((rd_T34 l0 x23_1).f0) ((rd_T34 l0 x23_1).f1)))) = some r := H
                        have A19 := Aside0.mk A190
                        clear A190
                        by_cases c20 : ((rd_T60 ((rd_T34 l0 x23_1).f1) x34_2).f0) = 45
                        · rw [if_pos c20] at H
                          have c20b0 : (((rd_T60 ((rd_T34 l0 x23_1).f1) x34_2).f0) == 45) = true := beq_iff_eq.mpr c20
                          have c20b1 : (((rd_T60 ((rd_T34 l0 x23_1).f1) x34_2).f0) != 45) = false := bne_eq_false_iff_eq.mpr c20
                          clear c20
                          have H' := Aside0.mk H
                          clear H
                          have hcz21_0 : wr.cell? ⟨gb330, 0, none⟩ = some (.int .i64 ((rd_T34 l0 x23_1).f0)) := (blk_cell BK330.out 0).trans rfl
                          have hcz21_1 : wr.cell? ⟨gb330, 1, none⟩ = some (.slice A329_1 ((rd_T34 l0 x23_1).f1).length c329_1) := (blk_cell BK330.out 1).trans rfl
                          have hfz21_0 := blk_frozen BK330.out 0
                          have hfz21_1 := blk_frozen BK330.out 1
                          have p332 : 0 ≤ (x34_2 : Int) := of_decide_eq_true (by first | (with_reducible assumption) | assumption)
                          have q332 : x34_2 < (((rd_T34 l0 x23_1).f1).length : Int) := of_decide_eq_true (by first | (with_reducible assumption) | assumption)
                          obtain ⟨ad332, e332, hx332_0, hx332_1, hx332_2⟩ := at_T60 HR329_1.out x34_2 p332 q332
                          cases e332
                          replace hx332_0 := (HB.out.cell (World.block_lt_of_cell? w _ hx332_0)).trans hx332_0
                          replace hx332_1 := (HB.out.cell (World.block_lt_of_cell? w _ hx332_1)).trans hx332_1
                          replace hx332_2 := (HB.out.cell (World.block_lt_of_cell? w _ hx332_2)).trans hx332_2
                          replace p332 := eq_true p332
                          replace q332 := eq_true q332
                          go_wp2_with (first | ((with_reducible refine gate_dst (N := 13) rfl ?_); refine box_event ?hg (N := 13) ?hd (cs := #[.int .u8 0, .int .i64 0, .int .i64 0]) (t := 60) ?hr ?_; (case hd => rfl); (case hg => rfl); (case hr => first | (go_simp; done) | (go_simp; rfl)); intro gb333 hg w22 hbox hb; have n0_ := Aside0.mk (blk_below (g := gb330) (o := .cells #[.int .i64 ((rd_T34 l0 x23_1).f0), .slice (some ad332) ((rd_T34 l0 x23_1).f1).length c329_1] 34 (0, 0)) (by (with_reducible repeat (first | refine blk_drewN ?_ _ | refine blk_drew ?_ | refine blk_alloc ?_ _)); exact BK330.out) hb); have n1_ := Aside0.mk (below_step (by repeat (first | (with_reducible first | exact HB.out | apply below_alloc | apply pw_below_drewN | apply below_drew1 | refine below_set ?_ GE330.out) | exact HB.out)) hb); have n2_ := Aside0.mk (hbox); have n3_ := Aside0.mk ((by rw [hg]; exact (below_size (by repeat (first | (with_reducible first | exact HB.out | apply below_alloc | apply pw_below_drewN | apply below_drew1 | refine below_set ?_ GE330.out) | exact HB.out))) : w.heap.size ≤ gb333)); have n4_ := Aside0.mk ((by rw [hg]; exact (below_size (by repeat (first | (with_reducible first | exact HB.out | apply below_alloc | apply pw_below_drewN | apply below_drew1 | refine below_set ?_ GE330.out) | exact HB.out))) : w.heap.size ≤ gb333)); have n5_ := Aside0.mk ((by rw [hg]; exact Nat.ne_of_lt (blk_lt (g := gb330) (o := .cells #[.int .i64 ((rd_T34 l0 x23_1).f0), .slice (some ad332) ((rd_T34 l0 x23_1).f1).length c329_1] 34 (0, 0)) (by (with_reducible repeat (first | refine blk_drewN ?_ _ | refine blk_drew ?_ | refine blk_alloc ?_ _)); exact BK330.out)) : gb330 ≠ gb333)); have n6_ := Aside0.mk ((by rw [hg]; exact Nat.ne_of_gt (blk_lt (g := gb330) (o := .cells #[.int .i64 ((rd_T34 l0 x23_1).f0), .slice (some ad332) ((rd_T34 l0 x23_1).f1).length c329_1] 34 (0, 0)) (by (with_reducible repeat (first | refine blk_drewN ?_ _ | refine blk_drew ?_ | refine blk_alloc ?_ _)); exact BK330.out)) : gb333 ≠ gb330)); clear BK330; clear HB; have BK330 := n0_; have HB := n1_; have BK333 := n2_; have GW333 := n3_; have GE333 := n4_; have NB330_333 := n5_; have NB333_330 := n6_; clear n0_ n1_ n2_ n3_ n4_ n5_ n6_; clear hb hbox hg; have hnb23 := NB333_330.out; have hnc23 := NB330_333.out; have hcz24_0 : w22.cell? ⟨gb333, 0, none⟩ = some (.int .u8 0) := (blk_cell BK333.out 0).trans rfl; have hcz24_1 : w22.cell? ⟨gb333, 1, none⟩ = some (.int .i64 0) := (blk_cell BK333.out 1).trans rfl; have hcz24_2 : w22.cell? ⟨gb333, 2, none⟩ = some (.int .i64 0) := (blk_cell BK333.out 2).trans rfl; have hfz24_0 := blk_frozen BK333.out 0; have hfz24_1 := blk_frozen BK333.out 1; have hfz24_2 := blk_frozen BK333.out 2) | ((with_reducible refine gate_callee (f := 47) rfl ?_); refine goesL_ (some 45) rfl rfl Tryd.func47 (by kernel_rfl) rfl #[.agg #[.int .u8 ((rd_T60 ((rd_T34 l0 x23_1).f1) x34_2).f0), .int .i64 ((rd_T60 ((rd_T34 l0 x23_1).f1) x34_2).f1), .int .i64 ((rd_T60 ((rd_T34 l0 x23_1).f1) x34_2).f2)], .int .i64 x1_2, .bool a2] rfl (by (try simp only [List.map_toArray, List.map_cons, List.map_nil]); first | done | rfl | (simp only [List.length_drop, List.length_take]; rfl)) ?_; (with_reducible refine (apply_bits.calls ((rd_T60 ((rd_T34 l0 x23_1).f1) x34_2).f0) ((rd_T60 ((rd_T34 l0 x23_1).f1) x34_2).f1) ((rd_T60 ((rd_T34 l0 x23_1).f1) x34_2).f2) x1_2 a2 t334 _ A19.out).mono ?_); rintro e w25 ⟨rfl, hb⟩; refine ⟨_, rfl, ?_⟩; have n0_ := Aside0.mk (blk_below (g := gb330) (o := .cells #[.int .i64 ((rd_T34 l0 x23_1).f0), .slice (some ad332) ((rd_T34 l0 x23_1).f1).length c329_1] 34 (0, 0)) (by (with_reducible repeat (first | refine blk_drewN ?_ _ | refine blk_drew ?_ | refine blk_alloc ?_ _)); refine blk_far ?_ NB330_333.out _; (with_reducible repeat (first | refine blk_drewN ?_ _ | refine blk_drew ?_ | refine blk_alloc ?_ _)); refine blk_far ?_ NB330_333.out _; (with_reducible repeat (first | refine blk_drewN ?_ _ | refine blk_drew ?_ | refine blk_alloc ?_ _)); refine blk_far ?_ NB330_333.out _; (with_reducible repeat (first | refine blk_drewN ?_ _ | refine blk_drew ?_ | refine blk_alloc ?_ _)); exact BK330.out) hb); have n1_ := Aside0.mk (blk_below (g := gb333) (o := .cells #[.int .u8 ((rd_T60 ((rd_T34 l0 x23_1).f1) x34_2).f0), .int .i64 ((rd_T60 ((rd_T34 l0 x23_1).f1) x34_2).f1), .int .i64 ((rd_T60 ((rd_T34 l0 x23_1).f1) x34_2).f2)] 60 (0, 0)) (by (with_reducible repeat (first | refine blk_drewN ?_ _ | refine blk_drew ?_ | refine blk_alloc ?_ _)); refine blk_put (cs := #[.int .u8 ((rd_T60 ((rd_T34 l0 x23_1).f1) x34_2).f0), .int .i64 ((rd_T60 ((rd_T34 l0 x23_1).f1) x34_2).f1), .int .i64 0]) ?_ 2 _ rfl; (with_reducible repeat (first | refine blk_drewN ?_ _ | refine blk_drew ?_ | refine blk_alloc ?_ _)); refine blk_put (cs := #[.int .u8 ((rd_T60 ((rd_T34 l0 x23_1).f1) x34_2).f0), .int .i64 0, .int .i64 0]) ?_ 1 _ rfl; (with_reducible repeat (first | refine blk_drewN ?_ _ | refine blk_drew ?_ | refine blk_alloc ?_ _)); refine blk_put (cs := #[.int .u8 0, .int .i64 0, .int .i64 0]) ?_ 0 _ rfl; (with_reducible repeat (first | refine blk_drewN ?_ _ | refine blk_drew ?_ | refine blk_alloc ?_ _)); exact BK333.out) hb); have n2_ := Aside0.mk (below_step (by repeat (first | (with_reducible first | exact HB.out | apply below_alloc | apply pw_below_drewN | apply below_drew1 | refine below_set ?_ GE330.out | refine below_set ?_ GE333.out) | exact HB.out)) hb); clear BK330; clear BK333; clear HB; have BK330 := n0_; have BK333 := n1_; have HB := n2_; clear n0_ n1_ n2_; (try clear hb); (try clear hb2); (try clear hk); (try clear hi); have hcz26_0 : w25.cell? ⟨gb333, 0, none⟩ = some (.int .u8 ((rd_T60 ((rd_T34 l0 x23_1).f1) x34_2).f0)) := (blk_cell BK333.out 0).trans rfl; have hcz26_1 : w25.cell? ⟨gb333, 1, none⟩ = some (.int .i64 ((rd_T60 ((rd_T34 l0 x23_1).f1) x34_2).f1)) := (blk_cell BK333.out 1).trans rfl; have hcz26_2 : w25.cell? ⟨gb333, 2, none⟩ = some (.int .i64 ((rd_T60 ((rd_T34 l0 x23_1).f1) x34_2).f2)) := (blk_cell BK333.out 2).trans rfl; have hfz26_0 := blk_frozen BK333.out 0; have hfz26_1 := blk_frozen BK333.out 1; have hfz26_2 := blk_frozen BK333.out 2))
                          go_roundg k2
                          case measure => have := HK1.out; have := HK2.out; omega
                          case rel => exact ⟨(Go.bits .andNot .i64 x1_2 (Go.bits .and .i64 t334 t331)), (wrap64 (x34_2 + 1)), (by first | rfl | (simp; done) | (simp [*]; done)), (by first | rfl | (simp; done) | (simp [*]; done)), H', ⟨by have := HK1.out; have := HK2.out; omega⟩, ⟨by (with_reducible repeat (first | refine blk_drewN ?_ _ | refine blk_drew ?_ | refine blk_alloc ?_ _)); exact BK330.out⟩, ⟨by repeat (first | (with_reducible first | exact HB.out | apply below_alloc | apply pw_below_drewN | apply below_drew1 | refine below_set ?_ GE330.out | refine below_set ?_ GE333.out) | exact HB.out)⟩⟩
                        · rw [if_neg c20] at H
                          have c20b0 : (((rd_T60 ((rd_T34 l0 x23_1).f1) x34_2).f0) == 45) = false := beq_eq_false_iff_ne.mpr c20
                          have c20b1 : (((rd_T60 ((rd_T34 l0 x23_1).f1) x34_2).f0) != 45) = true := bne_iff_ne.mpr c20
                          by_cases c27 : ((rd_T60 ((rd_T34 l0 x23_1).f1) x34_2).f0) = 61
                          · rw [if_pos c27] at H
                            have c27b0 : (((rd_T60 ((rd_T34 l0 x23_1).f1) x34_2).f0) == 61) = true := beq_iff_eq.mpr c27
                            have c27b1 : (((rd_T60 ((rd_T34 l0 x23_1).f1) x34_2).f0) != 61) = false := bne_eq_false_iff_eq.mpr c27
                            clear c27
                            by_cases c28 : ((rd_T34 l0 x23_1).f0) = 0
                            · rw [if_pos c28] at H
                              have c28b0 : (((rd_T34 l0 x23_1).f0) == 0) = true := beq_iff_eq.mpr c28
                              have c28b1 : (((rd_T34 l0 x23_1).f0) != 0) = false := bne_eq_false_iff_eq.mpr c28
                              clear c28
                              have H' := Aside0.mk H
                              clear H
                              have hcz29_0 : wr.cell? ⟨gb330, 0, none⟩ = some (.int .i64 ((rd_T34 l0 x23_1).f0)) := (blk_cell BK330.out 0).trans rfl
                              have hcz29_1 : wr.cell? ⟨gb330, 1, none⟩ = some (.slice A329_1 ((rd_T34 l0 x23_1).f1).length c329_1) := (blk_cell BK330.out 1).trans rfl
                              have hfz29_0 := blk_frozen BK330.out 0
                              have hfz29_1 := blk_frozen BK330.out 1
                              have p332 : 0 ≤ (x34_2 : Int) := of_decide_eq_true (by first | (with_reducible assumption) | assumption)
                              have q332 : x34_2 < (((rd_T34 l0 x23_1).f1).length : Int) := of_decide_eq_true (by first | (with_reducible assumption) | assumption)
                              obtain ⟨ad332, e332, hx332_0, hx332_1, hx332_2⟩ := at_T60 HR329_1.out x34_2 p332 q332
                              cases e332
                              replace hx332_0 := (HB.out.cell (World.block_lt_of_cell? w _ hx332_0)).trans hx332_0
                              replace hx332_1 := (HB.out.cell (World.block_lt_of_cell? w _ hx332_1)).trans hx332_1
                              replace hx332_2 := (HB.out.cell (World.block_lt_of_cell? w _ hx332_2)).trans hx332_2
                              replace p332 := eq_true p332
                              replace q332 := eq_true q332
                              go_wp2_with (first | ((with_reducible refine gate_dst (N := 13) rfl ?_); refine box_event ?hg (N := 13) ?hd (cs := #[.int .u8 0, .int .i64 0, .int .i64 0]) (t := 60) ?hr ?_; (case hd => rfl); (case hg => rfl); (case hr => first | (go_simp; done) | (go_simp; rfl)); intro gb333 hg w30 hbox hb; have n0_ := Aside0.mk (blk_below (g := gb330) (o := .cells #[.int .i64 ((rd_T34 l0 x23_1).f0), .slice (some ad332) ((rd_T34 l0 x23_1).f1).length c329_1] 34 (0, 0)) (by (with_reducible repeat (first | refine blk_drewN ?_ _ | refine blk_drew ?_ | refine blk_alloc ?_ _)); exact BK330.out) hb); have n1_ := Aside0.mk (below_step (by repeat (first | (with_reducible first | exact HB.out | apply below_alloc | apply pw_below_drewN | apply below_drew1 | refine below_set ?_ GE330.out) | exact HB.out)) hb); have n2_ := Aside0.mk (hbox); have n3_ := Aside0.mk ((by rw [hg]; exact (below_size (by repeat (first | (with_reducible first | exact HB.out | apply below_alloc | apply pw_below_drewN | apply below_drew1 | refine below_set ?_ GE330.out) | exact HB.out))) : w.heap.size ≤ gb333)); have n4_ := Aside0.mk ((by rw [hg]; exact (below_size (by repeat (first | (with_reducible first | exact HB.out | apply below_alloc | apply pw_below_drewN | apply below_drew1 | refine below_set ?_ GE330.out) | exact HB.out))) : w.heap.size ≤ gb333)); have n5_ := Aside0.mk ((by rw [hg]; exact Nat.ne_of_lt (blk_lt (g := gb330) (o := .cells #[.int .i64 ((rd_T34 l0 x23_1).f0), .slice (some ad332) ((rd_T34 l0 x23_1).f1).length c329_1] 34 (0, 0)) (by (with_reducible repeat (first | refine blk_drewN ?_ _ | refine blk_drew ?_ | refine blk_alloc ?_ _)); exact BK330.out)) : gb330 ≠ gb333)); have n6_ := Aside0.mk ((by rw [hg]; exact Nat.ne_of_gt (blk_lt (g := gb330) (o := .cells #[.int .i64 ((rd_T34 l0 x23_1).f0), .slice (some ad332) ((rd_T34 l0 x23_1).f1).length c329_1] 34 (0, 0)) (by (with_reducible repeat (first | refine blk_drewN ?_ _ | refine blk_drew ?_ | refine blk_alloc ?_ _)); exact BK330.out)) : gb333 ≠ gb330)); clear BK330; clear HB; have BK330 := n0_; have HB := n1_; have BK333 := n2_; have GW333 := n3_; have GE333 := n4_; have NB330_333 := n5_; have NB333_330 := n6_; clear n0_ n1_ n2_ n3_ n4_ n5_ n6_; clear hb hbox hg; have hnb31 := NB333_330.out; have hnc31 := NB330_333.out; have hcz32_0 : w30.cell? ⟨gb333, 0, none⟩ = some (.int .u8 0) := (blk_cell BK333.out 0).trans rfl; have hcz32_1 : w30.cell? ⟨gb333, 1, none⟩ = some (.int .i64 0) := (blk_cell BK333.out 1).trans rfl; have hcz32_2 : w30.cell? ⟨gb333, 2, none⟩ = some (.int .i64 0) := (blk_cell BK333.out 2).trans rfl; have hfz32_0 := blk_frozen BK333.out 0; have hfz32_1 := blk_frozen BK333.out 1; have hfz32_2 := blk_frozen BK333.out 2) | ((with_reducible refine gate_callee (f := 47) rfl ?_); refine goesL_ (some 45) rfl rfl Tryd.func47 (by kernel_rfl) rfl #[.agg #[.int .u8 ((rd_T60 ((rd_T34 l0 x23_1).f1) x34_2).f0), .int .i64 ((rd_T60 ((rd_T34 l0 x23_1).f1) x34_2).f1), .int .i64 ((rd_T60 ((rd_T34 l0 x23_1).f1) x34_2).f2)], .int .i64 x1_2, .bool a2] rfl (by (try simp only [List.map_toArray, List.map_cons, List.map_nil]); first | done | rfl | (simp only [List.length_drop, List.length_take]; rfl)) ?_; (with_reducible refine (apply_bits.calls ((rd_T60 ((rd_T34 l0 x23_1).f1) x34_2).f0) ((rd_T60 ((rd_T34 l0 x23_1).f1) x34_2).f1) ((rd_T60 ((rd_T34 l0 x23_1).f1) x34_2).f2) x1_2 a2 t334 _ A19.out).mono ?_); rintro e w33 ⟨rfl, hb⟩; refine ⟨_, rfl, ?_⟩; have n0_ := Aside0.mk (blk_below (g := gb330) (o := .cells #[.int .i64 ((rd_T34 l0 x23_1).f0), .slice (some ad332) ((rd_T34 l0 x23_1).f1).length c329_1] 34 (0, 0)) (by (with_reducible repeat (first | refine blk_drewN ?_ _ | refine blk_drew ?_ | refine blk_alloc ?_ _)); refine blk_far ?_ NB330_333.out _; (with_reducible repeat (first | refine blk_drewN ?_ _ | refine blk_drew ?_ | refine blk_alloc ?_ _)); refine blk_far ?_ NB330_333.out _; (with_reducible repeat (first | refine blk_drewN ?_ _ | refine blk_drew ?_ | refine blk_alloc ?_ _)); refine blk_far ?_ NB330_333.out _; (with_reducible repeat (first | refine blk_drewN ?_ _ | refine blk_drew ?_ | refine blk_alloc ?_ _)); exact BK330.out) hb); have n1_ := Aside0.mk (blk_below (g := gb333) (o := .cells #[.int .u8 ((rd_T60 ((rd_T34 l0 x23_1).f1) x34_2).f0), .int .i64 ((rd_T60 ((rd_T34 l0 x23_1).f1) x34_2).f1), .int .i64 ((rd_T60 ((rd_T34 l0 x23_1).f1) x34_2).f2)] 60 (0, 0)) (by (with_reducible repeat (first | refine blk_drewN ?_ _ | refine blk_drew ?_ | refine blk_alloc ?_ _)); refine blk_put (cs := #[.int .u8 ((rd_T60 ((rd_T34 l0 x23_1).f1) x34_2).f0), .int .i64 ((rd_T60 ((rd_T34 l0 x23_1).f1) x34_2).f1), .int .i64 0]) ?_ 2 _ rfl; (with_reducible repeat (first | refine blk_drewN ?_ _ | refine blk_drew ?_ | refine blk_alloc ?_ _)); refine blk_put (cs := #[.int .u8 ((rd_T60 ((rd_T34 l0 x23_1).f1) x34_2).f0), .int .i64 0, .int .i64 0]) ?_ 1 _ rfl; (with_reducible repeat (first | refine blk_drewN ?_ _ | refine blk_drew ?_ | refine blk_alloc ?_ _)); refine blk_put (cs := #[.int .u8 0, .int .i64 0, .int .i64 0]) ?_ 0 _ rfl; (with_reducible repeat (first | refine blk_drewN ?_ _ | refine blk_drew ?_ | refine blk_alloc ?_ _)); exact BK333.out) hb); have n2_ := Aside0.mk (below_step (by repeat (first | (with_reducible first | exact HB.out | apply below_alloc | apply pw_below_drewN | apply below_drew1 | refine below_set ?_ GE330.out | refine below_set ?_ GE333.out) | exact HB.out)) hb); clear BK330; clear BK333; clear HB; have BK330 := n0_; have BK333 := n1_; have HB := n2_; clear n0_ n1_ n2_; (try clear hb); (try clear hb2); (try clear hk); (try clear hi); have hcz34_0 : w33.cell? ⟨gb333, 0, none⟩ = some (.int .u8 ((rd_T60 ((rd_T34 l0 x23_1).f1) x34_2).f0)) := (blk_cell BK333.out 0).trans rfl; have hcz34_1 : w33.cell? ⟨gb333, 1, none⟩ = some (.int .i64 ((rd_T60 ((rd_T34 l0 x23_1).f1) x34_2).f1)) := (blk_cell BK333.out 1).trans rfl; have hcz34_2 : w33.cell? ⟨gb333, 2, none⟩ = some (.int .i64 ((rd_T60 ((rd_T34 l0 x23_1).f1) x34_2).f2)) := (blk_cell BK333.out 2).trans rfl; have hfz34_0 := blk_frozen BK333.out 0; have hfz34_1 := blk_frozen BK333.out 1; have hfz34_2 := blk_frozen BK333.out 2; have hcz35_0 : w33.cell? ⟨gb330, 0, none⟩ = some (.int .i64 ((rd_T34 l0 x23_1).f0)) := (blk_cell BK330.out 0).trans rfl; have hcz35_1 : w33.cell? ⟨gb330, 1, none⟩ = some (.slice (some ad332) ((rd_T34 l0 x23_1).f1).length c329_1) := (blk_cell BK330.out 1).trans rfl; have hfz35_0 := blk_frozen BK330.out 0; have hfz35_1 := blk_frozen BK330.out 1))
                              go_roundg k2
                              case measure => have := HK1.out; have := HK2.out; omega
                              case rel => exact ⟨(Go.bits .or .i64 (Go.bits .andNot .i64 0 t331) (Go.bits .and .i64 t334 t331)), (wrap64 (x34_2 + 1)), (by first | rfl | (simp; done) | (simp [*]; done)), (by first | rfl | (simp; done) | (simp [*]; done)), H', ⟨by have := HK1.out; have := HK2.out; omega⟩, ⟨by (with_reducible repeat (first | refine blk_drewN ?_ _ | refine blk_drew ?_ | refine blk_alloc ?_ _)); exact BK330.out⟩, ⟨by repeat (first | (with_reducible first | exact HB.out | apply below_alloc | apply pw_below_drewN | apply below_drew1 | refine below_set ?_ GE330.out | refine below_set ?_ GE333.out) | exact HB.out)⟩⟩
                            · rw [if_neg c28] at H
                              have c28b0 : (((rd_T34 l0 x23_1).f0) == 0) = false := beq_eq_false_iff_ne.mpr c28
                              have c28b1 : (((rd_T34 l0 x23_1).f0) != 0) = true := bne_iff_ne.mpr c28
                              have H' := Aside0.mk H
                              clear H
                              have hcz36_0 : wr.cell? ⟨gb330, 0, none⟩ = some (.int .i64 ((rd_T34 l0 x23_1).f0)) := (blk_cell BK330.out 0).trans rfl
                              have hcz36_1 : wr.cell? ⟨gb330, 1, none⟩ = some (.slice A329_1 ((rd_T34 l0 x23_1).f1).length c329_1) := (blk_cell BK330.out 1).trans rfl
                              have hfz36_0 := blk_frozen BK330.out 0
                              have hfz36_1 := blk_frozen BK330.out 1
                              have p332 : 0 ≤ (x34_2 : Int) := of_decide_eq_true (by first | (with_reducible assumption) | assumption)
                              have q332 : x34_2 < (((rd_T34 l0 x23_1).f1).length : Int) := of_decide_eq_true (by first | (with_reducible assumption) | assumption)
                              obtain ⟨ad332, e332, hx332_0, hx332_1, hx332_2⟩ := at_T60 HR329_1.out x34_2 p332 q332
                              cases e332
                              replace hx332_0 := (HB.out.cell (World.block_lt_of_cell? w _ hx332_0)).trans hx332_0
                              replace hx332_1 := (HB.out.cell (World.block_lt_of_cell? w _ hx332_1)).trans hx332_1
                              replace hx332_2 := (HB.out.cell (World.block_lt_of_cell? w _ hx332_2)).trans hx332_2
                              replace p332 := eq_true p332
                              replace q332 := eq_true q332
                              go_wp2_with (first | ((with_reducible refine gate_dst (N := 13) rfl ?_); refine box_event ?hg (N := 13) ?hd (cs := #[.int .u8 0, .int .i64 0, .int .i64 0]) (t := 60) ?hr ?_; (case hd => rfl); (case hg => rfl); (case hr => first | (go_simp; done) | (go_simp; rfl)); intro gb333 hg w37 hbox hb; have n0_ := Aside0.mk (blk_below (g := gb330) (o := .cells #[.int .i64 ((rd_T34 l0 x23_1).f0), .slice (some ad332) ((rd_T34 l0 x23_1).f1).length c329_1] 34 (0, 0)) (by (with_reducible repeat (first | refine blk_drewN ?_ _ | refine blk_drew ?_ | refine blk_alloc ?_ _)); exact BK330.out) hb); have n1_ := Aside0.mk (below_step (by repeat (first | (with_reducible first | exact HB.out | apply below_alloc | apply pw_below_drewN | apply below_drew1 | refine below_set ?_ GE330.out) | exact HB.out)) hb); have n2_ := Aside0.mk (hbox); have n3_ := Aside0.mk ((by rw [hg]; exact (below_size (by repeat (first | (with_reducible first | exact HB.out | apply below_alloc | apply pw_below_drewN | apply below_drew1 | refine below_set ?_ GE330.out) | exact HB.out))) : w.heap.size ≤ gb333)); have n4_ := Aside0.mk ((by rw [hg]; exact (below_size (by repeat (first | (with_reducible first | exact HB.out | apply below_alloc | apply pw_below_drewN | apply below_drew1 | refine below_set ?_ GE330.out) | exact HB.out))) : w.heap.size ≤ gb333)); have n5_ := Aside0.mk ((by rw [hg]; exact Nat.ne_of_lt (blk_lt (g := gb330) (o := .cells #[.int .i64 ((rd_T34 l0 x23_1).f0), .slice (some ad332) ((rd_T34 l0 x23_1).f1).length c329_1] 34 (0, 0)) (by (with_reducible repeat (first | refine blk_drewN ?_ _ | refine blk_drew ?_ | refine blk_alloc ?_ _)); exact BK330.out)) : gb330 ≠ gb333)); have n6_ := Aside0.mk ((by rw [hg]; exact Nat.ne_of_gt (blk_lt (g := gb330) (o := .cells #[.int .i64 ((rd_T34 l0 x23_1).f0), .slice (some ad332) ((rd_T34 l0 x23_1).f1).length c329_1] 34 (0, 0)) (by (with_reducible repeat (first | refine blk_drewN ?_ _ | refine blk_drew ?_ | refine blk_alloc ?_ _)); exact BK330.out)) : gb333 ≠ gb330)); clear BK330; clear HB; have BK330 := n0_; have HB := n1_; have BK333 := n2_; have GW333 := n3_; have GE333 := n4_; have NB330_333 := n5_; have NB333_330 := n6_; clear n0_ n1_ n2_ n3_ n4_ n5_ n6_; clear hb hbox hg; have hnb38 := NB333_330.out; have hnc38 := NB330_333.out; have hcz39_0 : w37.cell? ⟨gb333, 0, none⟩ = some (.int .u8 0) := (blk_cell BK333.out 0).trans rfl; have hcz39_1 : w37.cell? ⟨gb333, 1, none⟩ = some (.int .i64 0) := (blk_cell BK333.out 1).trans rfl; have hcz39_2 : w37.cell? ⟨gb333, 2, none⟩ = some (.int .i64 0) := (blk_cell BK333.out 2).trans rfl; have hfz39_0 := blk_frozen BK333.out 0; have hfz39_1 := blk_frozen BK333.out 1; have hfz39_2 := blk_frozen BK333.out 2) | ((with_reducible refine gate_callee (f := 47) rfl ?_); refine goesL_ (some 45) rfl rfl Tryd.func47 (by kernel_rfl) rfl #[.agg #[.int .u8 ((rd_T60 ((rd_T34 l0 x23_1).f1) x34_2).f0), .int .i64 ((rd_T60 ((rd_T34 l0 x23_1).f1) x34_2).f1), .int .i64 ((rd_T60 ((rd_T34 l0 x23_1).f1) x34_2).f2)], .int .i64 x1_2, .bool a2] rfl (by (try simp only [List.map_toArray, List.map_cons, List.map_nil]); first | done | rfl | (simp only [List.length_drop, List.length_take]; rfl)) ?_; (with_reducible refine (apply_bits.calls ((rd_T60 ((rd_T34 l0 x23_1).f1) x34_2).f0) ((rd_T60 ((rd_T34 l0 x23_1).f1) x34_2).f1) ((rd_T60 ((rd_T34 l0 x23_1).f1) x34_2).f2) x1_2 a2 t334 _ A19.out).mono ?_); rintro e w40 ⟨rfl, hb⟩; refine ⟨_, rfl, ?_⟩; have n0_ := Aside0.mk (blk_below (g := gb330) (o := .cells #[.int .i64 ((rd_T34 l0 x23_1).f0), .slice (some ad332) ((rd_T34 l0 x23_1).f1).length c329_1] 34 (0, 0)) (by (with_reducible repeat (first | refine blk_drewN ?_ _ | refine blk_drew ?_ | refine blk_alloc ?_ _)); refine blk_far ?_ NB330_333.out _; (with_reducible repeat (first | refine blk_drewN ?_ _ | refine blk_drew ?_ | refine blk_alloc ?_ _)); refine blk_far ?_ NB330_333.out _; (with_reducible repeat (first | refine blk_drewN ?_ _ | refine blk_drew ?_ | refine blk_alloc ?_ _)); refine blk_far ?_ NB330_333.out _; (with_reducible repeat (first | refine blk_drewN ?_ _ | refine blk_drew ?_ | refine blk_alloc ?_ _)); exact BK330.out) hb); have n1_ := Aside0.mk (blk_below (g := gb333) (o := .cells #[.int .u8 ((rd_T60 ((rd_T34 l0 x23_1).f1) x34_2).f0), .int .i64 ((rd_T60 ((rd_T34 l0 x23_1).f1) x34_2).f1), .int .i64 ((rd_T60 ((rd_T34 l0 x23_1).f1) x34_2).f2)] 60 (0, 0)) (by (with_reducible repeat (first | refine blk_drewN ?_ _ | refine blk_drew ?_ | refine blk_alloc ?_ _)); refine blk_put (cs := #[.int .u8 ((rd_T60 ((rd_T34 l0 x23_1).f1) x34_2).f0), .int .i64 ((rd_T60 ((rd_T34 l0 x23_1).f1) x34_2).f1), .int .i64 0]) ?_ 2 _ rfl; (with_reducible repeat (first | refine blk_drewN ?_ _ | refine blk_drew ?_ | refine blk_alloc ?_ _)); refine blk_put (cs := #[.int .u8 ((rd_T60 ((rd_T34 l0 x23_1).f1) x34_2).f0), .int .i64 0, .int .i64 0]) ?_ 1 _ rfl; (with_reducible repeat (first | refine blk_drewN ?_ _ | refine blk_drew ?_ | refine blk_alloc ?_ _)); refine blk_put (cs := #[.int .u8 0, .int .i64 0, .int .i64 0]) ?_ 0 _ rfl; (with_reducible repeat (first | refine blk_drewN ?_ _ | refine blk_drew ?_ | refine blk_alloc ?_ _)); exact BK333.out) hb); have n2_ := Aside0.mk (below_step (by repeat (first | (with_reducible first | exact HB.out | apply below_alloc | apply pw_below_drewN | apply below_drew1 | refine below_set ?_ GE330.out | refine below_set ?_ GE333.out) | exact HB.out)) hb); clear BK330; clear BK333; clear HB; have BK330 := n0_; have BK333 := n1_; have HB := n2_; clear n0_ n1_ n2_; (try clear hb); (try clear hb2); (try clear hk); (try clear hi); have hcz41_0 : w40.cell? ⟨gb333, 0, none⟩ = some (.int .u8 ((rd_T60 ((rd_T34 l0 x23_1).f1) x34_2).f0)) := (blk_cell BK333.out 0).trans rfl; have hcz41_1 : w40.cell? ⟨gb333, 1, none⟩ = some (.int .i64 ((rd_T60 ((rd_T34 l0 x23_1).f1) x34_2).f1)) := (blk_cell BK333.out 1).trans rfl; have hcz41_2 : w40.cell? ⟨gb333, 2, none⟩ = some (.int .i64 ((rd_T60 ((rd_T34 l0 x23_1).f1) x34_2).f2)) := (blk_cell BK333.out 2).trans rfl; have hfz41_0 := blk_frozen BK333.out 0; have hfz41_1 := blk_frozen BK333.out 1; have hfz41_2 := blk_frozen BK333.out 2; have hcz42_0 : w40.cell? ⟨gb330, 0, none⟩ = some (.int .i64 ((rd_T34 l0 x23_1).f0)) := (blk_cell BK330.out 0).trans rfl; have hcz42_1 : w40.cell? ⟨gb330, 1, none⟩ = some (.slice (some ad332) ((rd_T34 l0 x23_1).f1).length c329_1) := (blk_cell BK330.out 1).trans rfl; have hfz42_0 := blk_frozen BK330.out 0; have hfz42_1 := blk_frozen BK330.out 1))
                              go_roundg k2
                              case measure => have := HK1.out; have := HK2.out; omega
                              case rel => exact ⟨(Go.bits .or .i64 (Go.bits .andNot .i64 x1_2 t331) (Go.bits .and .i64 t334 t331)), (wrap64 (x34_2 + 1)), (by first | rfl | (simp; done) | (simp [*]; done)), (by first | rfl | (simp; done) | (simp [*]; done)), H', ⟨by have := HK1.out; have := HK2.out; omega⟩, ⟨by (with_reducible repeat (first | refine blk_drewN ?_ _ | refine blk_drew ?_ | refine blk_alloc ?_ _)); exact BK330.out⟩, ⟨by repeat (first | (with_reducible first | exact HB.out | apply below_alloc | apply pw_below_drewN | apply below_drew1 | refine below_set ?_ GE330.out | refine below_set ?_ GE333.out) | exact HB.out)⟩⟩
                          · rw [if_neg c27] at H
                            have c27b0 : (((rd_T60 ((rd_T34 l0 x23_1).f1) x34_2).f0) == 61) = false := beq_eq_false_iff_ne.mpr c27
                            have c27b1 : (((rd_T60 ((rd_T34 l0 x23_1).f1) x34_2).f0) != 61) = true := bne_iff_ne.mpr c27
                            have H' := Aside0.mk H
                            clear H
                            have hcz43_0 : wr.cell? ⟨gb330, 0, none⟩ = some (.int .i64 ((rd_T34 l0 x23_1).f0)) := (blk_cell BK330.out 0).trans rfl
                            have hcz43_1 : wr.cell? ⟨gb330, 1, none⟩ = some (.slice A329_1 ((rd_T34 l0 x23_1).f1).length c329_1) := (blk_cell BK330.out 1).trans rfl
                            have hfz43_0 := blk_frozen BK330.out 0
                            have hfz43_1 := blk_frozen BK330.out 1
                            have p332 : 0 ≤ (x34_2 : Int) := of_decide_eq_true (by first | (with_reducible assumption) | assumption)
                            have q332 : x34_2 < (((rd_T34 l0 x23_1).f1).length : Int) := of_decide_eq_true (by first | (with_reducible assumption) | assumption)
                            obtain ⟨ad332, e332, hx332_0, hx332_1, hx332_2⟩ := at_T60 HR329_1.out x34_2 p332 q332
                            cases e332
                            replace hx332_0 := (HB.out.cell (World.block_lt_of_cell? w _ hx332_0)).trans hx332_0
                            replace hx332_1 := (HB.out.cell (World.block_lt_of_cell? w _ hx332_1)).trans hx332_1
                            replace hx332_2 := (HB.out.cell (World.block_lt_of_cell? w _ hx332_2)).trans hx332_2
                            replace p332 := eq_true p332
                            replace q332 := eq_true q332
                            go_wp2_with (first | ((with_reducible refine gate_dst (N := 13) rfl ?_); refine box_event ?hg (N := 13) ?hd (cs := #[.int .u8 0, .int .i64 0, .int .i64 0]) (t := 60) ?hr ?_; (case hd => rfl); (case hg => rfl); (case hr => first | (go_simp; done) | (go_simp; rfl)); intro gb333 hg w44 hbox hb; have n0_ := Aside0.mk (blk_below (g := gb330) (o := .cells #[.int .i64 ((rd_T34 l0 x23_1).f0), .slice (some ad332) ((rd_T34 l0 x23_1).f1).length c329_1] 34 (0, 0)) (by (with_reducible repeat (first | refine blk_drewN ?_ _ | refine blk_drew ?_ | refine blk_alloc ?_ _)); exact BK330.out) hb); have n1_ := Aside0.mk (below_step (by repeat (first | (with_reducible first | exact HB.out | apply below_alloc | apply pw_below_drewN | apply below_drew1 | refine below_set ?_ GE330.out) | exact HB.out)) hb); have n2_ := Aside0.mk (hbox); have n3_ := Aside0.mk ((by rw [hg]; exact (below_size (by repeat (first | (with_reducible first | exact HB.out | apply below_alloc | apply pw_below_drewN | apply below_drew1 | refine below_set ?_ GE330.out) | exact HB.out))) : w.heap.size ≤ gb333)); have n4_ := Aside0.mk ((by rw [hg]; exact (below_size (by repeat (first | (with_reducible first | exact HB.out | apply below_alloc | apply pw_below_drewN | apply below_drew1 | refine below_set ?_ GE330.out) | exact HB.out))) : w.heap.size ≤ gb333)); have n5_ := Aside0.mk ((by rw [hg]; exact Nat.ne_of_lt (blk_lt (g := gb330) (o := .cells #[.int .i64 ((rd_T34 l0 x23_1).f0), .slice (some ad332) ((rd_T34 l0 x23_1).f1).length c329_1] 34 (0, 0)) (by (with_reducible repeat (first | refine blk_drewN ?_ _ | refine blk_drew ?_ | refine blk_alloc ?_ _)); exact BK330.out)) : gb330 ≠ gb333)); have n6_ := Aside0.mk ((by rw [hg]; exact Nat.ne_of_gt (blk_lt (g := gb330) (o := .cells #[.int .i64 ((rd_T34 l0 x23_1).f0), .slice (some ad332) ((rd_T34 l0 x23_1).f1).length c329_1] 34 (0, 0)) (by (with_reducible repeat (first | refine blk_drewN ?_ _ | refine blk_drew ?_ | refine blk_alloc ?_ _)); exact BK330.out)) : gb333 ≠ gb330)); clear BK330; clear HB; have BK330 := n0_; have HB := n1_; have BK333 := n2_; have GW333 := n3_; have GE333 := n4_; have NB330_333 := n5_; have NB333_330 := n6_; clear n0_ n1_ n2_ n3_ n4_ n5_ n6_; clear hb hbox hg; have hnb45 := NB333_330.out; have hnc45 := NB330_333.out; have hcz46_0 : w44.cell? ⟨gb333, 0, none⟩ = some (.int .u8 0) := (blk_cell BK333.out 0).trans rfl; have hcz46_1 : w44.cell? ⟨gb333, 1, none⟩ = some (.int .i64 0) := (blk_cell BK333.out 1).trans rfl; have hcz46_2 : w44.cell? ⟨gb333, 2, none⟩ = some (.int .i64 0) := (blk_cell BK333.out 2).trans rfl; have hfz46_0 := blk_frozen BK333.out 0; have hfz46_1 := blk_frozen BK333.out 1; have hfz46_2 := blk_frozen BK333.out 2) | ((with_reducible refine gate_callee (f := 47) rfl ?_); refine goesL_ (some 45) rfl rfl Tryd.func47 (by kernel_rfl) rfl #[.agg #[.int .u8 ((rd_T60 ((rd_T34 l0 x23_1).f1) x34_2).f0), .int .i64 ((rd_T60 ((rd_T34 l0 x23_1).f1) x34_2).f1), .int .i64 ((rd_T60 ((rd_T34 l0 x23_1).f1) x34_2).f2)], .int .i64 x1_2, .bool a2] rfl (by (try simp only [List.map_toArray, List.map_cons, List.map_nil]); first | done | rfl | (simp only [List.length_drop, List.length_take]; rfl)) ?_; (with_reducible refine (apply_bits.calls ((rd_T60 ((rd_T34 l0 x23_1).f1) x34_2).f0) ((rd_T60 ((rd_T34 l0 x23_1).f1) x34_2).f1) ((rd_T60 ((rd_T34 l0 x23_1).f1) x34_2).f2) x1_2 a2 t334 _ A19.out).mono ?_); rintro e w47 ⟨rfl, hb⟩; refine ⟨_, rfl, ?_⟩; have n0_ := Aside0.mk (blk_below (g := gb330) (o := .cells #[.int .i64 ((rd_T34 l0 x23_1).f0), .slice (some ad332) ((rd_T34 l0 x23_1).f1).length c329_1] 34 (0, 0)) (by (with_reducible repeat (first | refine blk_drewN ?_ _ | refine blk_drew ?_ | refine blk_alloc ?_ _)); refine blk_far ?_ NB330_333.out _; (with_reducible repeat (first | refine blk_drewN ?_ _ | refine blk_drew ?_ | refine blk_alloc ?_ _)); refine blk_far ?_ NB330_333.out _; (with_reducible repeat (first | refine blk_drewN ?_ _ | refine blk_drew ?_ | refine blk_alloc ?_ _)); refine blk_far ?_ NB330_333.out _; (with_reducible repeat (first | refine blk_drewN ?_ _ | refine blk_drew ?_ | refine blk_alloc ?_ _)); exact BK330.out) hb); have n1_ := Aside0.mk (blk_below (g := gb333) (o := .cells #[.int .u8 ((rd_T60 ((rd_T34 l0 x23_1).f1) x34_2).f0), .int .i64 ((rd_T60 ((rd_T34 l0 x23_1).f1) x34_2).f1), .int .i64 ((rd_T60 ((rd_T34 l0 x23_1).f1) x34_2).f2)] 60 (0, 0)) (by (with_reducible repeat (first | refine blk_drewN ?_ _ | refine blk_drew ?_ | refine blk_alloc ?_ _)); refine blk_put (cs := #[.int .u8 ((rd_T60 ((rd_T34 l0 x23_1).f1) x34_2).f0), .int .i64 ((rd_T60 ((rd_T34 l0 x23_1).f1) x34_2).f1), .int .i64 0]) ?_ 2 _ rfl; (with_reducible repeat (first | refine blk_drewN ?_ _ | refine blk_drew ?_ | refine blk_alloc ?_ _)); refine blk_put (cs := #[.int .u8 ((rd_T60 ((rd_T34 l0 x23_1).f1) x34_2).f0), .int .i64 0, .int .i64 0]) ?_ 1 _ rfl; (with_reducible repeat (first | refine blk_drewN ?_ _ | refine blk_drew ?_ | refine blk_alloc ?_ _)); refine blk_put (cs := #[.int .u8 0, .int .i64 0, .int .i64 0]) ?_ 0 _ rfl; (with_reducible repeat (first | refine blk_drewN ?_ _ | refine blk_drew ?_ | refine blk_alloc ?_ _)); exact BK333.out) hb); have n2_ := Aside0.mk (below_step (by repeat (first | (with_reducible first | exact HB.out | apply below_alloc | apply pw_below_drewN | apply below_drew1 | refine below_set ?_ GE330.out | refine below_set ?_ GE333.out) | exact HB.out)) hb); clear BK330; clear BK333; clear HB; have BK330 := n0_; have BK333 := n1_; have HB := n2_; clear n0_ n1_ n2_; (try clear hb); (try clear hb2); (try clear hk); (try clear hi); have hcz48_0 : w47.cell? ⟨gb333, 0, none⟩ = some (.int .u8 ((rd_T60 ((rd_T34 l0 x23_1).f1) x34_2).f0)) := (blk_cell BK333.out 0).trans rfl; have hcz48_1 : w47.cell? ⟨gb333, 1, none⟩ = some (.int .i64 ((rd_T60 ((rd_T34 l0 x23_1).f1) x34_2).f1)) := (blk_cell BK333.out 1).trans rfl; have hcz48_2 : w47.cell? ⟨gb333, 2, none⟩ = some (.int .i64 ((rd_T60 ((rd_T34 l0 x23_1).f1) x34_2).f2)) := (blk_cell BK333.out 2).trans rfl; have hfz48_0 := blk_frozen BK333.out 0; have hfz48_1 := blk_frozen BK333.out 1; have hfz48_2 := blk_frozen BK333.out 2))
                            go_roundg k2
                            case measure => have := HK1.out; have := HK2.out; omega
                            case rel => exact ⟨(Go.bits .or .i64 x1_2 (Go.bits .and .i64 t334 t331)), (wrap64 (x34_2 + 1)), (by first | rfl | (simp; done) | (simp [*]; done)), (by first | rfl | (simp; done) | (simp [*]; done)), H', ⟨by have := HK1.out; have := HK2.out; omega⟩, ⟨by (with_reducible repeat (first | refine blk_drewN ?_ _ | refine blk_drew ?_ | refine blk_alloc ?_ _)); exact BK330.out⟩, ⟨by repeat (first | (with_reducible first | exact HB.out | apply below_alloc | apply pw_below_drewN | apply below_drew1 | refine below_set ?_ GE330.out | refine below_set ?_ GE333.out) | exact HB.out)⟩⟩
                      · rw [if_neg c18] at H
                        exact absurd H (by simp)
                    · rw [if_neg c17] at H
                      exact absurd H (by simp)
                  · rw [if_neg c16] at H
                    have c16b0 : decide (x34_2 < (((rd_T34 l0 x23_1).f1).length : Int)) = false := decide_eq_false c16
                    clear c16
                    have H' := Aside0.mk H
                    clear H
                    go_wp2
                    go_roundg k2
                    case measure => have := HK1.out; have := HK2.out; omega
                    case rel => exact ⟨(x1_2), (wrap64 (x23_1 + 1)), (by first | rfl | (simp; done) | (simp [*]; done)), (by first | rfl | (simp; done) | (simp [*]; done)), H', ⟨by have := HK1.out; have := HK2.out; omega⟩, ⟨by repeat (first | (with_reducible first | exact HB.out | apply below_alloc | apply pw_below_drewN | apply below_drew1 | refine below_set ?_ GE330.out) | exact HB.out)⟩⟩
            · rw [if_neg c10] at H
              exact absurd H (by simp)
          · rw [if_neg c9] at H
            exact absurd H (by simp)
        · rw [if_neg c8] at H
          have c8b0 : decide (x23_1 < (l0.length : Int)) = false := decide_eq_false c8
          clear c8
          obtain rfl := Option.some.inj H
          go_wp2
          go_ret
          exact ⟨by first | rfl | (simp [errW_none, errW_some] <;> rfl) | (simp [*, errW_none, errW_some] <;> rfl), by repeat (first | (with_reducible first | exact HB.out | apply below_alloc | apply pw_below_drewN | apply below_drew1) | exact HB.out)⟩
  · replace c6 := Bool.eq_false_iff.mpr c6
    subst c6
    have H1 : (some (Go.bits .and .i64 a1 4095)) = some r := by rw [if_neg (show ¬ (false = true) by decide)] at H; exact H
    clear H
    have H := H1
    clear H1
    obtain rfl := Option.some.inj H
    go_enter Tryd.func29, Tryd.ntmps29
    go_wp2_with (first | ((with_reducible refine gate_callee (f := 19) rfl ?_); refine goesL_ (some 18) rfl rfl Tryd.func19 (by kernel_rfl) rfl #[.slice A0 l0.length c0] rfl (by (try simp only [List.map_toArray, List.map_cons, List.map_nil]); first | done | rfl | (simp only [List.length_drop, List.length_take]; rfl)) ?_; (with_reducible refine (clause_Right.calls k _ _ l0 false _ ?side1 ?side2 A5.out).mono ?_); (case side1 => repeat (first | exact HR0.out | (with_reducible refine Kd.C_alloc ?_ _) | (with_reducible refine Kd.C_drewN ?_ _) | (with_reducible refine Kd.C_drew ?_))); (case side2 => exact HC0.out); rintro e w49 ⟨rfl, hb⟩; refine ⟨_, rfl, ?_⟩; have n0_ := Aside0.mk (below_step (by repeat (first | (with_reducible first | exact HB.out | apply below_alloc | apply pw_below_drewN | apply below_drew1) | exact HB.out)) hb); clear HB; have HB := n0_; clear n0_; (try clear hb); (try clear hb2); (try clear hk); (try clear hi)))
    go_ret
    exact ⟨by first | rfl | (simp [errW_none, errW_some] <;> rfl) | (simp [*, errW_none, errW_some] <;> rfl), by repeat (first | (with_reducible first | exact HB.out | apply below_alloc | apply pw_below_drewN | apply below_drew1) | exact HB.out)⟩
/-! ### apply_Of: function 26 -/
def apply_Of.f (k : Nat) (a0_0 : Bool) (a0_1 : Int) (l0_2 : List (S34)) (a1 : Int) (a2 : Bool) (a3 : Int) : Option (Int) := if a0_0 = true then (some (Go.bits .and .i64 a0_1 4095)) else ((apply_Apply.f k l0_2 a1 a2 a3).bind fun t336 => (some t336))
theorem apply_Of.mono : ∀ a0 a1 a2 a3 a4 a5 k, LeO (apply_Of.f k a0 a1 a2 a3 a4 a5) (apply_Of.f (k + 1) a0 a1 a2 a3 a4 a5) := by
  intro a0 a1 a2 a3 a4 a5 k
  unfold apply_Of.f
  repeat' first
      | (with_reducible exact apply_Apply.mono _ _ _ _ _)
      | (with_reducible exact LeO.refl _)
      | (with_reducible exact LeO.none _)
      | (with_reducible refine LeO.ite ?_ ?_)
      | (with_reducible refine LeO.bind ?_ (fun _ => ?_))
      | exact apply_Apply.mono _ _ _ _ _
      | exact LeO.none _
      | refine LeO.ite ?_ ?_
      | refine LeO.bind ?_ (fun _ => ?_)
set_option maxHeartbeats 8000000 in
set_option maxRecDepth 100000 in
theorem apply_Of.calls (k : Nat) (a0_0 : Bool) (a0_1 : Int) (A0_2 : Option Addr) (c0_2 : Nat) (l0_2 : List (S34)) (a1 : Int) (a2 : Bool) (a3 : Int) (r : Int) (w : World) (hr0_2 : Kd.C k34 w A0_2 l0_2.length l0_2) (hc0_2 : l0_2.length ≤ c0_2) (h : apply_Of.f k a0_0 a0_1 l0_2 a1 a2 a3 = some r) :
    Calls Tryd.prog 26 #[.agg #[.bool a0_0, .int .i64 a0_1, .slice A0_2 l0_2.length c0_2], .int .i64 a1, .bool a2, .int .i64 a3] w fun e w' => e = .returned (.int .i64 r) ∧ Below w.heap.size w w' := by
  have hu45 := Tryd.underlying45
  have HR0_2 := Aside0.mk hr0_2
  have HC0_2 := Aside0.mk hc0_2
  clear hr0_2 hc0_2
  have HB := Aside0.mk (Below.refl w.heap.size w)
  have H : (if a0_0 = true then (some (Go.bits .and .i64 a0_1 4095)) else ((apply_Apply.f k l0_2 a1 a2 a3).bind fun t336 => (some t336))) = some r := h
  clear h
  by_cases c5 : a0_0 = true
  · subst c5
    have H1 : (some (Go.bits .and .i64 a0_1 4095)) = some r := by rw [if_pos rfl] at H; exact H
    clear H
    have H := H1
    clear H1
    obtain rfl := Option.some.inj H
    go_enter Tryd.func26, Tryd.ntmps26
    go_wp2_with (first | ((with_reducible refine gate_dst (N := 4) rfl ?_); refine box_event ?hg (N := 4) ?hd (cs := #[.bool true, .int .i64 a0_1, .slice A0_2 l0_2.length c0_2]) (t := 45) ?hr ?_; (case hd => rfl); (case hg => rfl); (case hr => first | (go_simp; done) | (go_simp; rfl)); intro gb335 hg w6 hbox hb; have n0_ := Aside0.mk (below_step (by repeat (first | (with_reducible first | exact HB.out | apply below_alloc | apply pw_below_drewN | apply below_drew1) | exact HB.out)) hb); have n1_ := Aside0.mk (hbox); have n2_ := Aside0.mk ((by rw [hg]; exact (below_size (by repeat (first | (with_reducible first | exact HB.out | apply below_alloc | apply pw_below_drewN | apply below_drew1) | exact HB.out))) : w.heap.size ≤ gb335)); have n3_ := Aside0.mk ((by rw [hg]; exact (below_size (by repeat (first | (with_reducible first | exact HB.out | apply below_alloc | apply pw_below_drewN | apply below_drew1) | exact HB.out))) : w.heap.size ≤ gb335)); clear HB; have HB := n0_; have BK335 := n1_; have GW335 := n2_; have GE335 := n3_; clear n0_ n1_ n2_ n3_; clear hb hbox hg; have hcz7_0 : w6.cell? ⟨gb335, 0, none⟩ = some (.bool true) := (blk_cell BK335.out 0).trans rfl; have hcz7_1 : w6.cell? ⟨gb335, 1, none⟩ = some (.int .i64 a0_1) := (blk_cell BK335.out 1).trans rfl; have hcz7_2 : w6.cell? ⟨gb335, 2, none⟩ = some (.slice A0_2 l0_2.length c0_2) := (blk_cell BK335.out 2).trans rfl; have hfz7_0 := blk_frozen BK335.out 0; have hfz7_1 := blk_frozen BK335.out 1; have hfz7_2 := blk_frozen BK335.out 2))
    go_ret
    exact ⟨by first | rfl | (simp [errW_none, errW_some] <;> rfl) | (simp [*, errW_none, errW_some] <;> rfl), by repeat (first | (with_reducible first | exact HB.out | apply below_alloc | apply pw_below_drewN | apply below_drew1 | refine below_set ?_ GE335.out) | exact HB.out)⟩
  · replace c5 := Bool.eq_false_iff.mpr c5
    subst c5
    have H1 : ((apply_Apply.f k l0_2 a1 a2 a3).bind fun t336 => (some t336)) = some r := by rw [if_neg (show ¬ (false = true) by decide)] at H; exact H
    clear H
    have H := H1
    clear H1
    replace H := Option.bind_eq_some_iff.mp H
    obtain ⟨t336, A80, H⟩ := H
    replace H : (some t336) = some r := H
    have A8 := Aside0.mk A80
    clear A80
    obtain rfl := Option.some.inj H
    go_enter Tryd.func26, Tryd.ntmps26
    go_wp2_with (first | ((with_reducible refine gate_dst (N := 4) rfl ?_); refine box_event ?hg (N := 4) ?hd (cs := #[.bool false, .int .i64 a0_1, .slice A0_2 l0_2.length c0_2]) (t := 45) ?hr ?_; (case hd => rfl); (case hg => rfl); (case hr => first | (go_simp; done) | (go_simp; rfl)); intro gb335 hg w9 hbox hb; have n0_ := Aside0.mk (below_step (by repeat (first | (with_reducible first | exact HB.out | apply below_alloc | apply pw_below_drewN | apply below_drew1) | exact HB.out)) hb); have n1_ := Aside0.mk (hbox); have n2_ := Aside0.mk ((by rw [hg]; exact (below_size (by repeat (first | (with_reducible first | exact HB.out | apply below_alloc | apply pw_below_drewN | apply below_drew1) | exact HB.out))) : w.heap.size ≤ gb335)); have n3_ := Aside0.mk ((by rw [hg]; exact (below_size (by repeat (first | (with_reducible first | exact HB.out | apply below_alloc | apply pw_below_drewN | apply below_drew1) | exact HB.out))) : w.heap.size ≤ gb335)); clear HB; have HB := n0_; have BK335 := n1_; have GW335 := n2_; have GE335 := n3_; clear n0_ n1_ n2_ n3_; clear hb hbox hg; have hcz10_0 : w9.cell? ⟨gb335, 0, none⟩ = some (.bool false) := (blk_cell BK335.out 0).trans rfl; have hcz10_1 : w9.cell? ⟨gb335, 1, none⟩ = some (.int .i64 a0_1) := (blk_cell BK335.out 1).trans rfl; have hcz10_2 : w9.cell? ⟨gb335, 2, none⟩ = some (.slice A0_2 l0_2.length c0_2) := (blk_cell BK335.out 2).trans rfl; have hfz10_0 := blk_frozen BK335.out 0; have hfz10_1 := blk_frozen BK335.out 1; have hfz10_2 := blk_frozen BK335.out 2) | ((with_reducible refine gate_callee (f := 29) rfl ?_); refine goesL_ (some 19) rfl rfl Tryd.func29 (by kernel_rfl) rfl #[.slice A0_2 l0_2.length c0_2, .int .i64 a1, .bool a2, .int .i64 a3] rfl (by (try simp only [List.map_toArray, List.map_cons, List.map_nil]); first | done | rfl | (simp only [List.length_drop, List.length_take]; rfl)) ?_; (with_reducible refine (apply_Apply.calls k _ _ l0_2 a1 a2 a3 t336 _ ?side1 ?side2 A8.out).mono ?_); (case side1 => repeat (first | exact (Kd.C_below HR0_2.out HB.out) | (with_reducible refine Kd.C_alloc ?_ _) | (with_reducible refine Kd.C_drewN ?_ _) | (with_reducible refine Kd.C_drew ?_))); (case side2 => exact HC0_2.out); rintro e w11 ⟨rfl, hb⟩; refine ⟨_, rfl, ?_⟩; have n0_ := Aside0.mk (blk_below (g := gb335) (o := .cells #[.bool false, .int .i64 a0_1, .slice A0_2 l0_2.length c0_2] 45 (0, 0)) (by (with_reducible repeat (first | refine blk_drewN ?_ _ | refine blk_drew ?_ | refine blk_alloc ?_ _)); exact BK335.out) hb); have n1_ := Aside0.mk (below_step (by repeat (first | (with_reducible first | exact HB.out | apply below_alloc | apply pw_below_drewN | apply below_drew1 | refine below_set ?_ GE335.out) | exact HB.out)) hb); clear BK335; clear HB; have BK335 := n0_; have HB := n1_; clear n0_ n1_; (try clear hb); (try clear hb2); (try clear hk); (try clear hi)))
    go_ret
    exact ⟨by first | rfl | (simp [errW_none, errW_some] <;> rfl) | (simp [*, errW_none, errW_some] <;> rfl), by repeat (first | (with_reducible first | exact HB.out | apply below_alloc | apply pw_below_drewN | apply below_drew1 | refine below_set ?_ GE335.out) | exact HB.out)⟩
/-! ### gaolerlaw03_of: function 42 -/
def gaolerlaw03_of.f (k : Nat) (a0 : ByteArray) (a1 : Int) (a2 : Bool) (a3 : Int) : Option (Int) := (apply_Read.f k a0).bind fun bt337 => (if bt337.2.2.2 = 0 then ((apply_Of.f k bt337.1 bt337.2.1 bt337.2.2.1 a1 a2 a3).bind fun t344 => (some t344)) else (some (-1)))
theorem gaolerlaw03_of.mono : ∀ a0 a1 a2 a3 k, LeO (gaolerlaw03_of.f k a0 a1 a2 a3) (gaolerlaw03_of.f (k + 1) a0 a1 a2 a3) := by
  intro a0 a1 a2 a3 k
  unfold gaolerlaw03_of.f
  repeat' first
      | (with_reducible exact apply_Of.mono _ _ _ _ _ _ _)
      | (with_reducible exact apply_Read.mono _ _)
      | (with_reducible exact LeO.refl _)
      | (with_reducible exact LeO.none _)
      | (with_reducible refine LeO.ite ?_ ?_)
      | (with_reducible refine LeO.bind ?_ (fun _ => ?_))
      | exact apply_Of.mono _ _ _ _ _ _ _
      | exact apply_Read.mono _ _
      | exact LeO.none _
      | refine LeO.ite ?_ ?_
      | refine LeO.bind ?_ (fun _ => ?_)
set_option maxHeartbeats 8000000 in
set_option maxRecDepth 100000 in
theorem gaolerlaw03_of.calls (k : Nat) (a0 : ByteArray) (a1 : Int) (a2 : Bool) (a3 : Int) (r : Int) (w : World) (h : gaolerlaw03_of.f k a0 a1 a2 a3 = some r) :
    Calls Tryd.prog 42 #[.string a0, .int .i64 a1, .bool a2, .int .i64 a3] w fun e w' => e = .returned (.int .i64 r) ∧ Below w.heap.size w w' := by
  have hu45 := Tryd.underlying45
  have HB := Aside0.mk (Below.refl w.heap.size w)
  have H : ((apply_Read.f k a0).bind fun bt337 => (if bt337.2.2.2 = 0 then ((apply_Of.f k bt337.1 bt337.2.1 bt337.2.2.1 a1 a2 a3).bind fun t344 => (some t344)) else (some (-1)))) = some r := h
  clear h
  replace H := Option.bind_eq_some_iff.mp H
  obtain ⟨⟨t337, t338, t339, t342⟩, A50, H⟩ := H
  replace H : (if t342 = 0 then ((apply_Of.f k t337 t338 t339 a1 a2 a3).bind fun t344 => (some t344)) else (some (-1))) = some r := H
  have A5 := Aside0.mk A50
  clear A50
  by_cases c6 : t342 = 0
  · rw [if_pos c6] at H
    have c6b0 : (t342 == 0) = true := beq_iff_eq.mpr c6
    have c6b1 : (t342 != 0) = false := bne_eq_false_iff_eq.mpr c6
    clear c6
    replace H := Option.bind_eq_some_iff.mp H
    obtain ⟨t344, A70, H⟩ := H
    replace H : (some t344) = some r := H
    have A7 := Aside0.mk A70
    clear A70
    obtain rfl := Option.some.inj H
    go_enter Tryd.func42, Tryd.ntmps42
    go_wp2_with (first | ((with_reducible refine gate_callee (f := 24) rfl ?_); refine goesL_ (some 13) rfl rfl Tryd.func24 (by kernel_rfl) rfl #[.string a0] rfl (by (try simp only [List.map_toArray, List.map_cons, List.map_nil]); first | done | rfl | (simp only [List.length_drop, List.length_take]; rfl)) ?_; (with_reducible refine (apply_Read.calls k a0 t337 t338 t339 t342 _ A5.out).mono ?_); rintro e w8 ⟨v340, rfl, ho0, hb⟩; refine ⟨_, rfl, ?_⟩; have n0_ := Aside0.mk (Kd.S_lower ho0 (below_size (by repeat (first | (with_reducible first | exact HB.out | apply below_alloc | apply pw_below_drewN | apply below_drew1) | exact HB.out)))); have n1_ := Aside0.mk (below_step (by repeat (first | (with_reducible first | exact HB.out | apply below_alloc | apply pw_below_drewN | apply below_drew1) | exact HB.out)) hb); clear HB; have HO341 := n0_; have HB := n1_; clear n0_ n1_; (try clear hb); (try clear hb2); (try clear hk); (try clear hi); (try clear ho0)) | ((with_reducible refine gate_dst (N := 9) rfl ?_); refine box_event ?hg (N := 9) ?hd (cs := #[.bool false, .int .i64 0, .slice none 0 0]) (t := 45) ?hr ?_; (case hd => rfl); (case hg => rfl); (case hr => first | (go_simp; done) | (go_simp; rfl)); intro gb343 hg w9 hbox hb; have n0_ := Aside0.mk (Kd.S_below (by (with_reducible repeat (first | apply Kd.S_alloc | apply Kd.S_drewN | apply Kd.S_drew)); exact HO341.out) hb); have n1_ := Aside0.mk (below_step (by repeat (first | (with_reducible first | exact HB.out | apply below_alloc | apply pw_below_drewN | apply below_drew1) | exact HB.out)) hb); have n2_ := Aside0.mk (hbox); have n3_ := Aside0.mk ((by rw [hg]; exact (below_size (by repeat (first | (with_reducible first | exact HB.out | apply below_alloc | apply pw_below_drewN | apply below_drew1) | exact HB.out))) : w.heap.size ≤ gb343)); have n4_ := Aside0.mk ((by rw [hg]; exact (below_size (by repeat (first | (with_reducible first | exact HB.out | apply below_alloc | apply pw_below_drewN | apply below_drew1) | exact HB.out))) : w.heap.size ≤ gb343)); clear HO341; clear HB; have HO341 := n0_; have HB := n1_; have BK343 := n2_; have GW343 := n3_; have GE343 := n4_; clear n0_ n1_ n2_ n3_ n4_; clear hb hbox hg; have hcz10_0 : w9.cell? ⟨gb343, 0, none⟩ = some (.bool false) := (blk_cell BK343.out 0).trans rfl; have hcz10_1 : w9.cell? ⟨gb343, 1, none⟩ = some (.int .i64 0) := (blk_cell BK343.out 1).trans rfl; have hcz10_2 : w9.cell? ⟨gb343, 2, none⟩ = some (.slice none 0 0) := (blk_cell BK343.out 2).trans rfl; have hfz10_0 := blk_frozen BK343.out 0; have hfz10_1 := blk_frozen BK343.out 1; have hfz10_2 := blk_frozen BK343.out 2; obtain ⟨Ao11, co11, eo11⟩ := Kd.S_slice HO341.out; subst eo11) | ((with_reducible refine gate_callee (f := 26) rfl ?_); refine goesL_ (some 22) rfl rfl Tryd.func26 (by kernel_rfl) rfl #[.agg #[.bool t337, .int .i64 t338, .slice Ao11 t339.length co11], .int .i64 a1, .bool a2, .int .i64 a3] rfl (by (try simp only [List.map_toArray, List.map_cons, List.map_nil]); first | done | rfl | (simp only [List.length_drop, List.length_take]; rfl)) ?_; (with_reducible refine (apply_Of.calls k t337 t338 _ _ t339 a1 a2 a3 t344 _ ?side1 ?side2 A7.out).mono ?_); (case side1 => refine (Kd.S_reads' (e := 34) (base := w.heap.size) (ok := fun k_ => True) (n := t339.length) (c := co11) ?_).2.2; exact (by (with_reducible repeat (first | apply Kd.S_alloc | apply Kd.S_drewN | apply Kd.S_drew)); exact (Kd.S_mono (Kd.S_far (p := ⟨gb343, 2, none⟩) (Kd.S_far (p := ⟨gb343, 1, none⟩) (Kd.S_far (p := ⟨gb343, 0, none⟩) (Kd.S_types HO341.out BK343.out (by decide)) (fun _ hk => hk.2) (.bool t337)) (fun _ hk => hk.2) (.int .i64 t338)) (fun _ hk => hk.2) (.slice Ao11 t339.length co11)) (fun _ h_ => h_.1)))); (case side2 => exact (Kd.S_reads' HO341.out).2.1); rintro e w12 ⟨rfl, hb⟩; refine ⟨_, rfl, ?_⟩; have n0_ := Aside0.mk (Kd.S_below (by (with_reducible repeat (first | apply Kd.S_alloc | apply Kd.S_drewN | apply Kd.S_drew)); exact (Kd.S_mono (Kd.S_far (p := ⟨gb343, 2, none⟩) (Kd.S_far (p := ⟨gb343, 1, none⟩) (Kd.S_far (p := ⟨gb343, 0, none⟩) (Kd.S_types HO341.out BK343.out (by decide)) (fun _ hk => hk.2) (.bool t337)) (fun _ hk => hk.2) (.int .i64 t338)) (fun _ hk => hk.2) (.slice Ao11 t339.length co11)) (fun _ h_ => h_.1))) hb); have n1_ := Aside0.mk (blk_below (g := gb343) (o := .cells #[.bool t337, .int .i64 t338, .slice Ao11 t339.length co11] 45 (0, 0)) (by (with_reducible repeat (first | refine blk_drewN ?_ _ | refine blk_drew ?_ | refine blk_alloc ?_ _)); refine blk_put (cs := #[.bool t337, .int .i64 t338, .slice none 0 0]) ?_ 2 _ rfl; (with_reducible repeat (first | refine blk_drewN ?_ _ | refine blk_drew ?_ | refine blk_alloc ?_ _)); refine blk_put (cs := #[.bool t337, .int .i64 0, .slice none 0 0]) ?_ 1 _ rfl; (with_reducible repeat (first | refine blk_drewN ?_ _ | refine blk_drew ?_ | refine blk_alloc ?_ _)); refine blk_put (cs := #[.bool false, .int .i64 0, .slice none 0 0]) ?_ 0 _ rfl; (with_reducible repeat (first | refine blk_drewN ?_ _ | refine blk_drew ?_ | refine blk_alloc ?_ _)); exact BK343.out) hb); have n2_ := Aside0.mk (below_step (by repeat (first | (with_reducible first | exact HB.out | apply below_alloc | apply pw_below_drewN | apply below_drew1 | refine below_set ?_ GE343.out) | exact HB.out)) hb); clear HO341; clear BK343; clear HB; have HO341 := n0_; have BK343 := n1_; have HB := n2_; clear n0_ n1_ n2_; (try clear hb); (try clear hb2); (try clear hk); (try clear hi)))
    go_ret
    exact ⟨by first | rfl | (simp [errW_none, errW_some] <;> rfl) | (simp [*, errW_none, errW_some] <;> rfl), by repeat (first | (with_reducible first | exact HB.out | apply below_alloc | apply pw_below_drewN | apply below_drew1 | refine below_set ?_ GE343.out) | exact HB.out)⟩
  · rw [if_neg c6] at H
    have c6b0 : (t342 == 0) = false := beq_eq_false_iff_ne.mpr c6
    have c6b1 : (t342 != 0) = true := bne_iff_ne.mpr c6
    obtain rfl := Option.some.inj H
    go_enter Tryd.func42, Tryd.ntmps42
    go_wp2_with (first | ((with_reducible refine gate_callee (f := 24) rfl ?_); refine goesL_ (some 13) rfl rfl Tryd.func24 (by kernel_rfl) rfl #[.string a0] rfl (by (try simp only [List.map_toArray, List.map_cons, List.map_nil]); first | done | rfl | (simp only [List.length_drop, List.length_take]; rfl)) ?_; (with_reducible refine (apply_Read.calls k a0 t337 t338 t339 t342 _ A5.out).mono ?_); rintro e w13 ⟨v340, rfl, ho0, hb⟩; refine ⟨_, rfl, ?_⟩; have n0_ := Aside0.mk (Kd.S_lower ho0 (below_size (by repeat (first | (with_reducible first | exact HB.out | apply below_alloc | apply pw_below_drewN | apply below_drew1) | exact HB.out)))); have n1_ := Aside0.mk (below_step (by repeat (first | (with_reducible first | exact HB.out | apply below_alloc | apply pw_below_drewN | apply below_drew1) | exact HB.out)) hb); clear HB; have HO341 := n0_; have HB := n1_; clear n0_ n1_; (try clear hb); (try clear hb2); (try clear hk); (try clear hi); (try clear ho0)) | ((with_reducible refine gate_dst (N := 9) rfl ?_); refine box_event ?hg (N := 9) ?hd (cs := #[.bool false, .int .i64 0, .slice none 0 0]) (t := 45) ?hr ?_; (case hd => rfl); (case hg => rfl); (case hr => first | (go_simp; done) | (go_simp; rfl)); intro gb343 hg w14 hbox hb; have n0_ := Aside0.mk (Kd.S_below (by (with_reducible repeat (first | apply Kd.S_alloc | apply Kd.S_drewN | apply Kd.S_drew)); exact HO341.out) hb); have n1_ := Aside0.mk (below_step (by repeat (first | (with_reducible first | exact HB.out | apply below_alloc | apply pw_below_drewN | apply below_drew1) | exact HB.out)) hb); have n2_ := Aside0.mk (hbox); have n3_ := Aside0.mk ((by rw [hg]; exact (below_size (by repeat (first | (with_reducible first | exact HB.out | apply below_alloc | apply pw_below_drewN | apply below_drew1) | exact HB.out))) : w.heap.size ≤ gb343)); have n4_ := Aside0.mk ((by rw [hg]; exact (below_size (by repeat (first | (with_reducible first | exact HB.out | apply below_alloc | apply pw_below_drewN | apply below_drew1) | exact HB.out))) : w.heap.size ≤ gb343)); clear HO341; clear HB; have HO341 := n0_; have HB := n1_; have BK343 := n2_; have GW343 := n3_; have GE343 := n4_; clear n0_ n1_ n2_ n3_ n4_; clear hb hbox hg; have hcz15_0 : w14.cell? ⟨gb343, 0, none⟩ = some (.bool false) := (blk_cell BK343.out 0).trans rfl; have hcz15_1 : w14.cell? ⟨gb343, 1, none⟩ = some (.int .i64 0) := (blk_cell BK343.out 1).trans rfl; have hcz15_2 : w14.cell? ⟨gb343, 2, none⟩ = some (.slice none 0 0) := (blk_cell BK343.out 2).trans rfl; have hfz15_0 := blk_frozen BK343.out 0; have hfz15_1 := blk_frozen BK343.out 1; have hfz15_2 := blk_frozen BK343.out 2; obtain ⟨Ao16, co16, eo16⟩ := Kd.S_slice HO341.out; subst eo16))
    go_ret
    exact ⟨by first | rfl | (simp [errW_none, errW_some] <;> rfl) | (simp [*, errW_none, errW_some] <;> rfl), by repeat (first | (with_reducible first | exact HB.out | apply below_alloc | apply pw_below_drewN | apply below_drew1 | refine below_set ?_ GE343.out) | exact HB.out)⟩
/-! ### gaolerlaw03_awake: function 23 -/
def gaolerlaw03_awake.f (k : Nat)  : Option (Bool) := (gaolerlaw03_of.f k (⟨#[117, 61, 103]⟩ : ByteArray) 416 false 0).bind fun t345 => (if t345 = 288 then ((gaolerlaw03_of.f k (⟨#[43, 120]⟩ : ByteArray) 420 false 18).bind fun t346 => (if t346 = 493 then ((gaolerlaw03_of.f k (⟨#[43, 120]⟩ : ByteArray) 420 false 63).bind fun t347 => (if t347 = 484 then ((gaolerlaw03_of.f k (⟨#[97, 43, 88]⟩ : ByteArray) 420 false 0).bind fun t348 => (if t348 = 420 then ((gaolerlaw03_of.f k (⟨#[97, 43, 88]⟩ : ByteArray) 420 true 0).bind fun t349 => (if t349 = 493 then ((gaolerlaw03_of.f k (⟨#[48, 55, 53, 53]⟩ : ByteArray) 1 false 0).bind fun t350 => (if t350 = 493 then ((gaolerlaw03_of.f k (⟨#[113]⟩ : ByteArray) 0 false 0).bind fun t351 => (some (t351 == (-1)))) else (some false))) else (some false))) else (some false))) else (some false))) else (some false))) else (some false))
theorem gaolerlaw03_awake.mono : ∀ k, LeO (gaolerlaw03_awake.f k ) (gaolerlaw03_awake.f (k + 1) ) := by
  intro  k
  unfold gaolerlaw03_awake.f
  repeat' first
      | (with_reducible exact gaolerlaw03_of.mono _ _ _ _ _)
      | (with_reducible exact LeO.refl _)
      | (with_reducible exact LeO.none _)
      | (with_reducible refine LeO.ite ?_ ?_)
      | (with_reducible refine LeO.bind ?_ (fun _ => ?_))
      | exact gaolerlaw03_of.mono _ _ _ _ _
      | exact LeO.none _
      | refine LeO.ite ?_ ?_
      | refine LeO.bind ?_ (fun _ => ?_)
set_option maxHeartbeats 8000000 in
set_option maxRecDepth 100000 in
theorem gaolerlaw03_awake.calls (k : Nat)  (r : Bool) (w : World) (h : gaolerlaw03_awake.f k  = some r) :
    Calls Tryd.prog 23 #[] w fun e w' => e = .returned (.bool r) ∧ Below w.heap.size w w' := by
  have HB := Aside0.mk (Below.refl w.heap.size w)
  have H : ((gaolerlaw03_of.f k (⟨#[117, 61, 103]⟩ : ByteArray) 416 false 0).bind fun t345 => (if t345 = 288 then ((gaolerlaw03_of.f k (⟨#[43, 120]⟩ : ByteArray) 420 false 18).bind fun t346 => (if t346 = 493 then ((gaolerlaw03_of.f k (⟨#[43, 120]⟩ : ByteArray) 420 false 63).bind fun t347 => (if t347 = 484 then ((gaolerlaw03_of.f k (⟨#[97, 43, 88]⟩ : ByteArray) 420 false 0).bind fun t348 => (if t348 = 420 then ((gaolerlaw03_of.f k (⟨#[97, 43, 88]⟩ : ByteArray) 420 true 0).bind fun t349 => (if t349 = 493 then ((gaolerlaw03_of.f k (⟨#[48, 55, 53, 53]⟩ : ByteArray) 1 false 0).bind fun t350 => (if t350 = 493 then ((gaolerlaw03_of.f k (⟨#[113]⟩ : ByteArray) 0 false 0).bind fun t351 => (some (t351 == (-1)))) else (some false))) else (some false))) else (some false))) else (some false))) else (some false))) else (some false))) = some r := h
  clear h
  replace H := Option.bind_eq_some_iff.mp H
  obtain ⟨t345, A10, H⟩ := H
  replace H : (if t345 = 288 then ((gaolerlaw03_of.f k (⟨#[43, 120]⟩ : ByteArray) 420 false 18).bind fun t346 => (if t346 = 493 then ((gaolerlaw03_of.f k (⟨#[43, 120]⟩ : ByteArray) 420 false 63).bind fun t347 => (if t347 = 484 then ((gaolerlaw03_of.f k (⟨#[97, 43, 88]⟩ : ByteArray) 420 false 0).bind fun t348 => (if t348 = 420 then ((gaolerlaw03_of.f k (⟨#[97, 43, 88]⟩ : ByteArray) 420 true 0).bind fun t349 => (if t349 = 493 then ((gaolerlaw03_of.f k (⟨#[48, 55, 53, 53]⟩ : ByteArray) 1 false 0).bind fun t350 => (if t350 = 493 then ((gaolerlaw03_of.f k (⟨#[113]⟩ : ByteArray) 0 false 0).bind fun t351 => (some (t351 == (-1)))) else (some false))) else (some false))) else (some false))) else (some false))) else (some false))) else (some false)) = some r := H
  have A1 := Aside0.mk A10
  clear A10
  by_cases c2 : t345 = 288
  · rw [if_pos c2] at H
    have c2b0 : (t345 == 288) = true := beq_iff_eq.mpr c2
    have c2b1 : (t345 != 288) = false := bne_eq_false_iff_eq.mpr c2
    clear c2
    replace H := Option.bind_eq_some_iff.mp H
    obtain ⟨t346, A30, H⟩ := H
    replace H : (if t346 = 493 then ((gaolerlaw03_of.f k (⟨#[43, 120]⟩ : ByteArray) 420 false 63).bind fun t347 => (if t347 = 484 then ((gaolerlaw03_of.f k (⟨#[97, 43, 88]⟩ : ByteArray) 420 false 0).bind fun t348 => (if t348 = 420 then ((gaolerlaw03_of.f k (⟨#[97, 43, 88]⟩ : ByteArray) 420 true 0).bind fun t349 => (if t349 = 493 then ((gaolerlaw03_of.f k (⟨#[48, 55, 53, 53]⟩ : ByteArray) 1 false 0).bind fun t350 => (if t350 = 493 then ((gaolerlaw03_of.f k (⟨#[113]⟩ : ByteArray) 0 false 0).bind fun t351 => (some (t351 == (-1)))) else (some false))) else (some false))) else (some false))) else (some false))) else (some false)) = some r := H
    have A3 := Aside0.mk A30
    clear A30
    by_cases c4 : t346 = 493
    · rw [if_pos c4] at H
      have c4b0 : (t346 == 493) = true := beq_iff_eq.mpr c4
      have c4b1 : (t346 != 493) = false := bne_eq_false_iff_eq.mpr c4
      clear c4
      replace H := Option.bind_eq_some_iff.mp H
      obtain ⟨t347, A50, H⟩ := H
      replace H : (if t347 = 484 then ((gaolerlaw03_of.f k (⟨#[97, 43, 88]⟩ : ByteArray) 420 false 0).bind fun t348 => (if t348 = 420 then ((gaolerlaw03_of.f k (⟨#[97, 43, 88]⟩ : ByteArray) 420 true 0).bind fun t349 => (if t349 = 493 then ((gaolerlaw03_of.f k (⟨#[48, 55, 53, 53]⟩ : ByteArray) 1 false 0).bind fun t350 => (if t350 = 493 then ((gaolerlaw03_of.f k (⟨#[113]⟩ : ByteArray) 0 false 0).bind fun t351 => (some (t351 == (-1)))) else (some false))) else (some false))) else (some false))) else (some false)) = some r := H
      have A5 := Aside0.mk A50
      clear A50
      by_cases c6 : t347 = 484
      · rw [if_pos c6] at H
        have c6b0 : (t347 == 484) = true := beq_iff_eq.mpr c6
        have c6b1 : (t347 != 484) = false := bne_eq_false_iff_eq.mpr c6
        clear c6
        replace H := Option.bind_eq_some_iff.mp H
        obtain ⟨t348, A70, H⟩ := H
        replace H : (if t348 = 420 then ((gaolerlaw03_of.f k (⟨#[97, 43, 88]⟩ : ByteArray) 420 true 0).bind fun t349 => (if t349 = 493 then ((gaolerlaw03_of.f k (⟨#[48, 55, 53, 53]⟩ : ByteArray) 1 false 0).bind fun t350 => (if t350 = 493 then ((gaolerlaw03_of.f k (⟨#[113]⟩ : ByteArray) 0 false 0).bind fun t351 => (some (t351 == (-1)))) else (some false))) else (some false))) else (some false)) = some r := H
        have A7 := Aside0.mk A70
        clear A70
        by_cases c8 : t348 = 420
        · rw [if_pos c8] at H
          have c8b0 : (t348 == 420) = true := beq_iff_eq.mpr c8
          have c8b1 : (t348 != 420) = false := bne_eq_false_iff_eq.mpr c8
          clear c8
          replace H := Option.bind_eq_some_iff.mp H
          obtain ⟨t349, A90, H⟩ := H
          replace H : (if t349 = 493 then ((gaolerlaw03_of.f k (⟨#[48, 55, 53, 53]⟩ : ByteArray) 1 false 0).bind fun t350 => (if t350 = 493 then ((gaolerlaw03_of.f k (⟨#[113]⟩ : ByteArray) 0 false 0).bind fun t351 => (some (t351 == (-1)))) else (some false))) else (some false)) = some r := H
          have A9 := Aside0.mk A90
          clear A90
          by_cases c10 : t349 = 493
          · rw [if_pos c10] at H
            have c10b0 : (t349 == 493) = true := beq_iff_eq.mpr c10
            have c10b1 : (t349 != 493) = false := bne_eq_false_iff_eq.mpr c10
            clear c10
            replace H := Option.bind_eq_some_iff.mp H
            obtain ⟨t350, A110, H⟩ := H
            replace H : (if t350 = 493 then ((gaolerlaw03_of.f k (⟨#[113]⟩ : ByteArray) 0 false 0).bind fun t351 => (some (t351 == (-1)))) else (some false)) = some r := H
            have A11 := Aside0.mk A110
            clear A110
            by_cases c12 : t350 = 493
            · rw [if_pos c12] at H
              have c12b0 : (t350 == 493) = true := beq_iff_eq.mpr c12
              have c12b1 : (t350 != 493) = false := bne_eq_false_iff_eq.mpr c12
              clear c12
              replace H := Option.bind_eq_some_iff.mp H
              obtain ⟨t351, A130, H⟩ := H
              replace H : (some (t351 == (-1))) = some r := H
              have A13 := Aside0.mk A130
              clear A130
              obtain rfl := Option.some.inj H
              go_enter Tryd.func23, Tryd.ntmps23
              go_wp2_with (first | ((with_reducible refine gate_callee (f := 42) rfl ?_); refine goesL_ (some 1) rfl rfl Tryd.func42 (by kernel_rfl) rfl #[.string (⟨#[117, 61, 103]⟩ : ByteArray), .int .i64 416, .bool false, .int .i64 0] rfl (by (try simp only [List.map_toArray, List.map_cons, List.map_nil]); first | done | rfl | (simp only [List.length_drop, List.length_take]; rfl)) ?_; (with_reducible refine (gaolerlaw03_of.calls k (⟨#[117, 61, 103]⟩ : ByteArray) 416 false 0 t345 _ A1.out).mono ?_); rintro e w14 ⟨rfl, hb⟩; refine ⟨_, rfl, ?_⟩; have n0_ := Aside0.mk (below_step (by repeat (first | (with_reducible first | exact HB.out | apply below_alloc | apply pw_below_drewN | apply below_drew1) | exact HB.out)) hb); clear HB; have HB := n0_; clear n0_; (try clear hb); (try clear hb2); (try clear hk); (try clear hi)) | (go_at_call 42; (with_reducible refine (gaolerlaw03_of.calls k (⟨#[43, 120]⟩ : ByteArray) 420 false 18 t346 _ A3.out).mono ?_); rintro e w15 ⟨rfl, hb⟩; have n0_ := Aside0.mk (below_step (by repeat (first | (with_reducible first | exact HB.out | apply below_alloc | apply pw_below_drewN | apply below_drew1) | exact HB.out)) hb); clear HB; have HB := n0_; clear n0_; (try clear hb); (try clear hb2); (try clear hk); (try clear hi)) | (go_at_call 42; (with_reducible refine (gaolerlaw03_of.calls k (⟨#[43, 120]⟩ : ByteArray) 420 false 63 t347 _ A5.out).mono ?_); rintro e w16 ⟨rfl, hb⟩; have n0_ := Aside0.mk (below_step (by repeat (first | (with_reducible first | exact HB.out | apply below_alloc | apply pw_below_drewN | apply below_drew1) | exact HB.out)) hb); clear HB; have HB := n0_; clear n0_; (try clear hb); (try clear hb2); (try clear hk); (try clear hi)) | (go_at_call 42; (with_reducible refine (gaolerlaw03_of.calls k (⟨#[97, 43, 88]⟩ : ByteArray) 420 false 0 t348 _ A7.out).mono ?_); rintro e w17 ⟨rfl, hb⟩; have n0_ := Aside0.mk (below_step (by repeat (first | (with_reducible first | exact HB.out | apply below_alloc | apply pw_below_drewN | apply below_drew1) | exact HB.out)) hb); clear HB; have HB := n0_; clear n0_; (try clear hb); (try clear hb2); (try clear hk); (try clear hi)) | (go_at_call 42; (with_reducible refine (gaolerlaw03_of.calls k (⟨#[97, 43, 88]⟩ : ByteArray) 420 true 0 t349 _ A9.out).mono ?_); rintro e w18 ⟨rfl, hb⟩; have n0_ := Aside0.mk (below_step (by repeat (first | (with_reducible first | exact HB.out | apply below_alloc | apply pw_below_drewN | apply below_drew1) | exact HB.out)) hb); clear HB; have HB := n0_; clear n0_; (try clear hb); (try clear hb2); (try clear hk); (try clear hi)) | (go_at_call 42; (with_reducible refine (gaolerlaw03_of.calls k (⟨#[48, 55, 53, 53]⟩ : ByteArray) 1 false 0 t350 _ A11.out).mono ?_); rintro e w19 ⟨rfl, hb⟩; have n0_ := Aside0.mk (below_step (by repeat (first | (with_reducible first | exact HB.out | apply below_alloc | apply pw_below_drewN | apply below_drew1) | exact HB.out)) hb); clear HB; have HB := n0_; clear n0_; (try clear hb); (try clear hb2); (try clear hk); (try clear hi)) | (go_at_call 42; (with_reducible refine (gaolerlaw03_of.calls k (⟨#[113]⟩ : ByteArray) 0 false 0 t351 _ A13.out).mono ?_); rintro e w20 ⟨rfl, hb⟩; have n0_ := Aside0.mk (below_step (by repeat (first | (with_reducible first | exact HB.out | apply below_alloc | apply pw_below_drewN | apply below_drew1) | exact HB.out)) hb); clear HB; have HB := n0_; clear n0_; (try clear hb); (try clear hb2); (try clear hk); (try clear hi)))
              go_ret
              exact ⟨by first | rfl | (simp [errW_none, errW_some] <;> rfl) | (simp [*, errW_none, errW_some] <;> rfl), by repeat (first | (with_reducible first | exact HB.out | apply below_alloc | apply pw_below_drewN | apply below_drew1) | exact HB.out)⟩
            · rw [if_neg c12] at H
              have c12b0 : (t350 == 493) = false := beq_eq_false_iff_ne.mpr c12
              have c12b1 : (t350 != 493) = true := bne_iff_ne.mpr c12
              obtain rfl := Option.some.inj H
              go_enter Tryd.func23, Tryd.ntmps23
              go_wp2_with (first | ((with_reducible refine gate_callee (f := 42) rfl ?_); refine goesL_ (some 1) rfl rfl Tryd.func42 (by kernel_rfl) rfl #[.string (⟨#[117, 61, 103]⟩ : ByteArray), .int .i64 416, .bool false, .int .i64 0] rfl (by (try simp only [List.map_toArray, List.map_cons, List.map_nil]); first | done | rfl | (simp only [List.length_drop, List.length_take]; rfl)) ?_; (with_reducible refine (gaolerlaw03_of.calls k (⟨#[117, 61, 103]⟩ : ByteArray) 416 false 0 t345 _ A1.out).mono ?_); rintro e w21 ⟨rfl, hb⟩; refine ⟨_, rfl, ?_⟩; have n0_ := Aside0.mk (below_step (by repeat (first | (with_reducible first | exact HB.out | apply below_alloc | apply pw_below_drewN | apply below_drew1) | exact HB.out)) hb); clear HB; have HB := n0_; clear n0_; (try clear hb); (try clear hb2); (try clear hk); (try clear hi)) | (go_at_call 42; (with_reducible refine (gaolerlaw03_of.calls k (⟨#[43, 120]⟩ : ByteArray) 420 false 18 t346 _ A3.out).mono ?_); rintro e w22 ⟨rfl, hb⟩; have n0_ := Aside0.mk (below_step (by repeat (first | (with_reducible first | exact HB.out | apply below_alloc | apply pw_below_drewN | apply below_drew1) | exact HB.out)) hb); clear HB; have HB := n0_; clear n0_; (try clear hb); (try clear hb2); (try clear hk); (try clear hi)) | (go_at_call 42; (with_reducible refine (gaolerlaw03_of.calls k (⟨#[43, 120]⟩ : ByteArray) 420 false 63 t347 _ A5.out).mono ?_); rintro e w23 ⟨rfl, hb⟩; have n0_ := Aside0.mk (below_step (by repeat (first | (with_reducible first | exact HB.out | apply below_alloc | apply pw_below_drewN | apply below_drew1) | exact HB.out)) hb); clear HB; have HB := n0_; clear n0_; (try clear hb); (try clear hb2); (try clear hk); (try clear hi)) | (go_at_call 42; (with_reducible refine (gaolerlaw03_of.calls k (⟨#[97, 43, 88]⟩ : ByteArray) 420 false 0 t348 _ A7.out).mono ?_); rintro e w24 ⟨rfl, hb⟩; have n0_ := Aside0.mk (below_step (by repeat (first | (with_reducible first | exact HB.out | apply below_alloc | apply pw_below_drewN | apply below_drew1) | exact HB.out)) hb); clear HB; have HB := n0_; clear n0_; (try clear hb); (try clear hb2); (try clear hk); (try clear hi)) | (go_at_call 42; (with_reducible refine (gaolerlaw03_of.calls k (⟨#[97, 43, 88]⟩ : ByteArray) 420 true 0 t349 _ A9.out).mono ?_); rintro e w25 ⟨rfl, hb⟩; have n0_ := Aside0.mk (below_step (by repeat (first | (with_reducible first | exact HB.out | apply below_alloc | apply pw_below_drewN | apply below_drew1) | exact HB.out)) hb); clear HB; have HB := n0_; clear n0_; (try clear hb); (try clear hb2); (try clear hk); (try clear hi)) | (go_at_call 42; (with_reducible refine (gaolerlaw03_of.calls k (⟨#[48, 55, 53, 53]⟩ : ByteArray) 1 false 0 t350 _ A11.out).mono ?_); rintro e w26 ⟨rfl, hb⟩; have n0_ := Aside0.mk (below_step (by repeat (first | (with_reducible first | exact HB.out | apply below_alloc | apply pw_below_drewN | apply below_drew1) | exact HB.out)) hb); clear HB; have HB := n0_; clear n0_; (try clear hb); (try clear hb2); (try clear hk); (try clear hi)))
              go_ret
              exact ⟨by first | rfl | (simp [errW_none, errW_some] <;> rfl) | (simp [*, errW_none, errW_some] <;> rfl), by repeat (first | (with_reducible first | exact HB.out | apply below_alloc | apply pw_below_drewN | apply below_drew1) | exact HB.out)⟩
          · rw [if_neg c10] at H
            have c10b0 : (t349 == 493) = false := beq_eq_false_iff_ne.mpr c10
            have c10b1 : (t349 != 493) = true := bne_iff_ne.mpr c10
            obtain rfl := Option.some.inj H
            go_enter Tryd.func23, Tryd.ntmps23
            go_wp2_with (first | ((with_reducible refine gate_callee (f := 42) rfl ?_); refine goesL_ (some 1) rfl rfl Tryd.func42 (by kernel_rfl) rfl #[.string (⟨#[117, 61, 103]⟩ : ByteArray), .int .i64 416, .bool false, .int .i64 0] rfl (by (try simp only [List.map_toArray, List.map_cons, List.map_nil]); first | done | rfl | (simp only [List.length_drop, List.length_take]; rfl)) ?_; (with_reducible refine (gaolerlaw03_of.calls k (⟨#[117, 61, 103]⟩ : ByteArray) 416 false 0 t345 _ A1.out).mono ?_); rintro e w27 ⟨rfl, hb⟩; refine ⟨_, rfl, ?_⟩; have n0_ := Aside0.mk (below_step (by repeat (first | (with_reducible first | exact HB.out | apply below_alloc | apply pw_below_drewN | apply below_drew1) | exact HB.out)) hb); clear HB; have HB := n0_; clear n0_; (try clear hb); (try clear hb2); (try clear hk); (try clear hi)) | (go_at_call 42; (with_reducible refine (gaolerlaw03_of.calls k (⟨#[43, 120]⟩ : ByteArray) 420 false 18 t346 _ A3.out).mono ?_); rintro e w28 ⟨rfl, hb⟩; have n0_ := Aside0.mk (below_step (by repeat (first | (with_reducible first | exact HB.out | apply below_alloc | apply pw_below_drewN | apply below_drew1) | exact HB.out)) hb); clear HB; have HB := n0_; clear n0_; (try clear hb); (try clear hb2); (try clear hk); (try clear hi)) | (go_at_call 42; (with_reducible refine (gaolerlaw03_of.calls k (⟨#[43, 120]⟩ : ByteArray) 420 false 63 t347 _ A5.out).mono ?_); rintro e w29 ⟨rfl, hb⟩; have n0_ := Aside0.mk (below_step (by repeat (first | (with_reducible first | exact HB.out | apply below_alloc | apply pw_below_drewN | apply below_drew1) | exact HB.out)) hb); clear HB; have HB := n0_; clear n0_; (try clear hb); (try clear hb2); (try clear hk); (try clear hi)) | (go_at_call 42; (with_reducible refine (gaolerlaw03_of.calls k (⟨#[97, 43, 88]⟩ : ByteArray) 420 false 0 t348 _ A7.out).mono ?_); rintro e w30 ⟨rfl, hb⟩; have n0_ := Aside0.mk (below_step (by repeat (first | (with_reducible first | exact HB.out | apply below_alloc | apply pw_below_drewN | apply below_drew1) | exact HB.out)) hb); clear HB; have HB := n0_; clear n0_; (try clear hb); (try clear hb2); (try clear hk); (try clear hi)) | (go_at_call 42; (with_reducible refine (gaolerlaw03_of.calls k (⟨#[97, 43, 88]⟩ : ByteArray) 420 true 0 t349 _ A9.out).mono ?_); rintro e w31 ⟨rfl, hb⟩; have n0_ := Aside0.mk (below_step (by repeat (first | (with_reducible first | exact HB.out | apply below_alloc | apply pw_below_drewN | apply below_drew1) | exact HB.out)) hb); clear HB; have HB := n0_; clear n0_; (try clear hb); (try clear hb2); (try clear hk); (try clear hi)))
            go_ret
            exact ⟨by first | rfl | (simp [errW_none, errW_some] <;> rfl) | (simp [*, errW_none, errW_some] <;> rfl), by repeat (first | (with_reducible first | exact HB.out | apply below_alloc | apply pw_below_drewN | apply below_drew1) | exact HB.out)⟩
        · rw [if_neg c8] at H
          have c8b0 : (t348 == 420) = false := beq_eq_false_iff_ne.mpr c8
          have c8b1 : (t348 != 420) = true := bne_iff_ne.mpr c8
          obtain rfl := Option.some.inj H
          go_enter Tryd.func23, Tryd.ntmps23
          go_wp2_with (first | ((with_reducible refine gate_callee (f := 42) rfl ?_); refine goesL_ (some 1) rfl rfl Tryd.func42 (by kernel_rfl) rfl #[.string (⟨#[117, 61, 103]⟩ : ByteArray), .int .i64 416, .bool false, .int .i64 0] rfl (by (try simp only [List.map_toArray, List.map_cons, List.map_nil]); first | done | rfl | (simp only [List.length_drop, List.length_take]; rfl)) ?_; (with_reducible refine (gaolerlaw03_of.calls k (⟨#[117, 61, 103]⟩ : ByteArray) 416 false 0 t345 _ A1.out).mono ?_); rintro e w32 ⟨rfl, hb⟩; refine ⟨_, rfl, ?_⟩; have n0_ := Aside0.mk (below_step (by repeat (first | (with_reducible first | exact HB.out | apply below_alloc | apply pw_below_drewN | apply below_drew1) | exact HB.out)) hb); clear HB; have HB := n0_; clear n0_; (try clear hb); (try clear hb2); (try clear hk); (try clear hi)) | (go_at_call 42; (with_reducible refine (gaolerlaw03_of.calls k (⟨#[43, 120]⟩ : ByteArray) 420 false 18 t346 _ A3.out).mono ?_); rintro e w33 ⟨rfl, hb⟩; have n0_ := Aside0.mk (below_step (by repeat (first | (with_reducible first | exact HB.out | apply below_alloc | apply pw_below_drewN | apply below_drew1) | exact HB.out)) hb); clear HB; have HB := n0_; clear n0_; (try clear hb); (try clear hb2); (try clear hk); (try clear hi)) | (go_at_call 42; (with_reducible refine (gaolerlaw03_of.calls k (⟨#[43, 120]⟩ : ByteArray) 420 false 63 t347 _ A5.out).mono ?_); rintro e w34 ⟨rfl, hb⟩; have n0_ := Aside0.mk (below_step (by repeat (first | (with_reducible first | exact HB.out | apply below_alloc | apply pw_below_drewN | apply below_drew1) | exact HB.out)) hb); clear HB; have HB := n0_; clear n0_; (try clear hb); (try clear hb2); (try clear hk); (try clear hi)) | (go_at_call 42; (with_reducible refine (gaolerlaw03_of.calls k (⟨#[97, 43, 88]⟩ : ByteArray) 420 false 0 t348 _ A7.out).mono ?_); rintro e w35 ⟨rfl, hb⟩; have n0_ := Aside0.mk (below_step (by repeat (first | (with_reducible first | exact HB.out | apply below_alloc | apply pw_below_drewN | apply below_drew1) | exact HB.out)) hb); clear HB; have HB := n0_; clear n0_; (try clear hb); (try clear hb2); (try clear hk); (try clear hi)))
          go_ret
          exact ⟨by first | rfl | (simp [errW_none, errW_some] <;> rfl) | (simp [*, errW_none, errW_some] <;> rfl), by repeat (first | (with_reducible first | exact HB.out | apply below_alloc | apply pw_below_drewN | apply below_drew1) | exact HB.out)⟩
      · rw [if_neg c6] at H
        have c6b0 : (t347 == 484) = false := beq_eq_false_iff_ne.mpr c6
        have c6b1 : (t347 != 484) = true := bne_iff_ne.mpr c6
        obtain rfl := Option.some.inj H
        go_enter Tryd.func23, Tryd.ntmps23
        go_wp2_with (first | ((with_reducible refine gate_callee (f := 42) rfl ?_); refine goesL_ (some 1) rfl rfl Tryd.func42 (by kernel_rfl) rfl #[.string (⟨#[117, 61, 103]⟩ : ByteArray), .int .i64 416, .bool false, .int .i64 0] rfl (by (try simp only [List.map_toArray, List.map_cons, List.map_nil]); first | done | rfl | (simp only [List.length_drop, List.length_take]; rfl)) ?_; (with_reducible refine (gaolerlaw03_of.calls k (⟨#[117, 61, 103]⟩ : ByteArray) 416 false 0 t345 _ A1.out).mono ?_); rintro e w36 ⟨rfl, hb⟩; refine ⟨_, rfl, ?_⟩; have n0_ := Aside0.mk (below_step (by repeat (first | (with_reducible first | exact HB.out | apply below_alloc | apply pw_below_drewN | apply below_drew1) | exact HB.out)) hb); clear HB; have HB := n0_; clear n0_; (try clear hb); (try clear hb2); (try clear hk); (try clear hi)) | (go_at_call 42; (with_reducible refine (gaolerlaw03_of.calls k (⟨#[43, 120]⟩ : ByteArray) 420 false 18 t346 _ A3.out).mono ?_); rintro e w37 ⟨rfl, hb⟩; have n0_ := Aside0.mk (below_step (by repeat (first | (with_reducible first | exact HB.out | apply below_alloc | apply pw_below_drewN | apply below_drew1) | exact HB.out)) hb); clear HB; have HB := n0_; clear n0_; (try clear hb); (try clear hb2); (try clear hk); (try clear hi)) | (go_at_call 42; (with_reducible refine (gaolerlaw03_of.calls k (⟨#[43, 120]⟩ : ByteArray) 420 false 63 t347 _ A5.out).mono ?_); rintro e w38 ⟨rfl, hb⟩; have n0_ := Aside0.mk (below_step (by repeat (first | (with_reducible first | exact HB.out | apply below_alloc | apply pw_below_drewN | apply below_drew1) | exact HB.out)) hb); clear HB; have HB := n0_; clear n0_; (try clear hb); (try clear hb2); (try clear hk); (try clear hi)))
        go_ret
        exact ⟨by first | rfl | (simp [errW_none, errW_some] <;> rfl) | (simp [*, errW_none, errW_some] <;> rfl), by repeat (first | (with_reducible first | exact HB.out | apply below_alloc | apply pw_below_drewN | apply below_drew1) | exact HB.out)⟩
    · rw [if_neg c4] at H
      have c4b0 : (t346 == 493) = false := beq_eq_false_iff_ne.mpr c4
      have c4b1 : (t346 != 493) = true := bne_iff_ne.mpr c4
      obtain rfl := Option.some.inj H
      go_enter Tryd.func23, Tryd.ntmps23
      go_wp2_with (first | ((with_reducible refine gate_callee (f := 42) rfl ?_); refine goesL_ (some 1) rfl rfl Tryd.func42 (by kernel_rfl) rfl #[.string (⟨#[117, 61, 103]⟩ : ByteArray), .int .i64 416, .bool false, .int .i64 0] rfl (by (try simp only [List.map_toArray, List.map_cons, List.map_nil]); first | done | rfl | (simp only [List.length_drop, List.length_take]; rfl)) ?_; (with_reducible refine (gaolerlaw03_of.calls k (⟨#[117, 61, 103]⟩ : ByteArray) 416 false 0 t345 _ A1.out).mono ?_); rintro e w39 ⟨rfl, hb⟩; refine ⟨_, rfl, ?_⟩; have n0_ := Aside0.mk (below_step (by repeat (first | (with_reducible first | exact HB.out | apply below_alloc | apply pw_below_drewN | apply below_drew1) | exact HB.out)) hb); clear HB; have HB := n0_; clear n0_; (try clear hb); (try clear hb2); (try clear hk); (try clear hi)) | (go_at_call 42; (with_reducible refine (gaolerlaw03_of.calls k (⟨#[43, 120]⟩ : ByteArray) 420 false 18 t346 _ A3.out).mono ?_); rintro e w40 ⟨rfl, hb⟩; have n0_ := Aside0.mk (below_step (by repeat (first | (with_reducible first | exact HB.out | apply below_alloc | apply pw_below_drewN | apply below_drew1) | exact HB.out)) hb); clear HB; have HB := n0_; clear n0_; (try clear hb); (try clear hb2); (try clear hk); (try clear hi)))
      go_ret
      exact ⟨by first | rfl | (simp [errW_none, errW_some] <;> rfl) | (simp [*, errW_none, errW_some] <;> rfl), by repeat (first | (with_reducible first | exact HB.out | apply below_alloc | apply pw_below_drewN | apply below_drew1) | exact HB.out)⟩
  · rw [if_neg c2] at H
    have c2b0 : (t345 == 288) = false := beq_eq_false_iff_ne.mpr c2
    have c2b1 : (t345 != 288) = true := bne_iff_ne.mpr c2
    obtain rfl := Option.some.inj H
    go_enter Tryd.func23, Tryd.ntmps23
    go_wp2_with (first | ((with_reducible refine gate_callee (f := 42) rfl ?_); refine goesL_ (some 1) rfl rfl Tryd.func42 (by kernel_rfl) rfl #[.string (⟨#[117, 61, 103]⟩ : ByteArray), .int .i64 416, .bool false, .int .i64 0] rfl (by (try simp only [List.map_toArray, List.map_cons, List.map_nil]); first | done | rfl | (simp only [List.length_drop, List.length_take]; rfl)) ?_; (with_reducible refine (gaolerlaw03_of.calls k (⟨#[117, 61, 103]⟩ : ByteArray) 416 false 0 t345 _ A1.out).mono ?_); rintro e w41 ⟨rfl, hb⟩; refine ⟨_, rfl, ?_⟩; have n0_ := Aside0.mk (below_step (by repeat (first | (with_reducible first | exact HB.out | apply below_alloc | apply pw_below_drewN | apply below_drew1) | exact HB.out)) hb); clear HB; have HB := n0_; clear n0_; (try clear hb); (try clear hb2); (try clear hk); (try clear hi)))
    go_ret
    exact ⟨by first | rfl | (simp [errW_none, errW_some] <;> rfl) | (simp [*, errW_none, errW_some] <;> rfl), by repeat (first | (with_reducible first | exact HB.out | apply below_alloc | apply pw_below_drewN | apply below_drew1) | exact HB.out)⟩
/-! ### gaolerref01_ReadOctal: function 44 -/
mutual
def gaolerref01_ReadOctal.j0 : Nat → ByteArray → Int → Bool → Option (Int)
  | 0, _, _, _ => none
  | k + 1, x0, x3, x11 => if x11 = true then (some (-1)) else (gaolerref01_ReadOctal.l0 k x0 x3 0)
def gaolerref01_ReadOctal.l0 : Nat → ByteArray → Int → Int → Option (Int)
  | 0, _, _, _ => none
  | k + 1, x0, x3, x4 => if x4 < (x0.size : Int) then (if 0 ≤ x4 then (if (bt x0 x4) < 48 then (some (-1)) else (if (bt x0 x4) > 55 then (some (-1)) else (gaolerref01_ReadOctal.l0 k x0 (wrap64 ((wrap64 ((wrap64 (x3 * 8)) + (wrap64 (bt x0 x4)))) - 48)) (wrap64 (x4 + 1))))) else (none)) else (if x3 > 4095 then (some (-1)) else (some x3))
end
def gaolerref01_ReadOctal.f (k : Nat) (a0 : ByteArray) : Option (Int) := if a0.toList = ([] : List UInt8) then (gaolerref01_ReadOctal.j0 k a0 0 true) else (gaolerref01_ReadOctal.j0 k a0 0 (decide ((a0.size : Int) > 8)))
end Go.Proofs.YtlohbepfecahdaaDoor.S
