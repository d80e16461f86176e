-- Written by wip/tools/myprint.py, a session's own driver of the kit's printer.
import Derived.ArgAppend
import Derived.Below
import Derived.BigQuiet
import Derived.Deep.AppendLies
import Derived.Deep.CutBlock
import Derived.Deep.DeepCutAuto
import Derived.Deep.Draws
import Derived.Deep.LoopGhost
import Derived.Deep.OwnRows
import Derived.Deep.QuietTactic
import Derived.Deep.RegionHeld3
import Derived.Handy
import Derived.KernelRfl
import Derived.Laws.BitsAllLaws
import Derived.Laws.BitsLemmas
import Derived.Laws.BytesArg
import Derived.Laws.IdiomCopy
import Derived.Laws.MakeOwn
import Derived.Laws.OwnMore
import Derived.Laws.RangeAny
import Derived.Laws.Rows
import Derived.Laws.Slices
import Derived.Laws.StructEq
import Derived.Lib.AppendStr
import Derived.Lib.ConvBytes
import Derived.Lib.FieldsP
import Derived.Lib.Hide
import Derived.Lib.IndexAny
import Derived.Lib.OthersKept
import Derived.Lib.SlBytesConst
import Derived.Lib.SpaceUEq
import Derived.Maps.AppendAt
import Derived.OneCell
import Derived.OrdersHeld
import Derived.OwnWalk
import Derived.RowKit
import Derived.RowKit3
import Derived.Shelf.LaysM
import Derived.Shelf.Small.Strs
import Derived.Shelf.Small.Utf8
import Derived.Shelf.Strings.Builder1
import Derived.Shelf.Strings.Builder2
import Derived.Shelf.Strings.BuilderF
import Derived.Shelf.Strings.BuilderK
import Derived.Shelf.Strings.Count
import Derived.Shelf.Strings.OnBuilder
import Derived.Shelf.Strings.Runes
import Derived.Shelf.Strings.Search1
import Derived.Shelf.Strings.Search2
import Derived.Shelf.Strings.Search3
import Derived.Shelf.Strings.Shaped
import Derived.Shelf.Strings.Split
import Derived.Shelf.Strings.SplitShaped
import Derived.Shelf.Unicode.DecodeSlow
import Derived.Tactics
import Derived.Test.YtlohbepfecahdaaDoorProg
import Derived.WalkKit
import Derived.WideLaws
import Derived.Test.YtlohbepfecahdaaDoorZdWWords
import Derived.Test.YtlohbepfecahdaaDoorZdWLast
import Derived.Test.YtlohbepfecahdaaDoorZdWApart
import Derived.Test.YtlohbepfecahdaaDoorZdWFoot
import Derived.Test.YtlohbepfecahdaaDoorZdWMore
import Derived.Test.YtlohbepfecahdaaDoorZdB
import Derived.Test.YtlohbepfecahdaaDoorZdC
import Derived.Test.YtlohbepfecahdaaDoorZdShelf
import Derived.Test.YtlohbepfecahdaaDoorZdD
import Derived.Test.YtlohbepfecahdaaDoorZdWTab
import Derived.Test.YtlohbepfecahdaaDoorZdWEqStruct
import Derived.Test.YtlohbepfecahdaaDoorZdWRepsOne
import Derived.Test.YtlohbepfecahdaaDoorZdWGuard
import Derived.Test.YtlohbepfecahdaaDoorZdS0
import Derived.Test.YtlohbepfecahdaaDoorZdS8
namespace Go.Proofs.YtlohbepfecahdaaDoor.S
open Go.RowKit Go.Proofs.YtlohbepfecahdaaDoorW.PrintWords Go.Proofs.YtlohbepfecahdaaDoorW.PrintLast Go.Proofs.YtlohbepfecahdaaDoorW.PrintMore
set_option linter.unusedVariables false
set_option linter.unusedSimpArgs false
/-! ### gaolerref02_Parse: function 16 -/
def gaolerref02_Parse.l0 : Nat → List (S72) → ByteArray → Int → Int → Option ((List (S72)) × Bool)
  | 0, _, _, _, _ => none
  | k + 1, x4, x5, x6, x7 => if x7 < (x5.size : Int) then (if 0 ≤ x7 then (if (bt x5 x7) = 44 then (if 0 ≤ x6 then (if x6 ≤ x7 then (if x7 ≤ (x5.size : Int) then ((gaolerref02_one.f k (x5.extract (x6 : Int).toNat (x7 : Int).toNat)).bind fun bt175 => (if bt175.2.2 = true then (if x4.length < 4398046511104 then (gaolerref02_Parse.l0 k (x4 ++ [(⟨bt175.1, bt175.2.1⟩ : S72)]) x5 (wrap64 (x7 + 1)) (wrap64 (x7 + 1))) else (none)) else (some (([] : List (S72)), false)))) else (none)) else (none)) else (none)) else (gaolerref02_Parse.l0 k x4 x5 x6 (wrap64 (x7 + 1)))) else (none)) else (some (x4, true))
def gaolerref02_Parse.f (k : Nat) (a0 : ByteArray) : Option ((List (S72)) × Bool) := if a0.size + 1 ≤ 9223372036854775807 then (gaolerref02_Parse.l0 k ([] : List (S72)) (a0 ++ (⟨#[44]⟩ : ByteArray)) 0 0) else (none)
set_option maxHeartbeats 8000000 in
set_option maxRecDepth 100000 in
theorem gaolerref02_Parse.calls (k : Nat) (a0 : ByteArray) (r1 : List (S72)) (r2 : Bool) (w : World) (h : gaolerref02_Parse.f k a0 = some (r1, r2)) :
    Calls Tryd.prog 16 #[.string a0] w fun e w' => ∃ v0_ : Value, e = .returned (.tuple #[v0_, .bool r2]) ∧ Kd.S k72 72 w' w.heap.size (fun _ => True) v0_ r1 ∧ Below w.heap.size w w' := by
  have hu72 := Tryd.underlying72
  have HB := Aside0.mk (Below.refl w.heap.size w)
  have H : (if a0.size + 1 ≤ 9223372036854775807 then (gaolerref02_Parse.l0 k ([] : List (S72)) (a0 ++ (⟨#[44]⟩ : ByteArray)) 0 0) else (none)) = some (r1, r2) := h
  clear h
  by_cases c2 : a0.size + 1 ≤ 9223372036854775807
  · rw [if_pos c2] at H
    have c2b0 := eq_true c2
    have c2b1 : decide (a0.size + 1 ≤ 9223372036854775807) = true := decide_eq_true c2
    try have c2b2 : (9223372036854775807 < a0.size + 1) = False := eq_false (Nat.not_lt.2 c2)
    obtain ⟨yT, hyT⟩ : ∃ y_ : ByteArray, (a0 ++ (⟨#[44]⟩ : ByteArray)) = y_ := ⟨_, rfl⟩
    rw [hyT] at H
    have H' := Aside0.mk H
    clear H
    go_enter Tryd.func16, Tryd.ntmps16
    go_wp2
    (try rw [hyT])
    clear hyT
    go_loopg [4, 6, 7] k (fun kq v4 v6 v7 w' => ∃ (x4_1 : List (S72)) (x6_1 : Int) (x7_1 : Int), v6 = .int .i64 x6_1 ∧ v7 = .int .i64 x7_1 ∧ Aside0 (gaolerref02_Parse.l0 kq x4_1 yT x6_1 x7_1 = some (r1, r2)) ∧ Aside0 (kq ≤ k) ∧ Aside0 (Kd.S k72 72 w' w.heap.size (fun _ => True) v4 x4_1) ∧ Aside0 (Below w.heap.size w w'))
    case atStart => exact ⟨(([] : List (S72))), (0), (0), (by first | rfl | (simp; done) | (simp [*]; done)), (by first | rfl | (simp; done) | (simp [*]; done)), H', ⟨Nat.le_refl _⟩, ⟨by first | exact Kd.S_nil _ _ _ _ _ | exact Kd.N_nil _ _ _ _ _ | exact Kd.V_nil _ _ _ _ _ | exact Kd.Q_nil _ _ _ _ _ | exact Kd.R_nil _ _ _ _ _⟩, ⟨by repeat (first | (with_reducible first | exact HB.out | apply below_alloc | apply pw_below_drewN | apply below_drew1) | exact HB.out)⟩⟩
    case round =>
      clear H'
      try clear c1
      try clear c2
      try clear c2b0
      try clear c2b1
      try clear c2b2
      try clear p2
      obtain ⟨x4_1, x6_1, x7_1, rfl, rfl, HA, HK1, HO_4, HB⟩ := hrel
      cases gk with
      | zero => exact absurd HA.out (by simp [gaolerref02_Parse.l0])
      | succ k1 =>
        have H := HA.out
        clear HA
        simp only [gaolerref02_Parse.l0] at H
        by_cases c3 : x7_1 < (yT.size : Int)
        · rw [if_pos c3] at H
          have c3b0 : decide (x7_1 < (yT.size : Int)) = true := decide_eq_true c3
          clear c3
          by_cases c4 : 0 ≤ x7_1
          · rw [if_pos c4] at H
            have c4b0 : decide (0 ≤ x7_1) = true := decide_eq_true c4
            clear c4
            by_cases c6 : (bt yT x7_1) = 44
            · rw [if_pos c6] at H
              have c6b0 : ((bt yT x7_1) == 44) = true := beq_iff_eq.mpr c6
              have c6b1 : ((bt yT x7_1) != 44) = false := bne_eq_false_iff_eq.mpr c6
              clear c6
              by_cases c7 : 0 ≤ x6_1
              · rw [if_pos c7] at H
                have c7b0 := eq_true c7
                have c7b1 : decide (0 ≤ x6_1) = true := decide_eq_true c7
                clear c7
                by_cases c8 : x6_1 ≤ x7_1
                · rw [if_pos c8] at H
                  have c8b0 := eq_true c8
                  have c8b1 : decide (x6_1 ≤ x7_1) = true := decide_eq_true c8
                  clear c8
                  by_cases c9 : x7_1 ≤ (yT.size : Int)
                  · rw [if_pos c9] at H
                    have c9b0 := eq_true c9
                    have c9b1 : decide (x7_1 ≤ (yT.size : Int)) = true := decide_eq_true c9
                    replace H := Option.bind_eq_some_iff.mp H
                    obtain ⟨⟨t175, t176, t179⟩, A100, H⟩ := H
                    replace H : (if t179 = true then (if x4_1.length < 4398046511104 then (gaolerref02_Parse.l0 k1 (x4_1 ++ [(⟨t175, t176⟩ : S72)]) yT (wrap64 (x7_1 + 1)) (wrap64 (x7_1 + 1))) else (none)) else (some (([] : List (S72)), false))) = some (r1, r2) := H
                    have A10 := Aside0.mk A100
                    clear A100
                    by_cases c11 : t179 = true
                    · subst c11
                      have H1 : (if x4_1.length < 4398046511104 then (gaolerref02_Parse.l0 k1 (x4_1 ++ [(⟨t175, t176⟩ : S72)]) yT (wrap64 (x7_1 + 1)) (wrap64 (x7_1 + 1))) else (none)) = some (r1, r2) := by rw [if_pos rfl] at H; exact H
                      clear H
                      have H := H1
                      clear H1
                      by_cases c12 : x4_1.length < 4398046511104
                      · rw [if_pos c12] at H
                        have LMc12 := Aside0.mk c12
                        clear c12
                        obtain ⟨y181, hy181⟩ : ∃ y_ : List (S72), y_ = (x4_1 ++ [(⟨t175, t176⟩ : S72)]) := ⟨_, rfl⟩
                        replace H : (gaolerref02_Parse.l0 k1 y181 yT (wrap64 (x7_1 + 1)) (wrap64 (x7_1 + 1))) = some (r1, r2) := by first | (rw [hy181]; with_reducible exact H) | (have H2_ := (Option.bind_some _ _).symm.trans H; rw [hy181]; with_reducible exact H2_) | (have H2_ := (Option.bind_some _ _).symm.trans H; with_reducible exact H2_) | with_reducible exact H | (rw [hy181]; exact H) | exact H
                        have Ny181 := Aside0.mk hy181
                        clear hy181
                        have H' := Aside0.mk H
                        clear H
                        have p5 : 0 ≤ (x7_1 : Int) := of_decide_eq_true (by first | (with_reducible assumption) | assumption)
                        have q5 : x7_1 < (yT.size : Int) := of_decide_eq_true (by first | (with_reducible assumption) | assumption)
                        have hx5 := bt_at yT x7_1
                        replace p5 := eq_true p5
                        replace q5 := eq_true q5
                        go_wp2_with (first | ((with_reducible refine gate_callee (f := 36) rfl ?_); refine goesL_ (some 27) rfl rfl Tryd.func36 (by kernel_rfl) rfl #[.string (yT.extract (x6_1 : Int).toNat (x7_1 : Int).toNat)] rfl (by (try simp only [List.map_toArray, List.map_cons, List.map_nil]); first | done | rfl | (simp only [List.length_drop, List.length_take]; rfl)) ?_; (with_reducible refine (gaolerref02_one.calls k1 (yT.extract (x6_1 : Int).toNat (x7_1 : Int).toNat) t175 t176 true _ A10.out).mono ?_); rintro e w13 ⟨v177, rfl, ho0, hb⟩; refine ⟨_, rfl, ?_⟩; have n0_ := Aside0.mk (Kd.S_elder' (by (with_reducible repeat (first | apply Kd.S_alloc | apply Kd.S_drewN | apply Kd.S_drew)); exact HO_4.out) (Kd.R_base ho0) hb); have n1_ := Aside0.mk (Kd.R_lower ho0 (below_size (by repeat (first | (with_reducible first | exact HB.out | apply below_alloc | apply pw_below_drewN | apply below_drew1) | exact HB.out)))); have n2_ := Aside0.mk (below_step (by repeat (first | (with_reducible first | exact HB.out | apply below_alloc | apply pw_below_drewN | apply below_drew1) | exact HB.out)) hb); clear HO_4; clear HB; have HO_4 := n0_; have HO178 := n1_; have HB := n2_; clear n0_ n1_ n2_; (try clear hb); (try clear hb2); (try clear hk); (try clear hi); (try clear ho0)) | ((with_reducible refine gate_dst (N := 8) rfl ?_); refine box_event ?hg (N := 8) ?hd (cs := #[.int .i64 0, .slice none 0 0]) (t := 72) ?hr ?_; (case hd => rfl); (case hg => rfl); (case hr => first | (go_simp; done) | (go_simp; rfl)); intro gb180 hg w14 hbox hb; have n0_ := Aside0.mk (Kd.S_below (Kd.S_elderB (by (with_reducible repeat (first | apply Kd.S_alloc | apply Kd.S_drewN | apply Kd.S_drew)); exact HO_4.out) gb180 (Nat.le_of_eq hg.symm)) hb); have n1_ := Aside0.mk (Kd.R_below (by (with_reducible repeat (first | apply Kd.R_alloc | apply Kd.R_drewN | apply Kd.R_drew)); exact HO178.out) hb); have n2_ := Aside0.mk (below_step (by repeat (first | (with_reducible first | exact HB.out | apply below_alloc | apply pw_below_drewN | apply below_drew1) | exact HB.out)) hb); have n3_ := Aside0.mk (hbox); have n4_ := Aside0.mk ((by rw [hg]; exact (below_size (by repeat (first | (with_reducible first | exact HB.out | apply below_alloc | apply pw_below_drewN | apply below_drew1) | exact HB.out))) : w.heap.size ≤ gb180)); have n5_ := Aside0.mk ((by rw [hg]; exact (below_size (by repeat (first | (with_reducible first | exact HB.out | apply below_alloc | apply pw_below_drewN | apply below_drew1) | exact HB.out))) : w.heap.size ≤ gb180)); clear HO_4; clear HO178; clear HB; have HO_4 := n0_; have HO178 := n1_; have HB := n2_; have BK180 := n3_; have GW180 := n4_; have GE180 := n5_; clear n0_ n1_ n2_ n3_ n4_ n5_; clear hb hbox hg; have hcz15_0 : w14.cell? ⟨gb180, 0, none⟩ = some (.int .i64 0) := (blk_cell BK180.out 0).trans rfl; have hcz15_1 : w14.cell? ⟨gb180, 1, none⟩ = some (.slice none 0 0) := (blk_cell BK180.out 1).trans rfl; have hfz15_0 := blk_frozen BK180.out 0; have hfz15_1 := blk_frozen BK180.out 1; obtain ⟨Ao16, co16, eo16⟩ := Kd.R_slice HO178.out; subst eo16) | ((with_reducible refine gate_store (t := 72) (p := 8) rfl ?_); refine store_event (t := 72) (p := 8) (v := ?vo_w17) (w1 := ((w14.setCell ⟨gb180, 0, none⟩ (.int .i64 t175)).setCell ⟨gb180, 1, none⟩ (.slice Ao16 t176.length co16))) ?hg ?ho ?hn ?hr ?_; (case ho => rfl); (case hg => rfl); (case hn => rfl); (case hr => first | (go_simp; done) | (go_simp; rfl)); intro w17 hw; have n0_ : Aside0 (Kd.S k72 72 w17 w.heap.size (fun k_ => some k_ ≠ (.slice Ao16 t176.length co16 : Value).ownBlock ∧ k_ ≠ gb180) u4 x4_1) := ⟨(by rw [hw]; exact (by (with_reducible repeat (first | apply Kd.S_alloc | apply Kd.S_drewN | apply Kd.S_drew)); exact Kd.S_mono (Kd.S_far (p := ⟨gb180, 1, none⟩) (Kd.S_far (p := ⟨gb180, 0, none⟩) (Kd.S_mono HO_4.out (fun k_ hk => (⟨hk, hk.2⟩ : _ ∧ k_ ≠ gb180))) (fun _ hk => hk.2) (.int .i64 t175)) (fun _ hk => hk.2) (.slice Ao16 t176.length co16)) (fun _ hk => ⟨hk.1.1.2, hk.1.2⟩)))⟩; have n1_ : Aside0 (Kd.R k75 75 w17 w.heap.size (fun _ => True) (.slice Ao16 t176.length co16) t176) := ⟨(by rw [hw]; exact (by (with_reducible repeat (first | apply Kd.R_alloc | apply Kd.R_drewN | apply Kd.R_drew)); exact Kd.R_mono (Kd.R_far (p := ⟨gb180, 1, none⟩) (Kd.R_far (p := ⟨gb180, 0, none⟩) (Kd.R_types HO178.out BK180.out (by decide)) (fun _ hk => hk.2) (.int .i64 t175)) (fun _ hk => hk.2) (.slice Ao16 t176.length co16)) (fun _ hk => trivial)))⟩; have n2_ : Aside0 (w17.heap[gb180]? = some (.cells #[.int .i64 t175, .slice Ao16 t176.length co16] 72 (0, 0))) := ⟨(by rw [hw]; exact (by (with_reducible repeat (first | refine blk_drewN ?_ _ | refine blk_drew ?_ | refine blk_alloc ?_ _)); refine blk_put (cs := #[.int .i64 t175, .slice none 0 0]) ?_ 1 _ rfl; (with_reducible repeat (first | refine blk_drewN ?_ _ | refine blk_drew ?_ | refine blk_alloc ?_ _)); refine blk_put (cs := #[.int .i64 0, .slice none 0 0]) ?_ 0 _ rfl; (with_reducible repeat (first | refine blk_drewN ?_ _ | refine blk_drew ?_ | refine blk_alloc ?_ _)); exact BK180.out))⟩; have n3_ : Aside0 (Below w.heap.size w w17) := ⟨(by rw [hw]; exact (by repeat (first | (with_reducible first | exact HB.out | apply below_alloc | apply pw_below_drewN | apply below_drew1 | refine below_set ?_ GE180.out) | exact HB.out)))⟩; clear hw; clear HO_4; clear HO178; clear BK180; clear HB; have HO_4 := n0_; have HO178 := n1_; have BK180 := n2_; have HB := n3_; clear n0_ n1_ n2_ n3_; have hcz18_0 : w17.cell? ⟨gb180, 0, none⟩ = some (.int .i64 t175) := (blk_cell BK180.out 0).trans rfl; have hcz18_1 : w17.cell? ⟨gb180, 1, none⟩ = some (.slice Ao16 t176.length co16) := (blk_cell BK180.out 1).trans rfl; have hfz18_0 := blk_frozen BK180.out 0; have hfz18_1 := blk_frozen BK180.out 1) | ((with_reducible refine gate_builtin (b := .append) (xs := #[.tmp 32, .tmp 34]) rfl ?_); at_builtin; refine Kd.S_append k72 (w0 := w) w.heap.size rfl (.tmp 32) (.tmp 34) 27 72 (.agg #[(.int .i64 0), (.slice none 0 0)]) 32 rfl Tryd.underlying27 info72 rfl (by decide) (by omega) u4 x4_1 (⟨t175, t176⟩ : S72) [.int .i64 t175, .slice Ao16 t176.length co16] (fun k_ => k_ ≠ gb180) (fun k_ => some k_ = (.slice Ao16 t176.length co16 : Value).ownBlock) rfl rfl ?aP (fun k_ hk_ => ((Kd.R_mono (ok' := fun k_ => ((fun k_ => k_ ≠ gb180)) k_ ∧ some k_ ≠ (u4 : Value).ownBlock) (Kd.R_types (Kd.R_apart' (HO178.out) (Kd.S_typed HO_4.out) (by decide)) BK180.out (by decide)) (fun k_ hk => ⟨hk.2, hk.1.2⟩))).1 k_ hk_.symm) ?aF ?aO ?aB ?aS ?aL ?_; (case aP => exact k72_mkM _ _ _ (⟨t175, t176⟩ : S72) (Kd.R_mono (Kd.R_tight rfl (Kd.R_mono (ok' := fun k_ => ((fun k_ => k_ ≠ gb180)) k_ ∧ some k_ ≠ (u4 : Value).ownBlock) (Kd.R_types (Kd.R_apart' (HO178.out) (Kd.S_typed HO_4.out) (by decide)) BK180.out (by decide)) (fun k_ hk => ⟨hk.2, hk.1.2⟩))) (fun _ h_ => h_))); (case aB => exact (by repeat (first | (with_reducible first | exact HB.out | apply below_alloc | apply pw_below_drewN | apply below_drew1 | refine below_set ?_ GE180.out) | exact HB.out))); (case aF => exact (fun k_ hk => Kd.freshB (g := gb180) (o := .cells #[.int .i64 t175, .slice Ao16 t176.length co16] 72 (0, 0)) (by (with_reducible repeat (first | refine blk_drewN ?_ _ | refine blk_drew ?_ | refine blk_alloc ?_ _)); exact BK180.out) k_ hk)); (case aO => exact (by (with_reducible repeat (first | apply Kd.S_alloc | apply Kd.S_drewN | apply Kd.S_drew)); exact Kd.S_mono HO_4.out (fun k_ hk => ⟨hk.2, fun e_ => hk.1 e_⟩))); (case aS => exact (below_size (by repeat (first | (with_reducible first | exact HB.out | apply below_alloc | apply pw_below_drewN | apply below_drew1 | refine below_set ?_ GE180.out) | exact HB.out)))); (case aL => have := LMc12.out; omega); intro v182 w19 ho hb hg hat; rw [← Ny181.out] at ho; have n0_ := Aside0.mk (blk_grown (g := gb180) (o := .cells #[.int .i64 t175, .slice Ao16 t176.length co16] 72 (0, 0)) (by (with_reducible repeat (first | refine blk_drewN ?_ _ | refine blk_drew ?_ | refine blk_alloc ?_ _)); exact BK180.out) hg (Kd.S_away HO_4.out (fun _ hk => hk.2))); have n1_ := Aside0.mk (hb); have n2_ := Aside0.mk (ho); clear BK180; clear HB; clear HO_4; clear HO178; have BK180 := n0_; have HB := n1_; have HO183 := n2_; clear n0_ n1_ n2_; clear ho hb hg hat))
                        go_roundg k1
                        case measure => have := HK1.out; omega
                        case rel => exact ⟨(y181), (wrap64 (x7_1 + 1)), (wrap64 (x7_1 + 1)), (by first | rfl | (simp; done) | (simp [*]; done)), (by first | rfl | (simp; done) | (simp [*]; done)), H', ⟨by have := HK1.out; omega⟩, ⟨by (with_reducible repeat (first | apply Kd.S_alloc | apply Kd.S_drewN | apply Kd.S_drew)); exact Kd.S_mono HO183.out (fun _ hk => trivial)⟩, ⟨by repeat (first | (with_reducible first | exact HB.out | apply below_alloc | apply pw_below_drewN | apply below_drew1 | refine below_set ?_ GE180.out) | exact HB.out)⟩⟩
                      · rw [if_neg c12] at H
                        exact absurd H (by simp)
                    · replace c11 := Bool.eq_false_iff.mpr c11
                      subst c11
                      have H1 : (some (([] : List (S72)), false)) = some (r1, r2) := by rw [if_neg (show ¬ (false = true) by decide)] at H; exact H
                      clear H
                      have H := H1
                      clear H1
                      simp only [Option.some.injEq, Prod.mk.injEq] at H
                      obtain ⟨rfl, rfl⟩ := H
                      have p5 : 0 ≤ (x7_1 : Int) := of_decide_eq_true (by first | (with_reducible assumption) | assumption)
                      have q5 : x7_1 < (yT.size : Int) := of_decide_eq_true (by first | (with_reducible assumption) | assumption)
                      have hx5 := bt_at yT x7_1
                      replace p5 := eq_true p5
                      replace q5 := eq_true q5
                      go_wp2_with (first | ((with_reducible refine gate_callee (f := 36) rfl ?_); refine goesL_ (some 27) rfl rfl Tryd.func36 (by kernel_rfl) rfl #[.string (yT.extract (x6_1 : Int).toNat (x7_1 : Int).toNat)] rfl (by (try simp only [List.map_toArray, List.map_cons, List.map_nil]); first | done | rfl | (simp only [List.length_drop, List.length_take]; rfl)) ?_; (with_reducible refine (gaolerref02_one.calls k1 (yT.extract (x6_1 : Int).toNat (x7_1 : Int).toNat) t175 t176 false _ A10.out).mono ?_); rintro e w20 ⟨v177, rfl, ho0, hb⟩; refine ⟨_, rfl, ?_⟩; have n0_ := Aside0.mk (Kd.S_elder' (by (with_reducible repeat (first | apply Kd.S_alloc | apply Kd.S_drewN | apply Kd.S_drew)); exact HO_4.out) (Kd.R_base ho0) hb); have n1_ := Aside0.mk (Kd.R_lower ho0 (below_size (by repeat (first | (with_reducible first | exact HB.out | apply below_alloc | apply pw_below_drewN | apply below_drew1) | exact HB.out)))); have n2_ := Aside0.mk (below_step (by repeat (first | (with_reducible first | exact HB.out | apply below_alloc | apply pw_below_drewN | apply below_drew1) | exact HB.out)) hb); clear HO_4; clear HB; have HO_4 := n0_; have HO178 := n1_; have HB := n2_; clear n0_ n1_ n2_; (try clear hb); (try clear hb2); (try clear hk); (try clear hi); (try clear ho0)) | ((with_reducible refine gate_dst (N := 8) rfl ?_); refine box_event ?hg (N := 8) ?hd (cs := #[.int .i64 0, .slice none 0 0]) (t := 72) ?hr ?_; (case hd => rfl); (case hg => rfl); (case hr => first | (go_simp; done) | (go_simp; rfl)); intro gb180 hg w21 hbox hb; have n0_ := Aside0.mk (Kd.S_below (Kd.S_elderB (by (with_reducible repeat (first | apply Kd.S_alloc | apply Kd.S_drewN | apply Kd.S_drew)); exact HO_4.out) gb180 (Nat.le_of_eq hg.symm)) hb); have n1_ := Aside0.mk (Kd.R_below (by (with_reducible repeat (first | apply Kd.R_alloc | apply Kd.R_drewN | apply Kd.R_drew)); exact HO178.out) hb); have n2_ := Aside0.mk (below_step (by repeat (first | (with_reducible first | exact HB.out | apply below_alloc | apply pw_below_drewN | apply below_drew1) | exact HB.out)) hb); have n3_ := Aside0.mk (hbox); have n4_ := Aside0.mk ((by rw [hg]; exact (below_size (by repeat (first | (with_reducible first | exact HB.out | apply below_alloc | apply pw_below_drewN | apply below_drew1) | exact HB.out))) : w.heap.size ≤ gb180)); have n5_ := Aside0.mk ((by rw [hg]; exact (below_size (by repeat (first | (with_reducible first | exact HB.out | apply below_alloc | apply pw_below_drewN | apply below_drew1) | exact HB.out))) : w.heap.size ≤ gb180)); clear HO_4; clear HO178; clear HB; have HO_4 := n0_; have HO178 := n1_; have HB := n2_; have BK180 := n3_; have GW180 := n4_; have GE180 := n5_; clear n0_ n1_ n2_ n3_ n4_ n5_; clear hb hbox hg; have hcz22_0 : w21.cell? ⟨gb180, 0, none⟩ = some (.int .i64 0) := (blk_cell BK180.out 0).trans rfl; have hcz22_1 : w21.cell? ⟨gb180, 1, none⟩ = some (.slice none 0 0) := (blk_cell BK180.out 1).trans rfl; have hfz22_0 := blk_frozen BK180.out 0; have hfz22_1 := blk_frozen BK180.out 1; obtain ⟨Ao23, co23, eo23⟩ := Kd.R_slice HO178.out; subst eo23))
                      go_ret2
                      exact ⟨_, by first | rfl | (simp [errW_none, errW_some] <;> rfl) | (simp [*, errW_none, errW_some] <;> rfl), by first | exact Kd.S_nil _ _ _ _ _ | exact Kd.N_nil _ _ _ _ _ | exact Kd.V_nil _ _ _ _ _ | exact Kd.Q_nil _ _ _ _ _ | exact Kd.R_nil _ _ _ _ _, by repeat (first | (with_reducible first | exact HB.out | apply below_alloc | apply pw_below_drewN | apply below_drew1 | refine below_set ?_ GE180.out) | exact HB.out)⟩
                  · rw [if_neg c9] at H
                    exact absurd H (by simp)
                · rw [if_neg c8] at H
                  exact absurd H (by simp)
              · rw [if_neg c7] at H
                exact absurd H (by simp)
            · rw [if_neg c6] at H
              have c6b0 : ((bt yT x7_1) == 44) = false := beq_eq_false_iff_ne.mpr c6
              have c6b1 : ((bt yT x7_1) != 44) = true := bne_iff_ne.mpr c6
              have H' := Aside0.mk H
              clear H
              have p5 : 0 ≤ (x7_1 : Int) := of_decide_eq_true (by first | (with_reducible assumption) | assumption)
              have q5 : x7_1 < (yT.size : Int) := of_decide_eq_true (by first | (with_reducible assumption) | assumption)
              have hx5 := bt_at yT x7_1
              replace p5 := eq_true p5
              replace q5 := eq_true q5
              go_wp2
              go_roundg k1
              case measure => have := HK1.out; omega
              case rel => exact ⟨(x4_1), (x6_1), (wrap64 (x7_1 + 1)), (by first | rfl | (simp; done) | (simp [*]; done)), (by first | rfl | (simp; done) | (simp [*]; done)), H', ⟨by have := HK1.out; omega⟩, ⟨by (with_reducible repeat (first | apply Kd.S_alloc | apply Kd.S_drewN | apply Kd.S_drew)); exact HO_4.out⟩, ⟨by repeat (first | (with_reducible first | exact HB.out | apply below_alloc | apply pw_below_drewN | apply below_drew1) | exact HB.out)⟩⟩
          · rw [if_neg c4] at H
            exact absurd H (by simp)
        · rw [if_neg c3] at H
          have c3b0 : decide (x7_1 < (yT.size : Int)) = false := decide_eq_false c3
          clear c3
          simp only [Option.some.injEq, Prod.mk.injEq] at H
          obtain ⟨rfl, rfl⟩ := H
          go_wp2
          go_ret2
          exact ⟨_, by first | rfl | (simp [errW_none, errW_some] <;> rfl) | (simp [*, errW_none, errW_some] <;> rfl), by (with_reducible repeat (first | apply Kd.S_alloc | apply Kd.S_drewN | apply Kd.S_drew)); exact HO_4.out, by repeat (first | (with_reducible first | exact HB.out | apply below_alloc | apply pw_below_drewN | apply below_drew1) | exact HB.out)⟩
  · rw [if_neg c2] at H
    exact absurd H (by simp)
/-! ### gaolerlaw02_same: function 17 -/
mutual
def gaolerlaw02_same.l0 : Nat → List (S34) → List (S72) → Int → Option (Bool)
  | 0, _, _, _ => none
  | k + 1, x0, x1, x5 => if x5 < (x0.length : Int) then (if 0 ≤ x5 then (if x5 < (x1.length : Int) then (if ((rd_T34 x0 x5).f0) = ((rd_T72 x1 x5).f0) then (gaolerlaw02_same.j1 k x0 x1 x5 ((((rd_T34 x0 x5).f1).length : Int) != (((rd_T72 x1 x5).f1).length : Int))) else (gaolerlaw02_same.j1 k x0 x1 x5 true)) else (none)) else (none)) else (some true)
def gaolerlaw02_same.j1 : Nat → List (S34) → List (S72) → Int → Bool → Option (Bool)
  | 0, _, _, _, _ => none
  | k + 1, x0, x1, x5, x45 => if x45 = true then (some false) else (gaolerlaw02_same.l1 k x0 x1 x5 0)
def gaolerlaw02_same.l1 : Nat → List (S34) → List (S72) → Int → Int → Option (Bool)
  | 0, _, _, _, _ => none
  | k + 1, x0, x1, x5, x6 => if 0 ≤ x5 then (if x5 < (x0.length : Int) then (if x6 < (((rd_T34 x0 x5).f1).length : Int) then (if 0 ≤ x6 then (if x5 < (x1.length : Int) then (if x6 < (((rd_T72 x1 x5).f1).length : Int) then (if ((rd_T60 ((rd_T34 x0 x5).f1) x6).f0) = ((rd_T75 ((rd_T72 x1 x5).f1) x6).f0) then (if ((rd_T60 ((rd_T34 x0 x5).f1) x6).f1) = ((rd_T75 ((rd_T72 x1 x5).f1) x6).f1) then (if ((rd_T60 ((rd_T34 x0 x5).f1) x6).f2) = ((rd_T75 ((rd_T72 x1 x5).f1) x6).f2) then (gaolerlaw02_same.l1 k x0 x1 x5 (wrap64 (x6 + 1))) else (some false)) else (some false)) else (some false)) else (none)) else (none)) else (none)) else (gaolerlaw02_same.l0 k x0 x1 (wrap64 (x5 + 1)))) else (none)) else (none)
end
def gaolerlaw02_same.f (k : Nat) (l0 : List (S34)) (l1 : List (S72)) : Option (Bool) := if (l0.length : Int) = (l1.length : Int) then (gaolerlaw02_same.l0 k l0 l1 0) else (some false)
end Go.Proofs.YtlohbepfecahdaaDoor.S
