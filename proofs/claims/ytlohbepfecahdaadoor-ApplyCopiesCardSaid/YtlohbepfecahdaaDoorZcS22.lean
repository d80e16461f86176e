-- Written by wip/tools/myprint.py, a session's own driver of the kit's printer.
import Derived.ArgAppend
import Derived.Below
import Derived.BigQuiet
import Derived.Deep.AppendLies
import Derived.Deep.CutBlock
import Derived.Deep.DeepCutAuto
import Derived.Deep.Draws
import Derived.Deep.LoopGhost
import Derived.Deep.OwnRows
import Derived.Deep.QuietTactic
import Derived.Deep.RegionHeld3
import Derived.Handy
import Derived.KernelRfl
import Derived.Laws.BitsAllLaws
import Derived.Laws.BitsLemmas
import Derived.Laws.BytesArg
import Derived.Laws.IdiomCopy
import Derived.Laws.MakeOwn
import Derived.Laws.OwnMore
import Derived.Laws.RangeAny
import Derived.Laws.Rows
import Derived.Laws.Slices
import Derived.Laws.StructEq
import Derived.Lib.AppendStr
import Derived.Lib.ConvBytes
import Derived.Lib.FieldsP
import Derived.Lib.Hide
import Derived.Lib.IndexAny
import Derived.Lib.OthersKept
import Derived.Lib.SlBytesConst
import Derived.Lib.SpaceUEq
import Derived.Maps.AppendAt
import Derived.OneCell
import Derived.OrdersHeld
import Derived.OwnWalk
import Derived.RowKit
import Derived.RowKit3
import Derived.Shelf.LaysM
import Derived.Shelf.Small.Strs
import Derived.Shelf.Small.Utf8
import Derived.Shelf.Strings.Builder1
import Derived.Shelf.Strings.Builder2
import Derived.Shelf.Strings.BuilderF
import Derived.Shelf.Strings.BuilderK
import Derived.Shelf.Strings.Count
import Derived.Shelf.Strings.OnBuilder
import Derived.Shelf.Strings.Runes
import Derived.Shelf.Strings.Search1
import Derived.Shelf.Strings.Search2
import Derived.Shelf.Strings.Search3
import Derived.Shelf.Strings.Shaped
import Derived.Shelf.Strings.Split
import Derived.Shelf.Strings.SplitShaped
import Derived.Shelf.Unicode.DecodeSlow
import Derived.Tactics
import Derived.Test.YtlohbepfecahdaaDoorProg
import Derived.WalkKit
import Derived.WideLaws
import Derived.Test.YtlohbepfecahdaaDoorZcWWords
import Derived.Test.YtlohbepfecahdaaDoorZcWLast
import Derived.Test.YtlohbepfecahdaaDoorZcWApart
import Derived.Test.YtlohbepfecahdaaDoorZcWFoot
import Derived.Test.YtlohbepfecahdaaDoorZcWShare
import Derived.Test.YtlohbepfecahdaaDoorZcWN
import Derived.Test.YtlohbepfecahdaaDoorZcWNEv
import Derived.Test.YtlohbepfecahdaaDoorZcWMore
import Derived.Test.YtlohbepfecahdaaDoorZcB
import Derived.Test.YtlohbepfecahdaaDoorZcC
import Derived.Test.YtlohbepfecahdaaDoorZcShelf
import Derived.Test.YtlohbepfecahdaaDoorZcD
import Derived.Test.YtlohbepfecahdaaDoorZcWTab
import Derived.Test.YtlohbepfecahdaaDoorZcWEqStruct
import Derived.Test.YtlohbepfecahdaaDoorZcWRepsOne
import Derived.Test.YtlohbepfecahdaaDoorZcWGuard
import Derived.Test.YtlohbepfecahdaaDoorZcS0
import Derived.Test.YtlohbepfecahdaaDoorZcS16
import Derived.Test.YtlohbepfecahdaaDoorZcS17
import Derived.Test.YtlohbepfecahdaaDoorZcS20
import Derived.Test.YtlohbepfecahdaaDoorZcS21
namespace Go.Proofs.YtlohbepfecahdaaDoor.S
open Go.RowKit Go.Proofs.YtlohbepfecahdaaDoorW.PrintWords Go.Proofs.YtlohbepfecahdaaDoorW.PrintLast Go.Proofs.YtlohbepfecahdaaDoorW.PrintMore
set_option linter.unusedVariables false
set_option linter.unusedSimpArgs false
/-! ### gaolerlaw03_ApplyClauses: function 9 -/
def gaolerlaw03_ApplyClauses.f (k : Nat) (l0 : List (S34)) (a1 : Int) (a2 : Bool) (a3 : Int) : Option (Bool) := (gaolerlaw03_awake.f k).bind fun t424 => (if t424 = true then ((gaolerlaw03_few.f k l0).bind fun t425 => (if t425 = true then ((apply_Apply.f k l0 a1 a2 a3).bind fun t426 => ((gaolerlaw03_model.f k l0).bind fun t427 => ((gaolerref03_Apply.f k t427 a1 a2 a3).bind fun t430 => (some (t426 == t430))))) else (some true))) else (some false))
set_option maxHeartbeats 8000000 in
set_option maxRecDepth 100000 in
theorem gaolerlaw03_ApplyClauses.calls (k : Nat) (A0 : Option Addr) (c0 : Nat) (l0 : List (S34)) (a1 : Int) (a2 : Bool) (a3 : Int) (r : Bool) (w : World) (hr0 : Kd.C k34 w A0 l0.length l0) (hc0 : l0.length ≤ c0) (h : gaolerlaw03_ApplyClauses.f k l0 a1 a2 a3 = some r) :
    Calls Tryd.prog 9 #[.slice A0 l0.length c0, .int .i64 a1, .bool a2, .int .i64 a3] w fun e w' => e = .returned (.bool r) ∧ Below w.heap.size w w' := by
  have HR0 := Aside0.mk hr0
  have HC0 := Aside0.mk hc0
  clear hr0 hc0
  have HB := Aside0.mk (Below.refl w.heap.size w)
  have H : ((gaolerlaw03_awake.f k).bind fun t424 => (if t424 = true then ((gaolerlaw03_few.f k l0).bind fun t425 => (if t425 = true then ((apply_Apply.f k l0 a1 a2 a3).bind fun t426 => ((gaolerlaw03_model.f k l0).bind fun t427 => ((gaolerref03_Apply.f k t427 a1 a2 a3).bind fun t430 => (some (t426 == t430))))) else (some true))) else (some false))) = some r := h
  clear h
  replace H := Option.bind_eq_some_iff.mp H
  obtain ⟨t424, A50, H⟩ := H
  replace H : (if t424 = true then ((gaolerlaw03_few.f k l0).bind fun t425 => (if t425 = true then ((apply_Apply.f k l0 a1 a2 a3).bind fun t426 => ((gaolerlaw03_model.f k l0).bind fun t427 => ((gaolerref03_Apply.f k t427 a1 a2 a3).bind fun t430 => (some (t426 == t430))))) else (some true))) else (some false)) = some r := H
  have A5 := Aside0.mk A50
  clear A50
  by_cases c6 : t424 = true
  · subst c6
    have H1 : ((gaolerlaw03_few.f k l0).bind fun t425 => (if t425 = true then ((apply_Apply.f k l0 a1 a2 a3).bind fun t426 => ((gaolerlaw03_model.f k l0).bind fun t427 => ((gaolerref03_Apply.f k t427 a1 a2 a3).bind fun t430 => (some (t426 == t430))))) else (some true))) = some r := by rw [if_pos rfl] at H; exact H
    clear H
    have H := H1
    clear H1
    replace H := Option.bind_eq_some_iff.mp H
    obtain ⟨t425, A70, H⟩ := H
    replace H : (if t425 = true then ((apply_Apply.f k l0 a1 a2 a3).bind fun t426 => ((gaolerlaw03_model.f k l0).bind fun t427 => ((gaolerref03_Apply.f k t427 a1 a2 a3).bind fun t430 => (some (t426 == t430))))) else (some true)) = some r := H
    have A7 := Aside0.mk A70
    clear A70
    by_cases c8 : t425 = true
    · subst c8
      have H1 : ((apply_Apply.f k l0 a1 a2 a3).bind fun t426 => ((gaolerlaw03_model.f k l0).bind fun t427 => ((gaolerref03_Apply.f k t427 a1 a2 a3).bind fun t430 => (some (t426 == t430))))) = some r := by rw [if_pos rfl] at H; exact H
      clear H
      have H := H1
      clear H1
      replace H := Option.bind_eq_some_iff.mp H
      obtain ⟨t426, A90, H⟩ := H
      replace H : ((gaolerlaw03_model.f k l0).bind fun t427 => ((gaolerref03_Apply.f k t427 a1 a2 a3).bind fun t430 => (some (t426 == t430)))) = some r := H
      have A9 := Aside0.mk A90
      clear A90
      replace H := Option.bind_eq_some_iff.mp H
      obtain ⟨t427, A100, H⟩ := H
      replace H : ((gaolerref03_Apply.f k t427 a1 a2 a3).bind fun t430 => (some (t426 == t430))) = some r := H
      have A10 := Aside0.mk A100
      clear A100
      replace H := Option.bind_eq_some_iff.mp H
      obtain ⟨t430, A110, H⟩ := H
      replace H : (some (t426 == t430)) = some r := H
      have A11 := Aside0.mk A110
      clear A110
      obtain rfl := Option.some.inj H
      go_enter Tryd.func9, Tryd.ntmps9
      go_wp2_with (first | ((with_reducible refine gate_callee (f := 23) rfl ?_); refine goesL_ (some 11) rfl rfl Tryd.func23 (by kernel_rfl) rfl #[] rfl (by (try simp only [List.map_toArray, List.map_cons, List.map_nil]); first | done | rfl | (simp only [List.length_drop, List.length_take]; rfl)) ?_; (with_reducible refine (gaolerlaw03_awake.calls k  true _ A5.out).mono ?_); rintro e w12 ⟨rfl, hb⟩; refine ⟨_, rfl, ?_⟩; have n0_ := Aside0.mk (below_step (by repeat (first | (with_reducible first | exact HB.out | apply below_alloc | apply pw_below_drewN | apply below_drew1) | exact HB.out)) hb); clear HB; have HB := n0_; clear n0_; (try clear hb); (try clear hb2); (try clear hk); (try clear hi)) | ((with_reducible refine gate_callee (f := 28) rfl ?_); refine goesL_ (some 15) rfl rfl Tryd.func28 (by kernel_rfl) rfl #[.slice A0 l0.length c0] rfl (by (try simp only [List.map_toArray, List.map_cons, List.map_nil]); first | done | rfl | (simp only [List.length_drop, List.length_take]; rfl)) ?_; (with_reducible refine (gaolerlaw03_few.calls k _ _ l0 true _ ?side1 ?side2 A7.out).mono ?_); (case side1 => repeat (first | exact (Kd.C_below HR0.out HB.out) | (with_reducible refine Kd.C_alloc ?_ _) | (with_reducible refine Kd.C_drewN ?_ _) | (with_reducible refine Kd.C_drew ?_))); (case side2 => exact HC0.out); rintro e w' ⟨rfl, ⟨nd, rfl⟩⟩; refine ⟨_, rfl, ?_⟩) | ((with_reducible refine gate_callee (f := 29) rfl ?_); refine goesL_ (some 22) rfl rfl Tryd.func29 (by kernel_rfl) rfl #[.slice A0 l0.length c0, .int .i64 a1, .bool a2, .int .i64 a3] rfl (by (try simp only [List.map_toArray, List.map_cons, List.map_nil]); first | done | rfl | (simp only [List.length_drop, List.length_take]; rfl)) ?_; (with_reducible refine (apply_Apply.calls k _ _ l0 a1 a2 a3 t426 _ ?side1 ?side2 A9.out).mono ?_); (case side1 => repeat (first | exact (Kd.C_below HR0.out (by repeat (first | (with_reducible first | exact HB.out | apply below_alloc | apply pw_below_drewN | apply below_drew1) | exact HB.out))) | (with_reducible refine Kd.C_alloc ?_ _) | (with_reducible refine Kd.C_drewN ?_ _) | (with_reducible refine Kd.C_drew ?_))); (case side2 => exact HC0.out); rintro e w13 ⟨rfl, hb⟩; refine ⟨_, rfl, ?_⟩; have n0_ := Aside0.mk (below_step (by repeat (first | (with_reducible first | exact HB.out | apply below_alloc | apply pw_below_drewN | apply below_drew1) | exact HB.out)) hb); clear HB; have HB := n0_; clear n0_; (try clear hb); (try clear hb2); (try clear hk); (try clear hi)) | ((with_reducible refine gate_callee (f := 31) rfl ?_); refine goesL_ (some 24) rfl rfl Tryd.func31 (by kernel_rfl) rfl #[.slice A0 l0.length c0] rfl (by (try simp only [List.map_toArray, List.map_cons, List.map_nil]); first | done | rfl | (simp only [List.length_drop, List.length_take]; rfl)) ?_; (with_reducible refine (gaolerlaw03_model.calls k _ _ l0 t427 _ ?side1 ?side2 A10.out).mono ?_); (case side1 => repeat (first | exact (Kd.C_below HR0.out HB.out) | (with_reducible refine Kd.C_alloc ?_ _) | (with_reducible refine Kd.C_drewN ?_ _) | (with_reducible refine Kd.C_drew ?_))); (case side2 => exact HC0.out); rintro e w14 ⟨v428, rfl, ho0, hb⟩; refine ⟨_, rfl, ?_⟩; have n0_ := Aside0.mk (Kd.S_lower ho0 (below_size (by repeat (first | (with_reducible first | exact HB.out | apply below_alloc | apply pw_below_drewN | apply below_drew1) | exact HB.out)))); have n1_ := Aside0.mk (below_step (by repeat (first | (with_reducible first | exact HB.out | apply below_alloc | apply pw_below_drewN | apply below_drew1) | exact HB.out)) hb); clear HB; have HO429 := n0_; have HB := n1_; clear n0_ n1_; (try clear hb); (try clear hb2); (try clear hk); (try clear hi); (try clear ho0); obtain ⟨Ao15, co15, eo15⟩ := Kd.S_slice HO429.out; subst eo15) | ((with_reducible refine gate_callee (f := 30) rfl ?_); refine goesL_ (some 28) rfl rfl Tryd.func30 (by kernel_rfl) rfl #[.slice Ao15 t427.length co15, .int .i64 a1, .bool a2, .int .i64 a3] rfl (by (try simp only [List.map_toArray, List.map_cons, List.map_nil]); first | done | rfl | (simp only [List.length_drop, List.length_take]; rfl)) ?_; (with_reducible refine (gaolerref03_Apply.calls k _ _ t427 a1 a2 a3 t430 _ ?side1 ?side2 A11.out).mono ?_); (case side1 => repeat (first | exact (Kd.S_reads' HO429.out).2.2 | (with_reducible refine Kd.C_alloc ?_ _) | (with_reducible refine Kd.C_drewN ?_ _) | (with_reducible refine Kd.C_drew ?_))); (case side2 => exact (Kd.S_reads' HO429.out).2.1); rintro e w16 ⟨rfl, hb⟩; refine ⟨_, rfl, ?_⟩; have n0_ := Aside0.mk (Kd.S_below (by (with_reducible repeat (first | apply Kd.S_alloc | apply Kd.S_drewN | apply Kd.S_drew)); exact HO429.out) hb); have n1_ := Aside0.mk (below_step (by repeat (first | (with_reducible first | exact HB.out | apply below_alloc | apply pw_below_drewN | apply below_drew1) | exact HB.out)) hb); clear HO429; clear HB; have HO429 := n0_; have HB := n1_; clear n0_ n1_; (try clear hb); (try clear hb2); (try clear hk); (try clear hi)))
      go_ret
      exact ⟨by first | rfl | (simp [errW_none, errW_some] <;> rfl) | (simp [*, errW_none, errW_some] <;> rfl), by repeat (first | (with_reducible first | exact HB.out | apply below_alloc | apply pw_below_drewN | apply below_drew1) | exact HB.out)⟩
    · replace c8 := Bool.eq_false_iff.mpr c8
      subst c8
      have H1 : (some true) = some r := by rw [if_neg (show ¬ (false = true) by decide)] at H; exact H
      clear H
      have H := H1
      clear H1
      obtain rfl := Option.some.inj H
      go_enter Tryd.func9, Tryd.ntmps9
      go_wp2_with (first | ((with_reducible refine gate_callee (f := 23) rfl ?_); refine goesL_ (some 11) rfl rfl Tryd.func23 (by kernel_rfl) rfl #[] rfl (by (try simp only [List.map_toArray, List.map_cons, List.map_nil]); first | done | rfl | (simp only [List.length_drop, List.length_take]; rfl)) ?_; (with_reducible refine (gaolerlaw03_awake.calls k  true _ A5.out).mono ?_); rintro e w17 ⟨rfl, hb⟩; refine ⟨_, rfl, ?_⟩; have n0_ := Aside0.mk (below_step (by repeat (first | (with_reducible first | exact HB.out | apply below_alloc | apply pw_below_drewN | apply below_drew1) | exact HB.out)) hb); clear HB; have HB := n0_; clear n0_; (try clear hb); (try clear hb2); (try clear hk); (try clear hi)) | ((with_reducible refine gate_callee (f := 28) rfl ?_); refine goesL_ (some 15) rfl rfl Tryd.func28 (by kernel_rfl) rfl #[.slice A0 l0.length c0] rfl (by (try simp only [List.map_toArray, List.map_cons, List.map_nil]); first | done | rfl | (simp only [List.length_drop, List.length_take]; rfl)) ?_; (with_reducible refine (gaolerlaw03_few.calls k _ _ l0 false _ ?side1 ?side2 A7.out).mono ?_); (case side1 => repeat (first | exact (Kd.C_below HR0.out HB.out) | (with_reducible refine Kd.C_alloc ?_ _) | (with_reducible refine Kd.C_drewN ?_ _) | (with_reducible refine Kd.C_drew ?_))); (case side2 => exact HC0.out); rintro e w' ⟨rfl, ⟨nd, rfl⟩⟩; refine ⟨_, rfl, ?_⟩))
      go_ret
      exact ⟨by first | rfl | (simp [errW_none, errW_some] <;> rfl) | (simp [*, errW_none, errW_some] <;> rfl), by repeat (first | (with_reducible first | exact HB.out | apply below_alloc | apply pw_below_drewN | apply below_drew1) | exact HB.out)⟩
  · replace c6 := Bool.eq_false_iff.mpr c6
    subst c6
    have H1 : (some false) = some r := by rw [if_neg (show ¬ (false = true) by decide)] at H; exact H
    clear H
    have H := H1
    clear H1
    obtain rfl := Option.some.inj H
    go_enter Tryd.func9, Tryd.ntmps9
    go_wp2_with (first | ((with_reducible refine gate_callee (f := 23) rfl ?_); refine goesL_ (some 11) rfl rfl Tryd.func23 (by kernel_rfl) rfl #[] rfl (by (try simp only [List.map_toArray, List.map_cons, List.map_nil]); first | done | rfl | (simp only [List.length_drop, List.length_take]; rfl)) ?_; (with_reducible refine (gaolerlaw03_awake.calls k  false _ A5.out).mono ?_); rintro e w18 ⟨rfl, hb⟩; refine ⟨_, rfl, ?_⟩; have n0_ := Aside0.mk (below_step (by repeat (first | (with_reducible first | exact HB.out | apply below_alloc | apply pw_below_drewN | apply below_drew1) | exact HB.out)) hb); clear HB; have HB := n0_; clear n0_; (try clear hb); (try clear hb2); (try clear hk); (try clear hi)))
    go_ret
    exact ⟨by first | rfl | (simp [errW_none, errW_some] <;> rfl) | (simp [*, errW_none, errW_some] <;> rfl), by repeat (first | (with_reducible first | exact HB.out | apply below_alloc | apply pw_below_drewN | apply below_drew1) | exact HB.out)⟩
/-! ### gaolerlaw03_ApplyStays: function 10 -/
mutual
def gaolerlaw03_ApplyStays.l0 : Nat → Int → Int → Int → Int → Int → Option (Bool)
  | 0, _, _, _, _, _ => none
  | k + 1, x14, x15, x16, x18, x19 => if x19 < 3 then (if x14 = 0 then (gaolerlaw03_ApplyStays.j1 k x14 x15 x16 x18 x19 true) else (if 0 ≤ x19 then (gaolerlaw03_ApplyStays.j1 k x14 x15 x16 x18 x19 ((Go.bits .and .i64 (shr .i64 x14 x19) 1) == 1)) else (none))) else (if x15 = 43 then (some ((Go.bits .or .i64 x18 x16) == x18)) else (if x15 = 45 then (some ((Go.bits .or .i64 x18 x16) == x16)) else (if x18 ≥ 0 then (some (decide (x18 ≤ 4095))) else (some false))))
def gaolerlaw03_ApplyStays.j1 : Nat → Int → Int → Int → Int → Int → Bool → Option (Bool)
  | 0, _, _, _, _, _, _ => none
  | k + 1, x14, x15, x16, x18, x19, x20 => if x20 = true then (gaolerlaw03_ApplyStays.l0 k x14 x15 x16 x18 (wrap64 (x19 + 1))) else ((modes_Class.f x18 x19).bind fun t439 => ((modes_Class.f x16 x19).bind fun t440 => (if t439 = t440 then (gaolerlaw03_ApplyStays.l0 k x14 x15 x16 x18 (wrap64 (x19 + 1))) else (some false))))
end
def gaolerlaw03_ApplyStays.f (k : Nat) (a0 : Int) (a1 : Int) (a2 : Int) (a3 : Int) (a4 : Bool) (a5 : Int) : Option (Bool) := (gaolerlaw03_awake.f k).bind fun t431 => (if t431 = true then (if 0 ≤ (Int.tmod a1 3) then (if (Int.tmod a1 3) < 3 then ((apply_Apply.f k (([(⟨wrap64 (Int.tmod a0 8), (([(⟨bt (⟨#[43, 45, 61]⟩ : ByteArray) (Int.tmod a1 3), wrap64 (Int.tmod a2 64), 0⟩ : S60)] : List (S60)))⟩ : S34)] : List (S34))) (wrap64 (Int.tmod a3 4096)) a4 (wrap64 (a5))).bind fun t438 => (gaolerlaw03_ApplyStays.l0 k (wrap64 (Int.tmod a0 8)) (bt (⟨#[43, 45, 61]⟩ : ByteArray) (Int.tmod a1 3)) (wrap64 (Int.tmod a3 4096)) t438 0)) else (none)) else (none)) else (some false))
set_option maxHeartbeats 8000000 in
set_option maxRecDepth 100000 in
theorem gaolerlaw03_ApplyStays.calls (k : Nat) (a0 : Int) (a1 : Int) (a2 : Int) (a3 : Int) (a4 : Bool) (a5 : Int) (r : Bool) (w : World) (h : gaolerlaw03_ApplyStays.f k a0 a1 a2 a3 a4 a5 = some r) :
    Calls Tryd.prog 10 #[.int .u8 a0, .int .u8 a1, .int .u8 a2, .int .u16 a3, .bool a4, .int .u16 a5] w fun e w' => e = .returned (.bool r) ∧ Below w.heap.size w w' := by
  have hu60 := Tryd.underlying60
  have hu34 := Tryd.underlying34
  have HB := Aside0.mk (Below.refl w.heap.size w)
  have H : ((gaolerlaw03_awake.f k).bind fun t431 => (if t431 = true then (if 0 ≤ (Int.tmod a1 3) then (if (Int.tmod a1 3) < 3 then ((apply_Apply.f k (([(⟨wrap64 (Int.tmod a0 8), (([(⟨bt (⟨#[43, 45, 61]⟩ : ByteArray) (Int.tmod a1 3), wrap64 (Int.tmod a2 64), 0⟩ : S60)] : List (S60)))⟩ : S34)] : List (S34))) (wrap64 (Int.tmod a3 4096)) a4 (wrap64 (a5))).bind fun t438 => (gaolerlaw03_ApplyStays.l0 k (wrap64 (Int.tmod a0 8)) (bt (⟨#[43, 45, 61]⟩ : ByteArray) (Int.tmod a1 3)) (wrap64 (Int.tmod a3 4096)) t438 0)) else (none)) else (none)) else (some false))) = some r := h
  clear h
  replace H := Option.bind_eq_some_iff.mp H
  obtain ⟨t431, A70, H⟩ := H
  replace H : (if t431 = true then (if 0 ≤ (Int.tmod a1 3) then (if (Int.tmod a1 3) < 3 then ((apply_Apply.f k (([(⟨wrap64 (Int.tmod a0 8), (([(⟨bt (⟨#[43, 45, 61]⟩ : ByteArray) (Int.tmod a1 3), wrap64 (Int.tmod a2 64), 0⟩ : S60)] : List (S60)))⟩ : S34)] : List (S34))) (wrap64 (Int.tmod a3 4096)) a4 (wrap64 (a5))).bind fun t438 => (gaolerlaw03_ApplyStays.l0 k (wrap64 (Int.tmod a0 8)) (bt (⟨#[43, 45, 61]⟩ : ByteArray) (Int.tmod a1 3)) (wrap64 (Int.tmod a3 4096)) t438 0)) else (none)) else (none)) else (some false)) = some r := H
  have A7 := Aside0.mk A70
  clear A70
  by_cases c8 : t431 = true
  · subst c8
    have H1 : (if 0 ≤ (Int.tmod a1 3) then (if (Int.tmod a1 3) < 3 then ((apply_Apply.f k (([(⟨wrap64 (Int.tmod a0 8), (([(⟨bt (⟨#[43, 45, 61]⟩ : ByteArray) (Int.tmod a1 3), wrap64 (Int.tmod a2 64), 0⟩ : S60)] : List (S60)))⟩ : S34)] : List (S34))) (wrap64 (Int.tmod a3 4096)) a4 (wrap64 (a5))).bind fun t438 => (gaolerlaw03_ApplyStays.l0 k (wrap64 (Int.tmod a0 8)) (bt (⟨#[43, 45, 61]⟩ : ByteArray) (Int.tmod a1 3)) (wrap64 (Int.tmod a3 4096)) t438 0)) else (none)) else (none)) = some r := by rw [if_pos rfl] at H; exact H
    clear H
    have H := H1
    clear H1
    obtain ⟨ji9, hji9⟩ : ∃ j_ : Int, (Int.tmod a1 3) = j_ := ⟨_, rfl⟩
    replace H : (if 0 ≤ (ji9) then (if (ji9) < 3 then ((apply_Apply.f k (([(⟨wrap64 (Int.tmod a0 8), (([(⟨bt (⟨#[43, 45, 61]⟩ : ByteArray) (ji9), wrap64 (Int.tmod a2 64), 0⟩ : S60)] : List (S60)))⟩ : S34)] : List (S34))) (wrap64 (Int.tmod a3 4096)) a4 (wrap64 (a5))).bind fun t438 => (gaolerlaw03_ApplyStays.l0 k (wrap64 (Int.tmod a0 8)) (bt (⟨#[43, 45, 61]⟩ : ByteArray) (ji9)) (wrap64 (Int.tmod a3 4096)) t438 0)) else (none)) else (none)) = some r := by first | (rw [hji9] at H; exact H) | (simp only [hji9] at H ⊢; exact H)
    (try rw [hji9] at A7)
    by_cases c10 : 0 ≤ (ji9)
    · rw [if_pos c10] at H
      have c10b0 : decide (0 ≤ (ji9)) = true := decide_eq_true c10
      clear c10
      by_cases c11 : (ji9) < 3
      · rw [if_pos c11] at H
        have c11b0 : decide ((ji9) < 3) = true := decide_eq_true c11
        clear c11
        obtain ⟨y432, hy432⟩ : ∃ y_ : List (S60), y_ = (([(⟨bt (⟨#[43, 45, 61]⟩ : ByteArray) (ji9), wrap64 (Int.tmod a2 64), 0⟩ : S60)] : List (S60))) := ⟨_, rfl⟩
        replace H : ((apply_Apply.f k (([(⟨wrap64 (Int.tmod a0 8), y432⟩ : S34)] : List (S34))) (wrap64 (Int.tmod a3 4096)) a4 (wrap64 (a5))).bind fun t438 => (gaolerlaw03_ApplyStays.l0 k (wrap64 (Int.tmod a0 8)) (bt (⟨#[43, 45, 61]⟩ : ByteArray) (ji9)) (wrap64 (Int.tmod a3 4096)) t438 0)) = some r := by first | (rw [hy432]; with_reducible exact H) | (have H2_ := (Option.bind_some _ _).symm.trans H; rw [hy432]; with_reducible exact H2_) | (have H2_ := (Option.bind_some _ _).symm.trans H; with_reducible exact H2_) | with_reducible exact H | (rw [hy432]; exact H) | exact H
        have Ny432 := Aside0.mk hy432
        clear hy432
        obtain ⟨y435, hy435⟩ : ∃ y_ : List (S34), y_ = (([(⟨wrap64 (Int.tmod a0 8), y432⟩ : S34)] : List (S34))) := ⟨_, rfl⟩
        replace H : ((apply_Apply.f k y435 (wrap64 (Int.tmod a3 4096)) a4 (wrap64 (a5))).bind fun t438 => (gaolerlaw03_ApplyStays.l0 k (wrap64 (Int.tmod a0 8)) (bt (⟨#[43, 45, 61]⟩ : ByteArray) (ji9)) (wrap64 (Int.tmod a3 4096)) t438 0)) = some r := by first | (rw [hy435]; with_reducible exact H) | (have H2_ := (Option.bind_some _ _).symm.trans H; rw [hy435]; with_reducible exact H2_) | (have H2_ := (Option.bind_some _ _).symm.trans H; with_reducible exact H2_) | with_reducible exact H | (rw [hy435]; exact H) | exact H
        have Ny435 := Aside0.mk hy435
        clear hy435
        replace H := Option.bind_eq_some_iff.mp H
        obtain ⟨t438, A130, H⟩ := H
        replace H : (gaolerlaw03_ApplyStays.l0 k (wrap64 (Int.tmod a0 8)) (bt (⟨#[43, 45, 61]⟩ : ByteArray) (ji9)) (wrap64 (Int.tmod a3 4096)) t438 0) = some r := H
        have A13 := Aside0.mk A130
        clear A130
        have H' := Aside0.mk H
        clear H
        go_enter Tryd.func10, Tryd.ntmps10
        go_wp2_with (first | ((with_reducible refine gate_callee (f := 23) rfl ?_); refine goesL_ (some 21) rfl rfl Tryd.func23 (by kernel_rfl) rfl #[] rfl (by (try simp only [List.map_toArray, List.map_cons, List.map_nil]); first | done | rfl | (simp only [List.length_drop, List.length_take]; rfl)) ?_; (with_reducible refine (gaolerlaw03_awake.calls k  true _ A7.out).mono ?_); rintro e w14 ⟨rfl, hb⟩; refine ⟨_, rfl, ?_⟩; have n0_ := Aside0.mk (below_step (by repeat (first | (with_reducible first | exact HB.out | apply below_alloc | apply pw_below_drewN | apply below_drew1) | exact HB.out)) hb); clear HB; have HB := n0_; clear n0_; (try clear hb); (try clear hb2); (try clear hk); (try clear hi); have p12 : 0 ≤ ((ji9) : Int) := of_decide_eq_true (by first | (with_reducible assumption) | assumption); have q12 : (ji9) < (3 : Int) := of_decide_eq_true (by first | (with_reducible assumption) | assumption); have hx12 := bt_at (⟨#[43, 45, 61]⟩ : ByteArray) (ji9); replace p12 := eq_true p12; replace q12 := eq_true q12) | ((with_reducible refine gate_dst (N := 39) rfl ?_); refine Kd.R_lit k60 _ 60 ?hg (N := 39) ?hd (xs := ([(⟨bt (⟨#[43, 45, 61]⟩ : ByteArray) (ji9), wrap64 (Int.tmod a2 64), 0⟩ : S60)] : List (S60))) (inner := [.int .u8 (bt (⟨#[43, 45, 61]⟩ : ByteArray) (ji9)), .int .i64 (wrap64 (Int.tmod a2 64)), .int .i64 0]) (ok := fun _ => True) (okp := fun _ => True) ?hr ?hp (fun _ hk => hk) trivial (Below.refl _ _) (Nat.le_refl _) (by simp) ?_; (case hd => rfl); (case hg => rfl); (case hr => first | (go_simp; done) | (go_simp; rfl)); (case hp => exact (Reps.c3 (show Kd.M k60 _ _ _ (⟨bt (⟨#[43, 45, 61]⟩ : ByteArray) (ji9), wrap64 (Int.tmod a2 64), 0⟩ : S60) [.int .u8 (bt (⟨#[43, 45, 61]⟩ : ByteArray) (ji9)), .int .i64 (wrap64 (Int.tmod a2 64)), .int .i64 0] from (k60_mkM _ _ _ (⟨bt (⟨#[43, 45, 61]⟩ : ByteArray) (ji9), wrap64 (Int.tmod a2 64), 0⟩ : S60) )) (Reps.none _ _))); intro v433 w15 ho16 hb hg_ hnew_; clear hg_ hnew_; (first | rw [← Ny432.out] at ho16 | (simp only [Int.reduceToNat] at ho16; rw [← Ny432.out] at ho16)); have n0_ := Aside0.mk (Kd.R_lower ho16 (below_size (by repeat (first | (with_reducible first | exact HB.out | apply below_alloc | apply pw_below_drewN | apply below_drew1) | exact HB.out)))); have n1_ := Aside0.mk (below_step (by repeat (first | (with_reducible first | exact HB.out | apply below_alloc | apply pw_below_drewN | apply below_drew1) | exact HB.out)) hb); clear HB; have HO434 := n0_; have HB := n1_; clear n0_ n1_; clear hb ho16; obtain ⟨Ao17, co17, eo17⟩ := Kd.R_slice HO434.out; subst eo17) | ((with_reducible refine gate_dst (N := 41) rfl ?_); refine Kd.N_lit k34 _ 34 ?hg (N' := 41) ?hd (xs := ([(⟨wrap64 (Int.tmod a0 8), y432⟩ : S34)] : List (S34))) (inner := [.int .i64 (wrap64 (Int.tmod a0 8)), .slice Ao17 y432.length co17]) (ok := (fun _ => True)) (okp := (fun _ => True)) ?hr ?hp (fun _ hk => hk) ((show ∀ k_, w15.heap.size ≤ k_ → (fun _ => True) k_ from fun k_ hk => trivial) _ (Nat.le_refl _)) (Below.refl _ _) (Nat.le_refl _) (by simp) ?_; (case hd => rfl); (case hg => rfl); (case hr => first | (go_simp; done) | (go_simp; rfl)); (case hp => exact (Reps.c2 (show Kd.FK k34 _ _ (⟨wrap64 (Int.tmod a0 8), y432⟩ : S34) [.int .i64 (wrap64 (Int.tmod a0 8)), .slice Ao17 y432.length co17] from (k34_mkF _ _ (⟨wrap64 (Int.tmod a0 8), y432⟩ : S34) (Kd.R_reads' (Kd.R_mono (ok' := (fun _ => True)) (HO434.out) (fun k_ hk => trivial))).2.1 (Kd.R_F (Kd.R_mono (ok' := (fun _ => True)) (HO434.out) (fun k_ hk => trivial))))) (Reps.none _ _))); intro v436 w18 ho19 hb hg_ hnew_; clear hg_ hnew_; (first | rw [← Ny435.out] at ho19 | (simp only [Int.reduceToNat] at ho19; rw [← Ny435.out] at ho19)); have n0_ := Aside0.mk (Kd.N_lower ho19 (below_size (by repeat (first | (with_reducible first | exact HB.out | apply below_alloc | apply pw_below_drewN | apply below_drew1) | exact HB.out)))); have n1_ := Aside0.mk (below_step (by repeat (first | (with_reducible first | exact HB.out | apply below_alloc | apply pw_below_drewN | apply below_drew1) | exact HB.out)) hb); clear HB; clear HO434; have HO437 := n0_; have HB := n1_; clear n0_ n1_; clear hb ho19; obtain ⟨Ao20, co20, eo20⟩ := Kd.N_slice HO437.out; subst eo20) | ((with_reducible refine gate_callee (f := 29) rfl ?_); refine goesL_ (some 47) rfl rfl Tryd.func29 (by kernel_rfl) rfl #[.slice Ao20 y435.length co20, .int .i64 (wrap64 (Int.tmod a3 4096)), .bool a4, .int .i64 (wrap64 (a5))] rfl (by (try simp only [List.map_toArray, List.map_cons, List.map_nil]); first | done | rfl | (simp only [List.length_drop, List.length_take]; rfl)) ?_; (with_reducible refine (apply_Apply.calls k _ _ y435 (wrap64 (Int.tmod a3 4096)) a4 (wrap64 (a5)) t438 _ ?side1 ?side2 A13.out).mono ?_); (case side1 => repeat (first | exact (Kd.N_reads' HO437.out).2.2 | (with_reducible refine Kd.C_alloc ?_ _) | (with_reducible refine Kd.C_drewN ?_ _) | (with_reducible refine Kd.C_drew ?_))); (case side2 => exact (Kd.N_reads' HO437.out).2.1); rintro e w21 ⟨rfl, hb⟩; refine ⟨_, rfl, ?_⟩; have n0_ := Aside0.mk (Kd.N_below (by (with_reducible repeat (first | apply Kd.N_alloc | apply Kd.N_drewN | apply Kd.N_drew)); exact HO437.out) hb); have n1_ := Aside0.mk (below_step (by repeat (first | (with_reducible first | exact HB.out | apply below_alloc | apply pw_below_drewN | apply below_drew1) | exact HB.out)) hb); clear HO437; clear HB; have HO437 := n0_; have HB := n1_; clear n0_ n1_; (try clear hb); (try clear hb2); (try clear hk); (try clear hi)))
        go_loopg [19] k (fun kq v19 w' => ∃ (x19_1 : Int), v19 = .int .i64 x19_1 ∧ Aside0 (gaolerlaw03_ApplyStays.l0 kq (wrap64 (Int.tmod a0 8)) (bt (⟨#[43, 45, 61]⟩ : ByteArray) (ji9)) (wrap64 (Int.tmod a3 4096)) t438 x19_1 = some r) ∧ Aside0 (kq ≤ k) ∧ Aside0 (Below w.heap.size w w'))
        case atStart => exact ⟨(0), (by first | rfl | (simp; done) | (simp [*]; done)), H', ⟨Nat.le_refl _⟩, ⟨by repeat (first | (with_reducible first | exact HB.out | apply below_alloc | apply pw_below_drewN | apply below_drew1) | exact HB.out)⟩⟩
        case round =>
          clear H'
          try clear c1
          try clear p1
          try clear q1
          try clear hx1
          try clear c2
          try clear p2
          try clear c3
          try clear p6
          try clear c8
          try clear c10
          try clear c10b0
          try clear c11
          try clear c11b0
          try clear p12
          try clear q12
          try clear hx12
          try clear p12
          try clear q12
          obtain ⟨x19_1, rfl, HA, HK1, HB⟩ := hrel
          cases gk with
          | zero => exact absurd HA.out (by simp [gaolerlaw03_ApplyStays.l0])
          | succ k1 =>
            have H := HA.out
            clear HA
            simp only [gaolerlaw03_ApplyStays.l0] at H
            by_cases c22 : x19_1 < 3
            · rw [if_pos c22] at H
              have c22b0 : decide (x19_1 < 3) = true := decide_eq_true c22
              clear c22
              have HC23 := Aside0.mk H
              clear H
              go_upto_region 12 with (fail)
              go_cut [20] (fun v20 wc => ∃ (kq : Nat) (x20_22 : Bool), v20 = .bool x20_22 ∧ Aside0 (gaolerlaw03_ApplyStays.j1 kq (wrap64 (Int.tmod a0 8)) (bt (⟨#[43, 45, 61]⟩ : ByteArray) (ji9)) (wrap64 (Int.tmod a3 4096)) t438 x19_1 x20_22 = some r) ∧ Aside0 (kq ≤ k1) ∧ Aside0 (Below w.heap.size w wc))
              case first =>
                have H := HC23.out
                clear HC23
                by_cases c24 : (wrap64 (Int.tmod a0 8)) = 0
                · rw [if_pos c24] at H
                  have c24b0 : ((wrap64 (Int.tmod a0 8)) == 0) = true := beq_iff_eq.mpr c24
                  have c24b1 : ((wrap64 (Int.tmod a0 8)) != 0) = false := bne_eq_false_iff_eq.mpr c24
                  clear c24
                  (first | rw [c24b0] | (simp only [i64_w, i32_w]; rw [c24b0]) | skip)
                  have H' := Aside0.mk H
                  clear H
                  go_wp2
                  go_meet
                  case rel => exact ⟨_, (true), (by first | rfl | (simp; done) | (simp [*]; done)), H', ⟨by have := HK1.out; first | omega | exact Nat.le_refl _⟩, ⟨by repeat (first | (with_reducible first | exact HB.out | apply below_alloc | apply pw_below_drewN | apply below_drew1) | exact HB.out)⟩⟩
                · rw [if_neg c24] at H
                  have c24b0 : ((wrap64 (Int.tmod a0 8)) == 0) = false := beq_eq_false_iff_ne.mpr c24
                  have c24b1 : ((wrap64 (Int.tmod a0 8)) != 0) = true := bne_iff_ne.mpr c24
                  (first | rw [c24b0] | (simp only [i64_w, i32_w]; rw [c24b0]) | skip)
                  by_cases c25 : 0 ≤ x19_1
                  · rw [if_pos c25] at H
                    have c25b0 := eq_true c25
                    have c25b1 : decide (0 ≤ x19_1) = true := decide_eq_true c25
                    clear c25
                    obtain ⟨ji26, hji26⟩ : ∃ j_ : Int, (shr .i64 (wrap64 (Int.tmod a0 8)) x19_1) = j_ := ⟨_, rfl⟩
                    replace H : (gaolerlaw03_ApplyStays.j1 k1 (wrap64 (Int.tmod a0 8)) (bt (⟨#[43, 45, 61]⟩ : ByteArray) (ji9)) (wrap64 (Int.tmod a3 4096)) t438 x19_1 ((Go.bits .and .i64 (ji26) 1) == 1)) = some r := by first | (rw [hji26] at H; exact H) | (simp only [hji26] at H ⊢; exact H)
                    have hji26_ : ((wrap64 (Int.tmod a0 8)) / 2 ^ min x19_1.toNat 64) = ji26 := hji26
                    have hji26z : x19_1 ≤ 64 → ((wrap64 (Int.tmod a0 8)) / 2 ^ x19_1.toNat) = ji26 := shr_small hji26
                    have H' := Aside0.mk H
                    clear H
                    go_wp2
                    go_meet
                    case rel => exact ⟨_, (((Go.bits .and .i64 (ji26) 1) == 1)), (by first | rfl | (simp; done) | (simp only [← hji26] <;> (first | rfl | simp)) | (simp [*]; done)), H', ⟨by have := HK1.out; first | omega | exact Nat.le_refl _⟩, ⟨by repeat (first | (with_reducible first | exact HB.out | apply below_alloc | apply pw_below_drewN | apply below_drew1) | exact HB.out)⟩⟩
                  · rw [if_neg c25] at H
                    exact absurd H (by simp)
              case rest =>
                clear HC23
                try clear c1
                try clear p1
                try clear q1
                try clear hx1
                try clear c2
                try clear p2
                try clear c3
                try clear p6
                try clear c8
                try clear c10
                try clear c10b0
                try clear c11
                try clear c11b0
                try clear p12
                try clear q12
                try clear hx12
                try clear c22
                try clear c22b0
                try clear c23
                try clear c24
                try clear c24b0
                try clear c24b1
                try clear c25
                try clear c25b0
                try clear c25b1
                try clear p1
                try clear p12
                try clear p2
                try clear p6
                try clear q1
                try clear q12
                obtain ⟨kq, x20_22, rfl, HA, HJ22, HB⟩ := hcut
                cases kq with
                | zero => exact absurd HA.out (by simp [gaolerlaw03_ApplyStays.j1])
                | succ kj22 =>
                  have H := HA.out
                  clear HA
                  simp only [gaolerlaw03_ApplyStays.j1] at H
                  by_cases c27 : x20_22 = true
                  · subst c27
                    have H1 : (gaolerlaw03_ApplyStays.l0 kj22 (wrap64 (Int.tmod a0 8)) (bt (⟨#[43, 45, 61]⟩ : ByteArray) (ji9)) (wrap64 (Int.tmod a3 4096)) t438 (wrap64 (x19_1 + 1))) = some r := by rw [if_pos rfl] at H; exact H
                    clear H
                    have H := H1
                    clear H1
                    have H' := Aside0.mk H
                    clear H
                    go_wp2
                    go_roundg kj22
                    case measure => have := HK1.out; have := HJ22.out; omega
                    case rel => exact ⟨(wrap64 (x19_1 + 1)), (by first | rfl | (simp; done) | (simp [*]; done)), H', ⟨by have := HK1.out; have := HJ22.out; omega⟩, ⟨by repeat (first | (with_reducible first | exact HB.out | apply below_alloc | apply pw_below_drewN | apply below_drew1) | exact HB.out)⟩⟩
                  · replace c27 := Bool.eq_false_iff.mpr c27
                    subst c27
                    have H1 : ((modes_Class.f t438 x19_1).bind fun t439 => ((modes_Class.f (wrap64 (Int.tmod a3 4096)) x19_1).bind fun t440 => (if t439 = t440 then (gaolerlaw03_ApplyStays.l0 kj22 (wrap64 (Int.tmod a0 8)) (bt (⟨#[43, 45, 61]⟩ : ByteArray) (ji9)) (wrap64 (Int.tmod a3 4096)) t438 (wrap64 (x19_1 + 1))) else (some false)))) = some r := by rw [if_neg (show ¬ (false = true) by decide)] at H; exact H
                    clear H
                    have H := H1
                    clear H1
                    replace H := Option.bind_eq_some_iff.mp H
                    obtain ⟨t439, A280, H⟩ := H
                    replace H : ((modes_Class.f (wrap64 (Int.tmod a3 4096)) x19_1).bind fun t440 => (if t439 = t440 then (gaolerlaw03_ApplyStays.l0 kj22 (wrap64 (Int.tmod a0 8)) (bt (⟨#[43, 45, 61]⟩ : ByteArray) (ji9)) (wrap64 (Int.tmod a3 4096)) t438 (wrap64 (x19_1 + 1))) else (some false))) = some r := H
                    have A28 := Aside0.mk A280
                    clear A280
                    replace H := Option.bind_eq_some_iff.mp H
                    obtain ⟨t440, A290, H⟩ := H
                    replace H : (if t439 = t440 then (gaolerlaw03_ApplyStays.l0 kj22 (wrap64 (Int.tmod a0 8)) (bt (⟨#[43, 45, 61]⟩ : ByteArray) (ji9)) (wrap64 (Int.tmod a3 4096)) t438 (wrap64 (x19_1 + 1))) else (some false)) = some r := H
                    have A29 := Aside0.mk A290
                    clear A290
                    by_cases c30 : t439 = t440
                    · rw [if_pos c30] at H
                      have c30b0 : (t439 == t440) = true := beq_iff_eq.mpr c30
                      have c30b1 : (t439 != t440) = false := bne_eq_false_iff_eq.mpr c30
                      clear c30
                      have H' := Aside0.mk H
                      clear H
                      go_wp2_with (first | (go_at_call 32; (with_reducible refine (modes_Class.calls t438 x19_1 t439 _ A28.out).mono ?_); rintro e w' ⟨rfl, ⟨nd, rfl⟩⟩) | (go_at_call 32; (with_reducible refine (modes_Class.calls (wrap64 (Int.tmod a3 4096)) x19_1 t440 _ A29.out).mono ?_); rintro e w' ⟨rfl, ⟨nd, rfl⟩⟩))
                      go_roundg kj22
                      case measure => have := HK1.out; have := HJ22.out; omega
                      case rel => exact ⟨(wrap64 (x19_1 + 1)), (by first | rfl | (simp; done) | (simp [*]; done)), H', ⟨by have := HK1.out; have := HJ22.out; omega⟩, ⟨by repeat (first | (with_reducible first | exact HB.out | apply below_alloc | apply pw_below_drewN | apply below_drew1) | exact HB.out)⟩⟩
                    · rw [if_neg c30] at H
                      have c30b0 : (t439 == t440) = false := beq_eq_false_iff_ne.mpr c30
                      have c30b1 : (t439 != t440) = true := bne_iff_ne.mpr c30
                      obtain rfl := Option.some.inj H
                      go_wp2_with (first | (go_at_call 32; (with_reducible refine (modes_Class.calls t438 x19_1 t439 _ A28.out).mono ?_); rintro e w' ⟨rfl, ⟨nd, rfl⟩⟩) | (go_at_call 32; (with_reducible refine (modes_Class.calls (wrap64 (Int.tmod a3 4096)) x19_1 t440 _ A29.out).mono ?_); rintro e w' ⟨rfl, ⟨nd, rfl⟩⟩))
                      go_ret
                      exact ⟨by first | rfl | (simp [errW_none, errW_some] <;> rfl) | (simp only [← hji9]; first | rfl | (simp [errW_none, errW_some] <;> rfl)) | (simp [*, errW_none, errW_some] <;> rfl), by repeat (first | (with_reducible first | exact HB.out | apply below_alloc | apply pw_below_drewN | apply below_drew1) | exact HB.out)⟩
            · rw [if_neg c22] at H
              have c22b0 : decide (x19_1 < 3) = false := decide_eq_false c22
              clear c22
              by_cases c31 : (bt (⟨#[43, 45, 61]⟩ : ByteArray) (ji9)) = 43
              · rw [if_pos c31] at H
                have c31b0 : ((bt (⟨#[43, 45, 61]⟩ : ByteArray) (ji9)) == 43) = true := beq_iff_eq.mpr c31
                have c31b1 : ((bt (⟨#[43, 45, 61]⟩ : ByteArray) (ji9)) != 43) = false := bne_eq_false_iff_eq.mpr c31
                clear c31
                obtain rfl := Option.some.inj H
                go_wp2
                go_ret
                exact ⟨by first | rfl | (simp [errW_none, errW_some] <;> rfl) | (simp only [← hji9]; first | rfl | (simp [errW_none, errW_some] <;> rfl)) | (simp [*, errW_none, errW_some] <;> rfl), by repeat (first | (with_reducible first | exact HB.out | apply below_alloc | apply pw_below_drewN | apply below_drew1) | exact HB.out)⟩
              · rw [if_neg c31] at H
                have c31b0 : ((bt (⟨#[43, 45, 61]⟩ : ByteArray) (ji9)) == 43) = false := beq_eq_false_iff_ne.mpr c31
                have c31b1 : ((bt (⟨#[43, 45, 61]⟩ : ByteArray) (ji9)) != 43) = true := bne_iff_ne.mpr c31
                by_cases c32 : (bt (⟨#[43, 45, 61]⟩ : ByteArray) (ji9)) = 45
                · rw [if_pos c32] at H
                  have c32b0 : ((bt (⟨#[43, 45, 61]⟩ : ByteArray) (ji9)) == 45) = true := beq_iff_eq.mpr c32
                  have c32b1 : ((bt (⟨#[43, 45, 61]⟩ : ByteArray) (ji9)) != 45) = false := bne_eq_false_iff_eq.mpr c32
                  clear c32
                  obtain rfl := Option.some.inj H
                  go_wp2
                  go_ret
                  exact ⟨by first | rfl | (simp [errW_none, errW_some] <;> rfl) | (simp only [← hji9]; first | rfl | (simp [errW_none, errW_some] <;> rfl)) | (simp [*, errW_none, errW_some] <;> rfl), by repeat (first | (with_reducible first | exact HB.out | apply below_alloc | apply pw_below_drewN | apply below_drew1) | exact HB.out)⟩
                · rw [if_neg c32] at H
                  have c32b0 : ((bt (⟨#[43, 45, 61]⟩ : ByteArray) (ji9)) == 45) = false := beq_eq_false_iff_ne.mpr c32
                  have c32b1 : ((bt (⟨#[43, 45, 61]⟩ : ByteArray) (ji9)) != 45) = true := bne_iff_ne.mpr c32
                  by_cases c33 : t438 ≥ 0
                  · rw [if_pos c33] at H
                    have c33b0 : decide (0 ≤ t438) = true := decide_eq_true c33
                    clear c33
                    obtain rfl := Option.some.inj H
                    go_wp2
                    go_ret
                    exact ⟨by first | rfl | (simp [errW_none, errW_some] <;> rfl) | (simp only [← hji9]; first | rfl | (simp [errW_none, errW_some] <;> rfl)) | (simp [*, errW_none, errW_some] <;> rfl), by repeat (first | (with_reducible first | exact HB.out | apply below_alloc | apply pw_below_drewN | apply below_drew1) | exact HB.out)⟩
                  · rw [if_neg c33] at H
                    have c33b0 : decide (0 ≤ t438) = false := decide_eq_false c33
                    clear c33
                    obtain rfl := Option.some.inj H
                    go_wp2
                    go_ret
                    exact ⟨by first | rfl | (simp [errW_none, errW_some] <;> rfl) | (simp only [← hji9]; first | rfl | (simp [errW_none, errW_some] <;> rfl)) | (simp [*, errW_none, errW_some] <;> rfl), by repeat (first | (with_reducible first | exact HB.out | apply below_alloc | apply pw_below_drewN | apply below_drew1) | exact HB.out)⟩
      · rw [if_neg c11] at H
        exact absurd H (by simp)
    · rw [if_neg c10] at H
      exact absurd H (by simp)
  · replace c8 := Bool.eq_false_iff.mpr c8
    subst c8
    have H1 : (some false) = some r := by rw [if_neg (show ¬ (false = true) by decide)] at H; exact H
    clear H
    have H := H1
    clear H1
    obtain rfl := Option.some.inj H
    go_enter Tryd.func10, Tryd.ntmps10
    go_wp2_with (first | ((with_reducible refine gate_callee (f := 23) rfl ?_); refine goesL_ (some 21) rfl rfl Tryd.func23 (by kernel_rfl) rfl #[] rfl (by (try simp only [List.map_toArray, List.map_cons, List.map_nil]); first | done | rfl | (simp only [List.length_drop, List.length_take]; rfl)) ?_; (with_reducible refine (gaolerlaw03_awake.calls k  false _ A7.out).mono ?_); rintro e w34 ⟨rfl, hb⟩; refine ⟨_, rfl, ?_⟩; have n0_ := Aside0.mk (below_step (by repeat (first | (with_reducible first | exact HB.out | apply below_alloc | apply pw_below_drewN | apply below_drew1) | exact HB.out)) hb); clear HB; have HB := n0_; clear n0_; (try clear hb); (try clear hb2); (try clear hk); (try clear hi)))
    go_ret
    exact ⟨by first | rfl | (simp [errW_none, errW_some] <;> rfl) | (simp [*, errW_none, errW_some] <;> rfl), by repeat (first | (with_reducible first | exact HB.out | apply below_alloc | apply pw_below_drewN | apply below_drew1) | exact HB.out)⟩
/-- THE ONE PURE STATEMENT of gaolerlaw03_ApplyStays: yours. -/
def gaolerlaw03_ApplyStays.Pure : Prop := ∀ (a0 : Int) (a1 : Int) (a2 : Int) (a3 : Int) (a4 : Bool) (a5 : Int), (Lit.int .u8 a0).wf = true → (Lit.int .u8 a1).wf = true → (Lit.int .u8 a2).wf = true → (Lit.int .u16 a3).wf = true → (Lit.int .u16 a5).wf = true → ∃ k, gaolerlaw03_ApplyStays.f k a0 a1 a2 a3 a4 a5 = some true
theorem gaolerlaw03_ApplyStays.walk (P : gaolerlaw03_ApplyStays.Pure) (a0 : Int) (a1 : Int) (a2 : Int) (a3 : Int) (a4 : Bool) (a5 : Int) (w : World) (w0 : (Lit.int .u8 a0).wf = true) (w1 : (Lit.int .u8 a1).wf = true) (w2 : (Lit.int .u8 a2).wf = true) (w3 : (Lit.int .u16 a3).wf = true) (w5 : (Lit.int .u16 a5).wf = true) :
    Calls Tryd.prog 10 #[.int .u8 a0, .int .u8 a1, .int .u8 a2, .int .u16 a3, .bool a4, .int .u16 a5] w fun e w' => e = .returned (.bool true) ∧ Below w.heap.size w w' := by
  obtain ⟨k, h⟩ := P a0 a1 a2 a3 a4 a5 w0 w1 w2 w3 w5
  refine (gaolerlaw03_ApplyStays.calls k a0 a1 a2 a3 a4 a5 true w h).mono ?_
  rintro e w' ⟨rfl, hd⟩
  exact ⟨rfl, hd⟩
-- NOT PRINTED: function 11 (gaolerlaw03_ApplyTwice)
-- NOT PRINTED: function 12 (gaolerlaw03_ApplyParts)
/-! ### gaolerlaw03_ApplyCopies: function 13 -/
mutual
def gaolerlaw03_ApplyCopies.j0 : Nat → Int → Int → Int → Bool → Option (Bool)
  | 0, _, _, _, _ => none
  | k + 1, x12, x14, x15, x56 => if x56 = true then (some false) else (gaolerlaw03_ApplyCopies.l0 k x12 x14 x15 0)
def gaolerlaw03_ApplyCopies.l0 : Nat → Int → Int → Int → Int → Option (Bool)
  | 0, _, _, _, _ => none
  | k + 1, x12, x14, x15, x16 => if x16 < 3 then (if x16 = x12 then (gaolerlaw03_ApplyCopies.l0 k x12 x14 x15 (wrap64 (x16 + 1))) else ((modes_Class.f x15 x16).bind fun t459 => ((modes_Class.f x14 x16).bind fun t460 => (if t459 = t460 then (if 0 ≤ (wrap64 (11 - x16)) then (if (Go.bits .and .i64 (shr .i64 x15 (wrap64 (11 - x16))) 1) = (Go.bits .and .i64 (shr .i64 x14 (wrap64 (11 - x16))) 1) then (gaolerlaw03_ApplyCopies.l0 k x12 x14 x15 (wrap64 (x16 + 1))) else (some false)) else (none)) else (some false))))) else (some true)
end
def gaolerlaw03_ApplyCopies.f (k : Nat) (a0 : Int) (a1 : Int) (a2 : Int) (a3 : Bool) (a4 : Int) : Option (Bool) := (gaolerlaw03_awake.f k).bind fun t449 => (if t449 = true then (if 0 ≤ (wrap64 (Int.tmod a0 3)) then ((apply_Apply.f k (([(⟨shl .i64 1 (wrap64 (Int.tmod a0 3)), (([(⟨61, 0, wrap64 ((wrap64 (Int.tmod a1 3)) + 1)⟩ : S60)] : List (S60)))⟩ : S34)] : List (S34))) (wrap64 (Int.tmod a2 4096)) a3 (wrap64 (a4))).bind fun t456 => ((modes_Class.f t456 (wrap64 (Int.tmod a0 3))).bind fun t457 => ((modes_Class.f (wrap64 (Int.tmod a2 4096)) (wrap64 (Int.tmod a1 3))).bind fun t458 => (if t457 = t458 then (if 0 ≤ (wrap64 (11 - (wrap64 (Int.tmod a0 3)))) then (gaolerlaw03_ApplyCopies.j0 k (wrap64 (Int.tmod a0 3)) (wrap64 (Int.tmod a2 4096)) t456 ((Go.bits .and .i64 (shr .i64 t456 (wrap64 (11 - (wrap64 (Int.tmod a0 3))))) 1) != 0)) else (none)) else (gaolerlaw03_ApplyCopies.j0 k (wrap64 (Int.tmod a0 3)) (wrap64 (Int.tmod a2 4096)) t456 true))))) else (none)) else (some false))
set_option maxHeartbeats 8000000 in
set_option maxRecDepth 100000 in
theorem gaolerlaw03_ApplyCopies.calls (k : Nat) (a0 : Int) (a1 : Int) (a2 : Int) (a3 : Bool) (a4 : Int) (r : Bool) (w : World) (h : gaolerlaw03_ApplyCopies.f k a0 a1 a2 a3 a4 = some r) :
    Calls Tryd.prog 13 #[.int .u8 a0, .int .u8 a1, .int .u16 a2, .bool a3, .int .u16 a4] w fun e w' => e = .returned (.bool r) ∧ Below w.heap.size w w' := by
  have hu60 := Tryd.underlying60
  have hu34 := Tryd.underlying34
  have HB := Aside0.mk (Below.refl w.heap.size w)
  have H : ((gaolerlaw03_awake.f k).bind fun t449 => (if t449 = true then (if 0 ≤ (wrap64 (Int.tmod a0 3)) then ((apply_Apply.f k (([(⟨shl .i64 1 (wrap64 (Int.tmod a0 3)), (([(⟨61, 0, wrap64 ((wrap64 (Int.tmod a1 3)) + 1)⟩ : S60)] : List (S60)))⟩ : S34)] : List (S34))) (wrap64 (Int.tmod a2 4096)) a3 (wrap64 (a4))).bind fun t456 => ((modes_Class.f t456 (wrap64 (Int.tmod a0 3))).bind fun t457 => ((modes_Class.f (wrap64 (Int.tmod a2 4096)) (wrap64 (Int.tmod a1 3))).bind fun t458 => (if t457 = t458 then (if 0 ≤ (wrap64 (11 - (wrap64 (Int.tmod a0 3)))) then (gaolerlaw03_ApplyCopies.j0 k (wrap64 (Int.tmod a0 3)) (wrap64 (Int.tmod a2 4096)) t456 ((Go.bits .and .i64 (shr .i64 t456 (wrap64 (11 - (wrap64 (Int.tmod a0 3))))) 1) != 0)) else (none)) else (gaolerlaw03_ApplyCopies.j0 k (wrap64 (Int.tmod a0 3)) (wrap64 (Int.tmod a2 4096)) t456 true))))) else (none)) else (some false))) = some r := h
  clear h
  replace H := Option.bind_eq_some_iff.mp H
  obtain ⟨t449, A60, H⟩ := H
  replace H : (if t449 = true then (if 0 ≤ (wrap64 (Int.tmod a0 3)) then ((apply_Apply.f k (([(⟨shl .i64 1 (wrap64 (Int.tmod a0 3)), (([(⟨61, 0, wrap64 ((wrap64 (Int.tmod a1 3)) + 1)⟩ : S60)] : List (S60)))⟩ : S34)] : List (S34))) (wrap64 (Int.tmod a2 4096)) a3 (wrap64 (a4))).bind fun t456 => ((modes_Class.f t456 (wrap64 (Int.tmod a0 3))).bind fun t457 => ((modes_Class.f (wrap64 (Int.tmod a2 4096)) (wrap64 (Int.tmod a1 3))).bind fun t458 => (if t457 = t458 then (if 0 ≤ (wrap64 (11 - (wrap64 (Int.tmod a0 3)))) then (gaolerlaw03_ApplyCopies.j0 k (wrap64 (Int.tmod a0 3)) (wrap64 (Int.tmod a2 4096)) t456 ((Go.bits .and .i64 (shr .i64 t456 (wrap64 (11 - (wrap64 (Int.tmod a0 3))))) 1) != 0)) else (none)) else (gaolerlaw03_ApplyCopies.j0 k (wrap64 (Int.tmod a0 3)) (wrap64 (Int.tmod a2 4096)) t456 true))))) else (none)) else (some false)) = some r := H
  have A6 := Aside0.mk A60
  clear A60
  by_cases c7 : t449 = true
  · subst c7
    have H1 : (if 0 ≤ (wrap64 (Int.tmod a0 3)) then ((apply_Apply.f k (([(⟨shl .i64 1 (wrap64 (Int.tmod a0 3)), (([(⟨61, 0, wrap64 ((wrap64 (Int.tmod a1 3)) + 1)⟩ : S60)] : List (S60)))⟩ : S34)] : List (S34))) (wrap64 (Int.tmod a2 4096)) a3 (wrap64 (a4))).bind fun t456 => ((modes_Class.f t456 (wrap64 (Int.tmod a0 3))).bind fun t457 => ((modes_Class.f (wrap64 (Int.tmod a2 4096)) (wrap64 (Int.tmod a1 3))).bind fun t458 => (if t457 = t458 then (if 0 ≤ (wrap64 (11 - (wrap64 (Int.tmod a0 3)))) then (gaolerlaw03_ApplyCopies.j0 k (wrap64 (Int.tmod a0 3)) (wrap64 (Int.tmod a2 4096)) t456 ((Go.bits .and .i64 (shr .i64 t456 (wrap64 (11 - (wrap64 (Int.tmod a0 3))))) 1) != 0)) else (none)) else (gaolerlaw03_ApplyCopies.j0 k (wrap64 (Int.tmod a0 3)) (wrap64 (Int.tmod a2 4096)) t456 true))))) else (none)) = some r := by rw [if_pos rfl] at H; exact H
    clear H
    have H := H1
    clear H1
    obtain ⟨ji8, hji8⟩ : ∃ j_ : Int, (wrap64 (Int.tmod a0 3)) = j_ := ⟨_, rfl⟩
    replace H : (if 0 ≤ (ji8) then ((apply_Apply.f k (([(⟨shl .i64 1 (ji8), (([(⟨61, 0, wrap64 ((wrap64 (Int.tmod a1 3)) + 1)⟩ : S60)] : List (S60)))⟩ : S34)] : List (S34))) (wrap64 (Int.tmod a2 4096)) a3 (wrap64 (a4))).bind fun t456 => ((modes_Class.f t456 (ji8)).bind fun t457 => ((modes_Class.f (wrap64 (Int.tmod a2 4096)) (wrap64 (Int.tmod a1 3))).bind fun t458 => (if t457 = t458 then (if 0 ≤ (wrap64 (11 - (ji8))) then (gaolerlaw03_ApplyCopies.j0 k ji8 (wrap64 (Int.tmod a2 4096)) t456 ((Go.bits .and .i64 (shr .i64 t456 (wrap64 (11 - (ji8)))) 1) != 0)) else (none)) else (gaolerlaw03_ApplyCopies.j0 k ji8 (wrap64 (Int.tmod a2 4096)) t456 true))))) else (none)) = some r := by first | (rw [hji8] at H; exact H) | (simp only [hji8] at H ⊢; exact H)
    (try rw [hji8] at A6)
    have hji8w : (IntKind.i64.wrap (Int.tmod a0 3)) = ji8 := (i64_w _).trans hji8
    by_cases c9 : 0 ≤ (ji8)
    · rw [if_pos c9] at H
      have c9b0 := eq_true c9
      have c9b1 : decide (0 ≤ (ji8)) = true := decide_eq_true c9
      clear c9
      obtain ⟨ji10, hji10⟩ : ∃ j_ : Int, (shl .i64 1 (ji8)) = j_ := ⟨_, rfl⟩
      replace H : ((apply_Apply.f k (([(⟨ji10, (([(⟨61, 0, wrap64 ((wrap64 (Int.tmod a1 3)) + 1)⟩ : S60)] : List (S60)))⟩ : S34)] : List (S34))) (wrap64 (Int.tmod a2 4096)) a3 (wrap64 (a4))).bind fun t456 => ((modes_Class.f t456 (ji8)).bind fun t457 => ((modes_Class.f (wrap64 (Int.tmod a2 4096)) (wrap64 (Int.tmod a1 3))).bind fun t458 => (if t457 = t458 then (if 0 ≤ (wrap64 (11 - (ji8))) then (gaolerlaw03_ApplyCopies.j0 k ji8 (wrap64 (Int.tmod a2 4096)) t456 ((Go.bits .and .i64 (shr .i64 t456 (wrap64 (11 - (ji8)))) 1) != 0)) else (none)) else (gaolerlaw03_ApplyCopies.j0 k ji8 (wrap64 (Int.tmod a2 4096)) t456 true))))) = some r := by first | (rw [hji10] at H; exact H) | (simp only [hji10] at H ⊢; exact H)
      (try rw [hji10] at A6)
      have hji10_ : (IntKind.i64.wrap (1 * 2 ^ min (ji8).toNat 64)) = ji10 := hji10
      have hji10z : (ji8) ≤ 64 → (IntKind.i64.wrap (1 * 2 ^ (ji8).toNat)) = ji10 := shl_small hji10
      have hji10u : (IntKind.i64.wrap (2 ^ min (ji8).toNat 64)) = ji10 := by have h_ := hji10_; rw [Int.one_mul] at h_; exact h_
      have hji10v : (ji8) ≤ 64 → (IntKind.i64.wrap (2 ^ (ji8).toNat)) = ji10 := fun hle_ => by have h_ := hji10z hle_; rw [Int.one_mul] at h_; exact h_
      have hji10y : (wrap64 (1 * 2 ^ min (ji8).toNat 64)) = ji10 := (i64_w _).symm.trans hji10_
      have hji10x : (ji8) ≤ 64 → (wrap64 (1 * 2 ^ (ji8).toNat)) = ji10 := fun h_ => (i64_w _).symm.trans (hji10z h_)
      obtain ⟨y450, hy450⟩ : ∃ y_ : List (S60), y_ = (([(⟨61, 0, wrap64 ((wrap64 (Int.tmod a1 3)) + 1)⟩ : S60)] : List (S60))) := ⟨_, rfl⟩
      replace H : ((apply_Apply.f k (([(⟨ji10, y450⟩ : S34)] : List (S34))) (wrap64 (Int.tmod a2 4096)) a3 (wrap64 (a4))).bind fun t456 => ((modes_Class.f t456 (ji8)).bind fun t457 => ((modes_Class.f (wrap64 (Int.tmod a2 4096)) (wrap64 (Int.tmod a1 3))).bind fun t458 => (if t457 = t458 then (if 0 ≤ (wrap64 (11 - (ji8))) then (gaolerlaw03_ApplyCopies.j0 k ji8 (wrap64 (Int.tmod a2 4096)) t456 ((Go.bits .and .i64 (shr .i64 t456 (wrap64 (11 - (ji8)))) 1) != 0)) else (none)) else (gaolerlaw03_ApplyCopies.j0 k ji8 (wrap64 (Int.tmod a2 4096)) t456 true))))) = some r := by first | (rw [hy450]; with_reducible exact H) | (have H2_ := (Option.bind_some _ _).symm.trans H; rw [hy450]; with_reducible exact H2_) | (have H2_ := (Option.bind_some _ _).symm.trans H; with_reducible exact H2_) | with_reducible exact H | (rw [hy450]; exact H) | exact H
      have Ny450 := Aside0.mk hy450
      clear hy450
      obtain ⟨y453, hy453⟩ : ∃ y_ : List (S34), y_ = (([(⟨ji10, y450⟩ : S34)] : List (S34))) := ⟨_, rfl⟩
      replace H : ((apply_Apply.f k y453 (wrap64 (Int.tmod a2 4096)) a3 (wrap64 (a4))).bind fun t456 => ((modes_Class.f t456 (ji8)).bind fun t457 => ((modes_Class.f (wrap64 (Int.tmod a2 4096)) (wrap64 (Int.tmod a1 3))).bind fun t458 => (if t457 = t458 then (if 0 ≤ (wrap64 (11 - (ji8))) then (gaolerlaw03_ApplyCopies.j0 k ji8 (wrap64 (Int.tmod a2 4096)) t456 ((Go.bits .and .i64 (shr .i64 t456 (wrap64 (11 - (ji8)))) 1) != 0)) else (none)) else (gaolerlaw03_ApplyCopies.j0 k ji8 (wrap64 (Int.tmod a2 4096)) t456 true))))) = some r := by first | (rw [hy453]; with_reducible exact H) | (have H2_ := (Option.bind_some _ _).symm.trans H; rw [hy453]; with_reducible exact H2_) | (have H2_ := (Option.bind_some _ _).symm.trans H; with_reducible exact H2_) | with_reducible exact H | (rw [hy453]; exact H) | exact H
      have Ny453 := Aside0.mk hy453
      clear hy453
      replace H := Option.bind_eq_some_iff.mp H
      obtain ⟨t456, A110, H⟩ := H
      replace H : ((modes_Class.f t456 (ji8)).bind fun t457 => ((modes_Class.f (wrap64 (Int.tmod a2 4096)) (wrap64 (Int.tmod a1 3))).bind fun t458 => (if t457 = t458 then (if 0 ≤ (wrap64 (11 - (ji8))) then (gaolerlaw03_ApplyCopies.j0 k ji8 (wrap64 (Int.tmod a2 4096)) t456 ((Go.bits .and .i64 (shr .i64 t456 (wrap64 (11 - (ji8)))) 1) != 0)) else (none)) else (gaolerlaw03_ApplyCopies.j0 k ji8 (wrap64 (Int.tmod a2 4096)) t456 true)))) = some r := H
      have A11 := Aside0.mk A110
      clear A110
      have HC12 := Aside0.mk H
      clear H
      go_enter Tryd.func13, Tryd.ntmps13
      go_upto_region 8 with (first | (go_at_call 23; (with_reducible refine (gaolerlaw03_awake.calls k  true _ A6.out).mono ?_); rintro e w13 ⟨rfl, hb⟩; have n0_ := Aside0.mk (below_step (by repeat (first | (with_reducible first | exact HB.out | apply below_alloc | apply pw_below_drewN | apply below_drew1) | exact HB.out)) hb); clear HB; have HB := n0_; clear n0_; (try clear hb); (try clear hb2); (try clear hk); (try clear hi)) | ((with_reducible refine gate_dst (N := 34) rfl ?_); refine Kd.R_lit k60 _ 60 ?hg (N := 34) ?hd (xs := ([(⟨61, 0, wrap64 ((wrap64 (Int.tmod a1 3)) + 1)⟩ : S60)] : List (S60))) (inner := [.int .u8 61, .int .i64 0, .int .i64 (wrap64 ((wrap64 (Int.tmod a1 3)) + 1))]) (ok := fun _ => True) (okp := fun _ => True) ?hr ?hp (fun _ hk => hk) trivial (Below.refl _ _) (Nat.le_refl _) (by simp) ?_; (case hd => rfl); (case hg => rfl); (case hr => first | (go_simp; done) | (go_simp; rfl)); (case hp => exact (Reps.c3 (show Kd.M k60 _ _ _ (⟨61, 0, wrap64 ((wrap64 (Int.tmod a1 3)) + 1)⟩ : S60) [.int .u8 61, .int .i64 0, .int .i64 (wrap64 ((wrap64 (Int.tmod a1 3)) + 1))] from (k60_mkM _ _ _ (⟨61, 0, wrap64 ((wrap64 (Int.tmod a1 3)) + 1)⟩ : S60) )) (Reps.none _ _))); intro v451 w14 ho15 hb hg_ hnew_; clear hg_ hnew_; (first | rw [← Ny450.out] at ho15 | (simp only [Int.reduceToNat] at ho15; rw [← Ny450.out] at ho15)); have n0_ := Aside0.mk (Kd.R_lower ho15 (below_size (by repeat (first | (with_reducible first | exact HB.out | apply below_alloc | apply pw_below_drewN | apply below_drew1) | exact HB.out)))); have n1_ := Aside0.mk (below_step (by repeat (first | (with_reducible first | exact HB.out | apply below_alloc | apply pw_below_drewN | apply below_drew1) | exact HB.out)) hb); clear HB; have HO452 := n0_; have HB := n1_; clear n0_ n1_; clear hb ho15; obtain ⟨Ao16, co16, eo16⟩ := Kd.R_slice HO452.out; subst eo16) | ((with_reducible refine gate_dst (N := 36) rfl ?_); refine Kd.N_lit k34 _ 34 ?hg (N' := 36) ?hd (xs := ([(⟨ji10, y450⟩ : S34)] : List (S34))) (inner := [.int .i64 ji10, .slice Ao16 y450.length co16]) (ok := (fun _ => True)) (okp := (fun _ => True)) ?hr ?hp (fun _ hk => hk) ((show ∀ k_, w14.heap.size ≤ k_ → (fun _ => True) k_ from fun k_ hk => trivial) _ (Nat.le_refl _)) (Below.refl _ _) (Nat.le_refl _) (by simp) ?_; (case hd => rfl); (case hg => rfl); (case hr => first | (go_simp; done) | (go_simp; rfl)); (case hp => exact (Reps.c2 (show Kd.FK k34 _ _ (⟨ji10, y450⟩ : S34) [.int .i64 ji10, .slice Ao16 y450.length co16] from (k34_mkF _ _ (⟨ji10, y450⟩ : S34) (Kd.R_reads' (Kd.R_mono (ok' := (fun _ => True)) (HO452.out) (fun k_ hk => trivial))).2.1 (Kd.R_F (Kd.R_mono (ok' := (fun _ => True)) (HO452.out) (fun k_ hk => trivial))))) (Reps.none _ _))); intro v454 w17 ho18 hb hg_ hnew_; clear hg_ hnew_; (first | rw [← Ny453.out] at ho18 | (simp only [Int.reduceToNat] at ho18; rw [← Ny453.out] at ho18)); have n0_ := Aside0.mk (Kd.N_lower ho18 (below_size (by repeat (first | (with_reducible first | exact HB.out | apply below_alloc | apply pw_below_drewN | apply below_drew1) | exact HB.out)))); have n1_ := Aside0.mk (below_step (by repeat (first | (with_reducible first | exact HB.out | apply below_alloc | apply pw_below_drewN | apply below_drew1) | exact HB.out)) hb); clear HB; clear HO452; have HO455 := n0_; have HB := n1_; clear n0_ n1_; clear hb ho18; obtain ⟨Ao19, co19, eo19⟩ := Kd.N_slice HO455.out; subst eo19) | (go_at_call 29; (with_reducible refine (apply_Apply.calls k _ _ y453 (wrap64 (Int.tmod a2 4096)) a3 (wrap64 (a4)) t456 _ ?side1 ?side2 A11.out).mono ?_); (case side1 => repeat (first | exact (Kd.N_reads' HO455.out).2.2 | (with_reducible refine Kd.C_alloc ?_ _) | (with_reducible refine Kd.C_drewN ?_ _) | (with_reducible refine Kd.C_drew ?_))); (case side2 => exact (Kd.N_reads' HO455.out).2.1); rintro e w20 ⟨rfl, hb⟩; have n0_ := Aside0.mk (Kd.N_below (by (with_reducible repeat (first | apply Kd.N_alloc | apply Kd.N_drewN | apply Kd.N_drew)); exact HO455.out) hb); have n1_ := Aside0.mk (below_step (by repeat (first | (with_reducible first | exact HB.out | apply below_alloc | apply pw_below_drewN | apply below_drew1) | exact HB.out)) hb); clear HO455; clear HB; have HO455 := n0_; have HB := n1_; clear n0_ n1_; (try clear hb); (try clear hb2); (try clear hk); (try clear hi)))
      repeat (go_quiet (first | (go_at_call 23; (with_reducible refine (gaolerlaw03_awake.calls k  true _ A6.out).mono ?_); rintro e w13 ⟨rfl, hb⟩; have n0_ := Aside0.mk (below_step (by repeat (first | (with_reducible first | exact HB.out | apply below_alloc | apply pw_below_drewN | apply below_drew1) | exact HB.out)) hb); clear HB; have HB := n0_; clear n0_; (try clear hb); (try clear hb2); (try clear hk); (try clear hi)) | ((with_reducible refine gate_dst (N := 34) rfl ?_); refine Kd.R_lit k60 _ 60 ?hg (N := 34) ?hd (xs := ([(⟨61, 0, wrap64 ((wrap64 (Int.tmod a1 3)) + 1)⟩ : S60)] : List (S60))) (inner := [.int .u8 61, .int .i64 0, .int .i64 (wrap64 ((wrap64 (Int.tmod a1 3)) + 1))]) (ok := fun _ => True) (okp := fun _ => True) ?hr ?hp (fun _ hk => hk) trivial (Below.refl _ _) (Nat.le_refl _) (by simp) ?_; (case hd => rfl); (case hg => rfl); (case hr => first | (go_simp; done) | (go_simp; rfl)); (case hp => exact (Reps.c3 (show Kd.M k60 _ _ _ (⟨61, 0, wrap64 ((wrap64 (Int.tmod a1 3)) + 1)⟩ : S60) [.int .u8 61, .int .i64 0, .int .i64 (wrap64 ((wrap64 (Int.tmod a1 3)) + 1))] from (k60_mkM _ _ _ (⟨61, 0, wrap64 ((wrap64 (Int.tmod a1 3)) + 1)⟩ : S60) )) (Reps.none _ _))); intro v451 w14 ho15 hb hg_ hnew_; clear hg_ hnew_; (first | rw [← Ny450.out] at ho15 | (simp only [Int.reduceToNat] at ho15; rw [← Ny450.out] at ho15)); have n0_ := Aside0.mk (Kd.R_lower ho15 (below_size (by repeat (first | (with_reducible first | exact HB.out | apply below_alloc | apply pw_below_drewN | apply below_drew1) | exact HB.out)))); have n1_ := Aside0.mk (below_step (by repeat (first | (with_reducible first | exact HB.out | apply below_alloc | apply pw_below_drewN | apply below_drew1) | exact HB.out)) hb); clear HB; have HO452 := n0_; have HB := n1_; clear n0_ n1_; clear hb ho15; obtain ⟨Ao16, co16, eo16⟩ := Kd.R_slice HO452.out; subst eo16) | ((with_reducible refine gate_dst (N := 36) rfl ?_); refine Kd.N_lit k34 _ 34 ?hg (N' := 36) ?hd (xs := ([(⟨ji10, y450⟩ : S34)] : List (S34))) (inner := [.int .i64 ji10, .slice Ao16 y450.length co16]) (ok := (fun _ => True)) (okp := (fun _ => True)) ?hr ?hp (fun _ hk => hk) ((show ∀ k_, w14.heap.size ≤ k_ → (fun _ => True) k_ from fun k_ hk => trivial) _ (Nat.le_refl _)) (Below.refl _ _) (Nat.le_refl _) (by simp) ?_; (case hd => rfl); (case hg => rfl); (case hr => first | (go_simp; done) | (go_simp; rfl)); (case hp => exact (Reps.c2 (show Kd.FK k34 _ _ (⟨ji10, y450⟩ : S34) [.int .i64 ji10, .slice Ao16 y450.length co16] from (k34_mkF _ _ (⟨ji10, y450⟩ : S34) (Kd.R_reads' (Kd.R_mono (ok' := (fun _ => True)) (HO452.out) (fun k_ hk => trivial))).2.1 (Kd.R_F (Kd.R_mono (ok' := (fun _ => True)) (HO452.out) (fun k_ hk => trivial))))) (Reps.none _ _))); intro v454 w17 ho18 hb hg_ hnew_; clear hg_ hnew_; (first | rw [← Ny453.out] at ho18 | (simp only [Int.reduceToNat] at ho18; rw [← Ny453.out] at ho18)); have n0_ := Aside0.mk (Kd.N_lower ho18 (below_size (by repeat (first | (with_reducible first | exact HB.out | apply below_alloc | apply pw_below_drewN | apply below_drew1) | exact HB.out)))); have n1_ := Aside0.mk (below_step (by repeat (first | (with_reducible first | exact HB.out | apply below_alloc | apply pw_below_drewN | apply below_drew1) | exact HB.out)) hb); clear HB; clear HO452; have HO455 := n0_; have HB := n1_; clear n0_ n1_; clear hb ho18; obtain ⟨Ao19, co19, eo19⟩ := Kd.N_slice HO455.out; subst eo19) | (go_at_call 29; (with_reducible refine (apply_Apply.calls k _ _ y453 (wrap64 (Int.tmod a2 4096)) a3 (wrap64 (a4)) t456 _ ?side1 ?side2 A11.out).mono ?_); (case side1 => repeat (first | exact (Kd.N_reads' HO455.out).2.2 | (with_reducible refine Kd.C_alloc ?_ _) | (with_reducible refine Kd.C_drewN ?_ _) | (with_reducible refine Kd.C_drew ?_))); (case side2 => exact (Kd.N_reads' HO455.out).2.1); rintro e w20 ⟨rfl, hb⟩; have n0_ := Aside0.mk (Kd.N_below (by (with_reducible repeat (first | apply Kd.N_alloc | apply Kd.N_drewN | apply Kd.N_drew)); exact HO455.out) hb); have n1_ := Aside0.mk (below_step (by repeat (first | (with_reducible first | exact HB.out | apply below_alloc | apply pw_below_drewN | apply below_drew1) | exact HB.out)) hb); clear HO455; clear HB; have HO455 := n0_; have HB := n1_; clear n0_ n1_; (try clear hb); (try clear hb2); (try clear hk); (try clear hi))); go_upto_region 8 with (first | (go_at_call 23; (with_reducible refine (gaolerlaw03_awake.calls k  true _ A6.out).mono ?_); rintro e w13 ⟨rfl, hb⟩; have n0_ := Aside0.mk (below_step (by repeat (first | (with_reducible first | exact HB.out | apply below_alloc | apply pw_below_drewN | apply below_drew1) | exact HB.out)) hb); clear HB; have HB := n0_; clear n0_; (try clear hb); (try clear hb2); (try clear hk); (try clear hi)) | ((with_reducible refine gate_dst (N := 34) rfl ?_); refine Kd.R_lit k60 _ 60 ?hg (N := 34) ?hd (xs := ([(⟨61, 0, wrap64 ((wrap64 (Int.tmod a1 3)) + 1)⟩ : S60)] : List (S60))) (inner := [.int .u8 61, .int .i64 0, .int .i64 (wrap64 ((wrap64 (Int.tmod a1 3)) + 1))]) (ok := fun _ => True) (okp := fun _ => True) ?hr ?hp (fun _ hk => hk) trivial (Below.refl _ _) (Nat.le_refl _) (by simp) ?_; (case hd => rfl); (case hg => rfl); (case hr => first | (go_simp; done) | (go_simp; rfl)); (case hp => exact (Reps.c3 (show Kd.M k60 _ _ _ (⟨61, 0, wrap64 ((wrap64 (Int.tmod a1 3)) + 1)⟩ : S60) [.int .u8 61, .int .i64 0, .int .i64 (wrap64 ((wrap64 (Int.tmod a1 3)) + 1))] from (k60_mkM _ _ _ (⟨61, 0, wrap64 ((wrap64 (Int.tmod a1 3)) + 1)⟩ : S60) )) (Reps.none _ _))); intro v451 w14 ho15 hb hg_ hnew_; clear hg_ hnew_; (first | rw [← Ny450.out] at ho15 | (simp only [Int.reduceToNat] at ho15; rw [← Ny450.out] at ho15)); have n0_ := Aside0.mk (Kd.R_lower ho15 (below_size (by repeat (first | (with_reducible first | exact HB.out | apply below_alloc | apply pw_below_drewN | apply below_drew1) | exact HB.out)))); have n1_ := Aside0.mk (below_step (by repeat (first | (with_reducible first | exact HB.out | apply below_alloc | apply pw_below_drewN | apply below_drew1) | exact HB.out)) hb); clear HB; have HO452 := n0_; have HB := n1_; clear n0_ n1_; clear hb ho15; obtain ⟨Ao16, co16, eo16⟩ := Kd.R_slice HO452.out; subst eo16) | ((with_reducible refine gate_dst (N := 36) rfl ?_); refine Kd.N_lit k34 _ 34 ?hg (N' := 36) ?hd (xs := ([(⟨ji10, y450⟩ : S34)] : List (S34))) (inner := [.int .i64 ji10, .slice Ao16 y450.length co16]) (ok := (fun _ => True)) (okp := (fun _ => True)) ?hr ?hp (fun _ hk => hk) ((show ∀ k_, w14.heap.size ≤ k_ → (fun _ => True) k_ from fun k_ hk => trivial) _ (Nat.le_refl _)) (Below.refl _ _) (Nat.le_refl _) (by simp) ?_; (case hd => rfl); (case hg => rfl); (case hr => first | (go_simp; done) | (go_simp; rfl)); (case hp => exact (Reps.c2 (show Kd.FK k34 _ _ (⟨ji10, y450⟩ : S34) [.int .i64 ji10, .slice Ao16 y450.length co16] from (k34_mkF _ _ (⟨ji10, y450⟩ : S34) (Kd.R_reads' (Kd.R_mono (ok' := (fun _ => True)) (HO452.out) (fun k_ hk => trivial))).2.1 (Kd.R_F (Kd.R_mono (ok' := (fun _ => True)) (HO452.out) (fun k_ hk => trivial))))) (Reps.none _ _))); intro v454 w17 ho18 hb hg_ hnew_; clear hg_ hnew_; (first | rw [← Ny453.out] at ho18 | (simp only [Int.reduceToNat] at ho18; rw [← Ny453.out] at ho18)); have n0_ := Aside0.mk (Kd.N_lower ho18 (below_size (by repeat (first | (with_reducible first | exact HB.out | apply below_alloc | apply pw_below_drewN | apply below_drew1) | exact HB.out)))); have n1_ := Aside0.mk (below_step (by repeat (first | (with_reducible first | exact HB.out | apply below_alloc | apply pw_below_drewN | apply below_drew1) | exact HB.out)) hb); clear HB; clear HO452; have HO455 := n0_; have HB := n1_; clear n0_ n1_; clear hb ho18; obtain ⟨Ao19, co19, eo19⟩ := Kd.N_slice HO455.out; subst eo19) | (go_at_call 29; (with_reducible refine (apply_Apply.calls k _ _ y453 (wrap64 (Int.tmod a2 4096)) a3 (wrap64 (a4)) t456 _ ?side1 ?side2 A11.out).mono ?_); (case side1 => repeat (first | exact (Kd.N_reads' HO455.out).2.2 | (with_reducible refine Kd.C_alloc ?_ _) | (with_reducible refine Kd.C_drewN ?_ _) | (with_reducible refine Kd.C_drew ?_))); (case side2 => exact (Kd.N_reads' HO455.out).2.1); rintro e w20 ⟨rfl, hb⟩; have n0_ := Aside0.mk (Kd.N_below (by (with_reducible repeat (first | apply Kd.N_alloc | apply Kd.N_drewN | apply Kd.N_drew)); exact HO455.out) hb); have n1_ := Aside0.mk (below_step (by repeat (first | (with_reducible first | exact HB.out | apply below_alloc | apply pw_below_drewN | apply below_drew1) | exact HB.out)) hb); clear HO455; clear HB; have HO455 := n0_; have HB := n1_; clear n0_ n1_; (try clear hb); (try clear hb2); (try clear hk); (try clear hi))))
      (try simp only [Act.put, List.setIfInBounds_toArray, List.set_cons_zero, List.set_cons_succ])
      go_cut [56] (fun v56 wc => ∃ (kq : Nat) (x56_11 : Bool), v56 = .bool x56_11 ∧ Aside0 (gaolerlaw03_ApplyCopies.j0 kq ji8 (wrap64 (Int.tmod a2 4096)) t456 x56_11 = some r) ∧ Aside0 (kq ≤ k) ∧ Aside0 (Below w.heap.size w wc))
      case first =>
        have H := HC12.out
        clear HC12
        replace H := Option.bind_eq_some_iff.mp H
        obtain ⟨t457, A210, H⟩ := H
        replace H : ((modes_Class.f (wrap64 (Int.tmod a2 4096)) (wrap64 (Int.tmod a1 3))).bind fun t458 => (if t457 = t458 then (if 0 ≤ (wrap64 (11 - (ji8))) then (gaolerlaw03_ApplyCopies.j0 k ji8 (wrap64 (Int.tmod a2 4096)) t456 ((Go.bits .and .i64 (shr .i64 t456 (wrap64 (11 - (ji8)))) 1) != 0)) else (none)) else (gaolerlaw03_ApplyCopies.j0 k ji8 (wrap64 (Int.tmod a2 4096)) t456 true))) = some r := H
        have A21 := Aside0.mk A210
        clear A210
        replace H := Option.bind_eq_some_iff.mp H
        obtain ⟨t458, A220, H⟩ := H
        replace H : (if t457 = t458 then (if 0 ≤ (wrap64 (11 - (ji8))) then (gaolerlaw03_ApplyCopies.j0 k ji8 (wrap64 (Int.tmod a2 4096)) t456 ((Go.bits .and .i64 (shr .i64 t456 (wrap64 (11 - (ji8)))) 1) != 0)) else (none)) else (gaolerlaw03_ApplyCopies.j0 k ji8 (wrap64 (Int.tmod a2 4096)) t456 true)) = some r := H
        have A22 := Aside0.mk A220
        clear A220
        by_cases c23 : t457 = t458
        · rw [if_pos c23] at H
          have c23b0 : (t457 == t458) = true := beq_iff_eq.mpr c23
          have c23b1 : (t457 != t458) = false := bne_eq_false_iff_eq.mpr c23
          clear c23
          (first | rw [c23b0] | (simp only [i64_w, i32_w]; rw [c23b0]) | skip)
          obtain ⟨ji24, hji24⟩ : ∃ j_ : Int, (wrap64 (11 - (ji8))) = j_ := ⟨_, rfl⟩
          replace H : (if 0 ≤ (ji24) then (gaolerlaw03_ApplyCopies.j0 k ji8 (wrap64 (Int.tmod a2 4096)) t456 ((Go.bits .and .i64 (shr .i64 t456 (ji24)) 1) != 0)) else (none)) = some r := by first | (rw [hji24] at H; exact H) | (simp only [hji24] at H ⊢; exact H)
          (try rw [hji24] at A21)
          (try rw [hji24] at A22)
          have hji24w : (IntKind.i64.wrap (11 - (ji8))) = ji24 := (i64_w _).trans hji24
          by_cases c25 : 0 ≤ (ji24)
          · rw [if_pos c25] at H
            have c25b0 := eq_true c25
            have c25b1 : decide (0 ≤ (ji24)) = true := decide_eq_true c25
            clear c25
            obtain ⟨ji26, hji26⟩ : ∃ j_ : Int, (shr .i64 t456 (ji24)) = j_ := ⟨_, rfl⟩
            replace H : (gaolerlaw03_ApplyCopies.j0 k ji8 (wrap64 (Int.tmod a2 4096)) t456 ((Go.bits .and .i64 (ji26) 1) != 0)) = some r := by first | (rw [hji26] at H; exact H) | (simp only [hji26] at H ⊢; exact H)
            (try rw [hji26] at A21)
            (try rw [hji26] at A22)
            have hji26_ : (t456 / 2 ^ min (ji24).toNat 64) = ji26 := hji26
            have hji26z : (ji24) ≤ 64 → (t456 / 2 ^ (ji24).toNat) = ji26 := shr_small hji26
            have H' := Aside0.mk H
            clear H
            go_wp2_with (first | (go_at_call 32; (with_reducible refine (modes_Class.calls t456 ji8 t457 _ A21.out).mono ?_); rintro e w' ⟨rfl, ⟨nd, rfl⟩⟩; (try first | exact ⟨rfl, _, World.drewN_drewN _ _ _⟩ | exact ⟨rfl, _, Eq.trans (World.drewN_drewN _ _ _) (congrArg (World.drewN _) (Nat.add_assoc _ _ _))⟩)) | (go_at_call 32; (with_reducible refine (modes_Class.calls (wrap64 (Int.tmod a2 4096)) (wrap64 (Int.tmod a1 3)) t458 _ A22.out).mono ?_); rintro e w' ⟨rfl, ⟨nd, rfl⟩⟩; (try first | exact ⟨rfl, _, World.drewN_drewN _ _ _⟩ | exact ⟨rfl, _, Eq.trans (World.drewN_drewN _ _ _) (congrArg (World.drewN _) (Nat.add_assoc _ _ _))⟩)))
            repeat (go_quiet (first | (go_at_call 32; (with_reducible refine (modes_Class.calls t456 ji8 t457 _ A21.out).mono ?_); rintro e w' ⟨rfl, ⟨nd, rfl⟩⟩; (try first | exact ⟨rfl, _, World.drewN_drewN _ _ _⟩ | exact ⟨rfl, _, Eq.trans (World.drewN_drewN _ _ _) (congrArg (World.drewN _) (Nat.add_assoc _ _ _))⟩)) | (go_at_call 32; (with_reducible refine (modes_Class.calls (wrap64 (Int.tmod a2 4096)) (wrap64 (Int.tmod a1 3)) t458 _ A22.out).mono ?_); rintro e w' ⟨rfl, ⟨nd, rfl⟩⟩; (try first | exact ⟨rfl, _, World.drewN_drewN _ _ _⟩ | exact ⟨rfl, _, Eq.trans (World.drewN_drewN _ _ _) (congrArg (World.drewN _) (Nat.add_assoc _ _ _))⟩))); try go_wp2_with (first | (go_at_call 32; (with_reducible refine (modes_Class.calls t456 ji8 t457 _ A21.out).mono ?_); rintro e w' ⟨rfl, ⟨nd, rfl⟩⟩; (try first | exact ⟨rfl, _, World.drewN_drewN _ _ _⟩ | exact ⟨rfl, _, Eq.trans (World.drewN_drewN _ _ _) (congrArg (World.drewN _) (Nat.add_assoc _ _ _))⟩)) | (go_at_call 32; (with_reducible refine (modes_Class.calls (wrap64 (Int.tmod a2 4096)) (wrap64 (Int.tmod a1 3)) t458 _ A22.out).mono ?_); rintro e w' ⟨rfl, ⟨nd, rfl⟩⟩; (try first | exact ⟨rfl, _, World.drewN_drewN _ _ _⟩ | exact ⟨rfl, _, Eq.trans (World.drewN_drewN _ _ _) (congrArg (World.drewN _) (Nat.add_assoc _ _ _))⟩))))
            go_meet
            case rel => exact ⟨_, (((Go.bits .and .i64 (ji26) 1) != 0)), (by first | rfl | (simp; done) | (simp only [← hji26] <;> (first | rfl | simp)) | (simp [*]; done)), H', ⟨by first | omega | exact Nat.le_refl _⟩, ⟨by repeat (first | (with_reducible first | exact HB.out | apply below_alloc | apply pw_below_drewN | apply below_drew1) | exact HB.out)⟩⟩
          · rw [if_neg c25] at H
            exact absurd H (by simp)
        · rw [if_neg c23] at H
          have c23b0 : (t457 == t458) = false := beq_eq_false_iff_ne.mpr c23
          have c23b1 : (t457 != t458) = true := bne_iff_ne.mpr c23
          (first | rw [c23b0] | (simp only [i64_w, i32_w]; rw [c23b0]) | skip)
          have H' := Aside0.mk H
          clear H
          go_wp2_with (first | (go_at_call 32; (with_reducible refine (modes_Class.calls t456 ji8 t457 _ A21.out).mono ?_); rintro e w' ⟨rfl, ⟨nd, rfl⟩⟩; (try first | exact ⟨rfl, _, World.drewN_drewN _ _ _⟩ | exact ⟨rfl, _, Eq.trans (World.drewN_drewN _ _ _) (congrArg (World.drewN _) (Nat.add_assoc _ _ _))⟩)) | (go_at_call 32; (with_reducible refine (modes_Class.calls (wrap64 (Int.tmod a2 4096)) (wrap64 (Int.tmod a1 3)) t458 _ A22.out).mono ?_); rintro e w' ⟨rfl, ⟨nd, rfl⟩⟩; (try first | exact ⟨rfl, _, World.drewN_drewN _ _ _⟩ | exact ⟨rfl, _, Eq.trans (World.drewN_drewN _ _ _) (congrArg (World.drewN _) (Nat.add_assoc _ _ _))⟩)))
          repeat (go_quiet (first | (go_at_call 32; (with_reducible refine (modes_Class.calls t456 ji8 t457 _ A21.out).mono ?_); rintro e w' ⟨rfl, ⟨nd, rfl⟩⟩; (try first | exact ⟨rfl, _, World.drewN_drewN _ _ _⟩ | exact ⟨rfl, _, Eq.trans (World.drewN_drewN _ _ _) (congrArg (World.drewN _) (Nat.add_assoc _ _ _))⟩)) | (go_at_call 32; (with_reducible refine (modes_Class.calls (wrap64 (Int.tmod a2 4096)) (wrap64 (Int.tmod a1 3)) t458 _ A22.out).mono ?_); rintro e w' ⟨rfl, ⟨nd, rfl⟩⟩; (try first | exact ⟨rfl, _, World.drewN_drewN _ _ _⟩ | exact ⟨rfl, _, Eq.trans (World.drewN_drewN _ _ _) (congrArg (World.drewN _) (Nat.add_assoc _ _ _))⟩))); try go_wp2_with (first | (go_at_call 32; (with_reducible refine (modes_Class.calls t456 ji8 t457 _ A21.out).mono ?_); rintro e w' ⟨rfl, ⟨nd, rfl⟩⟩; (try first | exact ⟨rfl, _, World.drewN_drewN _ _ _⟩ | exact ⟨rfl, _, Eq.trans (World.drewN_drewN _ _ _) (congrArg (World.drewN _) (Nat.add_assoc _ _ _))⟩)) | (go_at_call 32; (with_reducible refine (modes_Class.calls (wrap64 (Int.tmod a2 4096)) (wrap64 (Int.tmod a1 3)) t458 _ A22.out).mono ?_); rintro e w' ⟨rfl, ⟨nd, rfl⟩⟩; (try first | exact ⟨rfl, _, World.drewN_drewN _ _ _⟩ | exact ⟨rfl, _, Eq.trans (World.drewN_drewN _ _ _) (congrArg (World.drewN _) (Nat.add_assoc _ _ _))⟩))))
          go_meet
          case rel => exact ⟨_, (true), (by first | rfl | (simp; done) | (simp [*]; done)), H', ⟨by first | omega | exact Nat.le_refl _⟩, ⟨by repeat (first | (with_reducible first | exact HB.out | apply below_alloc | apply pw_below_drewN | apply below_drew1) | exact HB.out)⟩⟩
      case rest =>
        clear HC12
        try clear c1
        try clear c2
        try clear p2
        try clear c3
        try clear p6
        try clear c7
        try clear c9
        try clear c9b0
        try clear c9b1
        try clear c13
        try clear c23
        try clear c23b0
        try clear c23b1
        try clear c25
        try clear c25b0
        try clear c25b1
        obtain ⟨kq, x56_11, rfl, HA, HJ11, HB⟩ := hcut
        cases kq with
        | zero => exact absurd HA.out (by simp [gaolerlaw03_ApplyCopies.j0])
        | succ kj11 =>
          have H := HA.out
          clear HA
          simp only [gaolerlaw03_ApplyCopies.j0] at H
          by_cases c27 : x56_11 = true
          · subst c27
            have H1 : (some false) = some r := by rw [if_pos rfl] at H; exact H
            clear H
            have H := H1
            clear H1
            obtain rfl := Option.some.inj H
            go_wp2
            repeat (go_quiet (fail); try go_wp2)
            go_ret
            exact ⟨by first | rfl | (simp [errW_none, errW_some] <;> rfl) | (simp only [← hji8, ← hji10]; first | rfl | (simp [errW_none, errW_some] <;> rfl)) | (simp [*, errW_none, errW_some] <;> rfl), by repeat (first | (with_reducible first | exact HB.out | apply below_alloc | apply pw_below_drewN | apply below_drew1) | exact HB.out)⟩
          · replace c27 := Bool.eq_false_iff.mpr c27
            subst c27
            have H1 : (gaolerlaw03_ApplyCopies.l0 kj11 ji8 (wrap64 (Int.tmod a2 4096)) t456 0) = some r := by rw [if_neg (show ¬ (false = true) by decide)] at H; exact H
            clear H
            have H := H1
            clear H1
            have H' := Aside0.mk H
            clear H
            go_wp2
            repeat (go_quiet (fail); try go_wp2)
            go_loopg [16] kj11 (fun kq v16 w' => ∃ (x16_2 : Int), v16 = .int .i64 x16_2 ∧ Aside0 (gaolerlaw03_ApplyCopies.l0 kq ji8 (wrap64 (Int.tmod a2 4096)) t456 x16_2 = some r) ∧ Aside0 (kq ≤ kj11) ∧ Aside0 (Below w.heap.size w w'))
            case atStart => exact ⟨(0), (by first | rfl | (simp; done) | (simp [*]; done)), H', ⟨Nat.le_refl _⟩, ⟨by repeat (first | (with_reducible first | exact HB.out | apply below_alloc | apply pw_below_drewN | apply below_drew1) | exact HB.out)⟩⟩
            case round =>
              clear H'
              try clear c1
              try clear c2
              try clear p2
              try clear c3
              try clear p6
              try clear c7
              try clear c9
              try clear c9b0
              try clear c9b1
              try clear c13
              try clear c23
              try clear c23b0
              try clear c23b1
              try clear c25
              try clear c25b0
              try clear c25b1
              try clear c27
              try clear p2
              try clear p6
              obtain ⟨x16_2, rfl, HA, HK2, HB⟩ := hrel
              cases gk with
              | zero => exact absurd HA.out (by simp [gaolerlaw03_ApplyCopies.l0])
              | succ k2 =>
                have H := HA.out
                clear HA
                simp only [gaolerlaw03_ApplyCopies.l0] at H
                by_cases c28 : x16_2 < 3
                · rw [if_pos c28] at H
                  have c28b0 : decide (x16_2 < 3) = true := decide_eq_true c28
                  clear c28
                  by_cases c29 : x16_2 = ji8
                  · rw [if_pos c29] at H
                    have c29b0 : (x16_2 == ji8) = true := beq_iff_eq.mpr c29
                    have c29b1 : (x16_2 != ji8) = false := bne_eq_false_iff_eq.mpr c29
                    clear c29
                    have H' := Aside0.mk H
                    clear H
                    go_wp2
                    repeat (go_quiet (fail); try go_wp2)
                    go_roundg k2
                    case measure => have := HJ11.out; have := HK2.out; omega
                    case rel => exact ⟨(wrap64 (x16_2 + 1)), (by first | rfl | (simp; done) | (simp [*]; done)), H', ⟨by have := HJ11.out; have := HK2.out; omega⟩, ⟨by repeat (first | (with_reducible first | exact HB.out | apply below_alloc | apply pw_below_drewN | apply below_drew1) | exact HB.out)⟩⟩
                  · rw [if_neg c29] at H
                    have c29b0 : (x16_2 == ji8) = false := beq_eq_false_iff_ne.mpr c29
                    have c29b1 : (x16_2 != ji8) = true := bne_iff_ne.mpr c29
                    replace H := Option.bind_eq_some_iff.mp H
                    obtain ⟨t459, A300, H⟩ := H
                    replace H : ((modes_Class.f (wrap64 (Int.tmod a2 4096)) x16_2).bind fun t460 => (if t459 = t460 then (if 0 ≤ (wrap64 (11 - x16_2)) then (if (Go.bits .and .i64 (shr .i64 t456 (wrap64 (11 - x16_2))) 1) = (Go.bits .and .i64 (shr .i64 (wrap64 (Int.tmod a2 4096)) (wrap64 (11 - x16_2))) 1) then (gaolerlaw03_ApplyCopies.l0 k2 ji8 (wrap64 (Int.tmod a2 4096)) t456 (wrap64 (x16_2 + 1))) else (some false)) else (none)) else (some false))) = some r := H
                    have A30 := Aside0.mk A300
                    clear A300
                    replace H := Option.bind_eq_some_iff.mp H
                    obtain ⟨t460, A310, H⟩ := H
                    replace H : (if t459 = t460 then (if 0 ≤ (wrap64 (11 - x16_2)) then (if (Go.bits .and .i64 (shr .i64 t456 (wrap64 (11 - x16_2))) 1) = (Go.bits .and .i64 (shr .i64 (wrap64 (Int.tmod a2 4096)) (wrap64 (11 - x16_2))) 1) then (gaolerlaw03_ApplyCopies.l0 k2 ji8 (wrap64 (Int.tmod a2 4096)) t456 (wrap64 (x16_2 + 1))) else (some false)) else (none)) else (some false)) = some r := H
                    have A31 := Aside0.mk A310
                    clear A310
                    by_cases c32 : t459 = t460
                    · rw [if_pos c32] at H
                      have c32b0 : (t459 == t460) = true := beq_iff_eq.mpr c32
                      have c32b1 : (t459 != t460) = false := bne_eq_false_iff_eq.mpr c32
                      clear c32
                      obtain ⟨ji33, hji33⟩ : ∃ j_ : Int, (wrap64 (11 - x16_2)) = j_ := ⟨_, rfl⟩
                      replace H : (if 0 ≤ (ji33) then (if (Go.bits .and .i64 (shr .i64 t456 (ji33)) 1) = (Go.bits .and .i64 (shr .i64 (wrap64 (Int.tmod a2 4096)) (ji33)) 1) then (gaolerlaw03_ApplyCopies.l0 k2 ji8 (wrap64 (Int.tmod a2 4096)) t456 (wrap64 (x16_2 + 1))) else (some false)) else (none)) = some r := by first | (rw [hji33] at H; exact H) | (simp only [hji33] at H ⊢; exact H)
                      (try rw [hji33] at A30)
                      (try rw [hji33] at A31)
                      have hji33w : (IntKind.i64.wrap (11 - x16_2)) = ji33 := (i64_w _).trans hji33
                      by_cases c34 : 0 ≤ (ji33)
                      · rw [if_pos c34] at H
                        have c34b0 := eq_true c34
                        have c34b1 : decide (0 ≤ (ji33)) = true := decide_eq_true c34
                        clear c34
                        obtain ⟨ji35, hji35⟩ : ∃ j_ : Int, (shr .i64 t456 (ji33)) = j_ := ⟨_, rfl⟩
                        replace H : (if (Go.bits .and .i64 (ji35) 1) = (Go.bits .and .i64 (shr .i64 (wrap64 (Int.tmod a2 4096)) (ji33)) 1) then (gaolerlaw03_ApplyCopies.l0 k2 ji8 (wrap64 (Int.tmod a2 4096)) t456 (wrap64 (x16_2 + 1))) else (some false)) = some r := by first | (rw [hji35] at H; exact H) | (simp only [hji35] at H ⊢; exact H)
                        (try rw [hji35] at A30)
                        (try rw [hji35] at A31)
                        have hji35_ : (t456 / 2 ^ min (ji33).toNat 64) = ji35 := hji35
                        have hji35z : (ji33) ≤ 64 → (t456 / 2 ^ (ji33).toNat) = ji35 := shr_small hji35
                        have c36b0 := eq_true (of_decide_eq_true (by first | (with_reducible assumption) | assumption) : 0 ≤ (ji33))
                        obtain ⟨ji37, hji37⟩ : ∃ j_ : Int, (shr .i64 (wrap64 (Int.tmod a2 4096)) (ji33)) = j_ := ⟨_, rfl⟩
                        replace H : (if (Go.bits .and .i64 (ji35) 1) = (Go.bits .and .i64 (ji37) 1) then (gaolerlaw03_ApplyCopies.l0 k2 ji8 (wrap64 (Int.tmod a2 4096)) t456 (wrap64 (x16_2 + 1))) else (some false)) = some r := by first | (rw [hji37] at H; exact H) | (simp only [hji37] at H ⊢; exact H)
                        (try rw [hji37] at A30)
                        (try rw [hji37] at A31)
                        have hji37_ : ((wrap64 (Int.tmod a2 4096)) / 2 ^ min (ji33).toNat 64) = ji37 := hji37
                        have hji37z : (ji33) ≤ 64 → ((wrap64 (Int.tmod a2 4096)) / 2 ^ (ji33).toNat) = ji37 := shr_small hji37
                        by_cases c38 : (Go.bits .and .i64 (ji35) 1) = (Go.bits .and .i64 (ji37) 1)
                        · rw [if_pos c38] at H
                          have c38b0 : ((Go.bits .and .i64 (ji35) 1) == (Go.bits .and .i64 (ji37) 1)) = true := beq_iff_eq.mpr c38
                          have c38b1 : ((Go.bits .and .i64 (ji35) 1) != (Go.bits .and .i64 (ji37) 1)) = false := bne_eq_false_iff_eq.mpr c38
                          clear c38
                          have H' := Aside0.mk H
                          clear H
                          go_wp2_with (first | (go_at_call 32; (with_reducible refine (modes_Class.calls t456 x16_2 t459 _ A30.out).mono ?_); rintro e w' ⟨rfl, ⟨nd, rfl⟩⟩; (try first | exact ⟨rfl, _, World.drewN_drewN _ _ _⟩ | exact ⟨rfl, _, Eq.trans (World.drewN_drewN _ _ _) (congrArg (World.drewN _) (Nat.add_assoc _ _ _))⟩)) | (go_at_call 32; (with_reducible refine (modes_Class.calls (wrap64 (Int.tmod a2 4096)) x16_2 t460 _ A31.out).mono ?_); rintro e w' ⟨rfl, ⟨nd, rfl⟩⟩; (try first | exact ⟨rfl, _, World.drewN_drewN _ _ _⟩ | exact ⟨rfl, _, Eq.trans (World.drewN_drewN _ _ _) (congrArg (World.drewN _) (Nat.add_assoc _ _ _))⟩)))
                          repeat (go_quiet (first | (go_at_call 32; (with_reducible refine (modes_Class.calls t456 x16_2 t459 _ A30.out).mono ?_); rintro e w' ⟨rfl, ⟨nd, rfl⟩⟩; (try first | exact ⟨rfl, _, World.drewN_drewN _ _ _⟩ | exact ⟨rfl, _, Eq.trans (World.drewN_drewN _ _ _) (congrArg (World.drewN _) (Nat.add_assoc _ _ _))⟩)) | (go_at_call 32; (with_reducible refine (modes_Class.calls (wrap64 (Int.tmod a2 4096)) x16_2 t460 _ A31.out).mono ?_); rintro e w' ⟨rfl, ⟨nd, rfl⟩⟩; (try first | exact ⟨rfl, _, World.drewN_drewN _ _ _⟩ | exact ⟨rfl, _, Eq.trans (World.drewN_drewN _ _ _) (congrArg (World.drewN _) (Nat.add_assoc _ _ _))⟩))); try go_wp2_with (first | (go_at_call 32; (with_reducible refine (modes_Class.calls t456 x16_2 t459 _ A30.out).mono ?_); rintro e w' ⟨rfl, ⟨nd, rfl⟩⟩; (try first | exact ⟨rfl, _, World.drewN_drewN _ _ _⟩ | exact ⟨rfl, _, Eq.trans (World.drewN_drewN _ _ _) (congrArg (World.drewN _) (Nat.add_assoc _ _ _))⟩)) | (go_at_call 32; (with_reducible refine (modes_Class.calls (wrap64 (Int.tmod a2 4096)) x16_2 t460 _ A31.out).mono ?_); rintro e w' ⟨rfl, ⟨nd, rfl⟩⟩; (try first | exact ⟨rfl, _, World.drewN_drewN _ _ _⟩ | exact ⟨rfl, _, Eq.trans (World.drewN_drewN _ _ _) (congrArg (World.drewN _) (Nat.add_assoc _ _ _))⟩))))
                          go_roundg k2
                          case measure => have := HJ11.out; have := HK2.out; omega
                          case rel => exact ⟨(wrap64 (x16_2 + 1)), (by first | rfl | (simp; done) | (simp [*]; done)), H', ⟨by have := HJ11.out; have := HK2.out; omega⟩, ⟨by repeat (first | (with_reducible first | exact HB.out | apply below_alloc | apply pw_below_drewN | apply below_drew1) | exact HB.out)⟩⟩
                        · rw [if_neg c38] at H
                          have c38b0 : ((Go.bits .and .i64 (ji35) 1) == (Go.bits .and .i64 (ji37) 1)) = false := beq_eq_false_iff_ne.mpr c38
                          have c38b1 : ((Go.bits .and .i64 (ji35) 1) != (Go.bits .and .i64 (ji37) 1)) = true := bne_iff_ne.mpr c38
                          obtain rfl := Option.some.inj H
                          go_wp2_with (first | (go_at_call 32; (with_reducible refine (modes_Class.calls t456 x16_2 t459 _ A30.out).mono ?_); rintro e w' ⟨rfl, ⟨nd, rfl⟩⟩; (try first | exact ⟨rfl, _, World.drewN_drewN _ _ _⟩ | exact ⟨rfl, _, Eq.trans (World.drewN_drewN _ _ _) (congrArg (World.drewN _) (Nat.add_assoc _ _ _))⟩)) | (go_at_call 32; (with_reducible refine (modes_Class.calls (wrap64 (Int.tmod a2 4096)) x16_2 t460 _ A31.out).mono ?_); rintro e w' ⟨rfl, ⟨nd, rfl⟩⟩; (try first | exact ⟨rfl, _, World.drewN_drewN _ _ _⟩ | exact ⟨rfl, _, Eq.trans (World.drewN_drewN _ _ _) (congrArg (World.drewN _) (Nat.add_assoc _ _ _))⟩)))
                          repeat (go_quiet (first | (go_at_call 32; (with_reducible refine (modes_Class.calls t456 x16_2 t459 _ A30.out).mono ?_); rintro e w' ⟨rfl, ⟨nd, rfl⟩⟩; (try first | exact ⟨rfl, _, World.drewN_drewN _ _ _⟩ | exact ⟨rfl, _, Eq.trans (World.drewN_drewN _ _ _) (congrArg (World.drewN _) (Nat.add_assoc _ _ _))⟩)) | (go_at_call 32; (with_reducible refine (modes_Class.calls (wrap64 (Int.tmod a2 4096)) x16_2 t460 _ A31.out).mono ?_); rintro e w' ⟨rfl, ⟨nd, rfl⟩⟩; (try first | exact ⟨rfl, _, World.drewN_drewN _ _ _⟩ | exact ⟨rfl, _, Eq.trans (World.drewN_drewN _ _ _) (congrArg (World.drewN _) (Nat.add_assoc _ _ _))⟩))); try go_wp2_with (first | (go_at_call 32; (with_reducible refine (modes_Class.calls t456 x16_2 t459 _ A30.out).mono ?_); rintro e w' ⟨rfl, ⟨nd, rfl⟩⟩; (try first | exact ⟨rfl, _, World.drewN_drewN _ _ _⟩ | exact ⟨rfl, _, Eq.trans (World.drewN_drewN _ _ _) (congrArg (World.drewN _) (Nat.add_assoc _ _ _))⟩)) | (go_at_call 32; (with_reducible refine (modes_Class.calls (wrap64 (Int.tmod a2 4096)) x16_2 t460 _ A31.out).mono ?_); rintro e w' ⟨rfl, ⟨nd, rfl⟩⟩; (try first | exact ⟨rfl, _, World.drewN_drewN _ _ _⟩ | exact ⟨rfl, _, Eq.trans (World.drewN_drewN _ _ _) (congrArg (World.drewN _) (Nat.add_assoc _ _ _))⟩))))
                          go_ret
                          exact ⟨by first | rfl | (simp [errW_none, errW_some] <;> rfl) | (simp only [← hji8, ← hji10, ← hji33, ← hji35, ← hji37]; first | rfl | (simp [errW_none, errW_some] <;> rfl)) | (simp [*, errW_none, errW_some] <;> rfl), by repeat (first | (with_reducible first | exact HB.out | apply below_alloc | apply pw_below_drewN | apply below_drew1) | exact HB.out)⟩
                      · rw [if_neg c34] at H
                        exact absurd H (by simp)
                    · rw [if_neg c32] at H
                      have c32b0 : (t459 == t460) = false := beq_eq_false_iff_ne.mpr c32
                      have c32b1 : (t459 != t460) = true := bne_iff_ne.mpr c32
                      obtain rfl := Option.some.inj H
                      go_wp2_with (first | (go_at_call 32; (with_reducible refine (modes_Class.calls t456 x16_2 t459 _ A30.out).mono ?_); rintro e w' ⟨rfl, ⟨nd, rfl⟩⟩; (try first | exact ⟨rfl, _, World.drewN_drewN _ _ _⟩ | exact ⟨rfl, _, Eq.trans (World.drewN_drewN _ _ _) (congrArg (World.drewN _) (Nat.add_assoc _ _ _))⟩)) | (go_at_call 32; (with_reducible refine (modes_Class.calls (wrap64 (Int.tmod a2 4096)) x16_2 t460 _ A31.out).mono ?_); rintro e w' ⟨rfl, ⟨nd, rfl⟩⟩; (try first | exact ⟨rfl, _, World.drewN_drewN _ _ _⟩ | exact ⟨rfl, _, Eq.trans (World.drewN_drewN _ _ _) (congrArg (World.drewN _) (Nat.add_assoc _ _ _))⟩)))
                      repeat (go_quiet (first | (go_at_call 32; (with_reducible refine (modes_Class.calls t456 x16_2 t459 _ A30.out).mono ?_); rintro e w' ⟨rfl, ⟨nd, rfl⟩⟩; (try first | exact ⟨rfl, _, World.drewN_drewN _ _ _⟩ | exact ⟨rfl, _, Eq.trans (World.drewN_drewN _ _ _) (congrArg (World.drewN _) (Nat.add_assoc _ _ _))⟩)) | (go_at_call 32; (with_reducible refine (modes_Class.calls (wrap64 (Int.tmod a2 4096)) x16_2 t460 _ A31.out).mono ?_); rintro e w' ⟨rfl, ⟨nd, rfl⟩⟩; (try first | exact ⟨rfl, _, World.drewN_drewN _ _ _⟩ | exact ⟨rfl, _, Eq.trans (World.drewN_drewN _ _ _) (congrArg (World.drewN _) (Nat.add_assoc _ _ _))⟩))); try go_wp2_with (first | (go_at_call 32; (with_reducible refine (modes_Class.calls t456 x16_2 t459 _ A30.out).mono ?_); rintro e w' ⟨rfl, ⟨nd, rfl⟩⟩; (try first | exact ⟨rfl, _, World.drewN_drewN _ _ _⟩ | exact ⟨rfl, _, Eq.trans (World.drewN_drewN _ _ _) (congrArg (World.drewN _) (Nat.add_assoc _ _ _))⟩)) | (go_at_call 32; (with_reducible refine (modes_Class.calls (wrap64 (Int.tmod a2 4096)) x16_2 t460 _ A31.out).mono ?_); rintro e w' ⟨rfl, ⟨nd, rfl⟩⟩; (try first | exact ⟨rfl, _, World.drewN_drewN _ _ _⟩ | exact ⟨rfl, _, Eq.trans (World.drewN_drewN _ _ _) (congrArg (World.drewN _) (Nat.add_assoc _ _ _))⟩))))
                      go_ret
                      exact ⟨by first | rfl | (simp [errW_none, errW_some] <;> rfl) | (simp only [← hji8, ← hji10]; first | rfl | (simp [errW_none, errW_some] <;> rfl)) | (simp [*, errW_none, errW_some] <;> rfl), by repeat (first | (with_reducible first | exact HB.out | apply below_alloc | apply pw_below_drewN | apply below_drew1) | exact HB.out)⟩
                · rw [if_neg c28] at H
                  have c28b0 : decide (x16_2 < 3) = false := decide_eq_false c28
                  clear c28
                  obtain rfl := Option.some.inj H
                  go_wp2
                  repeat (go_quiet (fail); try go_wp2)
                  go_ret
                  exact ⟨by first | rfl | (simp [errW_none, errW_some] <;> rfl) | (simp only [← hji8, ← hji10]; first | rfl | (simp [errW_none, errW_some] <;> rfl)) | (simp [*, errW_none, errW_some] <;> rfl), by repeat (first | (with_reducible first | exact HB.out | apply below_alloc | apply pw_below_drewN | apply below_drew1) | exact HB.out)⟩
    · rw [if_neg c9] at H
      exact absurd H (by simp)
  · replace c7 := Bool.eq_false_iff.mpr c7
    subst c7
    have H1 : (some false) = some r := by rw [if_neg (show ¬ (false = true) by decide)] at H; exact H
    clear H
    have H := H1
    clear H1
    obtain rfl := Option.some.inj H
    go_enter Tryd.func13, Tryd.ntmps13
    go_wp2_with (first | (go_at_call 23; (with_reducible refine (gaolerlaw03_awake.calls k  false _ A6.out).mono ?_); rintro e w39 ⟨rfl, hb⟩; have n0_ := Aside0.mk (below_step (by repeat (first | (with_reducible first | exact HB.out | apply below_alloc | apply pw_below_drewN | apply below_drew1) | exact HB.out)) hb); clear HB; have HB := n0_; clear n0_; (try clear hb); (try clear hb2); (try clear hk); (try clear hi)))
    repeat (go_quiet (first | (go_at_call 23; (with_reducible refine (gaolerlaw03_awake.calls k  false _ A6.out).mono ?_); rintro e w39 ⟨rfl, hb⟩; have n0_ := Aside0.mk (below_step (by repeat (first | (with_reducible first | exact HB.out | apply below_alloc | apply pw_below_drewN | apply below_drew1) | exact HB.out)) hb); clear HB; have HB := n0_; clear n0_; (try clear hb); (try clear hb2); (try clear hk); (try clear hi))); try go_wp2_with (first | (go_at_call 23; (with_reducible refine (gaolerlaw03_awake.calls k  false _ A6.out).mono ?_); rintro e w39 ⟨rfl, hb⟩; have n0_ := Aside0.mk (below_step (by repeat (first | (with_reducible first | exact HB.out | apply below_alloc | apply pw_below_drewN | apply below_drew1) | exact HB.out)) hb); clear HB; have HB := n0_; clear n0_; (try clear hb); (try clear hb2); (try clear hk); (try clear hi))))
    go_ret
    exact ⟨by first | rfl | (simp [errW_none, errW_some] <;> rfl) | (simp [*, errW_none, errW_some] <;> rfl), by repeat (first | (with_reducible first | exact HB.out | apply below_alloc | apply pw_below_drewN | apply below_drew1) | exact HB.out)⟩
/-- THE ONE PURE STATEMENT of gaolerlaw03_ApplyCopies: yours. -/
def gaolerlaw03_ApplyCopies.Pure : Prop := ∀ (a0 : Int) (a1 : Int) (a2 : Int) (a3 : Bool) (a4 : Int), (Lit.int .u8 a0).wf = true → (Lit.int .u8 a1).wf = true → (Lit.int .u16 a2).wf = true → (Lit.int .u16 a4).wf = true → ∃ k, gaolerlaw03_ApplyCopies.f k a0 a1 a2 a3 a4 = some true
theorem gaolerlaw03_ApplyCopies.walk (P : gaolerlaw03_ApplyCopies.Pure) (a0 : Int) (a1 : Int) (a2 : Int) (a3 : Bool) (a4 : Int) (w : World) (w0 : (Lit.int .u8 a0).wf = true) (w1 : (Lit.int .u8 a1).wf = true) (w2 : (Lit.int .u16 a2).wf = true) (w4 : (Lit.int .u16 a4).wf = true) :
    Calls Tryd.prog 13 #[.int .u8 a0, .int .u8 a1, .int .u16 a2, .bool a3, .int .u16 a4] w fun e w' => e = .returned (.bool true) ∧ Below w.heap.size w w' := by
  obtain ⟨k, h⟩ := P a0 a1 a2 a3 a4 w0 w1 w2 w4
  refine (gaolerlaw03_ApplyCopies.calls k a0 a1 a2 a3 a4 true w h).mono ?_
  rintro e w' ⟨rfl, hd⟩
  exact ⟨rfl, hd⟩
end Go.Proofs.YtlohbepfecahdaaDoor.S
