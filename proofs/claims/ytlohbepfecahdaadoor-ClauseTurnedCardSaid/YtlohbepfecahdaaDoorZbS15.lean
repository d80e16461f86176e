-- Written by wip/tools/myprint.py, a session's own driver of the kit's printer.
import Derived.ArgAppend
import Derived.Below
import Derived.BigQuiet
import Derived.Deep.AppendLies
import Derived.Deep.CutBlock
import Derived.Deep.DeepCutAuto
import Derived.Deep.Draws
import Derived.Deep.LoopGhost
import Derived.Deep.OwnRows
import Derived.Deep.QuietTactic
import Derived.Deep.RegionHeld3
import Derived.Handy
import Derived.KernelRfl
import Derived.Laws.BitsAllLaws
import Derived.Laws.BitsLemmas
import Derived.Laws.BytesArg
import Derived.Laws.IdiomCopy
import Derived.Laws.MakeOwn
import Derived.Laws.OwnMore
import Derived.Laws.RangeAny
import Derived.Laws.Rows
import Derived.Laws.Slices
import Derived.Laws.StructEq
import Derived.Lib.AppendStr
import Derived.Lib.ConvBytes
import Derived.Lib.FieldsP
import Derived.Lib.Hide
import Derived.Lib.IndexAny
import Derived.Lib.OthersKept
import Derived.Lib.SlBytesConst
import Derived.Lib.SpaceUEq
import Derived.Maps.AppendAt
import Derived.OneCell
import Derived.OrdersHeld
import Derived.OwnWalk
import Derived.RowKit
import Derived.RowKit3
import Derived.Shelf.LaysM
import Derived.Shelf.Small.Strs
import Derived.Shelf.Small.Utf8
import Derived.Shelf.Strings.Builder1
import Derived.Shelf.Strings.Builder2
import Derived.Shelf.Strings.BuilderF
import Derived.Shelf.Strings.BuilderK
import Derived.Shelf.Strings.Count
import Derived.Shelf.Strings.OnBuilder
import Derived.Shelf.Strings.Runes
import Derived.Shelf.Strings.Search1
import Derived.Shelf.Strings.Search2
import Derived.Shelf.Strings.Search3
import Derived.Shelf.Strings.Shaped
import Derived.Shelf.Strings.Split
import Derived.Shelf.Strings.SplitShaped
import Derived.Shelf.Unicode.DecodeSlow
import Derived.Tactics
import Derived.Test.YtlohbepfecahdaaDoorProg
import Derived.WalkKit
import Derived.WideLaws
import Derived.Test.YtlohbepfecahdaaDoorZbWWords
import Derived.Test.YtlohbepfecahdaaDoorZbWLast
import Derived.Test.YtlohbepfecahdaaDoorZbWApart
import Derived.Test.YtlohbepfecahdaaDoorZbWShare
import Derived.Test.YtlohbepfecahdaaDoorZbWN
import Derived.Test.YtlohbepfecahdaaDoorZbWNEv
import Derived.Test.YtlohbepfecahdaaDoorZbWMore
import Derived.Test.YtlohbepfecahdaaDoorZbB
import Derived.Test.YtlohbepfecahdaaDoorZbC
import Derived.Test.YtlohbepfecahdaaDoorZbShelf
import Derived.Test.YtlohbepfecahdaaDoorZbD
import Derived.Test.YtlohbepfecahdaaDoorZbWTab
import Derived.Test.YtlohbepfecahdaaDoorZbWEqStruct
import Derived.Test.YtlohbepfecahdaaDoorZbWRepsOne
import Derived.Test.YtlohbepfecahdaaDoorZbWGuard
import Derived.Test.YtlohbepfecahdaaDoorZbS0
import Derived.Test.YtlohbepfecahdaaDoorZbS4
import Derived.Test.YtlohbepfecahdaaDoorZbS6
import Derived.Test.YtlohbepfecahdaaDoorZbS9
import Derived.Test.YtlohbepfecahdaaDoorZbS10
namespace Go.Proofs.YtlohbepfecahdaaDoor.S
open Go.RowKit Go.Proofs.YtlohbepfecahdaaDoorW.PrintWords Go.Proofs.YtlohbepfecahdaaDoorW.PrintLast Go.Proofs.YtlohbepfecahdaaDoorW.PrintMore
set_option linter.unusedVariables false
set_option linter.unusedSimpArgs false
/-! ### gaolerlaw02_ClauseTurned: function 7 -/
mutual
def gaolerlaw02_ClauseTurned.j0 : Nat → List Int → List Int → Int → Int → Bool → Option (Bool)
  | 0, _, _, _, _, _ => none
  | k + 1, x0, x1, x2, x3, x33 => if x33 = true then (some true) else (gaolerlaw02_ClauseTurned.l0 k x0 x1 x2 x3 (⟨#[]⟩ : ByteArray) (⟨#[]⟩ : ByteArray) 0)
def gaolerlaw02_ClauseTurned.l0 : Nat → List Int → List Int → Int → Int → ByteArray → ByteArray → Int → Option (Bool)
  | 0, _, _, _, _, _, _, _ => none
  | k + 1, x0, x1, x2, x3, x10, x11, x12 => if x12 < (x0.length : Int) then (if 0 ≤ x12 then (if 0 ≤ (wrap64 (Int.tmod (rd x0 x12) 4)) then (if (wrap64 (Int.tmod (rd x0 x12) 4)) ≤ (wrap64 ((wrap64 (Int.tmod (rd x0 x12) 4)) + 1)) then (if (wrap64 ((wrap64 (Int.tmod (rd x0 x12) 4)) + 1)) ≤ 4 then (if x10.size + ((⟨#[117, 103, 111, 97]⟩ : ByteArray).extract ((wrap64 (Int.tmod (rd x0 x12) 4)) : Int).toNat ((wrap64 ((wrap64 (Int.tmod (rd x0 x12) 4)) + 1)) : Int).toNat).size ≤ 9223372036854775807 then (if (x0.length : Int) = 0 then (none) else (if 0 ≤ (Int.tmod (wrap64 (x12 + (wrap64 (x3)))) (x0.length : Int)) then (if (Int.tmod (wrap64 (x12 + (wrap64 (x3)))) (x0.length : Int)) < (x0.length : Int) then (if 0 ≤ (wrap64 (Int.tmod (rd x0 (Int.tmod (wrap64 (x12 + (wrap64 (x3)))) (x0.length : Int))) 4)) then (if (wrap64 (Int.tmod (rd x0 (Int.tmod (wrap64 (x12 + (wrap64 (x3)))) (x0.length : Int))) 4)) ≤ (wrap64 ((wrap64 (Int.tmod (rd x0 (Int.tmod (wrap64 (x12 + (wrap64 (x3)))) (x0.length : Int))) 4)) + 1)) then (if (wrap64 ((wrap64 (Int.tmod (rd x0 (Int.tmod (wrap64 (x12 + (wrap64 (x3)))) (x0.length : Int))) 4)) + 1)) ≤ 4 then (if x11.size + ((⟨#[117, 103, 111, 97]⟩ : ByteArray).extract ((wrap64 (Int.tmod (rd x0 (Int.tmod (wrap64 (x12 + (wrap64 (x3)))) (x0.length : Int))) 4)) : Int).toNat ((wrap64 ((wrap64 (Int.tmod (rd x0 (Int.tmod (wrap64 (x12 + (wrap64 (x3)))) (x0.length : Int))) 4)) + 1)) : Int).toNat).size ≤ 9223372036854775807 then (gaolerlaw02_ClauseTurned.l0 k x0 x1 x2 x3 (x10 ++ ((⟨#[117, 103, 111, 97]⟩ : ByteArray).extract ((wrap64 (Int.tmod (rd x0 x12) 4)) : Int).toNat ((wrap64 ((wrap64 (Int.tmod (rd x0 x12) 4)) + 1)) : Int).toNat)) (x11 ++ ((⟨#[117, 103, 111, 97]⟩ : ByteArray).extract ((wrap64 (Int.tmod (rd x0 (Int.tmod (wrap64 (x12 + (wrap64 (x3)))) (x0.length : Int))) 4)) : Int).toNat ((wrap64 ((wrap64 (Int.tmod (rd x0 (Int.tmod (wrap64 (x12 + (wrap64 (x3)))) (x0.length : Int))) 4)) + 1)) : Int).toNat)) (wrap64 (x12 + 1))) else (none)) else (none)) else (none)) else (none)) else (none)) else (none))) else (none)) else (none)) else (none)) else (none)) else (none)) else (if 0 ≤ (wrap64 (Int.tmod x2 3)) then (if (wrap64 (Int.tmod x2 3)) ≤ (wrap64 ((wrap64 (Int.tmod x2 3)) + 1)) then (if (wrap64 ((wrap64 (Int.tmod x2 3)) + 1)) ≤ 3 then (if x10.size + ((⟨#[43, 45, 61]⟩ : ByteArray).extract ((wrap64 (Int.tmod x2 3)) : Int).toNat ((wrap64 ((wrap64 (Int.tmod x2 3)) + 1)) : Int).toNat).size ≤ 9223372036854775807 then (if x11.size + ((⟨#[43, 45, 61]⟩ : ByteArray).extract ((wrap64 (Int.tmod x2 3)) : Int).toNat ((wrap64 ((wrap64 (Int.tmod x2 3)) + 1)) : Int).toNat).size ≤ 9223372036854775807 then (if x11.size + (x11 ++ ((⟨#[43, 45, 61]⟩ : ByteArray).extract ((wrap64 (Int.tmod x2 3)) : Int).toNat ((wrap64 ((wrap64 (Int.tmod x2 3)) + 1)) : Int).toNat)).size ≤ 9223372036854775807 then (gaolerlaw02_ClauseTurned.l1 k x1 x3 (x10 ++ ((⟨#[43, 45, 61]⟩ : ByteArray).extract ((wrap64 (Int.tmod x2 3)) : Int).toNat ((wrap64 ((wrap64 (Int.tmod x2 3)) + 1)) : Int).toNat)) (x11 ++ (x11 ++ ((⟨#[43, 45, 61]⟩ : ByteArray).extract ((wrap64 (Int.tmod x2 3)) : Int).toNat ((wrap64 ((wrap64 (Int.tmod x2 3)) + 1)) : Int).toNat))) 0) else (none)) else (none)) else (none)) else (none)) else (none)) else (none))
def gaolerlaw02_ClauseTurned.l1 : Nat → List Int → Int → ByteArray → ByteArray → Int → Option (Bool)
  | 0, _, _, _, _, _ => none
  | k + 1, x1, x3, x10, x11, x16 => if x16 < (x1.length : Int) then (if 0 ≤ x16 then (if 0 ≤ (wrap64 (Int.tmod (rd x1 x16) 6)) then (if (wrap64 (Int.tmod (rd x1 x16) 6)) ≤ (wrap64 ((wrap64 (Int.tmod (rd x1 x16) 6)) + 1)) then (if (wrap64 ((wrap64 (Int.tmod (rd x1 x16) 6)) + 1)) ≤ 6 then (if x10.size + ((⟨#[114, 119, 120, 88, 115, 116]⟩ : ByteArray).extract ((wrap64 (Int.tmod (rd x1 x16) 6)) : Int).toNat ((wrap64 ((wrap64 (Int.tmod (rd x1 x16) 6)) + 1)) : Int).toNat).size ≤ 9223372036854775807 then (if (x1.length : Int) = 0 then (none) else (if 0 ≤ (Int.tmod (wrap64 (x16 + (wrap64 (x3)))) (x1.length : Int)) then (if (Int.tmod (wrap64 (x16 + (wrap64 (x3)))) (x1.length : Int)) < (x1.length : Int) then (if 0 ≤ (wrap64 (Int.tmod (rd x1 (Int.tmod (wrap64 (x16 + (wrap64 (x3)))) (x1.length : Int))) 6)) then (if (wrap64 (Int.tmod (rd x1 (Int.tmod (wrap64 (x16 + (wrap64 (x3)))) (x1.length : Int))) 6)) ≤ (wrap64 ((wrap64 (Int.tmod (rd x1 (Int.tmod (wrap64 (x16 + (wrap64 (x3)))) (x1.length : Int))) 6)) + 1)) then (if (wrap64 ((wrap64 (Int.tmod (rd x1 (Int.tmod (wrap64 (x16 + (wrap64 (x3)))) (x1.length : Int))) 6)) + 1)) ≤ 6 then (if ((⟨#[114, 119, 120, 88, 115, 116]⟩ : ByteArray).extract ((wrap64 (Int.tmod (rd x1 (Int.tmod (wrap64 (x16 + (wrap64 (x3)))) (x1.length : Int))) 6)) : Int).toNat ((wrap64 ((wrap64 (Int.tmod (rd x1 (Int.tmod (wrap64 (x16 + (wrap64 (x3)))) (x1.length : Int))) 6)) + 1)) : Int).toNat).size + ((⟨#[114, 119, 120, 88, 115, 116]⟩ : ByteArray).extract ((wrap64 (Int.tmod (rd x1 (Int.tmod (wrap64 (x16 + (wrap64 (x3)))) (x1.length : Int))) 6)) : Int).toNat ((wrap64 ((wrap64 (Int.tmod (rd x1 (Int.tmod (wrap64 (x16 + (wrap64 (x3)))) (x1.length : Int))) 6)) + 1)) : Int).toNat).size ≤ 9223372036854775807 then (if x11.size + (((⟨#[114, 119, 120, 88, 115, 116]⟩ : ByteArray).extract ((wrap64 (Int.tmod (rd x1 (Int.tmod (wrap64 (x16 + (wrap64 (x3)))) (x1.length : Int))) 6)) : Int).toNat ((wrap64 ((wrap64 (Int.tmod (rd x1 (Int.tmod (wrap64 (x16 + (wrap64 (x3)))) (x1.length : Int))) 6)) + 1)) : Int).toNat) ++ ((⟨#[114, 119, 120, 88, 115, 116]⟩ : ByteArray).extract ((wrap64 (Int.tmod (rd x1 (Int.tmod (wrap64 (x16 + (wrap64 (x3)))) (x1.length : Int))) 6)) : Int).toNat ((wrap64 ((wrap64 (Int.tmod (rd x1 (Int.tmod (wrap64 (x16 + (wrap64 (x3)))) (x1.length : Int))) 6)) + 1)) : Int).toNat)).size ≤ 9223372036854775807 then (gaolerlaw02_ClauseTurned.l1 k x1 x3 (x10 ++ ((⟨#[114, 119, 120, 88, 115, 116]⟩ : ByteArray).extract ((wrap64 (Int.tmod (rd x1 x16) 6)) : Int).toNat ((wrap64 ((wrap64 (Int.tmod (rd x1 x16) 6)) + 1)) : Int).toNat)) (x11 ++ (((⟨#[114, 119, 120, 88, 115, 116]⟩ : ByteArray).extract ((wrap64 (Int.tmod (rd x1 (Int.tmod (wrap64 (x16 + (wrap64 (x3)))) (x1.length : Int))) 6)) : Int).toNat ((wrap64 ((wrap64 (Int.tmod (rd x1 (Int.tmod (wrap64 (x16 + (wrap64 (x3)))) (x1.length : Int))) 6)) + 1)) : Int).toNat) ++ ((⟨#[114, 119, 120, 88, 115, 116]⟩ : ByteArray).extract ((wrap64 (Int.tmod (rd x1 (Int.tmod (wrap64 (x16 + (wrap64 (x3)))) (x1.length : Int))) 6)) : Int).toNat ((wrap64 ((wrap64 (Int.tmod (rd x1 (Int.tmod (wrap64 (x16 + (wrap64 (x3)))) (x1.length : Int))) 6)) + 1)) : Int).toNat))) (wrap64 (x16 + 1))) else (none)) else (none)) else (none)) else (none)) else (none)) else (none)) else (none))) else (none)) else (none)) else (none)) else (none)) else (none)) else ((clause_Parse.f k x10).bind fun bt303 => ((clause_Parse.f k x11).bind fun bt307 => (if bt303.2 = 0 then (if bt307.2 = 0 then ((gaolerlaw02_model.f k bt307.1).bind fun t311 => ((gaolerlaw02_same.f k bt303.1 t311).bind fun t314 => (if t314 = true then (some ((bt303.1.length : Int) == 1)) else (some false)))) else (some false)) else (some false))))
end
def gaolerlaw02_ClauseTurned.f (k : Nat) (l0 : List Int) (l1 : List Int) (a2 : Int) (a3 : Int) : Option (Bool) := (gaolerlaw02_awake.f k).bind fun t298 => (if t298 = true then (if (l0.length : Int) > 20 then (gaolerlaw02_ClauseTurned.j0 k l0 l1 a2 a3 true) else (gaolerlaw02_ClauseTurned.j0 k l0 l1 a2 a3 (decide ((l1.length : Int) > 20)))) else (some false))
set_option maxHeartbeats 8000000 in
set_option maxRecDepth 100000 in
theorem gaolerlaw02_ClauseTurned.calls (k : Nat) (A0 : Option Addr) (c0 : Nat) (l0 : List Int) (A1 : Option Addr) (c1 : Nat) (l1 : List Int) (a2 : Int) (a3 : Int) (r : Bool) (w : World) (hr0 : Kd.C (Kd.int .u8) w A0 l0.length l0) (hc0 : l0.length ≤ c0) (hr1 : Kd.C (Kd.int .u8) w A1 l1.length l1) (hc1 : l1.length ≤ c1) (h : gaolerlaw02_ClauseTurned.f k l0 l1 a2 a3 = some r) :
    Calls Tryd.prog 7 #[.slice A0 l0.length c0, .slice A1 l1.length c1, .int .u8 a2, .int .u8 a3] w fun e w' => e = .returned (.bool r) ∧ Below w.heap.size w w' := by
  have HR0 := Aside0.mk hr0
  have HC0 := Aside0.mk hc0
  clear hr0 hc0
  have HR1 := Aside0.mk hr1
  have HC1 := Aside0.mk hc1
  clear hr1 hc1
  have HB := Aside0.mk (Below.refl w.heap.size w)
  have H : ((gaolerlaw02_awake.f k).bind fun t298 => (if t298 = true then (if (l0.length : Int) > 20 then (gaolerlaw02_ClauseTurned.j0 k l0 l1 a2 a3 true) else (gaolerlaw02_ClauseTurned.j0 k l0 l1 a2 a3 (decide ((l1.length : Int) > 20)))) else (some false))) = some r := h
  clear h
  replace H := Option.bind_eq_some_iff.mp H
  obtain ⟨t298, A50, H⟩ := H
  replace H : (if t298 = true then (if (l0.length : Int) > 20 then (gaolerlaw02_ClauseTurned.j0 k l0 l1 a2 a3 true) else (gaolerlaw02_ClauseTurned.j0 k l0 l1 a2 a3 (decide ((l1.length : Int) > 20)))) else (some false)) = some r := H
  have A5 := Aside0.mk A50
  clear A50
  by_cases c6 : t298 = true
  · subst c6
    have H1 : (if (l0.length : Int) > 20 then (gaolerlaw02_ClauseTurned.j0 k l0 l1 a2 a3 true) else (gaolerlaw02_ClauseTurned.j0 k l0 l1 a2 a3 (decide ((l1.length : Int) > 20)))) = some r := by rw [if_pos rfl] at H; exact H
    clear H
    have H := H1
    clear H1
    have HC7 := Aside0.mk H
    clear H
    go_enter Tryd.func7, Tryd.ntmps7
    go_upto_region 4 with (first | (go_at_call 14; (with_reducible refine (gaolerlaw02_awake.calls k  true _ A5.out).mono ?_); rintro e w8 ⟨rfl, hb⟩; have n0_ := Aside0.mk (below_step (by repeat (first | (with_reducible first | exact HB.out | apply below_alloc | apply pw_below_drewN | apply below_drew1) | exact HB.out)) hb); clear HB; have HB := n0_; clear n0_; (try clear hb); (try clear hb2); (try clear hk); (try clear hi)))
    repeat (go_quiet (first | (go_at_call 14; (with_reducible refine (gaolerlaw02_awake.calls k  true _ A5.out).mono ?_); rintro e w8 ⟨rfl, hb⟩; have n0_ := Aside0.mk (below_step (by repeat (first | (with_reducible first | exact HB.out | apply below_alloc | apply pw_below_drewN | apply below_drew1) | exact HB.out)) hb); clear HB; have HB := n0_; clear n0_; (try clear hb); (try clear hb2); (try clear hk); (try clear hi))); go_upto_region 4 with (first | (go_at_call 14; (with_reducible refine (gaolerlaw02_awake.calls k  true _ A5.out).mono ?_); rintro e w8 ⟨rfl, hb⟩; have n0_ := Aside0.mk (below_step (by repeat (first | (with_reducible first | exact HB.out | apply below_alloc | apply pw_below_drewN | apply below_drew1) | exact HB.out)) hb); clear HB; have HB := n0_; clear n0_; (try clear hb); (try clear hb2); (try clear hk); (try clear hi))))
    (try simp only [Act.put, List.setIfInBounds_toArray, List.set_cons_zero, List.set_cons_succ])
    go_cut [33] (fun v33 wc => ∃ (kq : Nat) (x33_6 : Bool), v33 = .bool x33_6 ∧ Aside0 (gaolerlaw02_ClauseTurned.j0 kq l0 l1 a2 a3 x33_6 = some r) ∧ Aside0 (kq ≤ k) ∧ Aside0 (Below w.heap.size w wc))
    case first =>
      have H := HC7.out
      clear HC7
      by_cases c9 : (l0.length : Int) > 20
      · rw [if_pos c9] at H
        have c9b0 : decide (20 < (l0.length : Int)) = true := decide_eq_true c9
        have c9b1 : decide (20 < l0.length) = true := decide_eq_true (by omega)
        clear c9
        (first | rw [c9b0] | (simp only [i64_w, i32_w]; rw [c9b0]) | skip)
        have H' := Aside0.mk H
        clear H
        go_wp2
        repeat (go_quiet (fail); try go_wp2)
        go_meet
        case rel => exact ⟨_, (true), (by first | rfl | (simp; done) | (simp [*]; done)), H', ⟨by first | omega | exact Nat.le_refl _⟩, ⟨by repeat (first | (with_reducible first | exact HB.out | apply below_alloc | apply pw_below_drewN | apply below_drew1) | exact HB.out)⟩⟩
      · rw [if_neg c9] at H
        have c9b0 : decide (20 < (l0.length : Int)) = false := decide_eq_false c9
        have c9b1 : decide (20 < l0.length) = false := decide_eq_false (by omega)
        clear c9
        (first | rw [c9b0] | (simp only [i64_w, i32_w]; rw [c9b0]) | skip)
        have H' := Aside0.mk H
        clear H
        go_wp2
        repeat (go_quiet (fail); try go_wp2)
        go_meet
        case rel => exact ⟨_, (decide ((l1.length : Int) > 20)), (by first | rfl | (simp; done) | (simp [*]; done)), H', ⟨by first | omega | exact Nat.le_refl _⟩, ⟨by repeat (first | (with_reducible first | exact HB.out | apply below_alloc | apply pw_below_drewN | apply below_drew1) | exact HB.out)⟩⟩
    case rest =>
      clear HC7
      try clear c1
      try clear p2
      try clear c6
      try clear c7
      try clear c9
      try clear c9b0
      try clear c9b1
      obtain ⟨kq, x33_6, rfl, HA, HJ6, HB⟩ := hcut
      cases kq with
      | zero => exact absurd HA.out (by simp [gaolerlaw02_ClauseTurned.j0])
      | succ kj6 =>
        have H := HA.out
        clear HA
        simp only [gaolerlaw02_ClauseTurned.j0] at H
        by_cases c10 : x33_6 = true
        · subst c10
          have H1 : (some true) = some r := by rw [if_pos rfl] at H; exact H
          clear H
          have H := H1
          clear H1
          obtain rfl := Option.some.inj H
          go_wp2
          repeat (go_quiet (fail); try go_wp2)
          go_ret
          exact ⟨by first | rfl | (simp [errW_none, errW_some] <;> rfl) | (simp [*, errW_none, errW_some] <;> rfl), by repeat (first | (with_reducible first | exact HB.out | apply below_alloc | apply pw_below_drewN | apply below_drew1) | exact HB.out)⟩
        · replace c10 := Bool.eq_false_iff.mpr c10
          subst c10
          have H1 : (gaolerlaw02_ClauseTurned.l0 kj6 l0 l1 a2 a3 (⟨#[]⟩ : ByteArray) (⟨#[]⟩ : ByteArray) 0) = some r := by rw [if_neg (show ¬ (false = true) by decide)] at H; exact H
          clear H
          have H := H1
          clear H1
          have H' := Aside0.mk H
          clear H
          go_wp2
          repeat (go_quiet (fail); try go_wp2)
          go_loopg [10, 11, 12] kj6 (fun kq v10 v11 v12 w' => ∃ (x10_2 : ByteArray) (x11_2 : ByteArray) (x12_2 : Int), v10 = .string x10_2 ∧ v11 = .string x11_2 ∧ v12 = .int .i64 x12_2 ∧ Aside0 (gaolerlaw02_ClauseTurned.l0 kq l0 l1 a2 a3 x10_2 x11_2 x12_2 = some r) ∧ Aside0 (kq ≤ kj6) ∧ Aside0 (Below w.heap.size w w'))
          case atStart => exact ⟨((⟨#[]⟩ : ByteArray)), ((⟨#[]⟩ : ByteArray)), (0), (by first | rfl | (simp; done) | (simp [*]; done)), (by first | rfl | (simp; done) | (simp [*]; done)), (by first | rfl | (simp; done) | (simp [*]; done)), H', ⟨Nat.le_refl _⟩, ⟨by repeat (first | (with_reducible first | exact HB.out | apply below_alloc | apply pw_below_drewN | apply below_drew1) | exact HB.out)⟩⟩
          case round =>
            clear H'
            try clear c1
            try clear p2
            try clear c6
            try clear c7
            try clear c9
            try clear c9b0
            try clear c9b1
            try clear c10
            try clear p2
            obtain ⟨x10_2, x11_2, x12_2, rfl, rfl, rfl, HA, HK2, HB⟩ := hrel
            cases gk with
            | zero => exact absurd HA.out (by simp [gaolerlaw02_ClauseTurned.l0])
            | succ k2 =>
              have H := HA.out
              clear HA
              simp only [gaolerlaw02_ClauseTurned.l0] at H
              by_cases c11 : x12_2 < (l0.length : Int)
              · rw [if_pos c11] at H
                have c11b0 : decide (x12_2 < (l0.length : Int)) = true := decide_eq_true c11
                clear c11
                by_cases c12 : 0 ≤ x12_2
                · rw [if_pos c12] at H
                  have c12b0 : decide (0 ≤ x12_2) = true := decide_eq_true c12
                  clear c12
                  obtain ⟨ji13, hji13⟩ : ∃ j_ : Int, (wrap64 (Int.tmod (rd l0 x12_2) 4)) = j_ := ⟨_, rfl⟩
                  replace H : (if 0 ≤ (ji13) then (if (ji13) ≤ (wrap64 ((ji13) + 1)) then (if (wrap64 ((ji13) + 1)) ≤ 4 then (if x10_2.size + ((⟨#[117, 103, 111, 97]⟩ : ByteArray).extract ((ji13) : Int).toNat ((wrap64 ((ji13) + 1)) : Int).toNat).size ≤ 9223372036854775807 then (if (l0.length : Int) = 0 then (none) else (if 0 ≤ (Int.tmod (wrap64 (x12_2 + (wrap64 (a3)))) (l0.length : Int)) then (if (Int.tmod (wrap64 (x12_2 + (wrap64 (a3)))) (l0.length : Int)) < (l0.length : Int) then (if 0 ≤ (wrap64 (Int.tmod (rd l0 (Int.tmod (wrap64 (x12_2 + (wrap64 (a3)))) (l0.length : Int))) 4)) then (if (wrap64 (Int.tmod (rd l0 (Int.tmod (wrap64 (x12_2 + (wrap64 (a3)))) (l0.length : Int))) 4)) ≤ (wrap64 ((wrap64 (Int.tmod (rd l0 (Int.tmod (wrap64 (x12_2 + (wrap64 (a3)))) (l0.length : Int))) 4)) + 1)) then (if (wrap64 ((wrap64 (Int.tmod (rd l0 (Int.tmod (wrap64 (x12_2 + (wrap64 (a3)))) (l0.length : Int))) 4)) + 1)) ≤ 4 then (if x11_2.size + ((⟨#[117, 103, 111, 97]⟩ : ByteArray).extract ((wrap64 (Int.tmod (rd l0 (Int.tmod (wrap64 (x12_2 + (wrap64 (a3)))) (l0.length : Int))) 4)) : Int).toNat ((wrap64 ((wrap64 (Int.tmod (rd l0 (Int.tmod (wrap64 (x12_2 + (wrap64 (a3)))) (l0.length : Int))) 4)) + 1)) : Int).toNat).size ≤ 9223372036854775807 then (gaolerlaw02_ClauseTurned.l0 k2 l0 l1 a2 a3 (x10_2 ++ ((⟨#[117, 103, 111, 97]⟩ : ByteArray).extract ((ji13) : Int).toNat ((wrap64 ((ji13) + 1)) : Int).toNat)) (x11_2 ++ ((⟨#[117, 103, 111, 97]⟩ : ByteArray).extract ((wrap64 (Int.tmod (rd l0 (Int.tmod (wrap64 (x12_2 + (wrap64 (a3)))) (l0.length : Int))) 4)) : Int).toNat ((wrap64 ((wrap64 (Int.tmod (rd l0 (Int.tmod (wrap64 (x12_2 + (wrap64 (a3)))) (l0.length : Int))) 4)) + 1)) : Int).toNat)) (wrap64 (x12_2 + 1))) else (none)) else (none)) else (none)) else (none)) else (none)) else (none))) else (none)) else (none)) else (none)) else (none)) = some r := by first | (rw [hji13] at H; exact H) | (simp only [hji13] at H ⊢; exact H)
                  have hji13w : (IntKind.i64.wrap (Int.tmod (rd l0 x12_2) 4)) = ji13 := (i64_w _).trans hji13
                  by_cases c14 : 0 ≤ (ji13)
                  · rw [if_pos c14] at H
                    have c14b0 := eq_true c14
                    have c14b1 : decide (0 ≤ (ji13)) = true := decide_eq_true c14
                    clear c14
                    by_cases c15 : (ji13) ≤ (wrap64 ((ji13) + 1))
                    · rw [if_pos c15] at H
                      have c15b0 := eq_true c15
                      have c15b1 : decide ((ji13) ≤ (wrap64 ((ji13) + 1))) = true := decide_eq_true c15
                      by_cases c16 : (wrap64 ((ji13) + 1)) ≤ 4
                      · rw [if_pos c16] at H
                        have c16b0 := eq_true c16
                        have c16b1 : decide ((wrap64 ((ji13) + 1)) ≤ 4) = true := decide_eq_true c16
                        by_cases c17 : x10_2.size + ((⟨#[117, 103, 111, 97]⟩ : ByteArray).extract ((ji13) : Int).toNat ((wrap64 ((ji13) + 1)) : Int).toNat).size ≤ 9223372036854775807
                        · rw [if_pos c17] at H
                          have c17b0 := eq_true c17
                          have c17b1 : decide (x10_2.size + ((⟨#[117, 103, 111, 97]⟩ : ByteArray).extract ((ji13) : Int).toNat ((wrap64 ((ji13) + 1)) : Int).toNat).size ≤ 9223372036854775807) = true := decide_eq_true c17
                          try have c17b2 : (9223372036854775807 < x10_2.size + ((⟨#[117, 103, 111, 97]⟩ : ByteArray).extract ((ji13) : Int).toNat ((wrap64 ((ji13) + 1)) : Int).toNat).size) = False := eq_false (Nat.not_lt.2 c17)
                          by_cases c18 : (l0.length : Int) = 0
                          · rw [if_pos c18] at H
                            exact absurd H (by simp)
                          · rw [if_neg c18] at H
                            have c18b0 : ((l0.length : Int) == 0) = false := beq_eq_false_iff_ne.mpr c18
                            have c18b1 : ((l0.length : Int) != 0) = true := bne_iff_ne.mpr c18
                            have c18b2 : ¬ (l0 = []) := fun h_ => c18 (by rw [h_]; rfl)
                            obtain ⟨ji19, hji19⟩ : ∃ j_ : Int, (Int.tmod (wrap64 (x12_2 + (wrap64 (a3)))) (l0.length : Int)) = j_ := ⟨_, rfl⟩
                            replace H : (if 0 ≤ (ji19) then (if (ji19) < (l0.length : Int) then (if 0 ≤ (wrap64 (Int.tmod (rd l0 (ji19)) 4)) then (if (wrap64 (Int.tmod (rd l0 (ji19)) 4)) ≤ (wrap64 ((wrap64 (Int.tmod (rd l0 (ji19)) 4)) + 1)) then (if (wrap64 ((wrap64 (Int.tmod (rd l0 (ji19)) 4)) + 1)) ≤ 4 then (if x11_2.size + ((⟨#[117, 103, 111, 97]⟩ : ByteArray).extract ((wrap64 (Int.tmod (rd l0 (ji19)) 4)) : Int).toNat ((wrap64 ((wrap64 (Int.tmod (rd l0 (ji19)) 4)) + 1)) : Int).toNat).size ≤ 9223372036854775807 then (gaolerlaw02_ClauseTurned.l0 k2 l0 l1 a2 a3 (x10_2 ++ ((⟨#[117, 103, 111, 97]⟩ : ByteArray).extract ((ji13) : Int).toNat ((wrap64 ((ji13) + 1)) : Int).toNat)) (x11_2 ++ ((⟨#[117, 103, 111, 97]⟩ : ByteArray).extract ((wrap64 (Int.tmod (rd l0 (ji19)) 4)) : Int).toNat ((wrap64 ((wrap64 (Int.tmod (rd l0 (ji19)) 4)) + 1)) : Int).toNat)) (wrap64 (x12_2 + 1))) else (none)) else (none)) else (none)) else (none)) else (none)) else (none)) = some r := by first | (rw [hji19] at H; exact H) | (simp only [hji19] at H ⊢; exact H)
                            by_cases c20 : 0 ≤ (ji19)
                            · rw [if_pos c20] at H
                              have c20b0 : decide (0 ≤ (ji19)) = true := decide_eq_true c20
                              clear c20
                              by_cases c21 : (ji19) < (l0.length : Int)
                              · rw [if_pos c21] at H
                                have c21b0 : decide ((ji19) < (l0.length : Int)) = true := decide_eq_true c21
                                clear c21
                                obtain ⟨ji22, hji22⟩ : ∃ j_ : Int, (wrap64 (Int.tmod (rd l0 (ji19)) 4)) = j_ := ⟨_, rfl⟩
                                replace H : (if 0 ≤ (ji22) then (if (ji22) ≤ (wrap64 ((ji22) + 1)) then (if (wrap64 ((ji22) + 1)) ≤ 4 then (if x11_2.size + ((⟨#[117, 103, 111, 97]⟩ : ByteArray).extract ((ji22) : Int).toNat ((wrap64 ((ji22) + 1)) : Int).toNat).size ≤ 9223372036854775807 then (gaolerlaw02_ClauseTurned.l0 k2 l0 l1 a2 a3 (x10_2 ++ ((⟨#[117, 103, 111, 97]⟩ : ByteArray).extract ((ji13) : Int).toNat ((wrap64 ((ji13) + 1)) : Int).toNat)) (x11_2 ++ ((⟨#[117, 103, 111, 97]⟩ : ByteArray).extract ((ji22) : Int).toNat ((wrap64 ((ji22) + 1)) : Int).toNat)) (wrap64 (x12_2 + 1))) else (none)) else (none)) else (none)) else (none)) = some r := by first | (rw [hji22] at H; exact H) | (simp only [hji22] at H ⊢; exact H)
                                have hji22w : (IntKind.i64.wrap (Int.tmod (rd l0 (ji19)) 4)) = ji22 := (i64_w _).trans hji22
                                by_cases c23 : 0 ≤ (ji22)
                                · rw [if_pos c23] at H
                                  have c23b0 := eq_true c23
                                  have c23b1 : decide (0 ≤ (ji22)) = true := decide_eq_true c23
                                  clear c23
                                  by_cases c24 : (ji22) ≤ (wrap64 ((ji22) + 1))
                                  · rw [if_pos c24] at H
                                    have c24b0 := eq_true c24
                                    have c24b1 : decide ((ji22) ≤ (wrap64 ((ji22) + 1))) = true := decide_eq_true c24
                                    by_cases c25 : (wrap64 ((ji22) + 1)) ≤ 4
                                    · rw [if_pos c25] at H
                                      have c25b0 := eq_true c25
                                      have c25b1 : decide ((wrap64 ((ji22) + 1)) ≤ 4) = true := decide_eq_true c25
                                      by_cases c26 : x11_2.size + ((⟨#[117, 103, 111, 97]⟩ : ByteArray).extract ((ji22) : Int).toNat ((wrap64 ((ji22) + 1)) : Int).toNat).size ≤ 9223372036854775807
                                      · rw [if_pos c26] at H
                                        have c26b0 := eq_true c26
                                        have c26b1 : decide (x11_2.size + ((⟨#[117, 103, 111, 97]⟩ : ByteArray).extract ((ji22) : Int).toNat ((wrap64 ((ji22) + 1)) : Int).toNat).size ≤ 9223372036854775807) = true := decide_eq_true c26
                                        try have c26b2 : (9223372036854775807 < x11_2.size + ((⟨#[117, 103, 111, 97]⟩ : ByteArray).extract ((ji22) : Int).toNat ((wrap64 ((ji22) + 1)) : Int).toNat).size) = False := eq_false (Nat.not_lt.2 c26)
                                        have H' := Aside0.mk H
                                        clear H
                                        have p299 : 0 ≤ (x12_2 : Int) := of_decide_eq_true (by first | (with_reducible assumption) | assumption)
                                        have q299 : x12_2 < (l0.length : Int) := of_decide_eq_true (by first | (with_reducible assumption) | assumption)
                                        obtain ⟨ad299, e299, hx299_0⟩ := Kd.at_int HR0.out x12_2 p299 q299
                                        cases e299
                                        replace hx299_0 := (HB.out.cell (World.block_lt_of_cell? w _ hx299_0)).trans hx299_0
                                        replace p299 := eq_true p299
                                        replace q299 := eq_true q299
                                        have p300 : 0 ≤ ((ji19) : Int) := of_decide_eq_true (by first | (with_reducible assumption) | assumption)
                                        have q300 : (ji19) < (l0.length : Int) := of_decide_eq_true (by first | (with_reducible assumption) | assumption)
                                        obtain ⟨ad300, e300, hx300_0⟩ := Kd.at_int HR0.out (ji19) p300 q300
                                        obtain rfl : ad299 = ad300 := (by injection e300)
                                        replace hx300_0 := (HB.out.cell (World.block_lt_of_cell? w _ hx300_0)).trans hx300_0
                                        replace p300 := eq_true p300
                                        replace q300 := eq_true q300
                                        go_wp2
                                        repeat (go_quiet (fail); try go_wp2)
                                        go_roundg k2
                                        case measure => have := HJ6.out; have := HK2.out; omega
                                        case rel => exact ⟨(x10_2 ++ ((⟨#[117, 103, 111, 97]⟩ : ByteArray).extract ((ji13) : Int).toNat ((wrap64 ((ji13) + 1)) : Int).toNat)), (x11_2 ++ ((⟨#[117, 103, 111, 97]⟩ : ByteArray).extract ((ji22) : Int).toNat ((wrap64 ((ji22) + 1)) : Int).toNat)), (wrap64 (x12_2 + 1)), (by first | rfl | (simp; done) | (simp only [← hji13] <;> (first | rfl | simp)) | (simp [*]; done)), (by first | rfl | (simp; done) | (simp only [← hji22] <;> (first | rfl | simp)) | (simp [*]; done)), (by first | rfl | (simp; done) | (simp [*]; done)), H', ⟨by have := HJ6.out; have := HK2.out; omega⟩, ⟨by repeat (first | (with_reducible first | exact HB.out | apply below_alloc | apply pw_below_drewN | apply below_drew1) | exact HB.out)⟩⟩
                                      · rw [if_neg c26] at H
                                        exact absurd H (by simp)
                                    · rw [if_neg c25] at H
                                      exact absurd H (by simp)
                                  · rw [if_neg c24] at H
                                    exact absurd H (by simp)
                                · rw [if_neg c23] at H
                                  exact absurd H (by simp)
                              · rw [if_neg c21] at H
                                exact absurd H (by simp)
                            · rw [if_neg c20] at H
                              exact absurd H (by simp)
                        · rw [if_neg c17] at H
                          exact absurd H (by simp)
                      · rw [if_neg c16] at H
                        exact absurd H (by simp)
                    · rw [if_neg c15] at H
                      exact absurd H (by simp)
                  · rw [if_neg c14] at H
                    exact absurd H (by simp)
                · rw [if_neg c12] at H
                  exact absurd H (by simp)
              · rw [if_neg c11] at H
                have c11b0 : decide (x12_2 < (l0.length : Int)) = false := decide_eq_false c11
                clear c11
                obtain ⟨ji27, hji27⟩ : ∃ j_ : Int, (wrap64 (Int.tmod a2 3)) = j_ := ⟨_, rfl⟩
                replace H : (if 0 ≤ (ji27) then (if (ji27) ≤ (wrap64 ((ji27) + 1)) then (if (wrap64 ((ji27) + 1)) ≤ 3 then (if x10_2.size + ((⟨#[43, 45, 61]⟩ : ByteArray).extract ((ji27) : Int).toNat ((wrap64 ((ji27) + 1)) : Int).toNat).size ≤ 9223372036854775807 then (if x11_2.size + ((⟨#[43, 45, 61]⟩ : ByteArray).extract ((ji27) : Int).toNat ((wrap64 ((ji27) + 1)) : Int).toNat).size ≤ 9223372036854775807 then (if x11_2.size + (x11_2 ++ ((⟨#[43, 45, 61]⟩ : ByteArray).extract ((ji27) : Int).toNat ((wrap64 ((ji27) + 1)) : Int).toNat)).size ≤ 9223372036854775807 then (gaolerlaw02_ClauseTurned.l1 k2 l1 a3 (x10_2 ++ ((⟨#[43, 45, 61]⟩ : ByteArray).extract ((ji27) : Int).toNat ((wrap64 ((ji27) + 1)) : Int).toNat)) (x11_2 ++ (x11_2 ++ ((⟨#[43, 45, 61]⟩ : ByteArray).extract ((ji27) : Int).toNat ((wrap64 ((ji27) + 1)) : Int).toNat))) 0) else (none)) else (none)) else (none)) else (none)) else (none)) else (none)) = some r := by first | (rw [hji27] at H; exact H) | (simp only [hji27] at H ⊢; exact H)
                have hji27w : (IntKind.i64.wrap (Int.tmod a2 3)) = ji27 := (i64_w _).trans hji27
                by_cases c28 : 0 ≤ (ji27)
                · rw [if_pos c28] at H
                  have c28b0 := eq_true c28
                  have c28b1 : decide (0 ≤ (ji27)) = true := decide_eq_true c28
                  clear c28
                  by_cases c29 : (ji27) ≤ (wrap64 ((ji27) + 1))
                  · rw [if_pos c29] at H
                    have c29b0 := eq_true c29
                    have c29b1 : decide ((ji27) ≤ (wrap64 ((ji27) + 1))) = true := decide_eq_true c29
                    by_cases c30 : (wrap64 ((ji27) + 1)) ≤ 3
                    · rw [if_pos c30] at H
                      have c30b0 := eq_true c30
                      have c30b1 : decide ((wrap64 ((ji27) + 1)) ≤ 3) = true := decide_eq_true c30
                      by_cases c31 : x10_2.size + ((⟨#[43, 45, 61]⟩ : ByteArray).extract ((ji27) : Int).toNat ((wrap64 ((ji27) + 1)) : Int).toNat).size ≤ 9223372036854775807
                      · rw [if_pos c31] at H
                        have c31b0 := eq_true c31
                        have c31b1 : decide (x10_2.size + ((⟨#[43, 45, 61]⟩ : ByteArray).extract ((ji27) : Int).toNat ((wrap64 ((ji27) + 1)) : Int).toNat).size ≤ 9223372036854775807) = true := decide_eq_true c31
                        try have c31b2 : (9223372036854775807 < x10_2.size + ((⟨#[43, 45, 61]⟩ : ByteArray).extract ((ji27) : Int).toNat ((wrap64 ((ji27) + 1)) : Int).toNat).size) = False := eq_false (Nat.not_lt.2 c31)
                        have c32b0 := eq_true (of_decide_eq_true (by first | (with_reducible assumption) | assumption) : 0 ≤ (ji27))
                        have c33b0 := eq_true (of_decide_eq_true (by first | (with_reducible assumption) | assumption) : (ji27) ≤ (wrap64 ((ji27) + 1)))
                        have c34b0 := eq_true (of_decide_eq_true (by first | (with_reducible assumption) | assumption) : (wrap64 ((ji27) + 1)) ≤ 3)
                        by_cases c35 : x11_2.size + ((⟨#[43, 45, 61]⟩ : ByteArray).extract ((ji27) : Int).toNat ((wrap64 ((ji27) + 1)) : Int).toNat).size ≤ 9223372036854775807
                        · rw [if_pos c35] at H
                          have c35b0 := eq_true c35
                          have c35b1 : decide (x11_2.size + ((⟨#[43, 45, 61]⟩ : ByteArray).extract ((ji27) : Int).toNat ((wrap64 ((ji27) + 1)) : Int).toNat).size ≤ 9223372036854775807) = true := decide_eq_true c35
                          try have c35b2 : (9223372036854775807 < x11_2.size + ((⟨#[43, 45, 61]⟩ : ByteArray).extract ((ji27) : Int).toNat ((wrap64 ((ji27) + 1)) : Int).toNat).size) = False := eq_false (Nat.not_lt.2 c35)
                          by_cases c36 : x11_2.size + (x11_2 ++ ((⟨#[43, 45, 61]⟩ : ByteArray).extract ((ji27) : Int).toNat ((wrap64 ((ji27) + 1)) : Int).toNat)).size ≤ 9223372036854775807
                          · rw [if_pos c36] at H
                            have c36b0 := eq_true c36
                            have c36b1 : decide (x11_2.size + (x11_2 ++ ((⟨#[43, 45, 61]⟩ : ByteArray).extract ((ji27) : Int).toNat ((wrap64 ((ji27) + 1)) : Int).toNat)).size ≤ 9223372036854775807) = true := decide_eq_true c36
                            try have c36b2 : (9223372036854775807 < x11_2.size + (x11_2 ++ ((⟨#[43, 45, 61]⟩ : ByteArray).extract ((ji27) : Int).toNat ((wrap64 ((ji27) + 1)) : Int).toNat)).size) = False := eq_false (Nat.not_lt.2 c36)
                            (try (have c36b3 := c36b2; simp only [ByteArray.size_append] at c36b3))
                            have H' := Aside0.mk H
                            clear H
                            go_wp2
                            repeat (go_quiet (fail); try go_wp2)
                            go_loopg [10, 11, 16] k2 (fun kq v10 v11 v16 w' => ∃ (x10_3 : ByteArray) (x11_3 : ByteArray) (x16_3 : Int), v10 = .string x10_3 ∧ v11 = .string x11_3 ∧ v16 = .int .i64 x16_3 ∧ Aside0 (gaolerlaw02_ClauseTurned.l1 kq l1 a3 x10_3 x11_3 x16_3 = some r) ∧ Aside0 (kq ≤ k2) ∧ Aside0 (Below w.heap.size w w'))
                            case atStart => exact ⟨(x10_2 ++ ((⟨#[43, 45, 61]⟩ : ByteArray).extract ((ji27) : Int).toNat ((wrap64 ((ji27) + 1)) : Int).toNat)), (x11_2 ++ (x11_2 ++ ((⟨#[43, 45, 61]⟩ : ByteArray).extract ((ji27) : Int).toNat ((wrap64 ((ji27) + 1)) : Int).toNat))), (0), (by first | rfl | (simp; done) | (simp only [← hji27] <;> (first | rfl | simp)) | (simp [*]; done)), (by first | rfl | (simp; done) | (simp only [← hji27] <;> (first | rfl | simp)) | (simp [*]; done)), (by first | rfl | (simp; done) | (simp [*]; done)), H', ⟨Nat.le_refl _⟩, ⟨by repeat (first | (with_reducible first | exact HB.out | apply below_alloc | apply pw_below_drewN | apply below_drew1) | exact HB.out)⟩⟩
                            case round =>
                              clear H'
                              try clear c1
                              try clear c2
                              try clear p2
                              try clear q2
                              try clear hx2
                              try clear c3
                              try clear p3
                              try clear q3
                              try clear hx3
                              try clear c6
                              try clear p6
                              try clear c7
                              try clear c9
                              try clear c9b0
                              try clear c9b1
                              try clear c10
                              try clear c11
                              try clear c11b0
                              try clear c12
                              try clear c12b0
                              try clear c14
                              try clear c14b0
                              try clear c14b1
                              try clear c15
                              try clear c15b0
                              try clear c15b1
                              try clear c16
                              try clear c16b0
                              try clear c16b1
                              try clear c17
                              try clear c17b0
                              try clear c17b1
                              try clear c17b2
                              try clear c18
                              try clear c18b0
                              try clear c18b1
                              try clear c18b2
                              try clear c20
                              try clear c20b0
                              try clear c21
                              try clear c21b0
                              try clear c23
                              try clear c23b0
                              try clear c23b1
                              try clear c24
                              try clear c24b0
                              try clear c24b1
                              try clear c25
                              try clear c25b0
                              try clear c25b1
                              try clear c26
                              try clear c26b0
                              try clear c26b1
                              try clear c26b2
                              try clear c28
                              try clear c28b0
                              try clear c28b1
                              try clear c29
                              try clear c29b0
                              try clear c29b1
                              try clear p29
                              try clear q29
                              try clear hx29
                              try clear c30
                              try clear c30b0
                              try clear c30b1
                              try clear p30
                              try clear q30
                              try clear hx30
                              try clear c31
                              try clear c31b0
                              try clear c31b1
                              try clear c31b2
                              try clear c32
                              try clear c32b0
                              try clear c33
                              try clear c33b0
                              try clear c34
                              try clear c34b0
                              try clear c35
                              try clear c35b0
                              try clear c35b1
                              try clear c35b2
                              try clear c36
                              try clear c36b0
                              try clear c36b1
                              try clear c36b2
                              try clear hx299_0
                              try clear hx300_0
                              try clear p2
                              try clear p299
                              try clear p300
                              try clear q299
                              try clear q300
                              obtain ⟨x10_3, x11_3, x16_3, rfl, rfl, rfl, HA, HK3, HB⟩ := hrel
                              cases gk with
                              | zero => exact absurd HA.out (by simp [gaolerlaw02_ClauseTurned.l1])
                              | succ k3 =>
                                have H := HA.out
                                clear HA
                                simp only [gaolerlaw02_ClauseTurned.l1] at H
                                by_cases c37 : x16_3 < (l1.length : Int)
                                · rw [if_pos c37] at H
                                  have c37b0 : decide (x16_3 < (l1.length : Int)) = true := decide_eq_true c37
                                  clear c37
                                  by_cases c38 : 0 ≤ x16_3
                                  · rw [if_pos c38] at H
                                    have c38b0 : decide (0 ≤ x16_3) = true := decide_eq_true c38
                                    clear c38
                                    obtain ⟨ji39, hji39⟩ : ∃ j_ : Int, (wrap64 (Int.tmod (rd l1 x16_3) 6)) = j_ := ⟨_, rfl⟩
                                    replace H : (if 0 ≤ (ji39) then (if (ji39) ≤ (wrap64 ((ji39) + 1)) then (if (wrap64 ((ji39) + 1)) ≤ 6 then (if x10_3.size + ((⟨#[114, 119, 120, 88, 115, 116]⟩ : ByteArray).extract ((ji39) : Int).toNat ((wrap64 ((ji39) + 1)) : Int).toNat).size ≤ 9223372036854775807 then (if (l1.length : Int) = 0 then (none) else (if 0 ≤ (Int.tmod (wrap64 (x16_3 + (wrap64 (a3)))) (l1.length : Int)) then (if (Int.tmod (wrap64 (x16_3 + (wrap64 (a3)))) (l1.length : Int)) < (l1.length : Int) then (if 0 ≤ (wrap64 (Int.tmod (rd l1 (Int.tmod (wrap64 (x16_3 + (wrap64 (a3)))) (l1.length : Int))) 6)) then (if (wrap64 (Int.tmod (rd l1 (Int.tmod (wrap64 (x16_3 + (wrap64 (a3)))) (l1.length : Int))) 6)) ≤ (wrap64 ((wrap64 (Int.tmod (rd l1 (Int.tmod (wrap64 (x16_3 + (wrap64 (a3)))) (l1.length : Int))) 6)) + 1)) then (if (wrap64 ((wrap64 (Int.tmod (rd l1 (Int.tmod (wrap64 (x16_3 + (wrap64 (a3)))) (l1.length : Int))) 6)) + 1)) ≤ 6 then (if ((⟨#[114, 119, 120, 88, 115, 116]⟩ : ByteArray).extract ((wrap64 (Int.tmod (rd l1 (Int.tmod (wrap64 (x16_3 + (wrap64 (a3)))) (l1.length : Int))) 6)) : Int).toNat ((wrap64 ((wrap64 (Int.tmod (rd l1 (Int.tmod (wrap64 (x16_3 + (wrap64 (a3)))) (l1.length : Int))) 6)) + 1)) : Int).toNat).size + ((⟨#[114, 119, 120, 88, 115, 116]⟩ : ByteArray).extract ((wrap64 (Int.tmod (rd l1 (Int.tmod (wrap64 (x16_3 + (wrap64 (a3)))) (l1.length : Int))) 6)) : Int).toNat ((wrap64 ((wrap64 (Int.tmod (rd l1 (Int.tmod (wrap64 (x16_3 + (wrap64 (a3)))) (l1.length : Int))) 6)) + 1)) : Int).toNat).size ≤ 9223372036854775807 then (if x11_3.size + (((⟨#[114, 119, 120, 88, 115, 116]⟩ : ByteArray).extract ((wrap64 (Int.tmod (rd l1 (Int.tmod (wrap64 (x16_3 + (wrap64 (a3)))) (l1.length : Int))) 6)) : Int).toNat ((wrap64 ((wrap64 (Int.tmod (rd l1 (Int.tmod (wrap64 (x16_3 + (wrap64 (a3)))) (l1.length : Int))) 6)) + 1)) : Int).toNat) ++ ((⟨#[114, 119, 120, 88, 115, 116]⟩ : ByteArray).extract ((wrap64 (Int.tmod (rd l1 (Int.tmod (wrap64 (x16_3 + (wrap64 (a3)))) (l1.length : Int))) 6)) : Int).toNat ((wrap64 ((wrap64 (Int.tmod (rd l1 (Int.tmod (wrap64 (x16_3 + (wrap64 (a3)))) (l1.length : Int))) 6)) + 1)) : Int).toNat)).size ≤ 9223372036854775807 then (gaolerlaw02_ClauseTurned.l1 k3 l1 a3 (x10_3 ++ ((⟨#[114, 119, 120, 88, 115, 116]⟩ : ByteArray).extract ((ji39) : Int).toNat ((wrap64 ((ji39) + 1)) : Int).toNat)) (x11_3 ++ (((⟨#[114, 119, 120, 88, 115, 116]⟩ : ByteArray).extract ((wrap64 (Int.tmod (rd l1 (Int.tmod (wrap64 (x16_3 + (wrap64 (a3)))) (l1.length : Int))) 6)) : Int).toNat ((wrap64 ((wrap64 (Int.tmod (rd l1 (Int.tmod (wrap64 (x16_3 + (wrap64 (a3)))) (l1.length : Int))) 6)) + 1)) : Int).toNat) ++ ((⟨#[114, 119, 120, 88, 115, 116]⟩ : ByteArray).extract ((wrap64 (Int.tmod (rd l1 (Int.tmod (wrap64 (x16_3 + (wrap64 (a3)))) (l1.length : Int))) 6)) : Int).toNat ((wrap64 ((wrap64 (Int.tmod (rd l1 (Int.tmod (wrap64 (x16_3 + (wrap64 (a3)))) (l1.length : Int))) 6)) + 1)) : Int).toNat))) (wrap64 (x16_3 + 1))) else (none)) else (none)) else (none)) else (none)) else (none)) else (none)) else (none))) else (none)) else (none)) else (none)) else (none)) = some r := by first | (rw [hji39] at H; exact H) | (simp only [hji39] at H ⊢; exact H)
                                    have hji39w : (IntKind.i64.wrap (Int.tmod (rd l1 x16_3) 6)) = ji39 := (i64_w _).trans hji39
                                    by_cases c40 : 0 ≤ (ji39)
                                    · rw [if_pos c40] at H
                                      have c40b0 := eq_true c40
                                      have c40b1 : decide (0 ≤ (ji39)) = true := decide_eq_true c40
                                      clear c40
                                      by_cases c41 : (ji39) ≤ (wrap64 ((ji39) + 1))
                                      · rw [if_pos c41] at H
                                        have c41b0 := eq_true c41
                                        have c41b1 : decide ((ji39) ≤ (wrap64 ((ji39) + 1))) = true := decide_eq_true c41
                                        by_cases c42 : (wrap64 ((ji39) + 1)) ≤ 6
                                        · rw [if_pos c42] at H
                                          have c42b0 := eq_true c42
                                          have c42b1 : decide ((wrap64 ((ji39) + 1)) ≤ 6) = true := decide_eq_true c42
                                          by_cases c43 : x10_3.size + ((⟨#[114, 119, 120, 88, 115, 116]⟩ : ByteArray).extract ((ji39) : Int).toNat ((wrap64 ((ji39) + 1)) : Int).toNat).size ≤ 9223372036854775807
                                          · rw [if_pos c43] at H
                                            have c43b0 := eq_true c43
                                            have c43b1 : decide (x10_3.size + ((⟨#[114, 119, 120, 88, 115, 116]⟩ : ByteArray).extract ((ji39) : Int).toNat ((wrap64 ((ji39) + 1)) : Int).toNat).size ≤ 9223372036854775807) = true := decide_eq_true c43
                                            try have c43b2 : (9223372036854775807 < x10_3.size + ((⟨#[114, 119, 120, 88, 115, 116]⟩ : ByteArray).extract ((ji39) : Int).toNat ((wrap64 ((ji39) + 1)) : Int).toNat).size) = False := eq_false (Nat.not_lt.2 c43)
                                            by_cases c44 : (l1.length : Int) = 0
                                            · rw [if_pos c44] at H
                                              exact absurd H (by simp)
                                            · rw [if_neg c44] at H
                                              have c44b0 : ((l1.length : Int) == 0) = false := beq_eq_false_iff_ne.mpr c44
                                              have c44b1 : ((l1.length : Int) != 0) = true := bne_iff_ne.mpr c44
                                              have c44b2 : ¬ (l1 = []) := fun h_ => c44 (by rw [h_]; rfl)
                                              obtain ⟨ji45, hji45⟩ : ∃ j_ : Int, (Int.tmod (wrap64 (x16_3 + (wrap64 (a3)))) (l1.length : Int)) = j_ := ⟨_, rfl⟩
                                              replace H : (if 0 ≤ (ji45) then (if (ji45) < (l1.length : Int) then (if 0 ≤ (wrap64 (Int.tmod (rd l1 (ji45)) 6)) then (if (wrap64 (Int.tmod (rd l1 (ji45)) 6)) ≤ (wrap64 ((wrap64 (Int.tmod (rd l1 (ji45)) 6)) + 1)) then (if (wrap64 ((wrap64 (Int.tmod (rd l1 (ji45)) 6)) + 1)) ≤ 6 then (if ((⟨#[114, 119, 120, 88, 115, 116]⟩ : ByteArray).extract ((wrap64 (Int.tmod (rd l1 (ji45)) 6)) : Int).toNat ((wrap64 ((wrap64 (Int.tmod (rd l1 (ji45)) 6)) + 1)) : Int).toNat).size + ((⟨#[114, 119, 120, 88, 115, 116]⟩ : ByteArray).extract ((wrap64 (Int.tmod (rd l1 (ji45)) 6)) : Int).toNat ((wrap64 ((wrap64 (Int.tmod (rd l1 (ji45)) 6)) + 1)) : Int).toNat).size ≤ 9223372036854775807 then (if x11_3.size + (((⟨#[114, 119, 120, 88, 115, 116]⟩ : ByteArray).extract ((wrap64 (Int.tmod (rd l1 (ji45)) 6)) : Int).toNat ((wrap64 ((wrap64 (Int.tmod (rd l1 (ji45)) 6)) + 1)) : Int).toNat) ++ ((⟨#[114, 119, 120, 88, 115, 116]⟩ : ByteArray).extract ((wrap64 (Int.tmod (rd l1 (ji45)) 6)) : Int).toNat ((wrap64 ((wrap64 (Int.tmod (rd l1 (ji45)) 6)) + 1)) : Int).toNat)).size ≤ 9223372036854775807 then (gaolerlaw02_ClauseTurned.l1 k3 l1 a3 (x10_3 ++ ((⟨#[114, 119, 120, 88, 115, 116]⟩ : ByteArray).extract ((ji39) : Int).toNat ((wrap64 ((ji39) + 1)) : Int).toNat)) (x11_3 ++ (((⟨#[114, 119, 120, 88, 115, 116]⟩ : ByteArray).extract ((wrap64 (Int.tmod (rd l1 (ji45)) 6)) : Int).toNat ((wrap64 ((wrap64 (Int.tmod (rd l1 (ji45)) 6)) + 1)) : Int).toNat) ++ ((⟨#[114, 119, 120, 88, 115, 116]⟩ : ByteArray).extract ((wrap64 (Int.tmod (rd l1 (ji45)) 6)) : Int).toNat ((wrap64 ((wrap64 (Int.tmod (rd l1 (ji45)) 6)) + 1)) : Int).toNat))) (wrap64 (x16_3 + 1))) else (none)) else (none)) else (none)) else (none)) else (none)) else (none)) else (none)) = some r := by first | (rw [hji45] at H; exact H) | (simp only [hji45] at H ⊢; exact H)
                                              by_cases c46 : 0 ≤ (ji45)
                                              · rw [if_pos c46] at H
                                                have c46b0 : decide (0 ≤ (ji45)) = true := decide_eq_true c46
                                                clear c46
                                                by_cases c47 : (ji45) < (l1.length : Int)
                                                · rw [if_pos c47] at H
                                                  have c47b0 : decide ((ji45) < (l1.length : Int)) = true := decide_eq_true c47
                                                  clear c47
                                                  obtain ⟨ji48, hji48⟩ : ∃ j_ : Int, (wrap64 (Int.tmod (rd l1 (ji45)) 6)) = j_ := ⟨_, rfl⟩
                                                  replace H : (if 0 ≤ (ji48) then (if (ji48) ≤ (wrap64 ((ji48) + 1)) then (if (wrap64 ((ji48) + 1)) ≤ 6 then (if ((⟨#[114, 119, 120, 88, 115, 116]⟩ : ByteArray).extract ((ji48) : Int).toNat ((wrap64 ((ji48) + 1)) : Int).toNat).size + ((⟨#[114, 119, 120, 88, 115, 116]⟩ : ByteArray).extract ((ji48) : Int).toNat ((wrap64 ((ji48) + 1)) : Int).toNat).size ≤ 9223372036854775807 then (if x11_3.size + (((⟨#[114, 119, 120, 88, 115, 116]⟩ : ByteArray).extract ((ji48) : Int).toNat ((wrap64 ((ji48) + 1)) : Int).toNat) ++ ((⟨#[114, 119, 120, 88, 115, 116]⟩ : ByteArray).extract ((ji48) : Int).toNat ((wrap64 ((ji48) + 1)) : Int).toNat)).size ≤ 9223372036854775807 then (gaolerlaw02_ClauseTurned.l1 k3 l1 a3 (x10_3 ++ ((⟨#[114, 119, 120, 88, 115, 116]⟩ : ByteArray).extract ((ji39) : Int).toNat ((wrap64 ((ji39) + 1)) : Int).toNat)) (x11_3 ++ (((⟨#[114, 119, 120, 88, 115, 116]⟩ : ByteArray).extract ((ji48) : Int).toNat ((wrap64 ((ji48) + 1)) : Int).toNat) ++ ((⟨#[114, 119, 120, 88, 115, 116]⟩ : ByteArray).extract ((ji48) : Int).toNat ((wrap64 ((ji48) + 1)) : Int).toNat))) (wrap64 (x16_3 + 1))) else (none)) else (none)) else (none)) else (none)) else (none)) = some r := by first | (rw [hji48] at H; exact H) | (simp only [hji48] at H ⊢; exact H)
                                                  have hji48w : (IntKind.i64.wrap (Int.tmod (rd l1 (ji45)) 6)) = ji48 := (i64_w _).trans hji48
                                                  by_cases c49 : 0 ≤ (ji48)
                                                  · rw [if_pos c49] at H
                                                    have c49b0 := eq_true c49
                                                    have c49b1 : decide (0 ≤ (ji48)) = true := decide_eq_true c49
                                                    clear c49
                                                    by_cases c50 : (ji48) ≤ (wrap64 ((ji48) + 1))
                                                    · rw [if_pos c50] at H
                                                      have c50b0 := eq_true c50
                                                      have c50b1 : decide ((ji48) ≤ (wrap64 ((ji48) + 1))) = true := decide_eq_true c50
                                                      by_cases c51 : (wrap64 ((ji48) + 1)) ≤ 6
                                                      · rw [if_pos c51] at H
                                                        have c51b0 := eq_true c51
                                                        have c51b1 : decide ((wrap64 ((ji48) + 1)) ≤ 6) = true := decide_eq_true c51
                                                        have c52b0 := eq_true (of_decide_eq_true (by first | (with_reducible assumption) | assumption) : 0 ≤ (ji48))
                                                        have c53b0 := eq_true (of_decide_eq_true (by first | (with_reducible assumption) | assumption) : (ji48) ≤ (wrap64 ((ji48) + 1)))
                                                        have c54b0 := eq_true (of_decide_eq_true (by first | (with_reducible assumption) | assumption) : (wrap64 ((ji48) + 1)) ≤ 6)
                                                        by_cases c55 : ((⟨#[114, 119, 120, 88, 115, 116]⟩ : ByteArray).extract ((ji48) : Int).toNat ((wrap64 ((ji48) + 1)) : Int).toNat).size + ((⟨#[114, 119, 120, 88, 115, 116]⟩ : ByteArray).extract ((ji48) : Int).toNat ((wrap64 ((ji48) + 1)) : Int).toNat).size ≤ 9223372036854775807
                                                        · rw [if_pos c55] at H
                                                          have c55b0 := eq_true c55
                                                          have c55b1 : decide (((⟨#[114, 119, 120, 88, 115, 116]⟩ : ByteArray).extract ((ji48) : Int).toNat ((wrap64 ((ji48) + 1)) : Int).toNat).size + ((⟨#[114, 119, 120, 88, 115, 116]⟩ : ByteArray).extract ((ji48) : Int).toNat ((wrap64 ((ji48) + 1)) : Int).toNat).size ≤ 9223372036854775807) = true := decide_eq_true c55
                                                          try have c55b2 : (9223372036854775807 < ((⟨#[114, 119, 120, 88, 115, 116]⟩ : ByteArray).extract ((ji48) : Int).toNat ((wrap64 ((ji48) + 1)) : Int).toNat).size + ((⟨#[114, 119, 120, 88, 115, 116]⟩ : ByteArray).extract ((ji48) : Int).toNat ((wrap64 ((ji48) + 1)) : Int).toNat).size) = False := eq_false (Nat.not_lt.2 c55)
                                                          by_cases c56 : x11_3.size + (((⟨#[114, 119, 120, 88, 115, 116]⟩ : ByteArray).extract ((ji48) : Int).toNat ((wrap64 ((ji48) + 1)) : Int).toNat) ++ ((⟨#[114, 119, 120, 88, 115, 116]⟩ : ByteArray).extract ((ji48) : Int).toNat ((wrap64 ((ji48) + 1)) : Int).toNat)).size ≤ 9223372036854775807
                                                          · rw [if_pos c56] at H
                                                            have c56b0 := eq_true c56
                                                            have c56b1 : decide (x11_3.size + (((⟨#[114, 119, 120, 88, 115, 116]⟩ : ByteArray).extract ((ji48) : Int).toNat ((wrap64 ((ji48) + 1)) : Int).toNat) ++ ((⟨#[114, 119, 120, 88, 115, 116]⟩ : ByteArray).extract ((ji48) : Int).toNat ((wrap64 ((ji48) + 1)) : Int).toNat)).size ≤ 9223372036854775807) = true := decide_eq_true c56
                                                            try have c56b2 : (9223372036854775807 < x11_3.size + (((⟨#[114, 119, 120, 88, 115, 116]⟩ : ByteArray).extract ((ji48) : Int).toNat ((wrap64 ((ji48) + 1)) : Int).toNat) ++ ((⟨#[114, 119, 120, 88, 115, 116]⟩ : ByteArray).extract ((ji48) : Int).toNat ((wrap64 ((ji48) + 1)) : Int).toNat)).size) = False := eq_false (Nat.not_lt.2 c56)
                                                            (try (have c56b3 := c56b2; simp only [ByteArray.size_append] at c56b3))
                                                            have H' := Aside0.mk H
                                                            clear H
                                                            have p301 : 0 ≤ (x16_3 : Int) := of_decide_eq_true (by first | (with_reducible assumption) | assumption)
                                                            have q301 : x16_3 < (l1.length : Int) := of_decide_eq_true (by first | (with_reducible assumption) | assumption)
                                                            obtain ⟨ad301, e301, hx301_0⟩ := Kd.at_int HR1.out x16_3 p301 q301
                                                            cases e301
                                                            replace hx301_0 := (HB.out.cell (World.block_lt_of_cell? w _ hx301_0)).trans hx301_0
                                                            replace p301 := eq_true p301
                                                            replace q301 := eq_true q301
                                                            have p302 : 0 ≤ ((ji45) : Int) := of_decide_eq_true (by first | (with_reducible assumption) | assumption)
                                                            have q302 : (ji45) < (l1.length : Int) := of_decide_eq_true (by first | (with_reducible assumption) | assumption)
                                                            obtain ⟨ad302, e302, hx302_0⟩ := Kd.at_int HR1.out (ji45) p302 q302
                                                            obtain rfl : ad301 = ad302 := (by injection e302)
                                                            replace hx302_0 := (HB.out.cell (World.block_lt_of_cell? w _ hx302_0)).trans hx302_0
                                                            replace p302 := eq_true p302
                                                            replace q302 := eq_true q302
                                                            go_wp2
                                                            repeat (go_quiet (fail); try go_wp2)
                                                            go_roundg k3
                                                            case measure => have := HJ6.out; have := HK2.out; have := HK3.out; omega
                                                            case rel => exact ⟨(x10_3 ++ ((⟨#[114, 119, 120, 88, 115, 116]⟩ : ByteArray).extract ((ji39) : Int).toNat ((wrap64 ((ji39) + 1)) : Int).toNat)), (x11_3 ++ (((⟨#[114, 119, 120, 88, 115, 116]⟩ : ByteArray).extract ((ji48) : Int).toNat ((wrap64 ((ji48) + 1)) : Int).toNat) ++ ((⟨#[114, 119, 120, 88, 115, 116]⟩ : ByteArray).extract ((ji48) : Int).toNat ((wrap64 ((ji48) + 1)) : Int).toNat))), (wrap64 (x16_3 + 1)), (by first | rfl | (simp; done) | (simp only [← hji39] <;> (first | rfl | simp)) | (simp [*]; done)), (by first | rfl | (simp; done) | (simp only [← hji48] <;> (first | rfl | simp)) | (simp [*]; done)), (by first | rfl | (simp; done) | (simp [*]; done)), H', ⟨by have := HJ6.out; have := HK2.out; have := HK3.out; omega⟩, ⟨by repeat (first | (with_reducible first | exact HB.out | apply below_alloc | apply pw_below_drewN | apply below_drew1) | exact HB.out)⟩⟩
                                                          · rw [if_neg c56] at H
                                                            exact absurd H (by simp)
                                                        · rw [if_neg c55] at H
                                                          exact absurd H (by simp)
                                                      · rw [if_neg c51] at H
                                                        exact absurd H (by simp)
                                                    · rw [if_neg c50] at H
                                                      exact absurd H (by simp)
                                                  · rw [if_neg c49] at H
                                                    exact absurd H (by simp)
                                                · rw [if_neg c47] at H
                                                  exact absurd H (by simp)
                                              · rw [if_neg c46] at H
                                                exact absurd H (by simp)
                                          · rw [if_neg c43] at H
                                            exact absurd H (by simp)
                                        · rw [if_neg c42] at H
                                          exact absurd H (by simp)
                                      · rw [if_neg c41] at H
                                        exact absurd H (by simp)
                                    · rw [if_neg c40] at H
                                      exact absurd H (by simp)
                                  · rw [if_neg c38] at H
                                    exact absurd H (by simp)
                                · rw [if_neg c37] at H
                                  have c37b0 : decide (x16_3 < (l1.length : Int)) = false := decide_eq_false c37
                                  clear c37
                                  replace H := Option.bind_eq_some_iff.mp H
                                  obtain ⟨⟨t303, t304⟩, A570, H⟩ := H
                                  replace H : ((clause_Parse.f k3 x11_3).bind fun bt307 => (if t304 = 0 then (if bt307.2 = 0 then ((gaolerlaw02_model.f k3 bt307.1).bind fun t311 => ((gaolerlaw02_same.f k3 t303 t311).bind fun t314 => (if t314 = true then (some ((t303.length : Int) == 1)) else (some false)))) else (some false)) else (some false))) = some r := H
                                  have A57 := Aside0.mk A570
                                  clear A570
                                  replace H := Option.bind_eq_some_iff.mp H
                                  obtain ⟨⟨t307, t308⟩, A580, H⟩ := H
                                  replace H : (if t304 = 0 then (if t308 = 0 then ((gaolerlaw02_model.f k3 t307).bind fun t311 => ((gaolerlaw02_same.f k3 t303 t311).bind fun t314 => (if t314 = true then (some ((t303.length : Int) == 1)) else (some false)))) else (some false)) else (some false)) = some r := H
                                  have A58 := Aside0.mk A580
                                  clear A580
                                  by_cases c59 : t304 = 0
                                  · rw [if_pos c59] at H
                                    have c59b0 : (t304 == 0) = true := beq_iff_eq.mpr c59
                                    have c59b1 : (t304 != 0) = false := bne_eq_false_iff_eq.mpr c59
                                    clear c59
                                    by_cases c60 : t308 = 0
                                    · rw [if_pos c60] at H
                                      have c60b0 : (t308 == 0) = true := beq_iff_eq.mpr c60
                                      have c60b1 : (t308 != 0) = false := bne_eq_false_iff_eq.mpr c60
                                      clear c60
                                      replace H := Option.bind_eq_some_iff.mp H
                                      obtain ⟨t311, A610, H⟩ := H
                                      replace H : ((gaolerlaw02_same.f k3 t303 t311).bind fun t314 => (if t314 = true then (some ((t303.length : Int) == 1)) else (some false))) = some r := H
                                      have A61 := Aside0.mk A610
                                      clear A610
                                      replace H := Option.bind_eq_some_iff.mp H
                                      obtain ⟨t314, A620, H⟩ := H
                                      replace H : (if t314 = true then (some ((t303.length : Int) == 1)) else (some false)) = some r := H
                                      have A62 := Aside0.mk A620
                                      clear A620
                                      by_cases c63 : t314 = true
                                      · subst c63
                                        have H1 : (some ((t303.length : Int) == 1)) = some r := by rw [if_pos rfl] at H; exact H
                                        clear H
                                        have H := H1
                                        clear H1
                                        obtain rfl := Option.some.inj H
                                        go_wp2_with (first | (go_at_call 15; (with_reducible refine (clause_Parse.calls k3 x10_3 t303 t304 _ A57.out).mono ?_); rintro e w64 ⟨v305, rfl, ho0, hb⟩; have n0_ := Aside0.mk (Kd.S_lower ho0 (below_size (by repeat (first | (with_reducible first | exact HB.out | apply below_alloc | apply pw_below_drewN | apply below_drew1) | exact HB.out)))); have n1_ := Aside0.mk (below_step (by repeat (first | (with_reducible first | exact HB.out | apply below_alloc | apply pw_below_drewN | apply below_drew1) | exact HB.out)) hb); clear HB; have HO306 := n0_; have HB := n1_; clear n0_ n1_; (try clear hb); (try clear hb2); (try clear hk); (try clear hi); (try clear ho0)) | (go_at_call 15; (with_reducible refine (clause_Parse.calls k3 x11_3 t307 t308 _ A58.out).mono ?_); rintro e w65 ⟨v309, rfl, ho0, hb⟩; have n0_ := Aside0.mk (Kd.S_elder' (by (with_reducible repeat (first | apply Kd.S_alloc | apply Kd.S_drewN | apply Kd.S_drew)); exact HO306.out) (Kd.S_base ho0) hb); have n1_ := Aside0.mk (Kd.S_lower (Kd.S_new' ho0 (Kd.S_lt (by (with_reducible repeat (first | apply Kd.S_alloc | apply Kd.S_drewN | apply Kd.S_drew)); exact HO306.out))) (below_size (by repeat (first | (with_reducible first | exact HB.out | apply below_alloc | apply pw_below_drewN | apply below_drew1) | exact HB.out)))); have n2_ := Aside0.mk (below_step (by repeat (first | (with_reducible first | exact HB.out | apply below_alloc | apply pw_below_drewN | apply below_drew1) | exact HB.out)) hb); clear HO306; clear HB; have HO306 := n0_; have HO310 := n1_; have HB := n2_; clear n0_ n1_ n2_; (try clear hb); (try clear hb2); (try clear hk); (try clear hi); (try clear ho0); obtain ⟨Ao66, co66, eo66⟩ := Kd.S_slice HO310.out; subst eo66) | (go_at_call 18; (with_reducible refine (gaolerlaw02_model.calls k3 _ _ t307 t311 _ ?side1 ?side2 A61.out).mono ?_); (case side1 => repeat (first | exact (Kd.S_reads' HO310.out).2.2 | (with_reducible refine Kd.C_alloc ?_ _) | (with_reducible refine Kd.C_drewN ?_ _) | (with_reducible refine Kd.C_drew ?_))); (case side2 => exact (Kd.S_reads' HO310.out).2.1); rintro e w67 ⟨v312, rfl, ho0, hb⟩; have n0_ := Aside0.mk (Kd.S_below (by (with_reducible repeat (first | apply Kd.S_alloc | apply Kd.S_drewN | apply Kd.S_drew)); exact HO306.out) hb); have n1_ := Aside0.mk (Kd.S_below (by (with_reducible repeat (first | apply Kd.S_alloc | apply Kd.S_drewN | apply Kd.S_drew)); exact HO310.out) hb); have n2_ := Aside0.mk (Kd.S_lower ho0 (below_size (by repeat (first | (with_reducible first | exact HB.out | apply below_alloc | apply pw_below_drewN | apply below_drew1) | exact HB.out)))); have n3_ := Aside0.mk (below_step (by repeat (first | (with_reducible first | exact HB.out | apply below_alloc | apply pw_below_drewN | apply below_drew1) | exact HB.out)) hb); clear HO306; clear HO310; clear HB; have HO306 := n0_; have HO310 := n1_; have HO313 := n2_; have HB := n3_; clear n0_ n1_ n2_ n3_; (try clear hb); (try clear hb2); (try clear hk); (try clear hi); (try clear ho0); obtain ⟨Ao68, co68, eo68⟩ := Kd.S_slice HO306.out; subst eo68; obtain ⟨Ao69, co69, eo69⟩ := Kd.S_slice HO313.out; subst eo69) | (go_at_call 17; (with_reducible refine (gaolerlaw02_same.calls k3 _ _ t303 _ _ t311 true _ ?side1 ?side2 ?side3 ?side4 A62.out).mono ?_); (case side1 => repeat (first | exact (Kd.S_reads' HO306.out).2.2 | (with_reducible refine Kd.C_alloc ?_ _) | (with_reducible refine Kd.C_drewN ?_ _) | (with_reducible refine Kd.C_drew ?_))); (case side2 => exact (Kd.S_reads' HO306.out).2.1); (case side3 => repeat (first | exact (Kd.S_reads' HO313.out).2.2 | (with_reducible refine Kd.C_alloc ?_ _) | (with_reducible refine Kd.C_drewN ?_ _) | (with_reducible refine Kd.C_drew ?_))); (case side4 => exact (Kd.S_reads' HO313.out).2.1); rintro e w70 ⟨rfl, hb⟩; have n0_ := Aside0.mk (Kd.S_below (by (with_reducible repeat (first | apply Kd.S_alloc | apply Kd.S_drewN | apply Kd.S_drew)); exact HO306.out) hb); have n1_ := Aside0.mk (Kd.S_below (by (with_reducible repeat (first | apply Kd.S_alloc | apply Kd.S_drewN | apply Kd.S_drew)); exact HO310.out) hb); have n2_ := Aside0.mk (Kd.S_below (by (with_reducible repeat (first | apply Kd.S_alloc | apply Kd.S_drewN | apply Kd.S_drew)); exact HO313.out) hb); have n3_ := Aside0.mk (below_step (by repeat (first | (with_reducible first | exact HB.out | apply below_alloc | apply pw_below_drewN | apply below_drew1) | exact HB.out)) hb); clear HO306; clear HO310; clear HO313; clear HB; have HO306 := n0_; have HO310 := n1_; have HO313 := n2_; have HB := n3_; clear n0_ n1_ n2_ n3_; (try clear hb); (try clear hb2); (try clear hk); (try clear hi)))
                                        repeat (go_quiet (first | (go_at_call 15; (with_reducible refine (clause_Parse.calls k3 x10_3 t303 t304 _ A57.out).mono ?_); rintro e w64 ⟨v305, rfl, ho0, hb⟩; have n0_ := Aside0.mk (Kd.S_lower ho0 (below_size (by repeat (first | (with_reducible first | exact HB.out | apply below_alloc | apply pw_below_drewN | apply below_drew1) | exact HB.out)))); have n1_ := Aside0.mk (below_step (by repeat (first | (with_reducible first | exact HB.out | apply below_alloc | apply pw_below_drewN | apply below_drew1) | exact HB.out)) hb); clear HB; have HO306 := n0_; have HB := n1_; clear n0_ n1_; (try clear hb); (try clear hb2); (try clear hk); (try clear hi); (try clear ho0)) | (go_at_call 15; (with_reducible refine (clause_Parse.calls k3 x11_3 t307 t308 _ A58.out).mono ?_); rintro e w65 ⟨v309, rfl, ho0, hb⟩; have n0_ := Aside0.mk (Kd.S_elder' (by (with_reducible repeat (first | apply Kd.S_alloc | apply Kd.S_drewN | apply Kd.S_drew)); exact HO306.out) (Kd.S_base ho0) hb); have n1_ := Aside0.mk (Kd.S_lower (Kd.S_new' ho0 (Kd.S_lt (by (with_reducible repeat (first | apply Kd.S_alloc | apply Kd.S_drewN | apply Kd.S_drew)); exact HO306.out))) (below_size (by repeat (first | (with_reducible first | exact HB.out | apply below_alloc | apply pw_below_drewN | apply below_drew1) | exact HB.out)))); have n2_ := Aside0.mk (below_step (by repeat (first | (with_reducible first | exact HB.out | apply below_alloc | apply pw_below_drewN | apply below_drew1) | exact HB.out)) hb); clear HO306; clear HB; have HO306 := n0_; have HO310 := n1_; have HB := n2_; clear n0_ n1_ n2_; (try clear hb); (try clear hb2); (try clear hk); (try clear hi); (try clear ho0); obtain ⟨Ao66, co66, eo66⟩ := Kd.S_slice HO310.out; subst eo66) | (go_at_call 18; (with_reducible refine (gaolerlaw02_model.calls k3 _ _ t307 t311 _ ?side1 ?side2 A61.out).mono ?_); (case side1 => repeat (first | exact (Kd.S_reads' HO310.out).2.2 | (with_reducible refine Kd.C_alloc ?_ _) | (with_reducible refine Kd.C_drewN ?_ _) | (with_reducible refine Kd.C_drew ?_))); (case side2 => exact (Kd.S_reads' HO310.out).2.1); rintro e w67 ⟨v312, rfl, ho0, hb⟩; have n0_ := Aside0.mk (Kd.S_below (by (with_reducible repeat (first | apply Kd.S_alloc | apply Kd.S_drewN | apply Kd.S_drew)); exact HO306.out) hb); have n1_ := Aside0.mk (Kd.S_below (by (with_reducible repeat (first | apply Kd.S_alloc | apply Kd.S_drewN | apply Kd.S_drew)); exact HO310.out) hb); have n2_ := Aside0.mk (Kd.S_lower ho0 (below_size (by repeat (first | (with_reducible first | exact HB.out | apply below_alloc | apply pw_below_drewN | apply below_drew1) | exact HB.out)))); have n3_ := Aside0.mk (below_step (by repeat (first | (with_reducible first | exact HB.out | apply below_alloc | apply pw_below_drewN | apply below_drew1) | exact HB.out)) hb); clear HO306; clear HO310; clear HB; have HO306 := n0_; have HO310 := n1_; have HO313 := n2_; have HB := n3_; clear n0_ n1_ n2_ n3_; (try clear hb); (try clear hb2); (try clear hk); (try clear hi); (try clear ho0); obtain ⟨Ao68, co68, eo68⟩ := Kd.S_slice HO306.out; subst eo68; obtain ⟨Ao69, co69, eo69⟩ := Kd.S_slice HO313.out; subst eo69) | (go_at_call 17; (with_reducible refine (gaolerlaw02_same.calls k3 _ _ t303 _ _ t311 true _ ?side1 ?side2 ?side3 ?side4 A62.out).mono ?_); (case side1 => repeat (first | exact (Kd.S_reads' HO306.out).2.2 | (with_reducible refine Kd.C_alloc ?_ _) | (with_reducible refine Kd.C_drewN ?_ _) | (with_reducible refine Kd.C_drew ?_))); (case side2 => exact (Kd.S_reads' HO306.out).2.1); (case side3 => repeat (first | exact (Kd.S_reads' HO313.out).2.2 | (with_reducible refine Kd.C_alloc ?_ _) | (with_reducible refine Kd.C_drewN ?_ _) | (with_reducible refine Kd.C_drew ?_))); (case side4 => exact (Kd.S_reads' HO313.out).2.1); rintro e w70 ⟨rfl, hb⟩; have n0_ := Aside0.mk (Kd.S_below (by (with_reducible repeat (first | apply Kd.S_alloc | apply Kd.S_drewN | apply Kd.S_drew)); exact HO306.out) hb); have n1_ := Aside0.mk (Kd.S_below (by (with_reducible repeat (first | apply Kd.S_alloc | apply Kd.S_drewN | apply Kd.S_drew)); exact HO310.out) hb); have n2_ := Aside0.mk (Kd.S_below (by (with_reducible repeat (first | apply Kd.S_alloc | apply Kd.S_drewN | apply Kd.S_drew)); exact HO313.out) hb); have n3_ := Aside0.mk (below_step (by repeat (first | (with_reducible first | exact HB.out | apply below_alloc | apply pw_below_drewN | apply below_drew1) | exact HB.out)) hb); clear HO306; clear HO310; clear HO313; clear HB; have HO306 := n0_; have HO310 := n1_; have HO313 := n2_; have HB := n3_; clear n0_ n1_ n2_ n3_; (try clear hb); (try clear hb2); (try clear hk); (try clear hi))); try go_wp2_with (first | (go_at_call 15; (with_reducible refine (clause_Parse.calls k3 x10_3 t303 t304 _ A57.out).mono ?_); rintro e w64 ⟨v305, rfl, ho0, hb⟩; have n0_ := Aside0.mk (Kd.S_lower ho0 (below_size (by repeat (first | (with_reducible first | exact HB.out | apply below_alloc | apply pw_below_drewN | apply below_drew1) | exact HB.out)))); have n1_ := Aside0.mk (below_step (by repeat (first | (with_reducible first | exact HB.out | apply below_alloc | apply pw_below_drewN | apply below_drew1) | exact HB.out)) hb); clear HB; have HO306 := n0_; have HB := n1_; clear n0_ n1_; (try clear hb); (try clear hb2); (try clear hk); (try clear hi); (try clear ho0)) | (go_at_call 15; (with_reducible refine (clause_Parse.calls k3 x11_3 t307 t308 _ A58.out).mono ?_); rintro e w65 ⟨v309, rfl, ho0, hb⟩; have n0_ := Aside0.mk (Kd.S_elder' (by (with_reducible repeat (first | apply Kd.S_alloc | apply Kd.S_drewN | apply Kd.S_drew)); exact HO306.out) (Kd.S_base ho0) hb); have n1_ := Aside0.mk (Kd.S_lower (Kd.S_new' ho0 (Kd.S_lt (by (with_reducible repeat (first | apply Kd.S_alloc | apply Kd.S_drewN | apply Kd.S_drew)); exact HO306.out))) (below_size (by repeat (first | (with_reducible first | exact HB.out | apply below_alloc | apply pw_below_drewN | apply below_drew1) | exact HB.out)))); have n2_ := Aside0.mk (below_step (by repeat (first | (with_reducible first | exact HB.out | apply below_alloc | apply pw_below_drewN | apply below_drew1) | exact HB.out)) hb); clear HO306; clear HB; have HO306 := n0_; have HO310 := n1_; have HB := n2_; clear n0_ n1_ n2_; (try clear hb); (try clear hb2); (try clear hk); (try clear hi); (try clear ho0); obtain ⟨Ao66, co66, eo66⟩ := Kd.S_slice HO310.out; subst eo66) | (go_at_call 18; (with_reducible refine (gaolerlaw02_model.calls k3 _ _ t307 t311 _ ?side1 ?side2 A61.out).mono ?_); (case side1 => repeat (first | exact (Kd.S_reads' HO310.out).2.2 | (with_reducible refine Kd.C_alloc ?_ _) | (with_reducible refine Kd.C_drewN ?_ _) | (with_reducible refine Kd.C_drew ?_))); (case side2 => exact (Kd.S_reads' HO310.out).2.1); rintro e w67 ⟨v312, rfl, ho0, hb⟩; have n0_ := Aside0.mk (Kd.S_below (by (with_reducible repeat (first | apply Kd.S_alloc | apply Kd.S_drewN | apply Kd.S_drew)); exact HO306.out) hb); have n1_ := Aside0.mk (Kd.S_below (by (with_reducible repeat (first | apply Kd.S_alloc | apply Kd.S_drewN | apply Kd.S_drew)); exact HO310.out) hb); have n2_ := Aside0.mk (Kd.S_lower ho0 (below_size (by repeat (first | (with_reducible first | exact HB.out | apply below_alloc | apply pw_below_drewN | apply below_drew1) | exact HB.out)))); have n3_ := Aside0.mk (below_step (by repeat (first | (with_reducible first | exact HB.out | apply below_alloc | apply pw_below_drewN | apply below_drew1) | exact HB.out)) hb); clear HO306; clear HO310; clear HB; have HO306 := n0_; have HO310 := n1_; have HO313 := n2_; have HB := n3_; clear n0_ n1_ n2_ n3_; (try clear hb); (try clear hb2); (try clear hk); (try clear hi); (try clear ho0); obtain ⟨Ao68, co68, eo68⟩ := Kd.S_slice HO306.out; subst eo68; obtain ⟨Ao69, co69, eo69⟩ := Kd.S_slice HO313.out; subst eo69) | (go_at_call 17; (with_reducible refine (gaolerlaw02_same.calls k3 _ _ t303 _ _ t311 true _ ?side1 ?side2 ?side3 ?side4 A62.out).mono ?_); (case side1 => repeat (first | exact (Kd.S_reads' HO306.out).2.2 | (with_reducible refine Kd.C_alloc ?_ _) | (with_reducible refine Kd.C_drewN ?_ _) | (with_reducible refine Kd.C_drew ?_))); (case side2 => exact (Kd.S_reads' HO306.out).2.1); (case side3 => repeat (first | exact (Kd.S_reads' HO313.out).2.2 | (with_reducible refine Kd.C_alloc ?_ _) | (with_reducible refine Kd.C_drewN ?_ _) | (with_reducible refine Kd.C_drew ?_))); (case side4 => exact (Kd.S_reads' HO313.out).2.1); rintro e w70 ⟨rfl, hb⟩; have n0_ := Aside0.mk (Kd.S_below (by (with_reducible repeat (first | apply Kd.S_alloc | apply Kd.S_drewN | apply Kd.S_drew)); exact HO306.out) hb); have n1_ := Aside0.mk (Kd.S_below (by (with_reducible repeat (first | apply Kd.S_alloc | apply Kd.S_drewN | apply Kd.S_drew)); exact HO310.out) hb); have n2_ := Aside0.mk (Kd.S_below (by (with_reducible repeat (first | apply Kd.S_alloc | apply Kd.S_drewN | apply Kd.S_drew)); exact HO313.out) hb); have n3_ := Aside0.mk (below_step (by repeat (first | (with_reducible first | exact HB.out | apply below_alloc | apply pw_below_drewN | apply below_drew1) | exact HB.out)) hb); clear HO306; clear HO310; clear HO313; clear HB; have HO306 := n0_; have HO310 := n1_; have HO313 := n2_; have HB := n3_; clear n0_ n1_ n2_ n3_; (try clear hb); (try clear hb2); (try clear hk); (try clear hi))))
                                        go_ret
                                        exact ⟨by first | rfl | (simp [errW_none, errW_some] <;> rfl) | (simp only [← hji27]; first | rfl | (simp [errW_none, errW_some] <;> rfl)) | (simp [*, errW_none, errW_some] <;> rfl), by repeat (first | (with_reducible first | exact HB.out | apply below_alloc | apply pw_below_drewN | apply below_drew1) | exact HB.out)⟩
                                      · replace c63 := Bool.eq_false_iff.mpr c63
                                        subst c63
                                        have H1 : (some false) = some r := by rw [if_neg (show ¬ (false = true) by decide)] at H; exact H
                                        clear H
                                        have H := H1
                                        clear H1
                                        obtain rfl := Option.some.inj H
                                        go_wp2_with (first | (go_at_call 15; (with_reducible refine (clause_Parse.calls k3 x10_3 t303 t304 _ A57.out).mono ?_); rintro e w71 ⟨v305, rfl, ho0, hb⟩; have n0_ := Aside0.mk (Kd.S_lower ho0 (below_size (by repeat (first | (with_reducible first | exact HB.out | apply below_alloc | apply pw_below_drewN | apply below_drew1) | exact HB.out)))); have n1_ := Aside0.mk (below_step (by repeat (first | (with_reducible first | exact HB.out | apply below_alloc | apply pw_below_drewN | apply below_drew1) | exact HB.out)) hb); clear HB; have HO306 := n0_; have HB := n1_; clear n0_ n1_; (try clear hb); (try clear hb2); (try clear hk); (try clear hi); (try clear ho0)) | (go_at_call 15; (with_reducible refine (clause_Parse.calls k3 x11_3 t307 t308 _ A58.out).mono ?_); rintro e w72 ⟨v309, rfl, ho0, hb⟩; have n0_ := Aside0.mk (Kd.S_elder' (by (with_reducible repeat (first | apply Kd.S_alloc | apply Kd.S_drewN | apply Kd.S_drew)); exact HO306.out) (Kd.S_base ho0) hb); have n1_ := Aside0.mk (Kd.S_lower (Kd.S_new' ho0 (Kd.S_lt (by (with_reducible repeat (first | apply Kd.S_alloc | apply Kd.S_drewN | apply Kd.S_drew)); exact HO306.out))) (below_size (by repeat (first | (with_reducible first | exact HB.out | apply below_alloc | apply pw_below_drewN | apply below_drew1) | exact HB.out)))); have n2_ := Aside0.mk (below_step (by repeat (first | (with_reducible first | exact HB.out | apply below_alloc | apply pw_below_drewN | apply below_drew1) | exact HB.out)) hb); clear HO306; clear HB; have HO306 := n0_; have HO310 := n1_; have HB := n2_; clear n0_ n1_ n2_; (try clear hb); (try clear hb2); (try clear hk); (try clear hi); (try clear ho0); obtain ⟨Ao73, co73, eo73⟩ := Kd.S_slice HO310.out; subst eo73) | (go_at_call 18; (with_reducible refine (gaolerlaw02_model.calls k3 _ _ t307 t311 _ ?side1 ?side2 A61.out).mono ?_); (case side1 => repeat (first | exact (Kd.S_reads' HO310.out).2.2 | (with_reducible refine Kd.C_alloc ?_ _) | (with_reducible refine Kd.C_drewN ?_ _) | (with_reducible refine Kd.C_drew ?_))); (case side2 => exact (Kd.S_reads' HO310.out).2.1); rintro e w74 ⟨v312, rfl, ho0, hb⟩; have n0_ := Aside0.mk (Kd.S_below (by (with_reducible repeat (first | apply Kd.S_alloc | apply Kd.S_drewN | apply Kd.S_drew)); exact HO306.out) hb); have n1_ := Aside0.mk (Kd.S_below (by (with_reducible repeat (first | apply Kd.S_alloc | apply Kd.S_drewN | apply Kd.S_drew)); exact HO310.out) hb); have n2_ := Aside0.mk (Kd.S_lower ho0 (below_size (by repeat (first | (with_reducible first | exact HB.out | apply below_alloc | apply pw_below_drewN | apply below_drew1) | exact HB.out)))); have n3_ := Aside0.mk (below_step (by repeat (first | (with_reducible first | exact HB.out | apply below_alloc | apply pw_below_drewN | apply below_drew1) | exact HB.out)) hb); clear HO306; clear HO310; clear HB; have HO306 := n0_; have HO310 := n1_; have HO313 := n2_; have HB := n3_; clear n0_ n1_ n2_ n3_; (try clear hb); (try clear hb2); (try clear hk); (try clear hi); (try clear ho0); obtain ⟨Ao75, co75, eo75⟩ := Kd.S_slice HO306.out; subst eo75; obtain ⟨Ao76, co76, eo76⟩ := Kd.S_slice HO313.out; subst eo76) | (go_at_call 17; (with_reducible refine (gaolerlaw02_same.calls k3 _ _ t303 _ _ t311 false _ ?side1 ?side2 ?side3 ?side4 A62.out).mono ?_); (case side1 => repeat (first | exact (Kd.S_reads' HO306.out).2.2 | (with_reducible refine Kd.C_alloc ?_ _) | (with_reducible refine Kd.C_drewN ?_ _) | (with_reducible refine Kd.C_drew ?_))); (case side2 => exact (Kd.S_reads' HO306.out).2.1); (case side3 => repeat (first | exact (Kd.S_reads' HO313.out).2.2 | (with_reducible refine Kd.C_alloc ?_ _) | (with_reducible refine Kd.C_drewN ?_ _) | (with_reducible refine Kd.C_drew ?_))); (case side4 => exact (Kd.S_reads' HO313.out).2.1); rintro e w77 ⟨rfl, hb⟩; have n0_ := Aside0.mk (Kd.S_below (by (with_reducible repeat (first | apply Kd.S_alloc | apply Kd.S_drewN | apply Kd.S_drew)); exact HO306.out) hb); have n1_ := Aside0.mk (Kd.S_below (by (with_reducible repeat (first | apply Kd.S_alloc | apply Kd.S_drewN | apply Kd.S_drew)); exact HO310.out) hb); have n2_ := Aside0.mk (Kd.S_below (by (with_reducible repeat (first | apply Kd.S_alloc | apply Kd.S_drewN | apply Kd.S_drew)); exact HO313.out) hb); have n3_ := Aside0.mk (below_step (by repeat (first | (with_reducible first | exact HB.out | apply below_alloc | apply pw_below_drewN | apply below_drew1) | exact HB.out)) hb); clear HO306; clear HO310; clear HO313; clear HB; have HO306 := n0_; have HO310 := n1_; have HO313 := n2_; have HB := n3_; clear n0_ n1_ n2_ n3_; (try clear hb); (try clear hb2); (try clear hk); (try clear hi)))
                                        repeat (go_quiet (first | (go_at_call 15; (with_reducible refine (clause_Parse.calls k3 x10_3 t303 t304 _ A57.out).mono ?_); rintro e w71 ⟨v305, rfl, ho0, hb⟩; have n0_ := Aside0.mk (Kd.S_lower ho0 (below_size (by repeat (first | (with_reducible first | exact HB.out | apply below_alloc | apply pw_below_drewN | apply below_drew1) | exact HB.out)))); have n1_ := Aside0.mk (below_step (by repeat (first | (with_reducible first | exact HB.out | apply below_alloc | apply pw_below_drewN | apply below_drew1) | exact HB.out)) hb); clear HB; have HO306 := n0_; have HB := n1_; clear n0_ n1_; (try clear hb); (try clear hb2); (try clear hk); (try clear hi); (try clear ho0)) | (go_at_call 15; (with_reducible refine (clause_Parse.calls k3 x11_3 t307 t308 _ A58.out).mono ?_); rintro e w72 ⟨v309, rfl, ho0, hb⟩; have n0_ := Aside0.mk (Kd.S_elder' (by (with_reducible repeat (first | apply Kd.S_alloc | apply Kd.S_drewN | apply Kd.S_drew)); exact HO306.out) (Kd.S_base ho0) hb); have n1_ := Aside0.mk (Kd.S_lower (Kd.S_new' ho0 (Kd.S_lt (by (with_reducible repeat (first | apply Kd.S_alloc | apply Kd.S_drewN | apply Kd.S_drew)); exact HO306.out))) (below_size (by repeat (first | (with_reducible first | exact HB.out | apply below_alloc | apply pw_below_drewN | apply below_drew1) | exact HB.out)))); have n2_ := Aside0.mk (below_step (by repeat (first | (with_reducible first | exact HB.out | apply below_alloc | apply pw_below_drewN | apply below_drew1) | exact HB.out)) hb); clear HO306; clear HB; have HO306 := n0_; have HO310 := n1_; have HB := n2_; clear n0_ n1_ n2_; (try clear hb); (try clear hb2); (try clear hk); (try clear hi); (try clear ho0); obtain ⟨Ao73, co73, eo73⟩ := Kd.S_slice HO310.out; subst eo73) | (go_at_call 18; (with_reducible refine (gaolerlaw02_model.calls k3 _ _ t307 t311 _ ?side1 ?side2 A61.out).mono ?_); (case side1 => repeat (first | exact (Kd.S_reads' HO310.out).2.2 | (with_reducible refine Kd.C_alloc ?_ _) | (with_reducible refine Kd.C_drewN ?_ _) | (with_reducible refine Kd.C_drew ?_))); (case side2 => exact (Kd.S_reads' HO310.out).2.1); rintro e w74 ⟨v312, rfl, ho0, hb⟩; have n0_ := Aside0.mk (Kd.S_below (by (with_reducible repeat (first | apply Kd.S_alloc | apply Kd.S_drewN | apply Kd.S_drew)); exact HO306.out) hb); have n1_ := Aside0.mk (Kd.S_below (by (with_reducible repeat (first | apply Kd.S_alloc | apply Kd.S_drewN | apply Kd.S_drew)); exact HO310.out) hb); have n2_ := Aside0.mk (Kd.S_lower ho0 (below_size (by repeat (first | (with_reducible first | exact HB.out | apply below_alloc | apply pw_below_drewN | apply below_drew1) | exact HB.out)))); have n3_ := Aside0.mk (below_step (by repeat (first | (with_reducible first | exact HB.out | apply below_alloc | apply pw_below_drewN | apply below_drew1) | exact HB.out)) hb); clear HO306; clear HO310; clear HB; have HO306 := n0_; have HO310 := n1_; have HO313 := n2_; have HB := n3_; clear n0_ n1_ n2_ n3_; (try clear hb); (try clear hb2); (try clear hk); (try clear hi); (try clear ho0); obtain ⟨Ao75, co75, eo75⟩ := Kd.S_slice HO306.out; subst eo75; obtain ⟨Ao76, co76, eo76⟩ := Kd.S_slice HO313.out; subst eo76) | (go_at_call 17; (with_reducible refine (gaolerlaw02_same.calls k3 _ _ t303 _ _ t311 false _ ?side1 ?side2 ?side3 ?side4 A62.out).mono ?_); (case side1 => repeat (first | exact (Kd.S_reads' HO306.out).2.2 | (with_reducible refine Kd.C_alloc ?_ _) | (with_reducible refine Kd.C_drewN ?_ _) | (with_reducible refine Kd.C_drew ?_))); (case side2 => exact (Kd.S_reads' HO306.out).2.1); (case side3 => repeat (first | exact (Kd.S_reads' HO313.out).2.2 | (with_reducible refine Kd.C_alloc ?_ _) | (with_reducible refine Kd.C_drewN ?_ _) | (with_reducible refine Kd.C_drew ?_))); (case side4 => exact (Kd.S_reads' HO313.out).2.1); rintro e w77 ⟨rfl, hb⟩; have n0_ := Aside0.mk (Kd.S_below (by (with_reducible repeat (first | apply Kd.S_alloc | apply Kd.S_drewN | apply Kd.S_drew)); exact HO306.out) hb); have n1_ := Aside0.mk (Kd.S_below (by (with_reducible repeat (first | apply Kd.S_alloc | apply Kd.S_drewN | apply Kd.S_drew)); exact HO310.out) hb); have n2_ := Aside0.mk (Kd.S_below (by (with_reducible repeat (first | apply Kd.S_alloc | apply Kd.S_drewN | apply Kd.S_drew)); exact HO313.out) hb); have n3_ := Aside0.mk (below_step (by repeat (first | (with_reducible first | exact HB.out | apply below_alloc | apply pw_below_drewN | apply below_drew1) | exact HB.out)) hb); clear HO306; clear HO310; clear HO313; clear HB; have HO306 := n0_; have HO310 := n1_; have HO313 := n2_; have HB := n3_; clear n0_ n1_ n2_ n3_; (try clear hb); (try clear hb2); (try clear hk); (try clear hi))); try go_wp2_with (first | (go_at_call 15; (with_reducible refine (clause_Parse.calls k3 x10_3 t303 t304 _ A57.out).mono ?_); rintro e w71 ⟨v305, rfl, ho0, hb⟩; have n0_ := Aside0.mk (Kd.S_lower ho0 (below_size (by repeat (first | (with_reducible first | exact HB.out | apply below_alloc | apply pw_below_drewN | apply below_drew1) | exact HB.out)))); have n1_ := Aside0.mk (below_step (by repeat (first | (with_reducible first | exact HB.out | apply below_alloc | apply pw_below_drewN | apply below_drew1) | exact HB.out)) hb); clear HB; have HO306 := n0_; have HB := n1_; clear n0_ n1_; (try clear hb); (try clear hb2); (try clear hk); (try clear hi); (try clear ho0)) | (go_at_call 15; (with_reducible refine (clause_Parse.calls k3 x11_3 t307 t308 _ A58.out).mono ?_); rintro e w72 ⟨v309, rfl, ho0, hb⟩; have n0_ := Aside0.mk (Kd.S_elder' (by (with_reducible repeat (first | apply Kd.S_alloc | apply Kd.S_drewN | apply Kd.S_drew)); exact HO306.out) (Kd.S_base ho0) hb); have n1_ := Aside0.mk (Kd.S_lower (Kd.S_new' ho0 (Kd.S_lt (by (with_reducible repeat (first | apply Kd.S_alloc | apply Kd.S_drewN | apply Kd.S_drew)); exact HO306.out))) (below_size (by repeat (first | (with_reducible first | exact HB.out | apply below_alloc | apply pw_below_drewN | apply below_drew1) | exact HB.out)))); have n2_ := Aside0.mk (below_step (by repeat (first | (with_reducible first | exact HB.out | apply below_alloc | apply pw_below_drewN | apply below_drew1) | exact HB.out)) hb); clear HO306; clear HB; have HO306 := n0_; have HO310 := n1_; have HB := n2_; clear n0_ n1_ n2_; (try clear hb); (try clear hb2); (try clear hk); (try clear hi); (try clear ho0); obtain ⟨Ao73, co73, eo73⟩ := Kd.S_slice HO310.out; subst eo73) | (go_at_call 18; (with_reducible refine (gaolerlaw02_model.calls k3 _ _ t307 t311 _ ?side1 ?side2 A61.out).mono ?_); (case side1 => repeat (first | exact (Kd.S_reads' HO310.out).2.2 | (with_reducible refine Kd.C_alloc ?_ _) | (with_reducible refine Kd.C_drewN ?_ _) | (with_reducible refine Kd.C_drew ?_))); (case side2 => exact (Kd.S_reads' HO310.out).2.1); rintro e w74 ⟨v312, rfl, ho0, hb⟩; have n0_ := Aside0.mk (Kd.S_below (by (with_reducible repeat (first | apply Kd.S_alloc | apply Kd.S_drewN | apply Kd.S_drew)); exact HO306.out) hb); have n1_ := Aside0.mk (Kd.S_below (by (with_reducible repeat (first | apply Kd.S_alloc | apply Kd.S_drewN | apply Kd.S_drew)); exact HO310.out) hb); have n2_ := Aside0.mk (Kd.S_lower ho0 (below_size (by repeat (first | (with_reducible first | exact HB.out | apply below_alloc | apply pw_below_drewN | apply below_drew1) | exact HB.out)))); have n3_ := Aside0.mk (below_step (by repeat (first | (with_reducible first | exact HB.out | apply below_alloc | apply pw_below_drewN | apply below_drew1) | exact HB.out)) hb); clear HO306; clear HO310; clear HB; have HO306 := n0_; have HO310 := n1_; have HO313 := n2_; have HB := n3_; clear n0_ n1_ n2_ n3_; (try clear hb); (try clear hb2); (try clear hk); (try clear hi); (try clear ho0); obtain ⟨Ao75, co75, eo75⟩ := Kd.S_slice HO306.out; subst eo75; obtain ⟨Ao76, co76, eo76⟩ := Kd.S_slice HO313.out; subst eo76) | (go_at_call 17; (with_reducible refine (gaolerlaw02_same.calls k3 _ _ t303 _ _ t311 false _ ?side1 ?side2 ?side3 ?side4 A62.out).mono ?_); (case side1 => repeat (first | exact (Kd.S_reads' HO306.out).2.2 | (with_reducible refine Kd.C_alloc ?_ _) | (with_reducible refine Kd.C_drewN ?_ _) | (with_reducible refine Kd.C_drew ?_))); (case side2 => exact (Kd.S_reads' HO306.out).2.1); (case side3 => repeat (first | exact (Kd.S_reads' HO313.out).2.2 | (with_reducible refine Kd.C_alloc ?_ _) | (with_reducible refine Kd.C_drewN ?_ _) | (with_reducible refine Kd.C_drew ?_))); (case side4 => exact (Kd.S_reads' HO313.out).2.1); rintro e w77 ⟨rfl, hb⟩; have n0_ := Aside0.mk (Kd.S_below (by (with_reducible repeat (first | apply Kd.S_alloc | apply Kd.S_drewN | apply Kd.S_drew)); exact HO306.out) hb); have n1_ := Aside0.mk (Kd.S_below (by (with_reducible repeat (first | apply Kd.S_alloc | apply Kd.S_drewN | apply Kd.S_drew)); exact HO310.out) hb); have n2_ := Aside0.mk (Kd.S_below (by (with_reducible repeat (first | apply Kd.S_alloc | apply Kd.S_drewN | apply Kd.S_drew)); exact HO313.out) hb); have n3_ := Aside0.mk (below_step (by repeat (first | (with_reducible first | exact HB.out | apply below_alloc | apply pw_below_drewN | apply below_drew1) | exact HB.out)) hb); clear HO306; clear HO310; clear HO313; clear HB; have HO306 := n0_; have HO310 := n1_; have HO313 := n2_; have HB := n3_; clear n0_ n1_ n2_ n3_; (try clear hb); (try clear hb2); (try clear hk); (try clear hi))))
                                        go_ret
                                        exact ⟨by first | rfl | (simp [errW_none, errW_some] <;> rfl) | (simp only [← hji27]; first | rfl | (simp [errW_none, errW_some] <;> rfl)) | (simp [*, errW_none, errW_some] <;> rfl), by repeat (first | (with_reducible first | exact HB.out | apply below_alloc | apply pw_below_drewN | apply below_drew1) | exact HB.out)⟩
                                    · rw [if_neg c60] at H
                                      have c60b0 : (t308 == 0) = false := beq_eq_false_iff_ne.mpr c60
                                      have c60b1 : (t308 != 0) = true := bne_iff_ne.mpr c60
                                      obtain rfl := Option.some.inj H
                                      go_wp2_with (first | (go_at_call 15; (with_reducible refine (clause_Parse.calls k3 x10_3 t303 t304 _ A57.out).mono ?_); rintro e w78 ⟨v305, rfl, ho0, hb⟩; have n0_ := Aside0.mk (Kd.S_lower ho0 (below_size (by repeat (first | (with_reducible first | exact HB.out | apply below_alloc | apply pw_below_drewN | apply below_drew1) | exact HB.out)))); have n1_ := Aside0.mk (below_step (by repeat (first | (with_reducible first | exact HB.out | apply below_alloc | apply pw_below_drewN | apply below_drew1) | exact HB.out)) hb); clear HB; have HO306 := n0_; have HB := n1_; clear n0_ n1_; (try clear hb); (try clear hb2); (try clear hk); (try clear hi); (try clear ho0)) | (go_at_call 15; (with_reducible refine (clause_Parse.calls k3 x11_3 t307 t308 _ A58.out).mono ?_); rintro e w79 ⟨v309, rfl, ho0, hb⟩; have n0_ := Aside0.mk (Kd.S_elder' (by (with_reducible repeat (first | apply Kd.S_alloc | apply Kd.S_drewN | apply Kd.S_drew)); exact HO306.out) (Kd.S_base ho0) hb); have n1_ := Aside0.mk (Kd.S_lower (Kd.S_new' ho0 (Kd.S_lt (by (with_reducible repeat (first | apply Kd.S_alloc | apply Kd.S_drewN | apply Kd.S_drew)); exact HO306.out))) (below_size (by repeat (first | (with_reducible first | exact HB.out | apply below_alloc | apply pw_below_drewN | apply below_drew1) | exact HB.out)))); have n2_ := Aside0.mk (below_step (by repeat (first | (with_reducible first | exact HB.out | apply below_alloc | apply pw_below_drewN | apply below_drew1) | exact HB.out)) hb); clear HO306; clear HB; have HO306 := n0_; have HO310 := n1_; have HB := n2_; clear n0_ n1_ n2_; (try clear hb); (try clear hb2); (try clear hk); (try clear hi); (try clear ho0)))
                                      repeat (go_quiet (first | (go_at_call 15; (with_reducible refine (clause_Parse.calls k3 x10_3 t303 t304 _ A57.out).mono ?_); rintro e w78 ⟨v305, rfl, ho0, hb⟩; have n0_ := Aside0.mk (Kd.S_lower ho0 (below_size (by repeat (first | (with_reducible first | exact HB.out | apply below_alloc | apply pw_below_drewN | apply below_drew1) | exact HB.out)))); have n1_ := Aside0.mk (below_step (by repeat (first | (with_reducible first | exact HB.out | apply below_alloc | apply pw_below_drewN | apply below_drew1) | exact HB.out)) hb); clear HB; have HO306 := n0_; have HB := n1_; clear n0_ n1_; (try clear hb); (try clear hb2); (try clear hk); (try clear hi); (try clear ho0)) | (go_at_call 15; (with_reducible refine (clause_Parse.calls k3 x11_3 t307 t308 _ A58.out).mono ?_); rintro e w79 ⟨v309, rfl, ho0, hb⟩; have n0_ := Aside0.mk (Kd.S_elder' (by (with_reducible repeat (first | apply Kd.S_alloc | apply Kd.S_drewN | apply Kd.S_drew)); exact HO306.out) (Kd.S_base ho0) hb); have n1_ := Aside0.mk (Kd.S_lower (Kd.S_new' ho0 (Kd.S_lt (by (with_reducible repeat (first | apply Kd.S_alloc | apply Kd.S_drewN | apply Kd.S_drew)); exact HO306.out))) (below_size (by repeat (first | (with_reducible first | exact HB.out | apply below_alloc | apply pw_below_drewN | apply below_drew1) | exact HB.out)))); have n2_ := Aside0.mk (below_step (by repeat (first | (with_reducible first | exact HB.out | apply below_alloc | apply pw_below_drewN | apply below_drew1) | exact HB.out)) hb); clear HO306; clear HB; have HO306 := n0_; have HO310 := n1_; have HB := n2_; clear n0_ n1_ n2_; (try clear hb); (try clear hb2); (try clear hk); (try clear hi); (try clear ho0))); try go_wp2_with (first | (go_at_call 15; (with_reducible refine (clause_Parse.calls k3 x10_3 t303 t304 _ A57.out).mono ?_); rintro e w78 ⟨v305, rfl, ho0, hb⟩; have n0_ := Aside0.mk (Kd.S_lower ho0 (below_size (by repeat (first | (with_reducible first | exact HB.out | apply below_alloc | apply pw_below_drewN | apply below_drew1) | exact HB.out)))); have n1_ := Aside0.mk (below_step (by repeat (first | (with_reducible first | exact HB.out | apply below_alloc | apply pw_below_drewN | apply below_drew1) | exact HB.out)) hb); clear HB; have HO306 := n0_; have HB := n1_; clear n0_ n1_; (try clear hb); (try clear hb2); (try clear hk); (try clear hi); (try clear ho0)) | (go_at_call 15; (with_reducible refine (clause_Parse.calls k3 x11_3 t307 t308 _ A58.out).mono ?_); rintro e w79 ⟨v309, rfl, ho0, hb⟩; have n0_ := Aside0.mk (Kd.S_elder' (by (with_reducible repeat (first | apply Kd.S_alloc | apply Kd.S_drewN | apply Kd.S_drew)); exact HO306.out) (Kd.S_base ho0) hb); have n1_ := Aside0.mk (Kd.S_lower (Kd.S_new' ho0 (Kd.S_lt (by (with_reducible repeat (first | apply Kd.S_alloc | apply Kd.S_drewN | apply Kd.S_drew)); exact HO306.out))) (below_size (by repeat (first | (with_reducible first | exact HB.out | apply below_alloc | apply pw_below_drewN | apply below_drew1) | exact HB.out)))); have n2_ := Aside0.mk (below_step (by repeat (first | (with_reducible first | exact HB.out | apply below_alloc | apply pw_below_drewN | apply below_drew1) | exact HB.out)) hb); clear HO306; clear HB; have HO306 := n0_; have HO310 := n1_; have HB := n2_; clear n0_ n1_ n2_; (try clear hb); (try clear hb2); (try clear hk); (try clear hi); (try clear ho0))))
                                      go_ret
                                      exact ⟨by first | rfl | (simp [errW_none, errW_some] <;> rfl) | (simp only [← hji27]; first | rfl | (simp [errW_none, errW_some] <;> rfl)) | (simp [*, errW_none, errW_some] <;> rfl), by repeat (first | (with_reducible first | exact HB.out | apply below_alloc | apply pw_below_drewN | apply below_drew1) | exact HB.out)⟩
                                  · rw [if_neg c59] at H
                                    have c59b0 : (t304 == 0) = false := beq_eq_false_iff_ne.mpr c59
                                    have c59b1 : (t304 != 0) = true := bne_iff_ne.mpr c59
                                    obtain rfl := Option.some.inj H
                                    go_wp2_with (first | (go_at_call 15; (with_reducible refine (clause_Parse.calls k3 x10_3 t303 t304 _ A57.out).mono ?_); rintro e w80 ⟨v305, rfl, ho0, hb⟩; have n0_ := Aside0.mk (Kd.S_lower ho0 (below_size (by repeat (first | (with_reducible first | exact HB.out | apply below_alloc | apply pw_below_drewN | apply below_drew1) | exact HB.out)))); have n1_ := Aside0.mk (below_step (by repeat (first | (with_reducible first | exact HB.out | apply below_alloc | apply pw_below_drewN | apply below_drew1) | exact HB.out)) hb); clear HB; have HO306 := n0_; have HB := n1_; clear n0_ n1_; (try clear hb); (try clear hb2); (try clear hk); (try clear hi); (try clear ho0)) | (go_at_call 15; (with_reducible refine (clause_Parse.calls k3 x11_3 t307 t308 _ A58.out).mono ?_); rintro e w81 ⟨v309, rfl, ho0, hb⟩; have n0_ := Aside0.mk (Kd.S_elder' (by (with_reducible repeat (first | apply Kd.S_alloc | apply Kd.S_drewN | apply Kd.S_drew)); exact HO306.out) (Kd.S_base ho0) hb); have n1_ := Aside0.mk (Kd.S_lower (Kd.S_new' ho0 (Kd.S_lt (by (with_reducible repeat (first | apply Kd.S_alloc | apply Kd.S_drewN | apply Kd.S_drew)); exact HO306.out))) (below_size (by repeat (first | (with_reducible first | exact HB.out | apply below_alloc | apply pw_below_drewN | apply below_drew1) | exact HB.out)))); have n2_ := Aside0.mk (below_step (by repeat (first | (with_reducible first | exact HB.out | apply below_alloc | apply pw_below_drewN | apply below_drew1) | exact HB.out)) hb); clear HO306; clear HB; have HO306 := n0_; have HO310 := n1_; have HB := n2_; clear n0_ n1_ n2_; (try clear hb); (try clear hb2); (try clear hk); (try clear hi); (try clear ho0)))
                                    repeat (go_quiet (first | (go_at_call 15; (with_reducible refine (clause_Parse.calls k3 x10_3 t303 t304 _ A57.out).mono ?_); rintro e w80 ⟨v305, rfl, ho0, hb⟩; have n0_ := Aside0.mk (Kd.S_lower ho0 (below_size (by repeat (first | (with_reducible first | exact HB.out | apply below_alloc | apply pw_below_drewN | apply below_drew1) | exact HB.out)))); have n1_ := Aside0.mk (below_step (by repeat (first | (with_reducible first | exact HB.out | apply below_alloc | apply pw_below_drewN | apply below_drew1) | exact HB.out)) hb); clear HB; have HO306 := n0_; have HB := n1_; clear n0_ n1_; (try clear hb); (try clear hb2); (try clear hk); (try clear hi); (try clear ho0)) | (go_at_call 15; (with_reducible refine (clause_Parse.calls k3 x11_3 t307 t308 _ A58.out).mono ?_); rintro e w81 ⟨v309, rfl, ho0, hb⟩; have n0_ := Aside0.mk (Kd.S_elder' (by (with_reducible repeat (first | apply Kd.S_alloc | apply Kd.S_drewN | apply Kd.S_drew)); exact HO306.out) (Kd.S_base ho0) hb); have n1_ := Aside0.mk (Kd.S_lower (Kd.S_new' ho0 (Kd.S_lt (by (with_reducible repeat (first | apply Kd.S_alloc | apply Kd.S_drewN | apply Kd.S_drew)); exact HO306.out))) (below_size (by repeat (first | (with_reducible first | exact HB.out | apply below_alloc | apply pw_below_drewN | apply below_drew1) | exact HB.out)))); have n2_ := Aside0.mk (below_step (by repeat (first | (with_reducible first | exact HB.out | apply below_alloc | apply pw_below_drewN | apply below_drew1) | exact HB.out)) hb); clear HO306; clear HB; have HO306 := n0_; have HO310 := n1_; have HB := n2_; clear n0_ n1_ n2_; (try clear hb); (try clear hb2); (try clear hk); (try clear hi); (try clear ho0))); try go_wp2_with (first | (go_at_call 15; (with_reducible refine (clause_Parse.calls k3 x10_3 t303 t304 _ A57.out).mono ?_); rintro e w80 ⟨v305, rfl, ho0, hb⟩; have n0_ := Aside0.mk (Kd.S_lower ho0 (below_size (by repeat (first | (with_reducible first | exact HB.out | apply below_alloc | apply pw_below_drewN | apply below_drew1) | exact HB.out)))); have n1_ := Aside0.mk (below_step (by repeat (first | (with_reducible first | exact HB.out | apply below_alloc | apply pw_below_drewN | apply below_drew1) | exact HB.out)) hb); clear HB; have HO306 := n0_; have HB := n1_; clear n0_ n1_; (try clear hb); (try clear hb2); (try clear hk); (try clear hi); (try clear ho0)) | (go_at_call 15; (with_reducible refine (clause_Parse.calls k3 x11_3 t307 t308 _ A58.out).mono ?_); rintro e w81 ⟨v309, rfl, ho0, hb⟩; have n0_ := Aside0.mk (Kd.S_elder' (by (with_reducible repeat (first | apply Kd.S_alloc | apply Kd.S_drewN | apply Kd.S_drew)); exact HO306.out) (Kd.S_base ho0) hb); have n1_ := Aside0.mk (Kd.S_lower (Kd.S_new' ho0 (Kd.S_lt (by (with_reducible repeat (first | apply Kd.S_alloc | apply Kd.S_drewN | apply Kd.S_drew)); exact HO306.out))) (below_size (by repeat (first | (with_reducible first | exact HB.out | apply below_alloc | apply pw_below_drewN | apply below_drew1) | exact HB.out)))); have n2_ := Aside0.mk (below_step (by repeat (first | (with_reducible first | exact HB.out | apply below_alloc | apply pw_below_drewN | apply below_drew1) | exact HB.out)) hb); clear HO306; clear HB; have HO306 := n0_; have HO310 := n1_; have HB := n2_; clear n0_ n1_ n2_; (try clear hb); (try clear hb2); (try clear hk); (try clear hi); (try clear ho0))))
                                    go_ret
                                    exact ⟨by first | rfl | (simp [errW_none, errW_some] <;> rfl) | (simp only [← hji27]; first | rfl | (simp [errW_none, errW_some] <;> rfl)) | (simp [*, errW_none, errW_some] <;> rfl), by repeat (first | (with_reducible first | exact HB.out | apply below_alloc | apply pw_below_drewN | apply below_drew1) | exact HB.out)⟩
                          · rw [if_neg c36] at H
                            exact absurd H (by simp)
                        · rw [if_neg c35] at H
                          exact absurd H (by simp)
                      · rw [if_neg c31] at H
                        exact absurd H (by simp)
                    · rw [if_neg c30] at H
                      exact absurd H (by simp)
                  · rw [if_neg c29] at H
                    exact absurd H (by simp)
                · rw [if_neg c28] at H
                  exact absurd H (by simp)
  · replace c6 := Bool.eq_false_iff.mpr c6
    subst c6
    have H1 : (some false) = some r := by rw [if_neg (show ¬ (false = true) by decide)] at H; exact H
    clear H
    have H := H1
    clear H1
    obtain rfl := Option.some.inj H
    go_enter Tryd.func7, Tryd.ntmps7
    go_wp2_with (first | (go_at_call 14; (with_reducible refine (gaolerlaw02_awake.calls k  false _ A5.out).mono ?_); rintro e w82 ⟨rfl, hb⟩; have n0_ := Aside0.mk (below_step (by repeat (first | (with_reducible first | exact HB.out | apply below_alloc | apply pw_below_drewN | apply below_drew1) | exact HB.out)) hb); clear HB; have HB := n0_; clear n0_; (try clear hb); (try clear hb2); (try clear hk); (try clear hi)))
    repeat (go_quiet (first | (go_at_call 14; (with_reducible refine (gaolerlaw02_awake.calls k  false _ A5.out).mono ?_); rintro e w82 ⟨rfl, hb⟩; have n0_ := Aside0.mk (below_step (by repeat (first | (with_reducible first | exact HB.out | apply below_alloc | apply pw_below_drewN | apply below_drew1) | exact HB.out)) hb); clear HB; have HB := n0_; clear n0_; (try clear hb); (try clear hb2); (try clear hk); (try clear hi))); try go_wp2_with (first | (go_at_call 14; (with_reducible refine (gaolerlaw02_awake.calls k  false _ A5.out).mono ?_); rintro e w82 ⟨rfl, hb⟩; have n0_ := Aside0.mk (below_step (by repeat (first | (with_reducible first | exact HB.out | apply below_alloc | apply pw_below_drewN | apply below_drew1) | exact HB.out)) hb); clear HB; have HB := n0_; clear n0_; (try clear hb); (try clear hb2); (try clear hk); (try clear hi))))
    go_ret
    exact ⟨by first | rfl | (simp [errW_none, errW_some] <;> rfl) | (simp [*, errW_none, errW_some] <;> rfl), by repeat (first | (with_reducible first | exact HB.out | apply below_alloc | apply pw_below_drewN | apply below_drew1) | exact HB.out)⟩
/-- THE ONE PURE STATEMENT of gaolerlaw02_ClauseTurned: yours. -/
def gaolerlaw02_ClauseTurned.Pure : Prop := ∀ (l0 : List Int) (l1 : List Int) (a2 : Int) (a3 : Int), l0.length ≤ maxLen → l0.length * 1 ≤ 140737488351232 → (∀ x ∈ l0, (Lit.int .u8 x).wf = true) → l1.length ≤ maxLen → l1.length * 1 ≤ 140737488351232 → (∀ x ∈ l1, (Lit.int .u8 x).wf = true) → (Lit.int .u8 a2).wf = true → (Lit.int .u8 a3).wf = true → ∃ k, gaolerlaw02_ClauseTurned.f k l0 l1 a2 a3 = some true
theorem gaolerlaw02_ClauseTurned.walk (P : gaolerlaw02_ClauseTurned.Pure) (a0 : Option Addr) (len0 cap0 : Nat) (z0 : List Int) (a1 : Option Addr) (len1 cap1 : Nat) (z1 : List Int) (a2 : Int) (a3 : Int) (w : World) (w0 : (a0 = none ∧ len0 = 0 ∧ cap0 = 0 ∧ z0 = []) ∨ ∃ x, a0 = some x ∧ len0 ≤ cap0 ∧ cap0 ≤ maxLen ∧ z0.length = cap0 ∧ (∀ i, i < z0.length → w.cell? (x.add i) = some (.int .u8 (z0.getD i 0))) ∧ ∀ n ∈ z0, (Lit.int .u8 n).wf = true) (y0 : len0 * 1 ≤ 140737488351232) (w1 : (a1 = none ∧ len1 = 0 ∧ cap1 = 0 ∧ z1 = []) ∨ ∃ x, a1 = some x ∧ len1 ≤ cap1 ∧ cap1 ≤ maxLen ∧ z1.length = cap1 ∧ (∀ i, i < z1.length → w.cell? (x.add i) = some (.int .u8 (z1.getD i 0))) ∧ ∀ n ∈ z1, (Lit.int .u8 n).wf = true) (y1 : len1 * 1 ≤ 140737488351232) (w2 : (Lit.int .u8 a2).wf = true) (w3 : (Lit.int .u8 a3).wf = true) :
    Calls Tryd.prog 7 #[.slice a0 len0 cap0, .slice a1 len1 cap1, .int .u8 a2, .int .u8 a3] w fun e w' => e = .returned (.bool true) ∧ Below w.heap.size w w' := by
  obtain ⟨l0, rfl, hr0, hm0, hw0, hc0⟩ := ReadsInt.ofRowC w0
  obtain ⟨l1, rfl, hr1, hm1, hw1, hc1⟩ := ReadsInt.ofRowC w1
  obtain ⟨k, h⟩ := P l0 l1 a2 a3 hm0 y0 hw0 hm1 y1 hw1 w2 w3
  refine (gaolerlaw02_ClauseTurned.calls k _ _ l0 _ _ l1 a2 a3 true w (Kd.C_of_reads (d := (0 : Int)) (h1 := fun _ => rfl) hr0) hc0 (Kd.C_of_reads (d := (0 : Int)) (h1 := fun _ => rfl) hr1) hc1 h).mono ?_
  rintro e w' ⟨rfl, hd⟩
  exact ⟨rfl, hd⟩
/-! ### modes_ReadOctal: function 43 -/
def isOct (c : UInt8) : Bool := 48 ≤ c.toNat && c.toNat ≤ 55
def octV : List UInt8 → Int → Int
  | [], n => n
  | c :: t, n => octV t (n * 8 + ((c.toNat : Int) - 48))
def roS (s : ByteArray) : Int × Int := if s.size = 0 ∨ 8 < s.size then (0, 22) else if s.data.toList.all isOct then (if 4095 < octV s.data.toList 0 then (0, 22) else (octV s.data.toList 0, 0)) else (0, 22)
def modes_ReadOctal.f (a0 : ByteArray) : Option (Int × Int) := some (roS a0)
end Go.Proofs.YtlohbepfecahdaaDoor.S
