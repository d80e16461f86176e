-- Written by wip/tools/myprint.py, a session's own driver of the kit's printer.
import Derived.Test.YtkibigbjgohdkaaDoorS0
import Derived.Test.YtkibigbjgohdkaaDoorS1
import Derived.Test.YtkibigbjgohdkaaDoorS2
import Derived.Test.YtkibigbjgohdkaaDoorS3
namespace Go.Proofs.YtkibigbjgohdkaaDoor.S
open Go.RowKit Go.Proofs.YtkibigbjgohdkaaDoorW.PrintWords Go.Proofs.YtkibigbjgohdkaaDoorW.PrintLast Go.Proofs.YtkibigbjgohdkaaDoorW.PrintMore
attribute [local go_sem] max2_int min2_int max_two min_two max_three min_three max_four min_four   -- for this text's walks alone
set_option linter.unusedVariables false
set_option linter.unusedSimpArgs false

/-! ### gaolerlaw07_PathsSlashes: function 6 -/
mutual
def gaolerlaw07_PathsSlashes.j0 : Nat → List ByteArray → List Int → Bool → Bool → Option (Bool)
  | 0, _, _, _, _ => none
  | k + 1, x0, x1, x2, x32 => if x32 = true then (some true) else (if x2 = true then (gaolerlaw07_PathsSlashes.j1 k x0 x1 x2 (⟨#[47]⟩ : ByteArray) (⟨#[47, 47]⟩ : ByteArray)) else (gaolerlaw07_PathsSlashes.j1 k x0 x1 x2 (⟨#[]⟩ : ByteArray) (⟨#[]⟩ : ByteArray)))
def gaolerlaw07_PathsSlashes.j1 : Nat → List ByteArray → List Int → Bool → ByteArray → ByteArray → Option (Bool)
  | 0, _, _, _, _, _ => none
  | k + 1, x0, x1, x2, x8, x9 => gaolerlaw07_PathsSlashes.l0 k x0 x1 x2 x8 x9 0
def gaolerlaw07_PathsSlashes.l0 : Nat → List ByteArray → List Int → Bool → ByteArray → ByteArray → Int → Option (Bool)
  | 0, _, _, _, _, _, _ => none
  | k + 1, x0, x1, x2, x8, x9, x10 => if x10 < (x0.length : Int) then (if 0 ≤ x10 then ((paths_Name.f (rdOf ByteArray.empty x0 x10)).bind fun t220 => (if t220 = true then (if x10 > 0 then (if x8.size + 1 ≤ 9223372036854775807 then (gaolerlaw07_PathsSlashes.l1 k x0 x1 x2 (x8 ++ (⟨#[47]⟩ : ByteArray)) x9 x10 0) else (none)) else (if x8.size + (rdOf ByteArray.empty x0 x10).size ≤ 9223372036854775807 then (if x9.size + (rdOf ByteArray.empty x0 x10).size ≤ 9223372036854775807 then (gaolerlaw07_PathsSlashes.l0 k x0 x1 x2 (x8 ++ (rdOf ByteArray.empty x0 x10)) (x9 ++ (rdOf ByteArray.empty x0 x10)) (wrap64 (x10 + 1))) else (none)) else (none))) else (some true))) else (none)) else ((paths_Split.f x8).bind fun bt226 => ((paths_Split.f x9).bind fun bt230 => ((paths_Steps.f k x9).bind fun t234 => (if (t234.length : Int) = (x0.length : Int) then (if (t234.length : Int) > 0 then (if 0 ≤ (wrap64 ((t234.length : Int) - 1)) then (if (wrap64 ((t234.length : Int) - 1)) < (t234.length : Int) then (gaolerlaw07_PathsSlashes.j4 k x0 x2 x8 x9 bt226.1 bt226.2 bt230.1 bt230.2 ((rdOf ByteArray.empty t234 (wrap64 ((t234.length : Int) - 1))).toList != x9.toList)) else (none)) else (none)) else (gaolerlaw07_PathsSlashes.j4 k x0 x2 x8 x9 bt226.1 bt226.2 bt230.1 bt230.2 false)) else (gaolerlaw07_PathsSlashes.j4 k x0 x2 x8 x9 bt226.1 bt226.2 bt230.1 bt230.2 true)))))
def gaolerlaw07_PathsSlashes.l1 : Nat → List ByteArray → List Int → Bool → ByteArray → ByteArray → Int → Int → Option (Bool)
  | 0, _, _, _, _, _, _, _ => none
  | k + 1, x0, x1, x2, x8, x9, x10, x11 => if (x1.length : Int) = 0 then (none) else (if 0 ≤ (Int.tmod x10 (x1.length : Int)) then (if (Int.tmod x10 (x1.length : Int)) < (x1.length : Int) then (if x11 ≤ (wrap64 (Int.tmod (rd x1 (Int.tmod x10 (x1.length : Int))) 3)) then (if x9.size + 1 ≤ 9223372036854775807 then (gaolerlaw07_PathsSlashes.l1 k x0 x1 x2 x8 (x9 ++ (⟨#[47]⟩ : ByteArray)) x10 (wrap64 (x11 + 1))) else (none)) else (if 0 ≤ x10 then (if x10 < (x0.length : Int) then (if x8.size + (rdOf ByteArray.empty x0 x10).size ≤ 9223372036854775807 then (if x9.size + (rdOf ByteArray.empty x0 x10).size ≤ 9223372036854775807 then (gaolerlaw07_PathsSlashes.l0 k x0 x1 x2 (x8 ++ (rdOf ByteArray.empty x0 x10)) (x9 ++ (rdOf ByteArray.empty x0 x10)) (wrap64 (x10 + 1))) else (none)) else (none)) else (none)) else (none))) else (none)) else (none))
def gaolerlaw07_PathsSlashes.j4 : Nat → List ByteArray → Bool → ByteArray → ByteArray → Bool → List ByteArray → Bool → List ByteArray → Bool → Option (Bool)
  | 0, _, _, _, _, _, _, _, _, _ => none
  | k + 1, x0, x2, x8, x9, x12, x13, x14, x15, x108 => if x108 = true then (some false) else (if (x12 == x14) = true then (if (x12 == x2) = true then ((gaolerref07_Same.f k x13 x0).bind fun t238 => (if t238 = true then ((gaolerref07_Same.f k x15 x0).bind fun t239 => (if t239 = true then ((paths_Base.f x8).bind fun t240 => ((paths_Base.f x9).bind fun t241 => (some (t240.toList == t241.toList)))) else (some false))) else (some false))) else (some false)) else (some false))
end
def gaolerlaw07_PathsSlashes.f (k : Nat) (l0 : List ByteArray) (l1 : List Int) (a2 : Bool) : Option (Bool) := (gaolerlaw07_awake.f k).bind fun t218 => (if t218 = true then (if (l0.length : Int) > 8 then (gaolerlaw07_PathsSlashes.j0 k l0 l1 a2 true) else (if (l1.length : Int) = 0 then (gaolerlaw07_PathsSlashes.j0 k l0 l1 a2 true) else (gaolerlaw07_PathsSlashes.j0 k l0 l1 a2 (decide ((l1.length : Int) > 20))))) else (some false))
theorem gaolerlaw07_PathsSlashes.mono_l : ∀ k, (∀ y0 y1 y2 y3, LeO (gaolerlaw07_PathsSlashes.j0 k y0 y1 y2 y3) (gaolerlaw07_PathsSlashes.j0 (k + 1) y0 y1 y2 y3)) ∧ (∀ y0 y1 y2 y3 y4, LeO (gaolerlaw07_PathsSlashes.j1 k y0 y1 y2 y3 y4) (gaolerlaw07_PathsSlashes.j1 (k + 1) y0 y1 y2 y3 y4)) ∧ (∀ y0 y1 y2 y3 y4 y5, LeO (gaolerlaw07_PathsSlashes.l0 k y0 y1 y2 y3 y4 y5) (gaolerlaw07_PathsSlashes.l0 (k + 1) y0 y1 y2 y3 y4 y5)) ∧ (∀ y0 y1 y2 y3 y4 y5 y6, LeO (gaolerlaw07_PathsSlashes.l1 k y0 y1 y2 y3 y4 y5 y6) (gaolerlaw07_PathsSlashes.l1 (k + 1) y0 y1 y2 y3 y4 y5 y6)) ∧ (∀ y0 y1 y2 y3 y4 y5 y6 y7 y8, LeO (gaolerlaw07_PathsSlashes.j4 k y0 y1 y2 y3 y4 y5 y6 y7 y8) (gaolerlaw07_PathsSlashes.j4 (k + 1) y0 y1 y2 y3 y4 y5 y6 y7 y8))
  | 0 => ⟨fun _ _ _ _ r h => by simp [gaolerlaw07_PathsSlashes.j0] at h, fun _ _ _ _ _ r h => by simp [gaolerlaw07_PathsSlashes.j1] at h, fun _ _ _ _ _ _ r h => by simp [gaolerlaw07_PathsSlashes.l0] at h, fun _ _ _ _ _ _ _ r h => by simp [gaolerlaw07_PathsSlashes.l1] at h, fun _ _ _ _ _ _ _ _ _ r h => by simp [gaolerlaw07_PathsSlashes.j4] at h⟩
  | k + 1 => by
    obtain ⟨ih0, ih1, ih2, ih3, ih4⟩ := gaolerlaw07_PathsSlashes.mono_l k
    refine ⟨?_, ?_, ?_, ?_, ?_⟩
    · intro y0 y1 y2 y3
      unfold gaolerlaw07_PathsSlashes.j0
      repeat' first
      | (with_reducible exact ih0 _ _ _ _)
      | (with_reducible exact ih1 _ _ _ _ _)
      | (with_reducible exact ih2 _ _ _ _ _ _)
      | (with_reducible exact ih3 _ _ _ _ _ _ _)
      | (with_reducible exact ih4 _ _ _ _ _ _ _ _ _)
      | (with_reducible exact gaolerlaw07_awake.mono _)
      | (with_reducible exact gaolerref07_Same.mono _ _ _)
      | (with_reducible exact paths_Steps.mono _ _)
      | (with_reducible exact LeO.refl _)
      | (with_reducible exact LeO.none _)
      | (with_reducible refine LeO.ite ?_ ?_)
      | (with_reducible refine LeO.bind ?_ (fun _ => ?_))
      | exact ih0 _ _ _ _
      | exact ih1 _ _ _ _ _
      | exact ih2 _ _ _ _ _ _
      | exact ih3 _ _ _ _ _ _ _
      | exact ih4 _ _ _ _ _ _ _ _ _
      | exact gaolerlaw07_awake.mono _
      | exact gaolerref07_Same.mono _ _ _
      | exact paths_Steps.mono _ _
      | exact LeO.none _
      | refine LeO.ite ?_ ?_
      | refine LeO.bind ?_ (fun _ => ?_)
    · intro y0 y1 y2 y3 y4
      unfold gaolerlaw07_PathsSlashes.j1
      repeat' first
      | (with_reducible exact ih0 _ _ _ _)
      | (with_reducible exact ih1 _ _ _ _ _)
      | (with_reducible exact ih2 _ _ _ _ _ _)
      | (with_reducible exact ih3 _ _ _ _ _ _ _)
      | (with_reducible exact ih4 _ _ _ _ _ _ _ _ _)
      | (with_reducible exact gaolerlaw07_awake.mono _)
      | (with_reducible exact gaolerref07_Same.mono _ _ _)
      | (with_reducible exact paths_Steps.mono _ _)
      | (with_reducible exact LeO.refl _)
      | (with_reducible exact LeO.none _)
      | (with_reducible refine LeO.ite ?_ ?_)
      | (with_reducible refine LeO.bind ?_ (fun _ => ?_))
      | exact ih0 _ _ _ _
      | exact ih1 _ _ _ _ _
      | exact ih2 _ _ _ _ _ _
      | exact ih3 _ _ _ _ _ _ _
      | exact ih4 _ _ _ _ _ _ _ _ _
      | exact gaolerlaw07_awake.mono _
      | exact gaolerref07_Same.mono _ _ _
      | exact paths_Steps.mono _ _
      | exact LeO.none _
      | refine LeO.ite ?_ ?_
      | refine LeO.bind ?_ (fun _ => ?_)
    · intro y0 y1 y2 y3 y4 y5
      unfold gaolerlaw07_PathsSlashes.l0
      repeat' first
      | (with_reducible exact ih0 _ _ _ _)
      | (with_reducible exact ih1 _ _ _ _ _)
      | (with_reducible exact ih2 _ _ _ _ _ _)
      | (with_reducible exact ih3 _ _ _ _ _ _ _)
      | (with_reducible exact ih4 _ _ _ _ _ _ _ _ _)
      | (with_reducible exact gaolerlaw07_awake.mono _)
      | (with_reducible exact gaolerref07_Same.mono _ _ _)
      | (with_reducible exact paths_Steps.mono _ _)
      | (with_reducible exact LeO.refl _)
      | (with_reducible exact LeO.none _)
      | (with_reducible refine LeO.ite ?_ ?_)
      | (with_reducible refine LeO.bind ?_ (fun _ => ?_))
      | exact ih0 _ _ _ _
      | exact ih1 _ _ _ _ _
      | exact ih2 _ _ _ _ _ _
      | exact ih3 _ _ _ _ _ _ _
      | exact ih4 _ _ _ _ _ _ _ _ _
      | exact gaolerlaw07_awake.mono _
      | exact gaolerref07_Same.mono _ _ _
      | exact paths_Steps.mono _ _
      | exact LeO.none _
      | refine LeO.ite ?_ ?_
      | refine LeO.bind ?_ (fun _ => ?_)
    · intro y0 y1 y2 y3 y4 y5 y6
      unfold gaolerlaw07_PathsSlashes.l1
      repeat' first
      | (with_reducible exact ih0 _ _ _ _)
      | (with_reducible exact ih1 _ _ _ _ _)
      | (with_reducible exact ih2 _ _ _ _ _ _)
      | (with_reducible exact ih3 _ _ _ _ _ _ _)
      | (with_reducible exact ih4 _ _ _ _ _ _ _ _ _)
      | (with_reducible exact gaolerlaw07_awake.mono _)
      | (with_reducible exact gaolerref07_Same.mono _ _ _)
      | (with_reducible exact paths_Steps.mono _ _)
      | (with_reducible exact LeO.refl _)
      | (with_reducible exact LeO.none _)
      | (with_reducible refine LeO.ite ?_ ?_)
      | (with_reducible refine LeO.bind ?_ (fun _ => ?_))
      | exact ih0 _ _ _ _
      | exact ih1 _ _ _ _ _
      | exact ih2 _ _ _ _ _ _
      | exact ih3 _ _ _ _ _ _ _
      | exact ih4 _ _ _ _ _ _ _ _ _
      | exact gaolerlaw07_awake.mono _
      | exact gaolerref07_Same.mono _ _ _
      | exact paths_Steps.mono _ _
      | exact LeO.none _
      | refine LeO.ite ?_ ?_
      | refine LeO.bind ?_ (fun _ => ?_)
    · intro y0 y1 y2 y3 y4 y5 y6 y7 y8
      unfold gaolerlaw07_PathsSlashes.j4
      repeat' first
      | (with_reducible exact ih0 _ _ _ _)
      | (with_reducible exact ih1 _ _ _ _ _)
      | (with_reducible exact ih2 _ _ _ _ _ _)
      | (with_reducible exact ih3 _ _ _ _ _ _ _)
      | (with_reducible exact ih4 _ _ _ _ _ _ _ _ _)
      | (with_reducible exact gaolerlaw07_awake.mono _)
      | (with_reducible exact gaolerref07_Same.mono _ _ _)
      | (with_reducible exact paths_Steps.mono _ _)
      | (with_reducible exact LeO.refl _)
      | (with_reducible exact LeO.none _)
      | (with_reducible refine LeO.ite ?_ ?_)
      | (with_reducible refine LeO.bind ?_ (fun _ => ?_))
      | exact ih0 _ _ _ _
      | exact ih1 _ _ _ _ _
      | exact ih2 _ _ _ _ _ _
      | exact ih3 _ _ _ _ _ _ _
      | exact ih4 _ _ _ _ _ _ _ _ _
      | exact gaolerlaw07_awake.mono _
      | exact gaolerref07_Same.mono _ _ _
      | exact paths_Steps.mono _ _
      | exact LeO.none _
      | refine LeO.ite ?_ ?_
      | refine LeO.bind ?_ (fun _ => ?_)
theorem gaolerlaw07_PathsSlashes.mono : ∀ a0 a1 a2 k, LeO (gaolerlaw07_PathsSlashes.f k a0 a1 a2) (gaolerlaw07_PathsSlashes.f (k + 1) a0 a1 a2) := by
  intro a0 a1 a2 k
  obtain ⟨ih0, ih1, ih2, ih3, ih4⟩ := gaolerlaw07_PathsSlashes.mono_l k
  unfold gaolerlaw07_PathsSlashes.f
  repeat' first
      | (with_reducible exact ih0 _ _ _ _)
      | (with_reducible exact ih1 _ _ _ _ _)
      | (with_reducible exact ih2 _ _ _ _ _ _)
      | (with_reducible exact ih3 _ _ _ _ _ _ _)
      | (with_reducible exact ih4 _ _ _ _ _ _ _ _ _)
      | (with_reducible exact gaolerlaw07_awake.mono _)
      | (with_reducible exact gaolerref07_Same.mono _ _ _)
      | (with_reducible exact paths_Steps.mono _ _)
      | (with_reducible exact LeO.refl _)
      | (with_reducible exact LeO.none _)
      | (with_reducible refine LeO.ite ?_ ?_)
      | (with_reducible refine LeO.bind ?_ (fun _ => ?_))
      | exact ih0 _ _ _ _
      | exact ih1 _ _ _ _ _
      | exact ih2 _ _ _ _ _ _
      | exact ih3 _ _ _ _ _ _ _
      | exact ih4 _ _ _ _ _ _ _ _ _
      | exact gaolerlaw07_awake.mono _
      | exact gaolerref07_Same.mono _ _ _
      | exact paths_Steps.mono _ _
      | exact LeO.none _
      | refine LeO.ite ?_ ?_
      | refine LeO.bind ?_ (fun _ => ?_)
set_option maxHeartbeats 8000000 in
set_option maxRecDepth 100000 in
theorem gaolerlaw07_PathsSlashes.calls (k : Nat) (A0 : Option Addr) (c0 : Nat) (l0 : List ByteArray) (A1 : Option Addr) (c1 : Nat) (l1 : List Int) (a2 : Bool) (r : Bool) (w : World) (hr0 : Kd.C Kd.string w A0 l0.length l0) (hc0 : l0.length ≤ c0) (hr1 : Kd.C (Kd.int .u8) w A1 l1.length l1) (hc1 : l1.length ≤ c1) (h : gaolerlaw07_PathsSlashes.f k l0 l1 a2 = some r) :
    Calls Tryd.prog 6 #[.slice A0 l0.length c0, .slice A1 l1.length c1, .bool a2] w fun e w' => e = .returned (.bool r) ∧ Below w.heap.size w w' := by
  have HR0 := Aside0.mk hr0
  have HC0 := Aside0.mk hc0
  clear hr0 hc0
  have HR1 := Aside0.mk hr1
  have HC1 := Aside0.mk hc1
  clear hr1 hc1
  have HB := Aside0.mk (Below.refl w.heap.size w)
  have H : ((gaolerlaw07_awake.f k).bind fun t218 => (if t218 = true then (if (l0.length : Int) > 8 then (gaolerlaw07_PathsSlashes.j0 k l0 l1 a2 true) else (if (l1.length : Int) = 0 then (gaolerlaw07_PathsSlashes.j0 k l0 l1 a2 true) else (gaolerlaw07_PathsSlashes.j0 k l0 l1 a2 (decide ((l1.length : Int) > 20))))) else (some false))) = some r := h
  clear h
  replace H := Option.bind_eq_some_iff.mp H
  obtain ⟨t218, A40, H⟩ := H
  replace H : (if t218 = true then (if (l0.length : Int) > 8 then (gaolerlaw07_PathsSlashes.j0 k l0 l1 a2 true) else (if (l1.length : Int) = 0 then (gaolerlaw07_PathsSlashes.j0 k l0 l1 a2 true) else (gaolerlaw07_PathsSlashes.j0 k l0 l1 a2 (decide ((l1.length : Int) > 20))))) else (some false)) = some r := H
  have A4 := Aside0.mk A40
  clear A40
  by_cases c5 : t218 = true
  · subst c5
    have H1 : (if (l0.length : Int) > 8 then (gaolerlaw07_PathsSlashes.j0 k l0 l1 a2 true) else (if (l1.length : Int) = 0 then (gaolerlaw07_PathsSlashes.j0 k l0 l1 a2 true) else (gaolerlaw07_PathsSlashes.j0 k l0 l1 a2 (decide ((l1.length : Int) > 20))))) = some r := by rw [if_pos rfl] at H; exact H
    clear H
    have H := H1
    clear H1
    have HC6 := Aside0.mk H
    clear H
    go_enter Tryd.func6, Tryd.ntmps6
    go_upto_region 4 with (first | ((with_reducible refine gate_callee (f := 8) rfl ?_); refine goesL_ (some 17) rfl rfl Tryd.func8 (by kernel_rfl) rfl #[] rfl (by (try simp only [List.map_toArray, List.map_cons, List.map_nil]); first | done | rfl | (simp only [List.length_drop, List.length_take]; rfl)) ?_; (with_reducible refine (gaolerlaw07_awake.calls k  true _ A4.out).mono ?_); rintro e w7 ⟨rfl, hb⟩; refine ⟨_, rfl, ?_⟩; have n0_ := Aside0.mk (below_step (by repeat (first | (with_reducible first | exact HB.out | apply below_alloc | apply pw_below_drewN | apply below_drew1) | exact HB.out)) hb); clear HB; have HB := n0_; clear n0_; (try clear hb); (try clear hb2); (try clear hk); (try clear hi)))
    (try simp only [Act.put, List.setIfInBounds_toArray, List.set_cons_zero, List.set_cons_succ])
    go_cut [32] (fun v32 wc => ∃ (kq : Nat) (x32_5 : Bool), v32 = .bool x32_5 ∧ Aside0 (gaolerlaw07_PathsSlashes.j0 kq l0 l1 a2 x32_5 = some r) ∧ Aside0 (kq ≤ k) ∧ Aside0 (Below w.heap.size w wc))
    case first =>
      have H := HC6.out
      clear HC6
      by_cases c8 : (l0.length : Int) > 8
      · rw [if_pos c8] at H
        have c8b0 : decide (8 < (l0.length : Int)) = true := decide_eq_true c8
        have c8b1 : decide (8 < l0.length) = true := decide_eq_true (by omega)
        clear c8
        (first | rw [c8b0] | (simp only [i64_w, i32_w]; rw [c8b0]) | skip)
        have H' := Aside0.mk H
        clear H
        go_wp2
        go_meet
        case rel => exact ⟨_, (true), (by first | rfl | (simp; done) | (simp [*]; done)), H', ⟨by first | omega | exact Nat.le_refl _⟩, ⟨by repeat (first | (with_reducible first | exact HB.out | apply below_alloc | apply pw_below_drewN | apply below_drew1) | exact HB.out)⟩⟩
      · rw [if_neg c8] at H
        have c8b0 : decide (8 < (l0.length : Int)) = false := decide_eq_false c8
        have c8b1 : decide (8 < l0.length) = false := decide_eq_false (by omega)
        clear c8
        (first | rw [c8b0] | (simp only [i64_w, i32_w]; rw [c8b0]) | skip)
        by_cases c9 : (l1.length : Int) = 0
        · rw [if_pos c9] at H
          have c9b0 : ((l1.length : Int) == 0) = true := beq_iff_eq.mpr c9
          have c9b1 : ((l1.length : Int) != 0) = false := bne_eq_false_iff_eq.mpr c9
          clear c9
          have H' := Aside0.mk H
          clear H
          go_wp2
          go_meet
          case rel => exact ⟨_, (true), (by first | rfl | (simp; done) | (simp [*]; done)), H', ⟨by first | omega | exact Nat.le_refl _⟩, ⟨by repeat (first | (with_reducible first | exact HB.out | apply below_alloc | apply pw_below_drewN | apply below_drew1) | exact HB.out)⟩⟩
        · rw [if_neg c9] at H
          have c9b0 : ((l1.length : Int) == 0) = false := beq_eq_false_iff_ne.mpr c9
          have c9b1 : ((l1.length : Int) != 0) = true := bne_iff_ne.mpr c9
          have c9b2 : ¬ (l1 = []) := fun h_ => c9 (by rw [h_]; rfl)
          have H' := Aside0.mk H
          clear H
          go_wp2
          go_meet
          case rel => exact ⟨_, (decide ((l1.length : Int) > 20)), (by first | rfl | (simp; done) | (simp [*]; done)), H', ⟨by first | omega | exact Nat.le_refl _⟩, ⟨by repeat (first | (with_reducible first | exact HB.out | apply below_alloc | apply pw_below_drewN | apply below_drew1) | exact HB.out)⟩⟩
    case rest =>
      clear HC6
      try clear c1
      try clear p2
      try clear c5
      try clear c6
      try clear c8
      try clear c8b0
      try clear c8b1
      try clear c9
      try clear c9b0
      try clear c9b1
      try clear c9b2
      obtain ⟨kq, x32_5, rfl, HA, HJ5, HB⟩ := hcut
      cases kq with
      | zero => exact absurd HA.out (by simp [gaolerlaw07_PathsSlashes.j0])
      | succ kj5 =>
        have H := HA.out
        clear HA
        simp only [gaolerlaw07_PathsSlashes.j0] at H
        by_cases c10 : x32_5 = true
        · subst c10
          have H1 : (some true) = some r := by rw [if_pos rfl] at H; exact H
          clear H
          have H := H1
          clear H1
          obtain rfl := Option.some.inj H
          go_wp2
          go_ret
          exact ⟨by first | rfl | (simp [errW_none, errW_some] <;> rfl) | (simp [*, errW_none, errW_some] <;> rfl), by repeat (first | (with_reducible first | exact HB.out | apply below_alloc | apply pw_below_drewN | apply below_drew1) | exact HB.out)⟩
        · replace c10 := Bool.eq_false_iff.mpr c10
          subst c10
          have H1 : (if a2 = true then (gaolerlaw07_PathsSlashes.j1 kj5 l0 l1 a2 (⟨#[47]⟩ : ByteArray) (⟨#[47, 47]⟩ : ByteArray)) else (gaolerlaw07_PathsSlashes.j1 kj5 l0 l1 a2 (⟨#[]⟩ : ByteArray) (⟨#[]⟩ : ByteArray))) = some r := by rw [if_neg (show ¬ (false = true) by decide)] at H; exact H
          clear H
          have H := H1
          clear H1
          have HC11 := Aside0.mk H
          clear H
          go_upto_if 33 with (fail)
          go_cut [8, 9] (fun v8 v9 wc => ∃ (kq : Nat) (x8_10 : ByteArray) (x9_10 : ByteArray), v8 = .string x8_10 ∧ v9 = .string x9_10 ∧ Aside0 (gaolerlaw07_PathsSlashes.j1 kq l0 l1 a2 x8_10 x9_10 = some r) ∧ Aside0 (kq ≤ kj5) ∧ Aside0 (Below w.heap.size w wc))
          case first =>
            have H := HC11.out
            clear HC11
            by_cases c12 : a2 = true
            · subst c12
              have H1 : (gaolerlaw07_PathsSlashes.j1 kj5 l0 l1 true (⟨#[47]⟩ : ByteArray) (⟨#[47, 47]⟩ : ByteArray)) = some r := by rw [if_pos rfl] at H; exact H
              clear H
              have H := H1
              clear H1
              have H' := Aside0.mk H
              clear H
              go_wp2
              go_meet
              case rel => exact ⟨_, ((⟨#[47]⟩ : ByteArray)), ((⟨#[47, 47]⟩ : ByteArray)), (by first | rfl | (simp; done) | (simp [*]; done)), (by first | rfl | (simp; done) | (simp [*]; done)), H', ⟨by have := HJ5.out; first | omega | exact Nat.le_refl _⟩, ⟨by repeat (first | (with_reducible first | exact HB.out | apply below_alloc | apply pw_below_drewN | apply below_drew1) | exact HB.out)⟩⟩
            · replace c12 := Bool.eq_false_iff.mpr c12
              subst c12
              have H1 : (gaolerlaw07_PathsSlashes.j1 kj5 l0 l1 false (⟨#[]⟩ : ByteArray) (⟨#[]⟩ : ByteArray)) = some r := by rw [if_neg (show ¬ (false = true) by decide)] at H; exact H
              clear H
              have H := H1
              clear H1
              have H' := Aside0.mk H
              clear H
              go_wp2
              go_meet
              case rel => exact ⟨_, ((⟨#[]⟩ : ByteArray)), ((⟨#[]⟩ : ByteArray)), (by first | rfl | (simp; done) | (simp [*]; done)), (by first | rfl | (simp; done) | (simp [*]; done)), H', ⟨by have := HJ5.out; first | omega | exact Nat.le_refl _⟩, ⟨by repeat (first | (with_reducible first | exact HB.out | apply below_alloc | apply pw_below_drewN | apply below_drew1) | exact HB.out)⟩⟩
          case rest =>
            clear HC11
            try clear c1
            try clear p2
            try clear c5
            try clear c6
            try clear c8
            try clear c8b0
            try clear c8b1
            try clear c9
            try clear c9b0
            try clear c9b1
            try clear c9b2
            try clear c10
            try clear c12
            try clear p2
            obtain ⟨kq, x8_10, x9_10, rfl, rfl, HA, HJ10, HB⟩ := hcut
            cases kq with
            | zero => exact absurd HA.out (by simp [gaolerlaw07_PathsSlashes.j1])
            | succ kj10 =>
              have H := HA.out
              clear HA
              simp only [gaolerlaw07_PathsSlashes.j1] at H
              have H' := Aside0.mk H
              clear H
              go_wp2
              go_loopg [8, 9, 10] kj10 (fun kq v8 v9 v10 w' => ∃ (x8_3 : ByteArray) (x9_3 : ByteArray) (x10_3 : Int), v8 = .string x8_3 ∧ v9 = .string x9_3 ∧ v10 = .int .i64 x10_3 ∧ Aside0 (gaolerlaw07_PathsSlashes.l0 kq l0 l1 a2 x8_3 x9_3 x10_3 = some r) ∧ Aside0 (kq ≤ kj10) ∧ Aside0 (Below w.heap.size w w'))
              case atStart => exact ⟨(x8_10), (x9_10), (0), (by first | rfl | (simp; done) | (simp [*]; done)), (by first | rfl | (simp; done) | (simp [*]; done)), (by first | rfl | (simp; done) | (simp [*]; done)), H', ⟨Nat.le_refl _⟩, ⟨by repeat (first | (with_reducible first | exact HB.out | apply below_alloc | apply pw_below_drewN | apply below_drew1) | exact HB.out)⟩⟩
              case round =>
                clear H'
                try clear c1
                try clear p2
                try clear c5
                try clear c6
                try clear c8
                try clear c8b0
                try clear c8b1
                try clear c9
                try clear c9b0
                try clear c9b1
                try clear c9b2
                try clear c10
                try clear c12
                try clear p2
                obtain ⟨x8_3, x9_3, x10_3, rfl, rfl, rfl, HA, HK3, HB⟩ := hrel
                cases gk with
                | zero => exact absurd HA.out (by simp [gaolerlaw07_PathsSlashes.l0])
                | succ k3 =>
                  have H := HA.out
                  clear HA
                  simp only [gaolerlaw07_PathsSlashes.l0] at H
                  by_cases c13 : x10_3 < (l0.length : Int)
                  · rw [if_pos c13] at H
                    have c13b0 : decide (x10_3 < (l0.length : Int)) = true := decide_eq_true c13
                    clear c13
                    by_cases c14 : 0 ≤ x10_3
                    · rw [if_pos c14] at H
                      have c14b0 : decide (0 ≤ x10_3) = true := decide_eq_true c14
                      clear c14
                      replace H := Option.bind_eq_some_iff.mp H
                      obtain ⟨t220, A150, H⟩ := H
                      replace H : (if t220 = true then (if x10_3 > 0 then (if x8_3.size + 1 ≤ 9223372036854775807 then (gaolerlaw07_PathsSlashes.l1 k3 l0 l1 a2 (x8_3 ++ (⟨#[47]⟩ : ByteArray)) x9_3 x10_3 0) else (none)) else (if x8_3.size + (rdOf ByteArray.empty l0 x10_3).size ≤ 9223372036854775807 then (if x9_3.size + (rdOf ByteArray.empty l0 x10_3).size ≤ 9223372036854775807 then (gaolerlaw07_PathsSlashes.l0 k3 l0 l1 a2 (x8_3 ++ (rdOf ByteArray.empty l0 x10_3)) (x9_3 ++ (rdOf ByteArray.empty l0 x10_3)) (wrap64 (x10_3 + 1))) else (none)) else (none))) else (some true)) = some r := H
                      have A15 := Aside0.mk A150
                      clear A150
                      by_cases c16 : t220 = true
                      · subst c16
                        have H1 : (if x10_3 > 0 then (if x8_3.size + 1 ≤ 9223372036854775807 then (gaolerlaw07_PathsSlashes.l1 k3 l0 l1 a2 (x8_3 ++ (⟨#[47]⟩ : ByteArray)) x9_3 x10_3 0) else (none)) else (if x8_3.size + (rdOf ByteArray.empty l0 x10_3).size ≤ 9223372036854775807 then (if x9_3.size + (rdOf ByteArray.empty l0 x10_3).size ≤ 9223372036854775807 then (gaolerlaw07_PathsSlashes.l0 k3 l0 l1 a2 (x8_3 ++ (rdOf ByteArray.empty l0 x10_3)) (x9_3 ++ (rdOf ByteArray.empty l0 x10_3)) (wrap64 (x10_3 + 1))) else (none)) else (none))) = some r := by rw [if_pos rfl] at H; exact H
                        clear H
                        have H := H1
                        clear H1
                        by_cases c17 : x10_3 > 0
                        · rw [if_pos c17] at H
                          have c17b0 : decide (0 < x10_3) = true := decide_eq_true c17
                          clear c17
                          by_cases c18 : x8_3.size + 1 ≤ 9223372036854775807
                          · rw [if_pos c18] at H
                            have c18b0 := eq_true c18
                            have c18b1 : decide (x8_3.size + 1 ≤ 9223372036854775807) = true := decide_eq_true c18
                            try have c18b2 : (9223372036854775807 < x8_3.size + 1) = False := eq_false (Nat.not_lt.2 c18)
                            have H' := Aside0.mk H
                            clear H
                            have p219 : 0 ≤ (x10_3 : Int) := of_decide_eq_true (by first | (with_reducible assumption) | assumption)
                            have q219 : x10_3 < (l0.length : Int) := of_decide_eq_true (by first | (with_reducible assumption) | assumption)
                            obtain ⟨ad219, e219, hx219_0⟩ := Kd.at_string HR0.out x10_3 p219 q219
                            cases e219
                            replace hx219_0 := (HB.out.cell (World.block_lt_of_cell? w _ hx219_0)).trans hx219_0
                            replace p219 := eq_true p219
                            replace q219 := eq_true q219
                            go_wp2_with (first | ((with_reducible refine gate_callee (f := 14) rfl ?_); refine goesL_ (some 44) rfl rfl Tryd.func14 (by kernel_rfl) rfl #[.string (rdOf ByteArray.empty l0 x10_3)] rfl (by (try simp only [List.map_toArray, List.map_cons, List.map_nil]); first | done | rfl | (simp only [List.length_drop, List.length_take]; rfl)) ?_; (with_reducible refine (paths_Name.calls (rdOf ByteArray.empty l0 x10_3) true _ A15.out).mono ?_); rintro e w19 ⟨rfl, hb⟩; refine ⟨_, rfl, ?_⟩; have n0_ := Aside0.mk (below_step (by repeat (first | (with_reducible first | exact HB.out | apply below_alloc | apply pw_below_drewN | apply below_drew1) | exact HB.out)) hb); clear HB; have HB := n0_; clear n0_; (try clear hb); (try clear hb2); (try clear hk); (try clear hi)))
                            go_loopg [9, 11] k3 (fun kq v9 v11 w' => ∃ (x9_4 : ByteArray) (x11_4 : Int), v9 = .string x9_4 ∧ v11 = .int .i64 x11_4 ∧ Aside0 (gaolerlaw07_PathsSlashes.l1 kq l0 l1 a2 (x8_3 ++ (⟨#[47]⟩ : ByteArray)) x9_4 x10_3 x11_4 = some r) ∧ Aside0 (kq ≤ k3) ∧ Aside0 (Below w.heap.size w w'))
                            case atStart => exact ⟨(x9_3), (0), (by first | rfl | (simp; done) | (simp [*]; done)), (by first | rfl | (simp; done) | (simp [*]; done)), H', ⟨Nat.le_refl _⟩, ⟨by repeat (first | (with_reducible first | exact HB.out | apply below_alloc | apply pw_below_drewN | apply below_drew1) | exact HB.out)⟩⟩
                            case round =>
                              clear H'
                              try clear c1
                              try clear p2
                              try clear q2
                              try clear hx2
                              try clear c5
                              try clear c6
                              try clear p6
                              try clear c8
                              try clear c8b0
                              try clear c8b1
                              try clear c9
                              try clear c9b0
                              try clear c9b1
                              try clear c9b2
                              try clear c10
                              try clear c12
                              try clear c13
                              try clear c13b0
                              try clear c14
                              try clear c14b0
                              try clear c16
                              try clear c17
                              try clear c17b0
                              try clear c18
                              try clear c18b0
                              try clear c18b1
                              try clear c18b2
                              try clear hx219_0
                              try clear p2
                              try clear p219
                              try clear q219
                              obtain ⟨x9_4, x11_4, rfl, rfl, HA, HK4, HB⟩ := hrel
                              cases gk with
                              | zero => exact absurd HA.out (by simp [gaolerlaw07_PathsSlashes.l1])
                              | succ k4 =>
                                have H := HA.out
                                clear HA
                                simp only [gaolerlaw07_PathsSlashes.l1] at H
                                by_cases c20 : (l1.length : Int) = 0
                                · rw [if_pos c20] at H
                                  exact absurd H (by simp)
                                · rw [if_neg c20] at H
                                  have c20b0 : ((l1.length : Int) == 0) = false := beq_eq_false_iff_ne.mpr c20
                                  have c20b1 : ((l1.length : Int) != 0) = true := bne_iff_ne.mpr c20
                                  have c20b2 : ¬ (l1 = []) := fun h_ => c20 (by rw [h_]; rfl)
                                  obtain ⟨ji21, hji21⟩ : ∃ j_ : Int, (Int.tmod x10_3 (l1.length : Int)) = j_ := ⟨_, rfl⟩
                                  replace H : (if 0 ≤ (ji21) then (if (ji21) < (l1.length : Int) then (if x11_4 ≤ (wrap64 (Int.tmod (rd l1 (ji21)) 3)) then (if x9_4.size + 1 ≤ 9223372036854775807 then (gaolerlaw07_PathsSlashes.l1 k4 l0 l1 a2 (x8_3 ++ (⟨#[47]⟩ : ByteArray)) (x9_4 ++ (⟨#[47]⟩ : ByteArray)) x10_3 (wrap64 (x11_4 + 1))) else (none)) else (if 0 ≤ x10_3 then (if x10_3 < (l0.length : Int) then (if (x8_3 ++ (⟨#[47]⟩ : ByteArray)).size + (rdOf ByteArray.empty l0 x10_3).size ≤ 9223372036854775807 then (if x9_4.size + (rdOf ByteArray.empty l0 x10_3).size ≤ 9223372036854775807 then (gaolerlaw07_PathsSlashes.l0 k4 l0 l1 a2 ((x8_3 ++ (⟨#[47]⟩ : ByteArray)) ++ (rdOf ByteArray.empty l0 x10_3)) (x9_4 ++ (rdOf ByteArray.empty l0 x10_3)) (wrap64 (x10_3 + 1))) else (none)) else (none)) else (none)) else (none))) else (none)) else (none)) = some r := by first | (rw [hji21] at H; exact H) | (simp only [hji21] at H ⊢; exact H)
                                  by_cases c22 : 0 ≤ (ji21)
                                  · rw [if_pos c22] at H
                                    have c22b0 : decide (0 ≤ (ji21)) = true := decide_eq_true c22
                                    clear c22
                                    by_cases c23 : (ji21) < (l1.length : Int)
                                    · rw [if_pos c23] at H
                                      have c23b0 : decide ((ji21) < (l1.length : Int)) = true := decide_eq_true c23
                                      clear c23
                                      by_cases c24 : x11_4 ≤ (wrap64 (Int.tmod (rd l1 (ji21)) 3))
                                      · rw [if_pos c24] at H
                                        have c24b0 : decide (x11_4 ≤ (wrap64 (Int.tmod (rd l1 (ji21)) 3))) = true := decide_eq_true c24
                                        clear c24
                                        by_cases c25 : x9_4.size + 1 ≤ 9223372036854775807
                                        · rw [if_pos c25] at H
                                          have c25b0 := eq_true c25
                                          have c25b1 : decide (x9_4.size + 1 ≤ 9223372036854775807) = true := decide_eq_true c25
                                          try have c25b2 : (9223372036854775807 < x9_4.size + 1) = False := eq_false (Nat.not_lt.2 c25)
                                          have H' := Aside0.mk H
                                          clear H
                                          have p221 : 0 ≤ ((ji21) : Int) := of_decide_eq_true (by first | (with_reducible assumption) | assumption)
                                          have q221 : (ji21) < (l1.length : Int) := of_decide_eq_true (by first | (with_reducible assumption) | assumption)
                                          obtain ⟨ad221, e221, hx221_0⟩ := Kd.at_int HR1.out (ji21) p221 q221
                                          cases e221
                                          replace hx221_0 := (HB.out.cell (World.block_lt_of_cell? w _ hx221_0)).trans hx221_0
                                          replace p221 := eq_true p221
                                          replace q221 := eq_true q221
                                          go_wp2
                                          go_roundg k4
                                          case measure => have := HJ5.out; have := HJ10.out; have := HK3.out; have := HK4.out; omega
                                          case rel => exact ⟨(x9_4 ++ (⟨#[47]⟩ : ByteArray)), (wrap64 (x11_4 + 1)), (by first | rfl | (simp; done) | (simp [*]; done)), (by first | rfl | (simp; done) | (simp [*]; done)), H', ⟨by have := HJ5.out; have := HJ10.out; have := HK3.out; have := HK4.out; omega⟩, ⟨by repeat (first | (with_reducible first | exact HB.out | apply below_alloc | apply pw_below_drewN | apply below_drew1) | exact HB.out)⟩⟩
                                        · rw [if_neg c25] at H
                                          exact absurd H (by simp)
                                      · rw [if_neg c24] at H
                                        have c24b0 : decide (x11_4 ≤ (wrap64 (Int.tmod (rd l1 (ji21)) 3))) = false := decide_eq_false c24
                                        clear c24
                                        by_cases c26 : 0 ≤ x10_3
                                        · rw [if_pos c26] at H
                                          have c26b0 : decide (0 ≤ x10_3) = true := decide_eq_true c26
                                          clear c26
                                          by_cases c27 : x10_3 < (l0.length : Int)
                                          · rw [if_pos c27] at H
                                            have c27b0 : decide (x10_3 < (l0.length : Int)) = true := decide_eq_true c27
                                            clear c27
                                            by_cases c28 : (x8_3 ++ (⟨#[47]⟩ : ByteArray)).size + (rdOf ByteArray.empty l0 x10_3).size ≤ 9223372036854775807
                                            · rw [if_pos c28] at H
                                              have c28b0 := eq_true c28
                                              have c28b1 : decide ((x8_3 ++ (⟨#[47]⟩ : ByteArray)).size + (rdOf ByteArray.empty l0 x10_3).size ≤ 9223372036854775807) = true := decide_eq_true c28
                                              try have c28b2 : (9223372036854775807 < (x8_3 ++ (⟨#[47]⟩ : ByteArray)).size + (rdOf ByteArray.empty l0 x10_3).size) = False := eq_false (Nat.not_lt.2 c28)
                                              (try (have c28b3 := c28b2; simp only [ByteArray.size_append] at c28b3))
                                              by_cases c29 : x9_4.size + (rdOf ByteArray.empty l0 x10_3).size ≤ 9223372036854775807
                                              · rw [if_pos c29] at H
                                                have c29b0 := eq_true c29
                                                have c29b1 : decide (x9_4.size + (rdOf ByteArray.empty l0 x10_3).size ≤ 9223372036854775807) = true := decide_eq_true c29
                                                try have c29b2 : (9223372036854775807 < x9_4.size + (rdOf ByteArray.empty l0 x10_3).size) = False := eq_false (Nat.not_lt.2 c29)
                                                have H' := Aside0.mk H
                                                clear H
                                                have p221 : 0 ≤ ((ji21) : Int) := of_decide_eq_true (by first | (with_reducible assumption) | assumption)
                                                have q221 : (ji21) < (l1.length : Int) := of_decide_eq_true (by first | (with_reducible assumption) | assumption)
                                                obtain ⟨ad221, e221, hx221_0⟩ := Kd.at_int HR1.out (ji21) p221 q221
                                                cases e221
                                                replace hx221_0 := (HB.out.cell (World.block_lt_of_cell? w _ hx221_0)).trans hx221_0
                                                replace p221 := eq_true p221
                                                replace q221 := eq_true q221
                                                have p222 : 0 ≤ (x10_3 : Int) := of_decide_eq_true (by first | (with_reducible assumption) | assumption)
                                                have q222 : x10_3 < (l0.length : Int) := of_decide_eq_true (by first | (with_reducible assumption) | assumption)
                                                obtain ⟨ad222, e222, hx222_0⟩ := Kd.at_string HR0.out x10_3 p222 q222
                                                obtain rfl : ad219 = ad222 := (by injection e222)
                                                replace hx222_0 := (HB.out.cell (World.block_lt_of_cell? w _ hx222_0)).trans hx222_0
                                                replace p222 := eq_true p222
                                                replace q222 := eq_true q222
                                                have p223 : 0 ≤ (x10_3 : Int) := of_decide_eq_true (by first | (with_reducible assumption) | assumption)
                                                have q223 : x10_3 < (l0.length : Int) := of_decide_eq_true (by first | (with_reducible assumption) | assumption)
                                                obtain ⟨ad223, e223, hx223_0⟩ := Kd.at_string HR0.out x10_3 p223 q223
                                                obtain rfl : ad219 = ad223 := (by injection e223)
                                                replace hx223_0 := (HB.out.cell (World.block_lt_of_cell? w _ hx223_0)).trans hx223_0
                                                replace p223 := eq_true p223
                                                replace q223 := eq_true q223
                                                go_wp2
                                                go_roundg k4
                                                case measure => have := HJ5.out; have := HJ10.out; have := HK3.out; have := HK4.out; omega
                                                case rel => exact ⟨((x8_3 ++ (⟨#[47]⟩ : ByteArray)) ++ (rdOf ByteArray.empty l0 x10_3)), (x9_4 ++ (rdOf ByteArray.empty l0 x10_3)), (wrap64 (x10_3 + 1)), (by first | rfl | (simp; done) | (simp [*]; done)), (by first | rfl | (simp; done) | (simp [*]; done)), (by first | rfl | (simp; done) | (simp [*]; done)), H', ⟨by have := HJ5.out; have := HJ10.out; have := HK3.out; have := HK4.out; omega⟩, ⟨by repeat (first | (with_reducible first | exact HB.out | apply below_alloc | apply pw_below_drewN | apply below_drew1) | exact HB.out)⟩⟩
                                              · rw [if_neg c29] at H
                                                exact absurd H (by simp)
                                            · rw [if_neg c28] at H
                                              exact absurd H (by simp)
                                          · rw [if_neg c27] at H
                                            exact absurd H (by simp)
                                        · rw [if_neg c26] at H
                                          exact absurd H (by simp)
                                    · rw [if_neg c23] at H
                                      exact absurd H (by simp)
                                  · rw [if_neg c22] at H
                                    exact absurd H (by simp)
                          · rw [if_neg c18] at H
                            exact absurd H (by simp)
                        · rw [if_neg c17] at H
                          have c17b0 : decide (0 < x10_3) = false := decide_eq_false c17
                          clear c17
                          by_cases c30 : x8_3.size + (rdOf ByteArray.empty l0 x10_3).size ≤ 9223372036854775807
                          · rw [if_pos c30] at H
                            have c30b0 := eq_true c30
                            have c30b1 : decide (x8_3.size + (rdOf ByteArray.empty l0 x10_3).size ≤ 9223372036854775807) = true := decide_eq_true c30
                            try have c30b2 : (9223372036854775807 < x8_3.size + (rdOf ByteArray.empty l0 x10_3).size) = False := eq_false (Nat.not_lt.2 c30)
                            by_cases c31 : x9_3.size + (rdOf ByteArray.empty l0 x10_3).size ≤ 9223372036854775807
                            · rw [if_pos c31] at H
                              have c31b0 := eq_true c31
                              have c31b1 : decide (x9_3.size + (rdOf ByteArray.empty l0 x10_3).size ≤ 9223372036854775807) = true := decide_eq_true c31
                              try have c31b2 : (9223372036854775807 < x9_3.size + (rdOf ByteArray.empty l0 x10_3).size) = False := eq_false (Nat.not_lt.2 c31)
                              have H' := Aside0.mk H
                              clear H
                              have p219 : 0 ≤ (x10_3 : Int) := of_decide_eq_true (by first | (with_reducible assumption) | assumption)
                              have q219 : x10_3 < (l0.length : Int) := of_decide_eq_true (by first | (with_reducible assumption) | assumption)
                              obtain ⟨ad219, e219, hx219_0⟩ := Kd.at_string HR0.out x10_3 p219 q219
                              cases e219
                              replace hx219_0 := (HB.out.cell (World.block_lt_of_cell? w _ hx219_0)).trans hx219_0
                              replace p219 := eq_true p219
                              replace q219 := eq_true q219
                              go_wp2_with (first | ((with_reducible refine gate_callee (f := 14) rfl ?_); refine goesL_ (some 44) rfl rfl Tryd.func14 (by kernel_rfl) rfl #[.string (rdOf ByteArray.empty l0 x10_3)] rfl (by (try simp only [List.map_toArray, List.map_cons, List.map_nil]); first | done | rfl | (simp only [List.length_drop, List.length_take]; rfl)) ?_; (with_reducible refine (paths_Name.calls (rdOf ByteArray.empty l0 x10_3) true _ A15.out).mono ?_); rintro e w32 ⟨rfl, hb⟩; refine ⟨_, rfl, ?_⟩; have n0_ := Aside0.mk (below_step (by repeat (first | (with_reducible first | exact HB.out | apply below_alloc | apply pw_below_drewN | apply below_drew1) | exact HB.out)) hb); clear HB; have HB := n0_; clear n0_; (try clear hb); (try clear hb2); (try clear hk); (try clear hi); have p224 : 0 ≤ (x10_3 : Int) := of_decide_eq_true (by first | (with_reducible assumption) | assumption); have q224 : x10_3 < (l0.length : Int) := of_decide_eq_true (by first | (with_reducible assumption) | assumption); obtain ⟨ad224, e224, hx224_0⟩ := Kd.at_string HR0.out x10_3 p224 q224; obtain rfl : ad219 = ad224 := (by injection e224); replace hx224_0 := (HB.out.cell (World.block_lt_of_cell? w _ hx224_0)).trans hx224_0; replace p224 := eq_true p224; replace q224 := eq_true q224; have p225 : 0 ≤ (x10_3 : Int) := of_decide_eq_true (by first | (with_reducible assumption) | assumption); have q225 : x10_3 < (l0.length : Int) := of_decide_eq_true (by first | (with_reducible assumption) | assumption); obtain ⟨ad225, e225, hx225_0⟩ := Kd.at_string HR0.out x10_3 p225 q225; obtain rfl : ad219 = ad225 := (by injection e225); replace hx225_0 := (HB.out.cell (World.block_lt_of_cell? w _ hx225_0)).trans hx225_0; replace p225 := eq_true p225; replace q225 := eq_true q225))
                              go_roundg k3
                              case measure => have := HJ5.out; have := HJ10.out; have := HK3.out; omega
                              case rel => exact ⟨(x8_3 ++ (rdOf ByteArray.empty l0 x10_3)), (x9_3 ++ (rdOf ByteArray.empty l0 x10_3)), (wrap64 (x10_3 + 1)), (by first | rfl | (simp; done) | (simp [*]; done)), (by first | rfl | (simp; done) | (simp [*]; done)), (by first | rfl | (simp; done) | (simp [*]; done)), H', ⟨by have := HJ5.out; have := HJ10.out; have := HK3.out; omega⟩, ⟨by repeat (first | (with_reducible first | exact HB.out | apply below_alloc | apply pw_below_drewN | apply below_drew1) | exact HB.out)⟩⟩
                            · rw [if_neg c31] at H
                              exact absurd H (by simp)
                          · rw [if_neg c30] at H
                            exact absurd H (by simp)
                      · replace c16 := Bool.eq_false_iff.mpr c16
                        subst c16
                        have H1 : (some true) = some r := by rw [if_neg (show ¬ (false = true) by decide)] at H; exact H
                        clear H
                        have H := H1
                        clear H1
                        obtain rfl := Option.some.inj H
                        have p219 : 0 ≤ (x10_3 : Int) := of_decide_eq_true (by first | (with_reducible assumption) | assumption)
                        have q219 : x10_3 < (l0.length : Int) := of_decide_eq_true (by first | (with_reducible assumption) | assumption)
                        obtain ⟨ad219, e219, hx219_0⟩ := Kd.at_string HR0.out x10_3 p219 q219
                        cases e219
                        replace hx219_0 := (HB.out.cell (World.block_lt_of_cell? w _ hx219_0)).trans hx219_0
                        replace p219 := eq_true p219
                        replace q219 := eq_true q219
                        go_wp2_with (first | ((with_reducible refine gate_callee (f := 14) rfl ?_); refine goesL_ (some 44) rfl rfl Tryd.func14 (by kernel_rfl) rfl #[.string (rdOf ByteArray.empty l0 x10_3)] rfl (by (try simp only [List.map_toArray, List.map_cons, List.map_nil]); first | done | rfl | (simp only [List.length_drop, List.length_take]; rfl)) ?_; (with_reducible refine (paths_Name.calls (rdOf ByteArray.empty l0 x10_3) false _ A15.out).mono ?_); rintro e w33 ⟨rfl, hb⟩; refine ⟨_, rfl, ?_⟩; have n0_ := Aside0.mk (below_step (by repeat (first | (with_reducible first | exact HB.out | apply below_alloc | apply pw_below_drewN | apply below_drew1) | exact HB.out)) hb); clear HB; have HB := n0_; clear n0_; (try clear hb); (try clear hb2); (try clear hk); (try clear hi)))
                        go_ret
                        exact ⟨by first | rfl | (simp [errW_none, errW_some] <;> rfl) | (simp [*, errW_none, errW_some] <;> rfl), by repeat (first | (with_reducible first | exact HB.out | apply below_alloc | apply pw_below_drewN | apply below_drew1) | exact HB.out)⟩
                    · rw [if_neg c14] at H
                      exact absurd H (by simp)
                  · rw [if_neg c13] at H
                    have c13b0 : decide (x10_3 < (l0.length : Int)) = false := decide_eq_false c13
                    clear c13
                    replace H := Option.bind_eq_some_iff.mp H
                    obtain ⟨⟨t226, t227⟩, A340, H⟩ := H
                    replace H : ((paths_Split.f x9_3).bind fun bt230 => ((paths_Steps.f k3 x9_3).bind fun t234 => (if (t234.length : Int) = (l0.length : Int) then (if (t234.length : Int) > 0 then (if 0 ≤ (wrap64 ((t234.length : Int) - 1)) then (if (wrap64 ((t234.length : Int) - 1)) < (t234.length : Int) then (gaolerlaw07_PathsSlashes.j4 k3 l0 a2 x8_3 x9_3 t226 t227 bt230.1 bt230.2 ((rdOf ByteArray.empty t234 (wrap64 ((t234.length : Int) - 1))).toList != x9_3.toList)) else (none)) else (none)) else (gaolerlaw07_PathsSlashes.j4 k3 l0 a2 x8_3 x9_3 t226 t227 bt230.1 bt230.2 false)) else (gaolerlaw07_PathsSlashes.j4 k3 l0 a2 x8_3 x9_3 t226 t227 bt230.1 bt230.2 true)))) = some r := H
                    have A34 := Aside0.mk A340
                    clear A340
                    replace H := Option.bind_eq_some_iff.mp H
                    obtain ⟨⟨t230, t231⟩, A350, H⟩ := H
                    replace H : ((paths_Steps.f k3 x9_3).bind fun t234 => (if (t234.length : Int) = (l0.length : Int) then (if (t234.length : Int) > 0 then (if 0 ≤ (wrap64 ((t234.length : Int) - 1)) then (if (wrap64 ((t234.length : Int) - 1)) < (t234.length : Int) then (gaolerlaw07_PathsSlashes.j4 k3 l0 a2 x8_3 x9_3 t226 t227 t230 t231 ((rdOf ByteArray.empty t234 (wrap64 ((t234.length : Int) - 1))).toList != x9_3.toList)) else (none)) else (none)) else (gaolerlaw07_PathsSlashes.j4 k3 l0 a2 x8_3 x9_3 t226 t227 t230 t231 false)) else (gaolerlaw07_PathsSlashes.j4 k3 l0 a2 x8_3 x9_3 t226 t227 t230 t231 true))) = some r := H
                    have A35 := Aside0.mk A350
                    clear A350
                    replace H := Option.bind_eq_some_iff.mp H
                    obtain ⟨t234, A360, H⟩ := H
                    replace H : (if (t234.length : Int) = (l0.length : Int) then (if (t234.length : Int) > 0 then (if 0 ≤ (wrap64 ((t234.length : Int) - 1)) then (if (wrap64 ((t234.length : Int) - 1)) < (t234.length : Int) then (gaolerlaw07_PathsSlashes.j4 k3 l0 a2 x8_3 x9_3 t226 t227 t230 t231 ((rdOf ByteArray.empty t234 (wrap64 ((t234.length : Int) - 1))).toList != x9_3.toList)) else (none)) else (none)) else (gaolerlaw07_PathsSlashes.j4 k3 l0 a2 x8_3 x9_3 t226 t227 t230 t231 false)) else (gaolerlaw07_PathsSlashes.j4 k3 l0 a2 x8_3 x9_3 t226 t227 t230 t231 true)) = some r := H
                    have A36 := Aside0.mk A360
                    clear A360
                    have HC37 := Aside0.mk H
                    clear H
                    go_upto_region 27 with (first | ((with_reducible refine gate_callee (f := 9) rfl ?_); refine goesL_ (some 79) rfl rfl Tryd.func9 (by kernel_rfl) rfl #[.string x8_3] rfl (by (try simp only [List.map_toArray, List.map_cons, List.map_nil]); first | done | rfl | (simp only [List.length_drop, List.length_take]; rfl)) ?_; (with_reducible refine (paths_Split.calls x8_3 t226 t227 _ A34.out).mono ?_); rintro e w38 ⟨v228, rfl, ho0, hb⟩; refine ⟨_, rfl, ?_⟩; have n0_ := Aside0.mk (Kd.V_lower (Kd.V_mono (ok' := fun k_ => True) ho0 (fun k_ hk_ => trivial)) (below_size (by repeat (first | (with_reducible first | exact HB.out | apply below_alloc | apply pw_below_drewN | apply below_drew1) | exact HB.out)))); have n1_ := Aside0.mk (below_step (by repeat (first | (with_reducible first | exact HB.out | apply below_alloc | apply pw_below_drewN | apply below_drew1) | exact HB.out)) hb); clear HB; have HO229 := n0_; have HB := n1_; clear n0_ n1_; (try clear hb); (try clear hb2); (try clear hk); (try clear hi); (try clear ho0)) | ((with_reducible refine gate_callee (f := 9) rfl ?_); refine goesL_ (some 84) rfl rfl Tryd.func9 (by kernel_rfl) rfl #[.string x9_3] rfl (by (try simp only [List.map_toArray, List.map_cons, List.map_nil]); first | done | rfl | (simp only [List.length_drop, List.length_take]; rfl)) ?_; (with_reducible refine (paths_Split.calls x9_3 t230 t231 _ A35.out).mono ?_); rintro e w39 ⟨v232, rfl, ho0, hb⟩; refine ⟨_, rfl, ?_⟩; have n0_ := Aside0.mk (Kd.V_below (by (with_reducible repeat (first | apply Kd.V_alloc | apply Kd.V_drewN | apply Kd.V_drew)); exact HO229.out) hb); have n1_ := Aside0.mk (Kd.V_lower (Kd.V_mono (ok' := fun k_ => True) ho0 (fun k_ hk_ => trivial)) (below_size (by repeat (first | (with_reducible first | exact HB.out | apply below_alloc | apply pw_below_drewN | apply below_drew1) | exact HB.out)))); have n2_ := Aside0.mk (below_step (by repeat (first | (with_reducible first | exact HB.out | apply below_alloc | apply pw_below_drewN | apply below_drew1) | exact HB.out)) hb); clear HO229; clear HB; have HO229 := n0_; have HO233 := n1_; have HB := n2_; clear n0_ n1_ n2_; (try clear hb); (try clear hb2); (try clear hk); (try clear hi); (try clear ho0)) | ((with_reducible refine gate_callee (f := 16) rfl ?_); refine goesL_ (some 88) rfl rfl Tryd.func16 (by kernel_rfl) rfl #[.string x9_3] rfl (by (try simp only [List.map_toArray, List.map_cons, List.map_nil]); first | done | rfl | (simp only [List.length_drop, List.length_take]; rfl)) ?_; (with_reducible refine (paths_Steps.calls k3 x9_3 t234 _ A36.out).mono ?_); rintro e w40 ⟨v235, rfl, ho0, hb⟩; refine ⟨_, rfl, ?_⟩; have n0_ := Aside0.mk (Kd.V_elder' (by (with_reducible repeat (first | apply Kd.V_alloc | apply Kd.V_drewN | apply Kd.V_drew)); exact HO229.out) (Kd.R_base ho0) hb); have n1_ := Aside0.mk (Kd.V_elder' (by (with_reducible repeat (first | apply Kd.V_alloc | apply Kd.V_drewN | apply Kd.V_drew)); exact HO233.out) (Kd.R_base ho0) hb); have n2_ := Aside0.mk (Kd.R_lower ho0 (below_size (by repeat (first | (with_reducible first | exact HB.out | apply below_alloc | apply pw_below_drewN | apply below_drew1) | exact HB.out)))); have n3_ := Aside0.mk (below_step (by repeat (first | (with_reducible first | exact HB.out | apply below_alloc | apply pw_below_drewN | apply below_drew1) | exact HB.out)) hb); clear HO229; clear HO233; clear HB; have HO229 := n0_; have HO233 := n1_; have HO236 := n2_; have HB := n3_; clear n0_ n1_ n2_ n3_; (try clear hb); (try clear hb2); (try clear hk); (try clear hi); (try clear ho0)))
                    (try simp only [Act.put, List.setIfInBounds_toArray, List.set_cons_zero, List.set_cons_succ])
                    go_cut [108] (fun v108 wc => ∃ (kq : Nat) (x108_36 : Bool), v108 = .bool x108_36 ∧ Aside0 (gaolerlaw07_PathsSlashes.j4 kq l0 a2 x8_3 x9_3 t226 t227 t230 t231 x108_36 = some r) ∧ Aside0 (kq ≤ k3) ∧ Aside0 (Kd.V Kd.string 9 wc w.heap.size (fun _ => True) v228 t227) ∧ Aside0 (Kd.V Kd.string 9 wc w.heap.size (fun _ => True) v232 t231) ∧ Aside0 (Below w.heap.size w wc))
                    case first =>
                      have H := HC37.out
                      clear HC37
                      by_cases c41 : (t234.length : Int) = (l0.length : Int)
                      · rw [if_pos c41] at H
                        have c41b0 : ((t234.length : Int) == (l0.length : Int)) = true := beq_iff_eq.mpr c41
                        have c41b1 : ((t234.length : Int) != (l0.length : Int)) = false := bne_eq_false_iff_eq.mpr c41
                        have c41b2 : (t234.length == l0.length) = true := by first | simpa using c41 | (simp at c41 ⊢; omega)
                        clear c41
                        (first | rw [c41b0] | (simp only [i64_w, i32_w]; rw [c41b0]) | skip)
                        by_cases c42 : (t234.length : Int) > 0
                        · rw [if_pos c42] at H
                          have c42b0 : decide (0 < (t234.length : Int)) = true := decide_eq_true c42
                          have c42b1 : decide (0 < t234.length) = true := decide_eq_true (by omega)
                          clear c42
                          obtain ⟨ji43, hji43⟩ : ∃ j_ : Int, (wrap64 ((t234.length : Int) - 1)) = j_ := ⟨_, rfl⟩
                          replace H : (if 0 ≤ (ji43) then (if (ji43) < (t234.length : Int) then (gaolerlaw07_PathsSlashes.j4 k3 l0 a2 x8_3 x9_3 t226 t227 t230 t231 ((rdOf ByteArray.empty t234 (ji43)).toList != x9_3.toList)) else (none)) else (none)) = some r := by first | (rw [hji43] at H; exact H) | (simp only [hji43] at H ⊢; exact H)
                          have hji43w : (IntKind.i64.wrap ((t234.length : Int) - 1)) = ji43 := (i64_w _).trans hji43
                          by_cases c44 : 0 ≤ (ji43)
                          · rw [if_pos c44] at H
                            have c44b0 : decide (0 ≤ (ji43)) = true := decide_eq_true c44
                            clear c44
                            by_cases c45 : (ji43) < (t234.length : Int)
                            · rw [if_pos c45] at H
                              have c45b0 : decide ((ji43) < (t234.length : Int)) = true := decide_eq_true c45
                              clear c45
                              have H' := Aside0.mk H
                              clear H
                              obtain ⟨Ao46, co46, eo46⟩ := Kd.R_slice HO236.out
                              subst eo46
                              have p237 : 0 ≤ ((ji43) : Int) := of_decide_eq_true (by first | (with_reducible assumption) | assumption)
                              have q237 : (ji43) < (t234.length : Int) := of_decide_eq_true (by first | (with_reducible assumption) | assumption)
                              obtain ⟨ad237, e237, hx237_0⟩ := Kd.at_string (Kd.R_reads' HO236.out).2.2 (ji43) p237 q237
                              cases e237
                              replace p237 := eq_true p237
                              replace q237 := eq_true q237
                              go_wp2
                              go_meet
                              case rel => exact ⟨_, (((rdOf ByteArray.empty t234 (ji43)).toList != x9_3.toList)), (by first | rfl | (simp; done) | (simp only [← hji43] <;> (first | rfl | simp)) | (simp [*]; done)), H', ⟨by have := HJ5.out; have := HJ10.out; have := HK3.out; first | omega | exact Nat.le_refl _⟩, ⟨by (with_reducible repeat (first | apply Kd.V_alloc | apply Kd.V_drewN | apply Kd.V_drew)); exact Kd.V_mono HO229.out (fun _ hk => trivial)⟩, ⟨by (with_reducible repeat (first | apply Kd.V_alloc | apply Kd.V_drewN | apply Kd.V_drew)); exact Kd.V_mono HO233.out (fun _ hk => trivial)⟩, ⟨by repeat (first | (with_reducible first | exact HB.out | apply below_alloc | apply pw_below_drewN | apply below_drew1) | exact HB.out)⟩⟩
                            · rw [if_neg c45] at H
                              exact absurd H (by simp)
                          · rw [if_neg c44] at H
                            exact absurd H (by simp)
                        · rw [if_neg c42] at H
                          have c42b0 : decide (0 < (t234.length : Int)) = false := decide_eq_false c42
                          have c42b1 : decide (0 < t234.length) = false := decide_eq_false (by omega)
                          clear c42
                          have H' := Aside0.mk H
                          clear H
                          obtain ⟨Ao47, co47, eo47⟩ := Kd.R_slice HO236.out
                          subst eo47
                          go_wp2
                          go_meet
                          case rel => exact ⟨_, (false), (by first | rfl | (simp; done) | (simp [*]; done)), H', ⟨by have := HJ5.out; have := HJ10.out; have := HK3.out; first | omega | exact Nat.le_refl _⟩, ⟨by (with_reducible repeat (first | apply Kd.V_alloc | apply Kd.V_drewN | apply Kd.V_drew)); exact Kd.V_mono HO229.out (fun _ hk => trivial)⟩, ⟨by (with_reducible repeat (first | apply Kd.V_alloc | apply Kd.V_drewN | apply Kd.V_drew)); exact Kd.V_mono HO233.out (fun _ hk => trivial)⟩, ⟨by repeat (first | (with_reducible first | exact HB.out | apply below_alloc | apply pw_below_drewN | apply below_drew1) | exact HB.out)⟩⟩
                      · rw [if_neg c41] at H
                        have c41b0 : ((t234.length : Int) == (l0.length : Int)) = false := beq_eq_false_iff_ne.mpr c41
                        have c41b1 : ((t234.length : Int) != (l0.length : Int)) = true := bne_iff_ne.mpr c41
                        have c41b2 : (t234.length == l0.length) = false := by first | simpa using c41 | (simp at c41 ⊢; omega)
                        (first | rw [c41b0] | (simp only [i64_w, i32_w]; rw [c41b0]) | skip)
                        have H' := Aside0.mk H
                        clear H
                        obtain ⟨Ao48, co48, eo48⟩ := Kd.R_slice HO236.out
                        subst eo48
                        go_wp2
                        go_meet
                        case rel => exact ⟨_, (true), (by first | rfl | (simp; done) | (simp [*]; done)), H', ⟨by have := HJ5.out; have := HJ10.out; have := HK3.out; first | omega | exact Nat.le_refl _⟩, ⟨by (with_reducible repeat (first | apply Kd.V_alloc | apply Kd.V_drewN | apply Kd.V_drew)); exact Kd.V_mono HO229.out (fun _ hk => trivial)⟩, ⟨by (with_reducible repeat (first | apply Kd.V_alloc | apply Kd.V_drewN | apply Kd.V_drew)); exact Kd.V_mono HO233.out (fun _ hk => trivial)⟩, ⟨by repeat (first | (with_reducible first | exact HB.out | apply below_alloc | apply pw_below_drewN | apply below_drew1) | exact HB.out)⟩⟩
                    case rest =>
                      clear HC37
                      try clear c1
                      try clear c2
                      try clear p2
                      try clear q2
                      try clear hx2
                      try clear c3
                      try clear c4
                      try clear c5
                      try clear c6
                      try clear p6
                      try clear c8
                      try clear c8b0
                      try clear c8b1
                      try clear c9
                      try clear c9b0
                      try clear c9b1
                      try clear c9b2
                      try clear c10
                      try clear c12
                      try clear c13
                      try clear c13b0
                      try clear c14
                      try clear c14b0
                      try clear c16
                      try clear c17
                      try clear c17b0
                      try clear c18
                      try clear c18b0
                      try clear c18b1
                      try clear c18b2
                      try clear c20
                      try clear c20b0
                      try clear c20b1
                      try clear c20b2
                      try clear p21
                      try clear q21
                      try clear hx21
                      try clear c22
                      try clear c22b0
                      try clear p22
                      try clear q22
                      try clear hx22
                      try clear c23
                      try clear c23b0
                      try clear p23
                      try clear q23
                      try clear hx23
                      try clear c24
                      try clear c24b0
                      try clear c25
                      try clear c25b0
                      try clear c25b1
                      try clear c25b2
                      try clear c26
                      try clear c26b0
                      try clear c27
                      try clear c27b0
                      try clear c28
                      try clear c28b0
                      try clear c28b1
                      try clear c28b2
                      try clear c29
                      try clear c29b0
                      try clear c29b1
                      try clear c29b2
                      try clear c30
                      try clear c30b0
                      try clear c30b1
                      try clear c30b2
                      try clear c31
                      try clear c31b0
                      try clear c31b1
                      try clear c31b2
                      try clear c41
                      try clear c41b0
                      try clear c41b1
                      try clear c41b2
                      try clear c42
                      try clear c42b0
                      try clear c42b1
                      try clear c44
                      try clear c44b0
                      try clear c45
                      try clear c45b0
                      try clear hx219_0
                      try clear hx221_0
                      try clear hx222_0
                      try clear hx223_0
                      try clear hx224_0
                      try clear hx225_0
                      try clear hx237_0
                      try clear p2
                      try clear p219
                      try clear p221
                      try clear p222
                      try clear p223
                      try clear p224
                      try clear p225
                      try clear p237
                      try clear p6
                      try clear q2
                      try clear q219
                      try clear q221
                      try clear q222
                      try clear q223
                      try clear q224
                      try clear q225
                      try clear q237
                      obtain ⟨kq, x108_36, rfl, HA, HJ36, HO_13, HO_15, HB⟩ := hcut
                      cases kq with
                      | zero => exact absurd HA.out (by simp [gaolerlaw07_PathsSlashes.j4])
                      | succ kj36 =>
                        have H := HA.out
                        clear HA
                        simp only [gaolerlaw07_PathsSlashes.j4] at H
                        by_cases c49 : x108_36 = true
                        · subst c49
                          have H1 : (some false) = some r := by rw [if_pos rfl] at H; exact H
                          clear H
                          have H := H1
                          clear H1
                          obtain rfl := Option.some.inj H
                          go_wp2
                          go_ret
                          exact ⟨by first | rfl | (simp [errW_none, errW_some] <;> rfl) | (simp [*, errW_none, errW_some] <;> rfl), by repeat (first | (with_reducible first | exact HB.out | apply below_alloc | apply pw_below_drewN | apply below_drew1) | exact HB.out)⟩
                        · replace c49 := Bool.eq_false_iff.mpr c49
                          subst c49
                          have H1 : (if (t226 == t230) = true then (if (t226 == a2) = true then ((gaolerref07_Same.f kj36 t227 l0).bind fun t238 => (if t238 = true then ((gaolerref07_Same.f kj36 t231 l0).bind fun t239 => (if t239 = true then ((paths_Base.f x8_3).bind fun t240 => ((paths_Base.f x9_3).bind fun t241 => (some (t240.toList == t241.toList)))) else (some false))) else (some false))) else (some false)) else (some false)) = some r := by rw [if_neg (show ¬ (false = true) by decide)] at H; exact H
                          clear H
                          have H := H1
                          clear H1
                          by_cases c50 : (t226 == t230) = true
                          · rw [if_pos c50] at H
                            have c50b0 : (t226 == t230) = true := c50
                            (try (have c50b1 : decide (t226 = t230) = true := by simpa using c50))
                            (try (have c50b2 : (t226 == t230) = true := by simpa using c50))
                            clear c50
                            by_cases c51 : (t226 == a2) = true
                            · rw [if_pos c51] at H
                              have c51b0 : (t226 == a2) = true := c51
                              (try (have c51b1 : decide (t226 = a2) = true := by simpa using c51))
                              (try (have c51b2 : (t226 == a2) = true := by simpa using c51))
                              clear c51
                              replace H := Option.bind_eq_some_iff.mp H
                              obtain ⟨t238, A520, H⟩ := H
                              replace H : (if t238 = true then ((gaolerref07_Same.f kj36 t231 l0).bind fun t239 => (if t239 = true then ((paths_Base.f x8_3).bind fun t240 => ((paths_Base.f x9_3).bind fun t241 => (some (t240.toList == t241.toList)))) else (some false))) else (some false)) = some r := H
                              have A52 := Aside0.mk A520
                              clear A520
                              by_cases c53 : t238 = true
                              · subst c53
                                have H1 : ((gaolerref07_Same.f kj36 t231 l0).bind fun t239 => (if t239 = true then ((paths_Base.f x8_3).bind fun t240 => ((paths_Base.f x9_3).bind fun t241 => (some (t240.toList == t241.toList)))) else (some false))) = some r := by rw [if_pos rfl] at H; exact H
                                clear H
                                have H := H1
                                clear H1
                                replace H := Option.bind_eq_some_iff.mp H
                                obtain ⟨t239, A540, H⟩ := H
                                replace H : (if t239 = true then ((paths_Base.f x8_3).bind fun t240 => ((paths_Base.f x9_3).bind fun t241 => (some (t240.toList == t241.toList)))) else (some false)) = some r := H
                                have A54 := Aside0.mk A540
                                clear A540
                                by_cases c55 : t239 = true
                                · subst c55
                                  have H1 : ((paths_Base.f x8_3).bind fun t240 => ((paths_Base.f x9_3).bind fun t241 => (some (t240.toList == t241.toList)))) = some r := by rw [if_pos rfl] at H; exact H
                                  clear H
                                  have H := H1
                                  clear H1
                                  replace H := Option.bind_eq_some_iff.mp H
                                  obtain ⟨t240, A560, H⟩ := H
                                  replace H : ((paths_Base.f x9_3).bind fun t241 => (some (t240.toList == t241.toList))) = some r := H
                                  have A56 := Aside0.mk A560
                                  clear A560
                                  replace H := Option.bind_eq_some_iff.mp H
                                  obtain ⟨t241, A570, H⟩ := H
                                  replace H : (some (t240.toList == t241.toList)) = some r := H
                                  have A57 := Aside0.mk A570
                                  clear A570
                                  obtain rfl := Option.some.inj H
                                  obtain ⟨Ao58, co58, eo58⟩ := Kd.V_slice HO_13.out
                                  subst eo58
                                  go_wp2_with (first | (go_at_call 11; (with_reducible refine (gaolerref07_Same.calls kj36 _ _ t227 _ _ l0 true _ ?side1 ?side2 ?side3 ?side4 A52.out).mono ?_); (case side1 => repeat (first | exact (Kd.V_reads' HO_13.out).2.2 | (with_reducible refine Kd.C_alloc ?_ _) | (with_reducible refine Kd.C_drewN ?_ _) | (with_reducible refine Kd.C_drew ?_))); (case side2 => exact (Kd.V_reads' HO_13.out).2.1); (case side3 => repeat (first | exact (Kd.C_below HR0.out HB.out) | (with_reducible refine Kd.C_alloc ?_ _) | (with_reducible refine Kd.C_drewN ?_ _) | (with_reducible refine Kd.C_drew ?_))); (case side4 => exact HC0.out); rintro e w' ⟨rfl, ⟨nd, rfl⟩⟩; obtain ⟨Ao59, co59, eo59⟩ := Kd.V_slice HO_15.out; subst eo59) | (go_at_call 11; (with_reducible refine (gaolerref07_Same.calls kj36 _ _ t231 _ _ l0 true _ ?side1 ?side2 ?side3 ?side4 A54.out).mono ?_); (case side1 => repeat (first | exact (Kd.V_reads' HO_15.out).2.2 | (with_reducible refine Kd.C_alloc ?_ _) | (with_reducible refine Kd.C_drewN ?_ _) | (with_reducible refine Kd.C_drew ?_))); (case side2 => exact (Kd.V_reads' HO_15.out).2.1); (case side3 => repeat (first | exact (Kd.C_below HR0.out (by repeat (first | (with_reducible first | exact HB.out | apply below_alloc | apply pw_below_drewN | apply below_drew1) | exact HB.out))) | (with_reducible refine Kd.C_alloc ?_ _) | (with_reducible refine Kd.C_drewN ?_ _) | (with_reducible refine Kd.C_drew ?_))); (case side4 => exact HC0.out); rintro e w' ⟨rfl, ⟨nd, rfl⟩⟩) | (go_at_call 18; (with_reducible refine (paths_Base.calls x8_3 t240 _ A56.out).mono ?_); rintro e w60 ⟨rfl, hb⟩; have n0_ := Aside0.mk (Kd.V_below (by (with_reducible repeat (first | apply Kd.V_alloc | apply Kd.V_drewN | apply Kd.V_drew)); exact HO_13.out) hb); have n1_ := Aside0.mk (Kd.V_below (by (with_reducible repeat (first | apply Kd.V_alloc | apply Kd.V_drewN | apply Kd.V_drew)); exact HO_15.out) hb); have n2_ := Aside0.mk (below_step (by repeat (first | (with_reducible first | exact HB.out | apply below_alloc | apply pw_below_drewN | apply below_drew1) | exact HB.out)) hb); clear HO_13; clear HO_15; clear HB; have HO_13 := n0_; have HO_15 := n1_; have HB := n2_; clear n0_ n1_ n2_; (try clear hb); (try clear hb2); (try clear hk); (try clear hi)) | (go_at_call 18; (with_reducible refine (paths_Base.calls x9_3 t241 _ A57.out).mono ?_); rintro e w61 ⟨rfl, hb⟩; have n0_ := Aside0.mk (Kd.V_below (by (with_reducible repeat (first | apply Kd.V_alloc | apply Kd.V_drewN | apply Kd.V_drew)); exact HO_13.out) hb); have n1_ := Aside0.mk (Kd.V_below (by (with_reducible repeat (first | apply Kd.V_alloc | apply Kd.V_drewN | apply Kd.V_drew)); exact HO_15.out) hb); have n2_ := Aside0.mk (below_step (by repeat (first | (with_reducible first | exact HB.out | apply below_alloc | apply pw_below_drewN | apply below_drew1) | exact HB.out)) hb); clear HO_13; clear HO_15; clear HB; have HO_13 := n0_; have HO_15 := n1_; have HB := n2_; clear n0_ n1_ n2_; (try clear hb); (try clear hb2); (try clear hk); (try clear hi)))
                                  go_ret
                                  exact ⟨by first | rfl | (simp [errW_none, errW_some] <;> rfl) | (simp [*, errW_none, errW_some] <;> rfl), by repeat (first | (with_reducible first | exact HB.out | apply below_alloc | apply pw_below_drewN | apply below_drew1) | exact HB.out)⟩
                                · replace c55 := Bool.eq_false_iff.mpr c55
                                  subst c55
                                  have H1 : (some false) = some r := by rw [if_neg (show ¬ (false = true) by decide)] at H; exact H
                                  clear H
                                  have H := H1
                                  clear H1
                                  obtain rfl := Option.some.inj H
                                  obtain ⟨Ao62, co62, eo62⟩ := Kd.V_slice HO_13.out
                                  subst eo62
                                  go_wp2_with (first | (go_at_call 11; (with_reducible refine (gaolerref07_Same.calls kj36 _ _ t227 _ _ l0 true _ ?side1 ?side2 ?side3 ?side4 A52.out).mono ?_); (case side1 => repeat (first | exact (Kd.V_reads' HO_13.out).2.2 | (with_reducible refine Kd.C_alloc ?_ _) | (with_reducible refine Kd.C_drewN ?_ _) | (with_reducible refine Kd.C_drew ?_))); (case side2 => exact (Kd.V_reads' HO_13.out).2.1); (case side3 => repeat (first | exact (Kd.C_below HR0.out HB.out) | (with_reducible refine Kd.C_alloc ?_ _) | (with_reducible refine Kd.C_drewN ?_ _) | (with_reducible refine Kd.C_drew ?_))); (case side4 => exact HC0.out); rintro e w' ⟨rfl, ⟨nd, rfl⟩⟩; obtain ⟨Ao63, co63, eo63⟩ := Kd.V_slice HO_15.out; subst eo63) | (go_at_call 11; (with_reducible refine (gaolerref07_Same.calls kj36 _ _ t231 _ _ l0 false _ ?side1 ?side2 ?side3 ?side4 A54.out).mono ?_); (case side1 => repeat (first | exact (Kd.V_reads' HO_15.out).2.2 | (with_reducible refine Kd.C_alloc ?_ _) | (with_reducible refine Kd.C_drewN ?_ _) | (with_reducible refine Kd.C_drew ?_))); (case side2 => exact (Kd.V_reads' HO_15.out).2.1); (case side3 => repeat (first | exact (Kd.C_below HR0.out (by repeat (first | (with_reducible first | exact HB.out | apply below_alloc | apply pw_below_drewN | apply below_drew1) | exact HB.out))) | (with_reducible refine Kd.C_alloc ?_ _) | (with_reducible refine Kd.C_drewN ?_ _) | (with_reducible refine Kd.C_drew ?_))); (case side4 => exact HC0.out); rintro e w' ⟨rfl, ⟨nd, rfl⟩⟩))
                                  go_ret
                                  exact ⟨by first | rfl | (simp [errW_none, errW_some] <;> rfl) | (simp [*, errW_none, errW_some] <;> rfl), by repeat (first | (with_reducible first | exact HB.out | apply below_alloc | apply pw_below_drewN | apply below_drew1) | exact HB.out)⟩
                              · replace c53 := Bool.eq_false_iff.mpr c53
                                subst c53
                                have H1 : (some false) = some r := by rw [if_neg (show ¬ (false = true) by decide)] at H; exact H
                                clear H
                                have H := H1
                                clear H1
                                obtain rfl := Option.some.inj H
                                obtain ⟨Ao64, co64, eo64⟩ := Kd.V_slice HO_13.out
                                subst eo64
                                go_wp2_with (first | (go_at_call 11; (with_reducible refine (gaolerref07_Same.calls kj36 _ _ t227 _ _ l0 false _ ?side1 ?side2 ?side3 ?side4 A52.out).mono ?_); (case side1 => repeat (first | exact (Kd.V_reads' HO_13.out).2.2 | (with_reducible refine Kd.C_alloc ?_ _) | (with_reducible refine Kd.C_drewN ?_ _) | (with_reducible refine Kd.C_drew ?_))); (case side2 => exact (Kd.V_reads' HO_13.out).2.1); (case side3 => repeat (first | exact (Kd.C_below HR0.out HB.out) | (with_reducible refine Kd.C_alloc ?_ _) | (with_reducible refine Kd.C_drewN ?_ _) | (with_reducible refine Kd.C_drew ?_))); (case side4 => exact HC0.out); rintro e w' ⟨rfl, ⟨nd, rfl⟩⟩))
                                go_ret
                                exact ⟨by first | rfl | (simp [errW_none, errW_some] <;> rfl) | (simp [*, errW_none, errW_some] <;> rfl), by repeat (first | (with_reducible first | exact HB.out | apply below_alloc | apply pw_below_drewN | apply below_drew1) | exact HB.out)⟩
                            · rw [if_neg c51] at H
                              have c51b0 : (t226 == a2) = false := by simpa using c51
                              (try (have c51b1 : decide (t226 = a2) = false := by simpa using c51))
                              (try (have c51b2 : (t226 == a2) = false := by simpa using c51))
                              (try (have c51b3 : ¬ (t226 = a2) := by simpa using c51))
                              clear c51
                              obtain rfl := Option.some.inj H
                              go_wp2
                              go_ret
                              exact ⟨by first | rfl | (simp [errW_none, errW_some] <;> rfl) | (simp [*, errW_none, errW_some] <;> rfl), by repeat (first | (with_reducible first | exact HB.out | apply below_alloc | apply pw_below_drewN | apply below_drew1) | exact HB.out)⟩
                          · rw [if_neg c50] at H
                            have c50b0 : (t226 == t230) = false := by simpa using c50
                            (try (have c50b1 : decide (t226 = t230) = false := by simpa using c50))
                            (try (have c50b2 : (t226 == t230) = false := by simpa using c50))
                            (try (have c50b3 : ¬ (t226 = t230) := by simpa using c50))
                            clear c50
                            obtain rfl := Option.some.inj H
                            go_wp2
                            go_ret
                            exact ⟨by first | rfl | (simp [errW_none, errW_some] <;> rfl) | (simp [*, errW_none, errW_some] <;> rfl), by repeat (first | (with_reducible first | exact HB.out | apply below_alloc | apply pw_below_drewN | apply below_drew1) | exact HB.out)⟩
  · replace c5 := Bool.eq_false_iff.mpr c5
    subst c5
    have H1 : (some false) = some r := by rw [if_neg (show ¬ (false = true) by decide)] at H; exact H
    clear H
    have H := H1
    clear H1
    obtain rfl := Option.some.inj H
    go_enter Tryd.func6, Tryd.ntmps6
    go_wp2_with (first | ((with_reducible refine gate_callee (f := 8) rfl ?_); refine goesL_ (some 17) rfl rfl Tryd.func8 (by kernel_rfl) rfl #[] rfl (by (try simp only [List.map_toArray, List.map_cons, List.map_nil]); first | done | rfl | (simp only [List.length_drop, List.length_take]; rfl)) ?_; (with_reducible refine (gaolerlaw07_awake.calls k  false _ A4.out).mono ?_); rintro e w65 ⟨rfl, hb⟩; refine ⟨_, rfl, ?_⟩; have n0_ := Aside0.mk (below_step (by repeat (first | (with_reducible first | exact HB.out | apply below_alloc | apply pw_below_drewN | apply below_drew1) | exact HB.out)) hb); clear HB; have HB := n0_; clear n0_; (try clear hb); (try clear hb2); (try clear hk); (try clear hi)))
    go_ret
    exact ⟨by first | rfl | (simp [errW_none, errW_some] <;> rfl) | (simp [*, errW_none, errW_some] <;> rfl), by repeat (first | (with_reducible first | exact HB.out | apply below_alloc | apply pw_below_drewN | apply below_drew1) | exact HB.out)⟩

end Go.Proofs.YtkibigbjgohdkaaDoor.S
