-- Written by wip/tools/myprint.py, a session's own driver of the kit's printer.
import Derived.Test.YtbbobjchokffbaaS0
import Derived.Test.YtbbobjchokffbaaS1
import Derived.Test.YtbbobjchokffbaaS6
import Derived.Test.YtbbobjchokffbaaS11
namespace Go.Proofs.Ytbbobjchokffbaa.S
open Go.RowKit Go.Proofs.YtbbobjchokffbaaW.PrintWords Go.Proofs.YtbbobjchokffbaaW.PrintLast Go.Proofs.YtbbobjchokffbaaW.PrintMore
attribute [local go_sem] max2_int min2_int max_two min_two max_three min_three max_four min_four   -- for this text's walks alone
set_option linter.unusedVariables false
set_option linter.unusedSimpArgs false

/-! ### gaolerlaw01_ModesApart: function 14 -/
def gaolerlaw01_ModesApart.l0 : Nat → Int → Int → Int → Int → Int → Option (Bool)
  | 0, _, _, _, _, _ => none
  | k + 1, x2, x8, x9, x10, x11 => if x11 < 3 then ((modes_Class.f x8 x11).bind fun t330 => (if x11 = x9 then ((modes_Class.f x10 x11).bind fun t331 => (if t331 = (wrap64 (Int.tmod x2 8)) then (gaolerlaw01_ModesApart.l0 k x2 x8 x9 x10 (wrap64 (x11 + 1))) else (some false))) else ((modes_Class.f x10 x11).bind fun t332 => (if t332 = t330 then (gaolerlaw01_ModesApart.l0 k x2 x8 x9 x10 (wrap64 (x11 + 1))) else (some false))))) else (if (wrap64 (Int.tdiv x10 512)) = (wrap64 (Int.tdiv x8 512)) then ((modes_Class.f x8 x9).bind fun t333 => ((modes_With.f x10 x9 t333).bind fun t334 => (if t334 = x8 then ((modes_Class.f x8 0).bind fun t335 => ((modes_Class.f x8 1).bind fun t336 => ((modes_Class.f x8 2).bind fun t337 => (some (x8 == (wrap64 ((wrap64 ((wrap64 ((wrap64 ((wrap64 (Int.tdiv x8 512)) * 512)) + (wrap64 (t335 * 64)))) + (wrap64 (t336 * 8)))) + t337))))))) else (some false)))) else (some false))
def gaolerlaw01_ModesApart.f (k : Nat) (a0 : Int) (a1 : Int) (a2 : Int) : Option (Bool) := (gaolerlaw01_awake.f).bind fun t328 => (if t328 = true then ((modes_With.f (wrap64 (Int.tmod a0 4096)) (wrap64 (Int.tmod a1 3)) (wrap64 (a2))).bind fun t329 => (gaolerlaw01_ModesApart.l0 k a2 (wrap64 (Int.tmod a0 4096)) (wrap64 (Int.tmod a1 3)) t329 0)) else (some false))
theorem gaolerlaw01_ModesApart.mono_l : ∀ k, (∀ y0 y1 y2 y3 y4, LeO (gaolerlaw01_ModesApart.l0 k y0 y1 y2 y3 y4) (gaolerlaw01_ModesApart.l0 (k + 1) y0 y1 y2 y3 y4))
  | 0 => fun _ _ _ _ _ r h => by simp [gaolerlaw01_ModesApart.l0] at h
  | k + 1 => by
    have ih0 := gaolerlaw01_ModesApart.mono_l k
    · intro y0 y1 y2 y3 y4
      unfold gaolerlaw01_ModesApart.l0
      repeat' first
      | (with_reducible exact ih0 _ _ _ _ _)
      | (with_reducible exact LeO.refl _)
      | (with_reducible exact LeO.none _)
      | (with_reducible refine LeO.ite ?_ ?_)
      | (with_reducible refine LeO.bind ?_ (fun _ => ?_))
      | exact ih0 _ _ _ _ _
      | exact LeO.none _
      | refine LeO.ite ?_ ?_
      | refine LeO.bind ?_ (fun _ => ?_)
theorem gaolerlaw01_ModesApart.mono : ∀ a0 a1 a2 k, LeO (gaolerlaw01_ModesApart.f k a0 a1 a2) (gaolerlaw01_ModesApart.f (k + 1) a0 a1 a2) := by
  intro a0 a1 a2 k
  have ih0 := gaolerlaw01_ModesApart.mono_l k
  unfold gaolerlaw01_ModesApart.f
  repeat' first
      | (with_reducible exact ih0 _ _ _ _ _)
      | (with_reducible exact LeO.refl _)
      | (with_reducible exact LeO.none _)
      | (with_reducible refine LeO.ite ?_ ?_)
      | (with_reducible refine LeO.bind ?_ (fun _ => ?_))
      | exact ih0 _ _ _ _ _
      | exact LeO.none _
      | refine LeO.ite ?_ ?_
      | refine LeO.bind ?_ (fun _ => ?_)
set_option maxHeartbeats 8000000 in
set_option maxRecDepth 100000 in
theorem gaolerlaw01_ModesApart.calls (k : Nat) (a0 : Int) (a1 : Int) (a2 : Int) (r : Bool) (w : World) (h : gaolerlaw01_ModesApart.f k a0 a1 a2 = some r) :
    Calls Try.prog 14 #[.int .u16 a0, .int .u8 a1, .int .u8 a2] w fun e w' => e = .returned (.bool r) ∧ Below w.heap.size w w' := by
  have HB := Aside0.mk (Below.refl w.heap.size w)
  have H : ((gaolerlaw01_awake.f).bind fun t328 => (if t328 = true then ((modes_With.f (wrap64 (Int.tmod a0 4096)) (wrap64 (Int.tmod a1 3)) (wrap64 (a2))).bind fun t329 => (gaolerlaw01_ModesApart.l0 k a2 (wrap64 (Int.tmod a0 4096)) (wrap64 (Int.tmod a1 3)) t329 0)) else (some false))) = some r := h
  clear h
  replace H := Option.bind_eq_some_iff.mp H
  obtain ⟨t328, A40, H⟩ := H
  replace H : (if t328 = true then ((modes_With.f (wrap64 (Int.tmod a0 4096)) (wrap64 (Int.tmod a1 3)) (wrap64 (a2))).bind fun t329 => (gaolerlaw01_ModesApart.l0 k a2 (wrap64 (Int.tmod a0 4096)) (wrap64 (Int.tmod a1 3)) t329 0)) else (some false)) = some r := H
  have A4 := Aside0.mk A40
  clear A40
  by_cases c5 : t328 = true
  · subst c5
    have H1 : ((modes_With.f (wrap64 (Int.tmod a0 4096)) (wrap64 (Int.tmod a1 3)) (wrap64 (a2))).bind fun t329 => (gaolerlaw01_ModesApart.l0 k a2 (wrap64 (Int.tmod a0 4096)) (wrap64 (Int.tmod a1 3)) t329 0)) = some r := by rw [if_pos rfl] at H; exact H
    clear H
    have H := H1
    clear H1
    replace H := Option.bind_eq_some_iff.mp H
    obtain ⟨t329, A60, H⟩ := H
    replace H : (gaolerlaw01_ModesApart.l0 k a2 (wrap64 (Int.tmod a0 4096)) (wrap64 (Int.tmod a1 3)) t329 0) = some r := H
    have A6 := Aside0.mk A60
    clear A60
    have H' := Aside0.mk H
    clear H
    go_enter Try.func14, Try.ntmps14
    go_wp2_with (first | ((with_reducible refine gate_callee (f := 34) rfl ?_); refine goesL_ (some 13) rfl rfl Try.func34 (by kernel_rfl) rfl #[] rfl (by (try simp only [List.map_toArray, List.map_cons, List.map_nil]); first | done | rfl | (simp only [List.length_drop, List.length_take]; rfl)) ?_; (with_reducible refine (gaolerlaw01_awake.calls  true _ A4.out).mono ?_); rintro e w7 ⟨rfl, hb⟩; refine ⟨_, rfl, ?_⟩; have n0_ := Aside0.mk (below_step (by repeat (first | (with_reducible first | exact HB.out | apply below_alloc | apply pw_below_drewN | apply below_drew1) | exact HB.out)) hb); clear HB; have HB := n0_; clear n0_; (try clear hb); (try clear hb2); (try clear hk); (try clear hi)) | ((with_reducible refine gate_callee (f := 28) rfl ?_); refine goesL_ (some 26) rfl rfl Try.func28 (by kernel_rfl) rfl #[.int .i64 (wrap64 (Int.tmod a0 4096)), .int .i64 (wrap64 (Int.tmod a1 3)), .int .i64 (wrap64 (a2))] rfl (by (try simp only [List.map_toArray, List.map_cons, List.map_nil]); first | done | rfl | (simp only [List.length_drop, List.length_take]; rfl)) ?_; (with_reducible refine (modes_With.calls (wrap64 (Int.tmod a0 4096)) (wrap64 (Int.tmod a1 3)) (wrap64 (a2)) t329 _ A6.out).mono ?_); rintro e w' ⟨rfl, ⟨nd, rfl⟩⟩; refine ⟨_, rfl, ?_⟩))
    go_loopg [11] k (fun kq v11 w' => ∃ (x11_1 : Int), v11 = .int .i64 x11_1 ∧ Aside0 (gaolerlaw01_ModesApart.l0 kq a2 (wrap64 (Int.tmod a0 4096)) (wrap64 (Int.tmod a1 3)) t329 x11_1 = some r) ∧ Aside0 (kq ≤ k) ∧ Aside0 (Below w.heap.size w w'))
    case atStart => exact ⟨(0), (by first | rfl | (simp; done) | (simp [*]; done)), H', ⟨Nat.le_refl _⟩, ⟨by repeat (first | (with_reducible first | exact HB.out | apply below_alloc | apply pw_below_drewN | apply below_drew1) | exact HB.out)⟩⟩
    case round =>
      clear H'
      try clear c1
      try clear c2
      try clear p2
      try clear c3
      try clear c5
      try clear p6
      obtain ⟨x11_1, rfl, HA, HK1, HB⟩ := hrel
      cases gk with
      | zero => exact absurd HA.out (by simp [gaolerlaw01_ModesApart.l0])
      | succ k1 =>
        have H := HA.out
        clear HA
        simp only [gaolerlaw01_ModesApart.l0] at H
        by_cases c8 : x11_1 < 3
        · rw [if_pos c8] at H
          have c8b0 : decide (x11_1 < 3) = true := decide_eq_true c8
          clear c8
          replace H := Option.bind_eq_some_iff.mp H
          obtain ⟨t330, A90, H⟩ := H
          replace H : (if x11_1 = (wrap64 (Int.tmod a1 3)) then ((modes_Class.f t329 x11_1).bind fun t331 => (if t331 = (wrap64 (Int.tmod a2 8)) then (gaolerlaw01_ModesApart.l0 k1 a2 (wrap64 (Int.tmod a0 4096)) (wrap64 (Int.tmod a1 3)) t329 (wrap64 (x11_1 + 1))) else (some false))) else ((modes_Class.f t329 x11_1).bind fun t332 => (if t332 = t330 then (gaolerlaw01_ModesApart.l0 k1 a2 (wrap64 (Int.tmod a0 4096)) (wrap64 (Int.tmod a1 3)) t329 (wrap64 (x11_1 + 1))) else (some false)))) = some r := H
          have A9 := Aside0.mk A90
          clear A90
          by_cases c10 : x11_1 = (wrap64 (Int.tmod a1 3))
          · rw [if_pos c10] at H
            have c10b0 : (x11_1 == (wrap64 (Int.tmod a1 3))) = true := beq_iff_eq.mpr c10
            have c10b1 : (x11_1 != (wrap64 (Int.tmod a1 3))) = false := bne_eq_false_iff_eq.mpr c10
            clear c10
            replace H := Option.bind_eq_some_iff.mp H
            obtain ⟨t331, A110, H⟩ := H
            replace H : (if t331 = (wrap64 (Int.tmod a2 8)) then (gaolerlaw01_ModesApart.l0 k1 a2 (wrap64 (Int.tmod a0 4096)) (wrap64 (Int.tmod a1 3)) t329 (wrap64 (x11_1 + 1))) else (some false)) = some r := H
            have A11 := Aside0.mk A110
            clear A110
            by_cases c12 : t331 = (wrap64 (Int.tmod a2 8))
            · rw [if_pos c12] at H
              have c12b0 : (t331 == (wrap64 (Int.tmod a2 8))) = true := beq_iff_eq.mpr c12
              have c12b1 : (t331 != (wrap64 (Int.tmod a2 8))) = false := bne_eq_false_iff_eq.mpr c12
              clear c12
              have H' := Aside0.mk H
              clear H
              go_wp2_with (first | ((with_reducible refine gate_callee (f := 29) rfl ?_); refine goesL_ (some 33) rfl rfl Try.func29 (by kernel_rfl) rfl #[.int .i64 (wrap64 (Int.tmod a0 4096)), .int .i64 x11_1] rfl (by (try simp only [List.map_toArray, List.map_cons, List.map_nil]); first | done | rfl | (simp only [List.length_drop, List.length_take]; rfl)) ?_; (with_reducible refine (modes_Class.calls (wrap64 (Int.tmod a0 4096)) x11_1 t330 _ A9.out).mono ?_); rintro e w' ⟨rfl, ⟨nd, rfl⟩⟩; refine ⟨_, rfl, ?_⟩) | ((with_reducible refine gate_callee (f := 29) rfl ?_); refine goesL_ (some 42) rfl rfl Try.func29 (by kernel_rfl) rfl #[.int .i64 t329, .int .i64 x11_1] rfl (by (try simp only [List.map_toArray, List.map_cons, List.map_nil]); first | done | rfl | (simp only [List.length_drop, List.length_take]; rfl)) ?_; (with_reducible refine (modes_Class.calls t329 x11_1 t331 _ A11.out).mono ?_); rintro e w' ⟨rfl, ⟨nd, rfl⟩⟩; refine ⟨_, rfl, ?_⟩))
              go_roundg k1
              case measure => have := HK1.out; omega
              case rel => exact ⟨(wrap64 (x11_1 + 1)), (by first | rfl | (simp; done) | (simp [*]; done)), H', ⟨by have := HK1.out; omega⟩, ⟨by repeat (first | (with_reducible first | exact HB.out | apply below_alloc | apply pw_below_drewN | apply below_drew1) | exact HB.out)⟩⟩
            · rw [if_neg c12] at H
              have c12b0 : (t331 == (wrap64 (Int.tmod a2 8))) = false := beq_eq_false_iff_ne.mpr c12
              have c12b1 : (t331 != (wrap64 (Int.tmod a2 8))) = true := bne_iff_ne.mpr c12
              obtain rfl := Option.some.inj H
              go_wp2_with (first | ((with_reducible refine gate_callee (f := 29) rfl ?_); refine goesL_ (some 33) rfl rfl Try.func29 (by kernel_rfl) rfl #[.int .i64 (wrap64 (Int.tmod a0 4096)), .int .i64 x11_1] rfl (by (try simp only [List.map_toArray, List.map_cons, List.map_nil]); first | done | rfl | (simp only [List.length_drop, List.length_take]; rfl)) ?_; (with_reducible refine (modes_Class.calls (wrap64 (Int.tmod a0 4096)) x11_1 t330 _ A9.out).mono ?_); rintro e w' ⟨rfl, ⟨nd, rfl⟩⟩; refine ⟨_, rfl, ?_⟩) | ((with_reducible refine gate_callee (f := 29) rfl ?_); refine goesL_ (some 42) rfl rfl Try.func29 (by kernel_rfl) rfl #[.int .i64 t329, .int .i64 x11_1] rfl (by (try simp only [List.map_toArray, List.map_cons, List.map_nil]); first | done | rfl | (simp only [List.length_drop, List.length_take]; rfl)) ?_; (with_reducible refine (modes_Class.calls t329 x11_1 t331 _ A11.out).mono ?_); rintro e w' ⟨rfl, ⟨nd, rfl⟩⟩; refine ⟨_, rfl, ?_⟩))
              go_ret
              exact ⟨by first | rfl | (simp [errW_none, errW_some] <;> rfl) | (simp [*, errW_none, errW_some] <;> rfl), by repeat (first | (with_reducible first | exact HB.out | apply below_alloc | apply pw_below_drewN | apply below_drew1) | exact HB.out)⟩
          · rw [if_neg c10] at H
            have c10b0 : (x11_1 == (wrap64 (Int.tmod a1 3))) = false := beq_eq_false_iff_ne.mpr c10
            have c10b1 : (x11_1 != (wrap64 (Int.tmod a1 3))) = true := bne_iff_ne.mpr c10
            replace H := Option.bind_eq_some_iff.mp H
            obtain ⟨t332, A130, H⟩ := H
            replace H : (if t332 = t330 then (gaolerlaw01_ModesApart.l0 k1 a2 (wrap64 (Int.tmod a0 4096)) (wrap64 (Int.tmod a1 3)) t329 (wrap64 (x11_1 + 1))) else (some false)) = some r := H
            have A13 := Aside0.mk A130
            clear A130
            by_cases c14 : t332 = t330
            · rw [if_pos c14] at H
              have c14b0 : (t332 == t330) = true := beq_iff_eq.mpr c14
              have c14b1 : (t332 != t330) = false := bne_eq_false_iff_eq.mpr c14
              clear c14
              have H' := Aside0.mk H
              clear H
              go_wp2_with (first | ((with_reducible refine gate_callee (f := 29) rfl ?_); refine goesL_ (some 33) rfl rfl Try.func29 (by kernel_rfl) rfl #[.int .i64 (wrap64 (Int.tmod a0 4096)), .int .i64 x11_1] rfl (by (try simp only [List.map_toArray, List.map_cons, List.map_nil]); first | done | rfl | (simp only [List.length_drop, List.length_take]; rfl)) ?_; (with_reducible refine (modes_Class.calls (wrap64 (Int.tmod a0 4096)) x11_1 t330 _ A9.out).mono ?_); rintro e w' ⟨rfl, ⟨nd, rfl⟩⟩; refine ⟨_, rfl, ?_⟩) | ((with_reducible refine gate_callee (f := 29) rfl ?_); refine goesL_ (some 42) rfl rfl Try.func29 (by kernel_rfl) rfl #[.int .i64 t329, .int .i64 x11_1] rfl (by (try simp only [List.map_toArray, List.map_cons, List.map_nil]); first | done | rfl | (simp only [List.length_drop, List.length_take]; rfl)) ?_; (with_reducible refine (modes_Class.calls t329 x11_1 t332 _ A13.out).mono ?_); rintro e w' ⟨rfl, ⟨nd, rfl⟩⟩; refine ⟨_, rfl, ?_⟩))
              go_roundg k1
              case measure => have := HK1.out; omega
              case rel => exact ⟨(wrap64 (x11_1 + 1)), (by first | rfl | (simp; done) | (simp [*]; done)), H', ⟨by have := HK1.out; omega⟩, ⟨by repeat (first | (with_reducible first | exact HB.out | apply below_alloc | apply pw_below_drewN | apply below_drew1) | exact HB.out)⟩⟩
            · rw [if_neg c14] at H
              have c14b0 : (t332 == t330) = false := beq_eq_false_iff_ne.mpr c14
              have c14b1 : (t332 != t330) = true := bne_iff_ne.mpr c14
              obtain rfl := Option.some.inj H
              go_wp2_with (first | ((with_reducible refine gate_callee (f := 29) rfl ?_); refine goesL_ (some 33) rfl rfl Try.func29 (by kernel_rfl) rfl #[.int .i64 (wrap64 (Int.tmod a0 4096)), .int .i64 x11_1] rfl (by (try simp only [List.map_toArray, List.map_cons, List.map_nil]); first | done | rfl | (simp only [List.length_drop, List.length_take]; rfl)) ?_; (with_reducible refine (modes_Class.calls (wrap64 (Int.tmod a0 4096)) x11_1 t330 _ A9.out).mono ?_); rintro e w' ⟨rfl, ⟨nd, rfl⟩⟩; refine ⟨_, rfl, ?_⟩) | ((with_reducible refine gate_callee (f := 29) rfl ?_); refine goesL_ (some 42) rfl rfl Try.func29 (by kernel_rfl) rfl #[.int .i64 t329, .int .i64 x11_1] rfl (by (try simp only [List.map_toArray, List.map_cons, List.map_nil]); first | done | rfl | (simp only [List.length_drop, List.length_take]; rfl)) ?_; (with_reducible refine (modes_Class.calls t329 x11_1 t332 _ A13.out).mono ?_); rintro e w' ⟨rfl, ⟨nd, rfl⟩⟩; refine ⟨_, rfl, ?_⟩))
              go_ret
              exact ⟨by first | rfl | (simp [errW_none, errW_some] <;> rfl) | (simp [*, errW_none, errW_some] <;> rfl), by repeat (first | (with_reducible first | exact HB.out | apply below_alloc | apply pw_below_drewN | apply below_drew1) | exact HB.out)⟩
        · rw [if_neg c8] at H
          have c8b0 : decide (x11_1 < 3) = false := decide_eq_false c8
          clear c8
          by_cases c15 : (wrap64 (Int.tdiv t329 512)) = (wrap64 (Int.tdiv (wrap64 (Int.tmod a0 4096)) 512))
          · rw [if_pos c15] at H
            have c15b0 : ((wrap64 (Int.tdiv t329 512)) == (wrap64 (Int.tdiv (wrap64 (Int.tmod a0 4096)) 512))) = true := beq_iff_eq.mpr c15
            have c15b1 : ((wrap64 (Int.tdiv t329 512)) != (wrap64 (Int.tdiv (wrap64 (Int.tmod a0 4096)) 512))) = false := bne_eq_false_iff_eq.mpr c15
            clear c15
            replace H := Option.bind_eq_some_iff.mp H
            obtain ⟨t333, A160, H⟩ := H
            replace H : ((modes_With.f t329 (wrap64 (Int.tmod a1 3)) t333).bind fun t334 => (if t334 = (wrap64 (Int.tmod a0 4096)) then ((modes_Class.f (wrap64 (Int.tmod a0 4096)) 0).bind fun t335 => ((modes_Class.f (wrap64 (Int.tmod a0 4096)) 1).bind fun t336 => ((modes_Class.f (wrap64 (Int.tmod a0 4096)) 2).bind fun t337 => (some ((wrap64 (Int.tmod a0 4096)) == (wrap64 ((wrap64 ((wrap64 ((wrap64 ((wrap64 (Int.tdiv (wrap64 (Int.tmod a0 4096)) 512)) * 512)) + (wrap64 (t335 * 64)))) + (wrap64 (t336 * 8)))) + t337))))))) else (some false))) = some r := H
            have A16 := Aside0.mk A160
            clear A160
            replace H := Option.bind_eq_some_iff.mp H
            obtain ⟨t334, A170, H⟩ := H
            replace H : (if t334 = (wrap64 (Int.tmod a0 4096)) then ((modes_Class.f (wrap64 (Int.tmod a0 4096)) 0).bind fun t335 => ((modes_Class.f (wrap64 (Int.tmod a0 4096)) 1).bind fun t336 => ((modes_Class.f (wrap64 (Int.tmod a0 4096)) 2).bind fun t337 => (some ((wrap64 (Int.tmod a0 4096)) == (wrap64 ((wrap64 ((wrap64 ((wrap64 ((wrap64 (Int.tdiv (wrap64 (Int.tmod a0 4096)) 512)) * 512)) + (wrap64 (t335 * 64)))) + (wrap64 (t336 * 8)))) + t337))))))) else (some false)) = some r := H
            have A17 := Aside0.mk A170
            clear A170
            by_cases c18 : t334 = (wrap64 (Int.tmod a0 4096))
            · rw [if_pos c18] at H
              have c18b0 : (t334 == (wrap64 (Int.tmod a0 4096))) = true := beq_iff_eq.mpr c18
              have c18b1 : (t334 != (wrap64 (Int.tmod a0 4096))) = false := bne_eq_false_iff_eq.mpr c18
              clear c18
              replace H := Option.bind_eq_some_iff.mp H
              obtain ⟨t335, A190, H⟩ := H
              replace H : ((modes_Class.f (wrap64 (Int.tmod a0 4096)) 1).bind fun t336 => ((modes_Class.f (wrap64 (Int.tmod a0 4096)) 2).bind fun t337 => (some ((wrap64 (Int.tmod a0 4096)) == (wrap64 ((wrap64 ((wrap64 ((wrap64 ((wrap64 (Int.tdiv (wrap64 (Int.tmod a0 4096)) 512)) * 512)) + (wrap64 (t335 * 64)))) + (wrap64 (t336 * 8)))) + t337)))))) = some r := H
              have A19 := Aside0.mk A190
              clear A190
              replace H := Option.bind_eq_some_iff.mp H
              obtain ⟨t336, A200, H⟩ := H
              replace H : ((modes_Class.f (wrap64 (Int.tmod a0 4096)) 2).bind fun t337 => (some ((wrap64 (Int.tmod a0 4096)) == (wrap64 ((wrap64 ((wrap64 ((wrap64 ((wrap64 (Int.tdiv (wrap64 (Int.tmod a0 4096)) 512)) * 512)) + (wrap64 (t335 * 64)))) + (wrap64 (t336 * 8)))) + t337))))) = some r := H
              have A20 := Aside0.mk A200
              clear A200
              replace H := Option.bind_eq_some_iff.mp H
              obtain ⟨t337, A210, H⟩ := H
              replace H : (some ((wrap64 (Int.tmod a0 4096)) == (wrap64 ((wrap64 ((wrap64 ((wrap64 ((wrap64 (Int.tdiv (wrap64 (Int.tmod a0 4096)) 512)) * 512)) + (wrap64 (t335 * 64)))) + (wrap64 (t336 * 8)))) + t337)))) = some r := H
              have A21 := Aside0.mk A210
              clear A210
              obtain rfl := Option.some.inj H
              go_wp2_with (first | (go_at_call 29; (with_reducible refine (modes_Class.calls (wrap64 (Int.tmod a0 4096)) (wrap64 (Int.tmod a1 3)) t333 _ A16.out).mono ?_); rintro e w' ⟨rfl, ⟨nd, rfl⟩⟩) | (go_at_call 28; (with_reducible refine (modes_With.calls t329 (wrap64 (Int.tmod a1 3)) t333 t334 _ A17.out).mono ?_); rintro e w' ⟨rfl, ⟨nd, rfl⟩⟩) | (go_at_call 29; (with_reducible refine (modes_Class.calls (wrap64 (Int.tmod a0 4096)) 0 t335 _ A19.out).mono ?_); rintro e w' ⟨rfl, ⟨nd, rfl⟩⟩) | (go_at_call 29; (with_reducible refine (modes_Class.calls (wrap64 (Int.tmod a0 4096)) 1 t336 _ A20.out).mono ?_); rintro e w' ⟨rfl, ⟨nd, rfl⟩⟩) | (go_at_call 29; (with_reducible refine (modes_Class.calls (wrap64 (Int.tmod a0 4096)) 2 t337 _ A21.out).mono ?_); rintro e w' ⟨rfl, ⟨nd, rfl⟩⟩))
              go_ret
              exact ⟨by first | rfl | (simp [errW_none, errW_some] <;> rfl) | (simp [*, errW_none, errW_some] <;> rfl), by repeat (first | (with_reducible first | exact HB.out | apply below_alloc | apply pw_below_drewN | apply below_drew1) | exact HB.out)⟩
            · rw [if_neg c18] at H
              have c18b0 : (t334 == (wrap64 (Int.tmod a0 4096))) = false := beq_eq_false_iff_ne.mpr c18
              have c18b1 : (t334 != (wrap64 (Int.tmod a0 4096))) = true := bne_iff_ne.mpr c18
              obtain rfl := Option.some.inj H
              go_wp2_with (first | (go_at_call 29; (with_reducible refine (modes_Class.calls (wrap64 (Int.tmod a0 4096)) (wrap64 (Int.tmod a1 3)) t333 _ A16.out).mono ?_); rintro e w' ⟨rfl, ⟨nd, rfl⟩⟩) | (go_at_call 28; (with_reducible refine (modes_With.calls t329 (wrap64 (Int.tmod a1 3)) t333 t334 _ A17.out).mono ?_); rintro e w' ⟨rfl, ⟨nd, rfl⟩⟩))
              go_ret
              exact ⟨by first | rfl | (simp [errW_none, errW_some] <;> rfl) | (simp [*, errW_none, errW_some] <;> rfl), by repeat (first | (with_reducible first | exact HB.out | apply below_alloc | apply pw_below_drewN | apply below_drew1) | exact HB.out)⟩
          · rw [if_neg c15] at H
            have c15b0 : ((wrap64 (Int.tdiv t329 512)) == (wrap64 (Int.tdiv (wrap64 (Int.tmod a0 4096)) 512))) = false := beq_eq_false_iff_ne.mpr c15
            have c15b1 : ((wrap64 (Int.tdiv t329 512)) != (wrap64 (Int.tdiv (wrap64 (Int.tmod a0 4096)) 512))) = true := bne_iff_ne.mpr c15
            obtain rfl := Option.some.inj H
            go_wp2
            go_ret
            exact ⟨by first | rfl | (simp [errW_none, errW_some] <;> rfl) | (simp [*, errW_none, errW_some] <;> rfl), by repeat (first | (with_reducible first | exact HB.out | apply below_alloc | apply pw_below_drewN | apply below_drew1) | exact HB.out)⟩
  · replace c5 := Bool.eq_false_iff.mpr c5
    subst c5
    have H1 : (some false) = some r := by rw [if_neg (show ¬ (false = true) by decide)] at H; exact H
    clear H
    have H := H1
    clear H1
    obtain rfl := Option.some.inj H
    go_enter Try.func14, Try.ntmps14
    go_wp2_with (first | ((with_reducible refine gate_callee (f := 34) rfl ?_); refine goesL_ (some 13) rfl rfl Try.func34 (by kernel_rfl) rfl #[] rfl (by (try simp only [List.map_toArray, List.map_cons, List.map_nil]); first | done | rfl | (simp only [List.length_drop, List.length_take]; rfl)) ?_; (with_reducible refine (gaolerlaw01_awake.calls  false _ A4.out).mono ?_); rintro e w22 ⟨rfl, hb⟩; refine ⟨_, rfl, ?_⟩; have n0_ := Aside0.mk (below_step (by repeat (first | (with_reducible first | exact HB.out | apply below_alloc | apply pw_below_drewN | apply below_drew1) | exact HB.out)) hb); clear HB; have HB := n0_; clear n0_; (try clear hb); (try clear hb2); (try clear hk); (try clear hi)))
    go_ret
    exact ⟨by first | rfl | (simp [errW_none, errW_some] <;> rfl) | (simp [*, errW_none, errW_some] <;> rfl), by repeat (first | (with_reducible first | exact HB.out | apply below_alloc | apply pw_below_drewN | apply below_drew1) | exact HB.out)⟩

/-- THE ONE PURE STATEMENT of gaolerlaw01_ModesApart: yours. -/
def gaolerlaw01_ModesApart.Pure : Prop := ∀ (a0 : Int) (a1 : Int) (a2 : Int), (Lit.int .u16 a0).wf = true → (Lit.int .u8 a1).wf = true → (Lit.int .u8 a2).wf = true → ∃ k, gaolerlaw01_ModesApart.f k a0 a1 a2 = some true
theorem gaolerlaw01_ModesApart.walk (P : gaolerlaw01_ModesApart.Pure) (a0 : Int) (a1 : Int) (a2 : Int) (w : World) (w0 : (Lit.int .u16 a0).wf = true) (w1 : (Lit.int .u8 a1).wf = true) (w2 : (Lit.int .u8 a2).wf = true) :
    Calls Try.prog 14 #[.int .u16 a0, .int .u8 a1, .int .u8 a2] w fun e w' => e = .returned (.bool true) ∧ Below w.heap.size w w' := by
  obtain ⟨k, h⟩ := P a0 a1 a2 w0 w1 w2
  refine (gaolerlaw01_ModesApart.calls k a0 a1 a2 true w h).mono ?_
  rintro e w' ⟨rfl, hd⟩
  exact ⟨rfl, hd⟩

end Go.Proofs.Ytbbobjchokffbaa.S
