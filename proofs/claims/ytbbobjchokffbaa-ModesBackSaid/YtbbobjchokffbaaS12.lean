-- Written by wip/tools/myprint.py, a session's own driver of the kit's printer.
import Derived.Test.YtbbobjchokffbaaS0
import Derived.Test.YtbbobjchokffbaaS2
import Derived.Test.YtbbobjchokffbaaS10
import Derived.Test.YtbbobjchokffbaaS11
namespace Go.Proofs.Ytbbobjchokffbaa.S
open Go.RowKit Go.Proofs.YtbbobjchokffbaaW.PrintWords Go.Proofs.YtbbobjchokffbaaW.PrintLast Go.Proofs.YtbbobjchokffbaaW.PrintMore
attribute [local go_sem] max2_int min2_int max_two min_two max_three min_three max_four min_four   -- for this text's walks alone
set_option linter.unusedVariables false
set_option linter.unusedSimpArgs false

/-! ### gaolerref01_Show: function 36 -/
mutual
def gaolerref01_Show.j0 : Nat → Int → Int → ByteArray → Option (ByteArray)
  | 0, _, _, _ => none
  | k + 1, x0, x1, x5 => if x0 = 2 then (gaolerref01_Show.j1 k x0 x1 (⟨#[100]⟩ : ByteArray)) else (gaolerref01_Show.j1 k x0 x1 x5)
def gaolerref01_Show.j1 : Nat → Int → Int → ByteArray → Option (ByteArray)
  | 0, _, _, _ => none
  | k + 1, x0, x1, x5 => if x0 = 3 then (gaolerref01_Show.j2 k x1 (⟨#[108]⟩ : ByteArray)) else (gaolerref01_Show.j2 k x1 x5)
def gaolerref01_Show.j2 : Nat → Int → ByteArray → Option (ByteArray)
  | 0, _, _ => none
  | k + 1, x1, x5 => (gaolerref01_Low.f x1).bind fun t272 => ((gaolerref01_Class.f x1 0).bind fun t273 => ((gaolerref01_three.f t273 ((wrap64 (Int.tdiv (wrap64 (Int.tdiv t272 512)) 4)) == 1) (⟨#[115]⟩ : ByteArray) (⟨#[83]⟩ : ByteArray)).bind fun t274 => (if x5.size + t274.size ≤ 9223372036854775807 then ((gaolerref01_Class.f x1 1).bind fun t275 => ((gaolerref01_three.f t275 ((Int.tmod (wrap64 (Int.tdiv (wrap64 (Int.tdiv t272 512)) 2)) 2) == 1) (⟨#[115]⟩ : ByteArray) (⟨#[83]⟩ : ByteArray)).bind fun t276 => (if (x5 ++ t274).size + t276.size ≤ 9223372036854775807 then ((gaolerref01_Class.f x1 2).bind fun t277 => ((gaolerref01_three.f t277 ((Int.tmod (wrap64 (Int.tdiv t272 512)) 2) == 1) (⟨#[116]⟩ : ByteArray) (⟨#[84]⟩ : ByteArray)).bind fun t278 => (if ((x5 ++ t274) ++ t276).size + t278.size ≤ 9223372036854775807 then (some (((x5 ++ t274) ++ t276) ++ t278)) else (none)))) else (none)))) else (none))))
end
def gaolerref01_Show.f (k : Nat) (a0 : Int) (a1 : Int) : Option (ByteArray) := if a0 = 1 then (gaolerref01_Show.j0 k a0 a1 (⟨#[45]⟩ : ByteArray)) else (gaolerref01_Show.j0 k a0 a1 (⟨#[63]⟩ : ByteArray))
theorem gaolerref01_Show.mono_l : ∀ k, (∀ y0 y1 y2, LeO (gaolerref01_Show.j0 k y0 y1 y2) (gaolerref01_Show.j0 (k + 1) y0 y1 y2)) ∧ (∀ y0 y1 y2, LeO (gaolerref01_Show.j1 k y0 y1 y2) (gaolerref01_Show.j1 (k + 1) y0 y1 y2)) ∧ (∀ y0 y1, LeO (gaolerref01_Show.j2 k y0 y1) (gaolerref01_Show.j2 (k + 1) y0 y1))
  | 0 => ⟨fun _ _ _ r h => by simp [gaolerref01_Show.j0] at h, fun _ _ _ r h => by simp [gaolerref01_Show.j1] at h, fun _ _ r h => by simp [gaolerref01_Show.j2] at h⟩
  | k + 1 => by
    obtain ⟨ih0, ih1, ih2⟩ := gaolerref01_Show.mono_l k
    refine ⟨?_, ?_, ?_⟩
    · intro y0 y1 y2
      unfold gaolerref01_Show.j0
      repeat' first
      | (with_reducible exact ih0 _ _ _)
      | (with_reducible exact ih1 _ _ _)
      | (with_reducible exact ih2 _ _)
      | (with_reducible exact LeO.refl _)
      | (with_reducible exact LeO.none _)
      | (with_reducible refine LeO.ite ?_ ?_)
      | (with_reducible refine LeO.bind ?_ (fun _ => ?_))
      | exact ih0 _ _ _
      | exact ih1 _ _ _
      | exact ih2 _ _
      | exact LeO.none _
      | refine LeO.ite ?_ ?_
      | refine LeO.bind ?_ (fun _ => ?_)
    · intro y0 y1 y2
      unfold gaolerref01_Show.j1
      repeat' first
      | (with_reducible exact ih0 _ _ _)
      | (with_reducible exact ih1 _ _ _)
      | (with_reducible exact ih2 _ _)
      | (with_reducible exact LeO.refl _)
      | (with_reducible exact LeO.none _)
      | (with_reducible refine LeO.ite ?_ ?_)
      | (with_reducible refine LeO.bind ?_ (fun _ => ?_))
      | exact ih0 _ _ _
      | exact ih1 _ _ _
      | exact ih2 _ _
      | exact LeO.none _
      | refine LeO.ite ?_ ?_
      | refine LeO.bind ?_ (fun _ => ?_)
    · intro y0 y1
      unfold gaolerref01_Show.j2
      repeat' first
      | (with_reducible exact ih0 _ _ _)
      | (with_reducible exact ih1 _ _ _)
      | (with_reducible exact ih2 _ _)
      | (with_reducible exact LeO.refl _)
      | (with_reducible exact LeO.none _)
      | (with_reducible refine LeO.ite ?_ ?_)
      | (with_reducible refine LeO.bind ?_ (fun _ => ?_))
      | exact ih0 _ _ _
      | exact ih1 _ _ _
      | exact ih2 _ _
      | exact LeO.none _
      | refine LeO.ite ?_ ?_
      | refine LeO.bind ?_ (fun _ => ?_)
theorem gaolerref01_Show.mono : ∀ a0 a1 k, LeO (gaolerref01_Show.f k a0 a1) (gaolerref01_Show.f (k + 1) a0 a1) := by
  intro a0 a1 k
  obtain ⟨ih0, ih1, ih2⟩ := gaolerref01_Show.mono_l k
  unfold gaolerref01_Show.f
  repeat' first
      | (with_reducible exact ih0 _ _ _)
      | (with_reducible exact ih1 _ _ _)
      | (with_reducible exact ih2 _ _)
      | (with_reducible exact LeO.refl _)
      | (with_reducible exact LeO.none _)
      | (with_reducible refine LeO.ite ?_ ?_)
      | (with_reducible refine LeO.bind ?_ (fun _ => ?_))
      | exact ih0 _ _ _
      | exact ih1 _ _ _
      | exact ih2 _ _
      | exact LeO.none _
      | refine LeO.ite ?_ ?_
      | refine LeO.bind ?_ (fun _ => ?_)
set_option maxHeartbeats 8000000 in
set_option maxRecDepth 100000 in
theorem gaolerref01_Show.calls (k : Nat) (a0 : Int) (a1 : Int) (r : ByteArray) (w : World) (h : gaolerref01_Show.f k a0 a1 = some r) :
    Calls Try.prog 36 #[.int .i64 a0, .int .i64 a1] w fun e w' => e = .returned (.string r) ∧ Drawn0 w w' := by
  have H : (if a0 = 1 then (gaolerref01_Show.j0 k a0 a1 (⟨#[45]⟩ : ByteArray)) else (gaolerref01_Show.j0 k a0 a1 (⟨#[63]⟩ : ByteArray))) = some r := h
  clear h
  have HC3 := Aside0.mk H
  clear H
  go_enter Try.func36, Try.ntmps36
  go_upto_if 8 with (fail)
  go_cut [5] (fun v5 wc => ∃ (kq : Nat) (x5_2 : ByteArray), v5 = .string x5_2 ∧ Aside0 (gaolerref01_Show.j0 kq a0 a1 x5_2 = some r) ∧ Aside0 (kq ≤ k) ∧ Drawn0 w wc)
  case first =>
    have H := HC3.out
    clear HC3
    by_cases c4 : a0 = 1
    · rw [if_pos c4] at H
      have c4b0 : (a0 == 1) = true := beq_iff_eq.mpr c4
      have c4b1 : (a0 != 1) = false := bne_eq_false_iff_eq.mpr c4
      clear c4
      (first | rw [c4b0] | (simp only [i64_w, i32_w]; rw [c4b0]) | skip)
      have H' := Aside0.mk H
      clear H
      go_wp2
      go_meet
      case rel => exact ⟨_, ((⟨#[45]⟩ : ByteArray)), (by first | rfl | (simp; done) | (simp [*]; done)), H', ⟨by first | omega | exact Nat.le_refl _⟩, by repeat (first | exact Drawn0.refl _ | apply Drawn0.step)⟩
    · rw [if_neg c4] at H
      have c4b0 : (a0 == 1) = false := beq_eq_false_iff_ne.mpr c4
      have c4b1 : (a0 != 1) = true := bne_iff_ne.mpr c4
      (first | rw [c4b0] | (simp only [i64_w, i32_w]; rw [c4b0]) | skip)
      have H' := Aside0.mk H
      clear H
      go_wp2
      go_meet
      case rel => exact ⟨_, ((⟨#[63]⟩ : ByteArray)), (by first | rfl | (simp; done) | (simp [*]; done)), H', ⟨by first | omega | exact Nat.le_refl _⟩, by repeat (first | exact Drawn0.refl _ | apply Drawn0.step)⟩
  case rest =>
    clear HC3
    try clear p2
    try clear c3
    try clear c4
    try clear c4b0
    try clear c4b1
    obtain ⟨kq, x5_2, rfl, HA, HJ2, ⟨mc2, rfl⟩⟩ := hcut
    cases kq with
    | zero => exact absurd HA.out (by simp [gaolerref01_Show.j0])
    | succ kj2 =>
      have H := HA.out
      clear HA
      simp only [gaolerref01_Show.j0] at H
      have HC5 := Aside0.mk H
      clear H
      go_upto_if 10 with (fail)
      go_cut [5] (fun v5 wc => ∃ (kq : Nat) (x5_4 : ByteArray), v5 = .string x5_4 ∧ Aside0 (gaolerref01_Show.j1 kq a0 a1 x5_4 = some r) ∧ Aside0 (kq ≤ kj2) ∧ Drawn0 w wc)
      case first =>
        have H := HC5.out
        clear HC5
        by_cases c6 : a0 = 2
        · rw [if_pos c6] at H
          have c6b0 : (a0 == 2) = true := beq_iff_eq.mpr c6
          have c6b1 : (a0 != 2) = false := bne_eq_false_iff_eq.mpr c6
          clear c6
          (first | rw [c6b0] | (simp only [i64_w, i32_w]; rw [c6b0]) | skip)
          have H' := Aside0.mk H
          clear H
          go_wp2
          go_meet
          case rel => exact ⟨_, ((⟨#[100]⟩ : ByteArray)), (by first | rfl | (simp; done) | (simp [*]; done)), H', ⟨by have := HJ2.out; first | omega | exact Nat.le_refl _⟩, by repeat (first | exact Drawn0.refl _ | apply Drawn0.step)⟩
        · rw [if_neg c6] at H
          have c6b0 : (a0 == 2) = false := beq_eq_false_iff_ne.mpr c6
          have c6b1 : (a0 != 2) = true := bne_iff_ne.mpr c6
          (first | rw [c6b0] | (simp only [i64_w, i32_w]; rw [c6b0]) | skip)
          have H' := Aside0.mk H
          clear H
          go_wp2
          go_meet
          case rel => exact ⟨_, (x5_2), (by first | rfl | (simp; done) | (simp [*]; done)), H', ⟨by have := HJ2.out; first | omega | exact Nat.le_refl _⟩, by repeat (first | exact Drawn0.refl _ | apply Drawn0.step)⟩
      case rest =>
        clear HC5
        try clear c2
        try clear p2
        try clear c3
        try clear c4
        try clear c4b0
        try clear c4b1
        try clear c6
        try clear c6b0
        try clear c6b1
        try clear p2
        obtain ⟨kq, x5_4, rfl, HA, HJ4, ⟨mc4, rfl⟩⟩ := hcut
        cases kq with
        | zero => exact absurd HA.out (by simp [gaolerref01_Show.j1])
        | succ kj4 =>
          have H := HA.out
          clear HA
          simp only [gaolerref01_Show.j1] at H
          have HC7 := Aside0.mk H
          clear H
          go_upto_if 12 with (fail)
          go_cut [5] (fun v5 wc => ∃ (kq : Nat) (x5_6 : ByteArray), v5 = .string x5_6 ∧ Aside0 (gaolerref01_Show.j2 kq a1 x5_6 = some r) ∧ Aside0 (kq ≤ kj4) ∧ Drawn0 w wc)
          case first =>
            have H := HC7.out
            clear HC7
            by_cases c8 : a0 = 3
            · rw [if_pos c8] at H
              have c8b0 : (a0 == 3) = true := beq_iff_eq.mpr c8
              have c8b1 : (a0 != 3) = false := bne_eq_false_iff_eq.mpr c8
              clear c8
              (first | rw [c8b0] | (simp only [i64_w, i32_w]; rw [c8b0]) | skip)
              have H' := Aside0.mk H
              clear H
              go_wp2
              go_meet
              case rel => exact ⟨_, ((⟨#[108]⟩ : ByteArray)), (by first | rfl | (simp; done) | (simp [*]; done)), H', ⟨by have := HJ2.out; have := HJ4.out; first | omega | exact Nat.le_refl _⟩, by repeat (first | exact Drawn0.refl _ | apply Drawn0.step)⟩
            · rw [if_neg c8] at H
              have c8b0 : (a0 == 3) = false := beq_eq_false_iff_ne.mpr c8
              have c8b1 : (a0 != 3) = true := bne_iff_ne.mpr c8
              (first | rw [c8b0] | (simp only [i64_w, i32_w]; rw [c8b0]) | skip)
              have H' := Aside0.mk H
              clear H
              go_wp2
              go_meet
              case rel => exact ⟨_, (x5_4), (by first | rfl | (simp; done) | (simp [*]; done)), H', ⟨by have := HJ2.out; have := HJ4.out; first | omega | exact Nat.le_refl _⟩, by repeat (first | exact Drawn0.refl _ | apply Drawn0.step)⟩
          case rest =>
            clear HC7
            try clear c2
            try clear p2
            try clear c3
            try clear c4
            try clear c4b0
            try clear c4b1
            try clear c6
            try clear c6b0
            try clear c6b1
            try clear c8
            try clear c8b0
            try clear c8b1
            try clear p2
            obtain ⟨kq, x5_6, rfl, HA, HJ6, ⟨mc6, rfl⟩⟩ := hcut
            cases kq with
            | zero => exact absurd HA.out (by simp [gaolerref01_Show.j2])
            | succ kj6 =>
              have H := HA.out
              clear HA
              simp only [gaolerref01_Show.j2] at H
              replace H := Option.bind_eq_some_iff.mp H
              obtain ⟨t272, A90, H⟩ := H
              replace H : ((gaolerref01_Class.f a1 0).bind fun t273 => ((gaolerref01_three.f t273 ((wrap64 (Int.tdiv (wrap64 (Int.tdiv t272 512)) 4)) == 1) (⟨#[115]⟩ : ByteArray) (⟨#[83]⟩ : ByteArray)).bind fun t274 => (if x5_6.size + t274.size ≤ 9223372036854775807 then ((gaolerref01_Class.f a1 1).bind fun t275 => ((gaolerref01_three.f t275 ((Int.tmod (wrap64 (Int.tdiv (wrap64 (Int.tdiv t272 512)) 2)) 2) == 1) (⟨#[115]⟩ : ByteArray) (⟨#[83]⟩ : ByteArray)).bind fun t276 => (if (x5_6 ++ t274).size + t276.size ≤ 9223372036854775807 then ((gaolerref01_Class.f a1 2).bind fun t277 => ((gaolerref01_three.f t277 ((Int.tmod (wrap64 (Int.tdiv t272 512)) 2) == 1) (⟨#[116]⟩ : ByteArray) (⟨#[84]⟩ : ByteArray)).bind fun t278 => (if ((x5_6 ++ t274) ++ t276).size + t278.size ≤ 9223372036854775807 then (some (((x5_6 ++ t274) ++ t276) ++ t278)) else (none)))) else (none)))) else (none)))) = some r := H
              have A9 := Aside0.mk A90
              clear A90
              replace H := Option.bind_eq_some_iff.mp H
              obtain ⟨t273, A100, H⟩ := H
              replace H : ((gaolerref01_three.f t273 ((wrap64 (Int.tdiv (wrap64 (Int.tdiv t272 512)) 4)) == 1) (⟨#[115]⟩ : ByteArray) (⟨#[83]⟩ : ByteArray)).bind fun t274 => (if x5_6.size + t274.size ≤ 9223372036854775807 then ((gaolerref01_Class.f a1 1).bind fun t275 => ((gaolerref01_three.f t275 ((Int.tmod (wrap64 (Int.tdiv (wrap64 (Int.tdiv t272 512)) 2)) 2) == 1) (⟨#[115]⟩ : ByteArray) (⟨#[83]⟩ : ByteArray)).bind fun t276 => (if (x5_6 ++ t274).size + t276.size ≤ 9223372036854775807 then ((gaolerref01_Class.f a1 2).bind fun t277 => ((gaolerref01_three.f t277 ((Int.tmod (wrap64 (Int.tdiv t272 512)) 2) == 1) (⟨#[116]⟩ : ByteArray) (⟨#[84]⟩ : ByteArray)).bind fun t278 => (if ((x5_6 ++ t274) ++ t276).size + t278.size ≤ 9223372036854775807 then (some (((x5_6 ++ t274) ++ t276) ++ t278)) else (none)))) else (none)))) else (none))) = some r := H
              have A10 := Aside0.mk A100
              clear A100
              replace H := Option.bind_eq_some_iff.mp H
              obtain ⟨t274, A110, H⟩ := H
              replace H : (if x5_6.size + t274.size ≤ 9223372036854775807 then ((gaolerref01_Class.f a1 1).bind fun t275 => ((gaolerref01_three.f t275 ((Int.tmod (wrap64 (Int.tdiv (wrap64 (Int.tdiv t272 512)) 2)) 2) == 1) (⟨#[115]⟩ : ByteArray) (⟨#[83]⟩ : ByteArray)).bind fun t276 => (if (x5_6 ++ t274).size + t276.size ≤ 9223372036854775807 then ((gaolerref01_Class.f a1 2).bind fun t277 => ((gaolerref01_three.f t277 ((Int.tmod (wrap64 (Int.tdiv t272 512)) 2) == 1) (⟨#[116]⟩ : ByteArray) (⟨#[84]⟩ : ByteArray)).bind fun t278 => (if ((x5_6 ++ t274) ++ t276).size + t278.size ≤ 9223372036854775807 then (some (((x5_6 ++ t274) ++ t276) ++ t278)) else (none)))) else (none)))) else (none)) = some r := H
              have A11 := Aside0.mk A110
              clear A110
              by_cases c12 : x5_6.size + t274.size ≤ 9223372036854775807
              · rw [if_pos c12] at H
                have c12b0 := eq_true c12
                have c12b1 : decide (x5_6.size + t274.size ≤ 9223372036854775807) = true := decide_eq_true c12
                try have c12b2 : (9223372036854775807 < x5_6.size + t274.size) = False := eq_false (Nat.not_lt.2 c12)
                replace H := Option.bind_eq_some_iff.mp H
                obtain ⟨t275, A130, H⟩ := H
                replace H : ((gaolerref01_three.f t275 ((Int.tmod (wrap64 (Int.tdiv (wrap64 (Int.tdiv t272 512)) 2)) 2) == 1) (⟨#[115]⟩ : ByteArray) (⟨#[83]⟩ : ByteArray)).bind fun t276 => (if (x5_6 ++ t274).size + t276.size ≤ 9223372036854775807 then ((gaolerref01_Class.f a1 2).bind fun t277 => ((gaolerref01_three.f t277 ((Int.tmod (wrap64 (Int.tdiv t272 512)) 2) == 1) (⟨#[116]⟩ : ByteArray) (⟨#[84]⟩ : ByteArray)).bind fun t278 => (if ((x5_6 ++ t274) ++ t276).size + t278.size ≤ 9223372036854775807 then (some (((x5_6 ++ t274) ++ t276) ++ t278)) else (none)))) else (none))) = some r := H
                have A13 := Aside0.mk A130
                clear A130
                replace H := Option.bind_eq_some_iff.mp H
                obtain ⟨t276, A140, H⟩ := H
                replace H : (if (x5_6 ++ t274).size + t276.size ≤ 9223372036854775807 then ((gaolerref01_Class.f a1 2).bind fun t277 => ((gaolerref01_three.f t277 ((Int.tmod (wrap64 (Int.tdiv t272 512)) 2) == 1) (⟨#[116]⟩ : ByteArray) (⟨#[84]⟩ : ByteArray)).bind fun t278 => (if ((x5_6 ++ t274) ++ t276).size + t278.size ≤ 9223372036854775807 then (some (((x5_6 ++ t274) ++ t276) ++ t278)) else (none)))) else (none)) = some r := H
                have A14 := Aside0.mk A140
                clear A140
                by_cases c15 : (x5_6 ++ t274).size + t276.size ≤ 9223372036854775807
                · rw [if_pos c15] at H
                  have c15b0 := eq_true c15
                  have c15b1 : decide ((x5_6 ++ t274).size + t276.size ≤ 9223372036854775807) = true := decide_eq_true c15
                  try have c15b2 : (9223372036854775807 < (x5_6 ++ t274).size + t276.size) = False := eq_false (Nat.not_lt.2 c15)
                  (try (have c15b3 := c15b2; simp only [ByteArray.size_append] at c15b3))
                  replace H := Option.bind_eq_some_iff.mp H
                  obtain ⟨t277, A160, H⟩ := H
                  replace H : ((gaolerref01_three.f t277 ((Int.tmod (wrap64 (Int.tdiv t272 512)) 2) == 1) (⟨#[116]⟩ : ByteArray) (⟨#[84]⟩ : ByteArray)).bind fun t278 => (if ((x5_6 ++ t274) ++ t276).size + t278.size ≤ 9223372036854775807 then (some (((x5_6 ++ t274) ++ t276) ++ t278)) else (none))) = some r := H
                  have A16 := Aside0.mk A160
                  clear A160
                  replace H := Option.bind_eq_some_iff.mp H
                  obtain ⟨t278, A170, H⟩ := H
                  replace H : (if ((x5_6 ++ t274) ++ t276).size + t278.size ≤ 9223372036854775807 then (some (((x5_6 ++ t274) ++ t276) ++ t278)) else (none)) = some r := H
                  have A17 := Aside0.mk A170
                  clear A170
                  by_cases c18 : ((x5_6 ++ t274) ++ t276).size + t278.size ≤ 9223372036854775807
                  · rw [if_pos c18] at H
                    have c18b0 := eq_true c18
                    have c18b1 : decide (((x5_6 ++ t274) ++ t276).size + t278.size ≤ 9223372036854775807) = true := decide_eq_true c18
                    try have c18b2 : (9223372036854775807 < ((x5_6 ++ t274) ++ t276).size + t278.size) = False := eq_false (Nat.not_lt.2 c18)
                    (try (have c18b3 := c18b2; simp only [ByteArray.size_append] at c18b3))
                    obtain rfl := Option.some.inj H
                    go_wp2_with (first | ((with_reducible refine gate_callee (f := 48) rfl ?_); refine goesL_ (some 14) rfl rfl Try.func48 (by kernel_rfl) rfl #[.int .i64 a1] rfl (by (try simp only [List.map_toArray, List.map_cons, List.map_nil]); first | done | rfl | (simp only [List.length_drop, List.length_take]; rfl)) ?_; (with_reducible refine (gaolerref01_Low.calls a1 t272 _ A9.out).mono ?_); rintro e w' ⟨rfl, ⟨nd, rfl⟩⟩; refine ⟨_, rfl, ?_⟩) | ((with_reducible refine gate_callee (f := 42) rfl ?_); refine goesL_ (some 18) rfl rfl Try.func42 (by kernel_rfl) rfl #[.int .i64 a1, .int .i64 0] rfl (by (try simp only [List.map_toArray, List.map_cons, List.map_nil]); first | done | rfl | (simp only [List.length_drop, List.length_take]; rfl)) ?_; (with_reducible refine (gaolerref01_Class.calls a1 0 t273 _ A10.out).mono ?_); rintro e w' ⟨rfl, ⟨nd, rfl⟩⟩; refine ⟨_, rfl, ?_⟩) | ((with_reducible refine gate_callee (f := 53) rfl ?_); refine goesL_ (some 22) rfl rfl Try.func53 (by kernel_rfl) rfl #[.int .i64 t273, .bool ((wrap64 (Int.tdiv (wrap64 (Int.tdiv t272 512)) 4)) == 1), .string (⟨#[115]⟩ : ByteArray), .string (⟨#[83]⟩ : ByteArray)] rfl (by (try simp only [List.map_toArray, List.map_cons, List.map_nil]); first | done | rfl | (simp only [List.length_drop, List.length_take]; rfl)) ?_; (with_reducible refine (gaolerref01_three.calls t273 ((wrap64 (Int.tdiv (wrap64 (Int.tdiv t272 512)) 4)) == 1) (⟨#[115]⟩ : ByteArray) (⟨#[83]⟩ : ByteArray) t274 _ A11.out).mono ?_); rintro e w' ⟨rfl, ⟨nd, rfl⟩⟩; refine ⟨_, rfl, ?_⟩) | ((with_reducible refine gate_callee (f := 42) rfl ?_); refine goesL_ (some 25) rfl rfl Try.func42 (by kernel_rfl) rfl #[.int .i64 a1, .int .i64 1] rfl (by (try simp only [List.map_toArray, List.map_cons, List.map_nil]); first | done | rfl | (simp only [List.length_drop, List.length_take]; rfl)) ?_; (with_reducible refine (gaolerref01_Class.calls a1 1 t275 _ A13.out).mono ?_); rintro e w' ⟨rfl, ⟨nd, rfl⟩⟩; refine ⟨_, rfl, ?_⟩) | ((with_reducible refine gate_callee (f := 53) rfl ?_); refine goesL_ (some 30) rfl rfl Try.func53 (by kernel_rfl) rfl #[.int .i64 t275, .bool ((Int.tmod (wrap64 (Int.tdiv (wrap64 (Int.tdiv t272 512)) 2)) 2) == 1), .string (⟨#[115]⟩ : ByteArray), .string (⟨#[83]⟩ : ByteArray)] rfl (by (try simp only [List.map_toArray, List.map_cons, List.map_nil]); first | done | rfl | (simp only [List.length_drop, List.length_take]; rfl)) ?_; (with_reducible refine (gaolerref01_three.calls t275 ((Int.tmod (wrap64 (Int.tdiv (wrap64 (Int.tdiv t272 512)) 2)) 2) == 1) (⟨#[115]⟩ : ByteArray) (⟨#[83]⟩ : ByteArray) t276 _ A14.out).mono ?_); rintro e w' ⟨rfl, ⟨nd, rfl⟩⟩; refine ⟨_, rfl, ?_⟩) | ((with_reducible refine gate_callee (f := 42) rfl ?_); refine goesL_ (some 33) rfl rfl Try.func42 (by kernel_rfl) rfl #[.int .i64 a1, .int .i64 2] rfl (by (try simp only [List.map_toArray, List.map_cons, List.map_nil]); first | done | rfl | (simp only [List.length_drop, List.length_take]; rfl)) ?_; (with_reducible refine (gaolerref01_Class.calls a1 2 t277 _ A16.out).mono ?_); rintro e w' ⟨rfl, ⟨nd, rfl⟩⟩; refine ⟨_, rfl, ?_⟩) | ((with_reducible refine gate_callee (f := 53) rfl ?_); refine goesL_ (some 37) rfl rfl Try.func53 (by kernel_rfl) rfl #[.int .i64 t277, .bool ((Int.tmod (wrap64 (Int.tdiv t272 512)) 2) == 1), .string (⟨#[116]⟩ : ByteArray), .string (⟨#[84]⟩ : ByteArray)] rfl (by (try simp only [List.map_toArray, List.map_cons, List.map_nil]); first | done | rfl | (simp only [List.length_drop, List.length_take]; rfl)) ?_; (with_reducible refine (gaolerref01_three.calls t277 ((Int.tmod (wrap64 (Int.tdiv t272 512)) 2) == 1) (⟨#[116]⟩ : ByteArray) (⟨#[84]⟩ : ByteArray) t278 _ A17.out).mono ?_); rintro e w' ⟨rfl, ⟨nd, rfl⟩⟩; refine ⟨_, rfl, ?_⟩))
                    go_ret
                    exact ⟨by first | rfl | (simp; done) | (simp [*]; done), by repeat (first | exact Drawn0.refl _ | apply Drawn0.step)⟩
                  · rw [if_neg c18] at H
                    exact absurd H (by simp)
                · rw [if_neg c15] at H
                  exact absurd H (by simp)
              · rw [if_neg c12] at H
                exact absurd H (by simp)

/-! ### gaolerlaw01_ModesShow: function 9 -/
def gaolerlaw01_ModesShow.f (k : Nat) (a0 : Int) (a1 : Int) : Option (Bool) := (gaolerlaw01_awake.f).bind fun t279 => (if t279 = true then ((modes_Show.f a0 a1).bind fun t280 => ((gaolerref01_Show.f k a0 a1).bind fun t281 => (some (t280.toList == t281.toList)))) else (some false))
theorem gaolerlaw01_ModesShow.mono : ∀ a0 a1 k, LeO (gaolerlaw01_ModesShow.f k a0 a1) (gaolerlaw01_ModesShow.f (k + 1) a0 a1) := by
  intro a0 a1 k
  unfold gaolerlaw01_ModesShow.f
  repeat' first
      | (with_reducible exact gaolerref01_Show.mono _ _ _)
      | (with_reducible exact LeO.refl _)
      | (with_reducible exact LeO.none _)
      | (with_reducible refine LeO.ite ?_ ?_)
      | (with_reducible refine LeO.bind ?_ (fun _ => ?_))
      | exact gaolerref01_Show.mono _ _ _
      | exact LeO.none _
      | refine LeO.ite ?_ ?_
      | refine LeO.bind ?_ (fun _ => ?_)
set_option maxHeartbeats 8000000 in
set_option maxRecDepth 100000 in
theorem gaolerlaw01_ModesShow.calls (k : Nat) (a0 : Int) (a1 : Int) (r : Bool) (w : World) (h : gaolerlaw01_ModesShow.f k a0 a1 = some r) :
    Calls Try.prog 9 #[.int .i64 a0, .int .i64 a1] w fun e w' => e = .returned (.bool r) ∧ Below w.heap.size w w' := by
  have HB := Aside0.mk (Below.refl w.heap.size w)
  have H : ((gaolerlaw01_awake.f).bind fun t279 => (if t279 = true then ((modes_Show.f a0 a1).bind fun t280 => ((gaolerref01_Show.f k a0 a1).bind fun t281 => (some (t280.toList == t281.toList)))) else (some false))) = some r := h
  clear h
  replace H := Option.bind_eq_some_iff.mp H
  obtain ⟨t279, A30, H⟩ := H
  replace H : (if t279 = true then ((modes_Show.f a0 a1).bind fun t280 => ((gaolerref01_Show.f k a0 a1).bind fun t281 => (some (t280.toList == t281.toList)))) else (some false)) = some r := H
  have A3 := Aside0.mk A30
  clear A30
  by_cases c4 : t279 = true
  · subst c4
    have H1 : ((modes_Show.f a0 a1).bind fun t280 => ((gaolerref01_Show.f k a0 a1).bind fun t281 => (some (t280.toList == t281.toList)))) = some r := by rw [if_pos rfl] at H; exact H
    clear H
    have H := H1
    clear H1
    replace H := Option.bind_eq_some_iff.mp H
    obtain ⟨t280, A50, H⟩ := H
    replace H : ((gaolerref01_Show.f k a0 a1).bind fun t281 => (some (t280.toList == t281.toList))) = some r := H
    have A5 := Aside0.mk A50
    clear A50
    replace H := Option.bind_eq_some_iff.mp H
    obtain ⟨t281, A60, H⟩ := H
    replace H : (some (t280.toList == t281.toList)) = some r := H
    have A6 := Aside0.mk A60
    clear A60
    obtain rfl := Option.some.inj H
    go_enter Try.func9, Try.ntmps9
    go_wp2_with (first | ((with_reducible refine gate_callee (f := 34) rfl ?_); refine goesL_ (some 6) rfl rfl Try.func34 (by kernel_rfl) rfl #[] rfl (by (try simp only [List.map_toArray, List.map_cons, List.map_nil]); first | done | rfl | (simp only [List.length_drop, List.length_take]; rfl)) ?_; (with_reducible refine (gaolerlaw01_awake.calls  true _ A3.out).mono ?_); rintro e w7 ⟨rfl, hb⟩; refine ⟨_, rfl, ?_⟩; have n0_ := Aside0.mk (below_step (by repeat (first | (with_reducible first | exact HB.out | apply below_alloc | apply pw_below_drewN | apply below_drew1) | exact HB.out)) hb); clear HB; have HB := n0_; clear n0_; (try clear hb); (try clear hb2); (try clear hk); (try clear hi)) | ((with_reducible refine gate_callee (f := 35) rfl ?_); refine goesL_ (some 11) rfl rfl Try.func35 (by kernel_rfl) rfl #[.int .i64 a0, .int .i64 a1] rfl (by (try simp only [List.map_toArray, List.map_cons, List.map_nil]); first | done | rfl | (simp only [List.length_drop, List.length_take]; rfl)) ?_; (with_reducible refine (modes_Show.calls a0 a1 t280 _ A5.out).mono ?_); rintro e w8 ⟨rfl, hb⟩; refine ⟨_, rfl, ?_⟩; have n0_ := Aside0.mk (below_step (by repeat (first | (with_reducible first | exact HB.out | apply below_alloc | apply pw_below_drewN | apply below_drew1) | exact HB.out)) hb); clear HB; have HB := n0_; clear n0_; (try clear hb); (try clear hb2); (try clear hk); (try clear hi)) | ((with_reducible refine gate_callee (f := 36) rfl ?_); refine goesL_ (some 14) rfl rfl Try.func36 (by kernel_rfl) rfl #[.int .i64 a0, .int .i64 a1] rfl (by (try simp only [List.map_toArray, List.map_cons, List.map_nil]); first | done | rfl | (simp only [List.length_drop, List.length_take]; rfl)) ?_; (with_reducible refine (gaolerref01_Show.calls k a0 a1 t281 _ A6.out).mono ?_); rintro e w' ⟨rfl, ⟨nd, rfl⟩⟩; refine ⟨_, rfl, ?_⟩))
    go_ret
    exact ⟨by first | rfl | (simp [errW_none, errW_some] <;> rfl) | (simp [*, errW_none, errW_some] <;> rfl), by repeat (first | (with_reducible first | exact HB.out | apply below_alloc | apply pw_below_drewN | apply below_drew1) | exact HB.out)⟩
  · replace c4 := Bool.eq_false_iff.mpr c4
    subst c4
    have H1 : (some false) = some r := by rw [if_neg (show ¬ (false = true) by decide)] at H; exact H
    clear H
    have H := H1
    clear H1
    obtain rfl := Option.some.inj H
    go_enter Try.func9, Try.ntmps9
    go_wp2_with (first | ((with_reducible refine gate_callee (f := 34) rfl ?_); refine goesL_ (some 6) rfl rfl Try.func34 (by kernel_rfl) rfl #[] rfl (by (try simp only [List.map_toArray, List.map_cons, List.map_nil]); first | done | rfl | (simp only [List.length_drop, List.length_take]; rfl)) ?_; (with_reducible refine (gaolerlaw01_awake.calls  false _ A3.out).mono ?_); rintro e w9 ⟨rfl, hb⟩; refine ⟨_, rfl, ?_⟩; have n0_ := Aside0.mk (below_step (by repeat (first | (with_reducible first | exact HB.out | apply below_alloc | apply pw_below_drewN | apply below_drew1) | exact HB.out)) hb); clear HB; have HB := n0_; clear n0_; (try clear hb); (try clear hb2); (try clear hk); (try clear hi)))
    go_ret
    exact ⟨by first | rfl | (simp [errW_none, errW_some] <;> rfl) | (simp [*, errW_none, errW_some] <;> rfl), by repeat (first | (with_reducible first | exact HB.out | apply below_alloc | apply pw_below_drewN | apply below_drew1) | exact HB.out)⟩

/-- THE ONE PURE STATEMENT of gaolerlaw01_ModesShow: yours. -/
def gaolerlaw01_ModesShow.Pure : Prop := ∀ (a0 : Int) (a1 : Int), (Lit.int .i64 a0).wf = true → (Lit.int .i64 a1).wf = true → ∃ k, gaolerlaw01_ModesShow.f k a0 a1 = some true
theorem gaolerlaw01_ModesShow.walk (P : gaolerlaw01_ModesShow.Pure) (a0 : Int) (a1 : Int) (w : World) (w0 : (Lit.int .i64 a0).wf = true) (w1 : (Lit.int .i64 a1).wf = true) :
    Calls Try.prog 9 #[.int .i64 a0, .int .i64 a1] w fun e w' => e = .returned (.bool true) ∧ Below w.heap.size w w' := by
  obtain ⟨k, h⟩ := P a0 a1 w0 w1
  refine (gaolerlaw01_ModesShow.calls k a0 a1 true w h).mono ?_
  rintro e w' ⟨rfl, hd⟩
  exact ⟨rfl, hd⟩

/-! ### gaolerlaw01_ModesRead: function 10 -/
mutual
def gaolerlaw01_ModesRead.j0 : Nat → ByteArray → Bool → Option (Bool)
  | 0, _, _ => none
  | k + 1, x0, x48 => if x48 = true then (some false) else (gaolerlaw01_ModesRead.l0 k x0 0)
def gaolerlaw01_ModesRead.l0 : Nat → ByteArray → Int → Option (Bool)
  | 0, _, _ => none
  | k + 1, x0, x7 => if x7 < 4 then (gaolerlaw01_ModesRead.j2 k x0 x7 ((x0.size : Int) == 10)) else (gaolerlaw01_ModesRead.j2 k x0 x7 false)
def gaolerlaw01_ModesRead.j2 : Nat → ByteArray → Int → Bool → Option (Bool)
  | 0, _, _, _ => none
  | k + 1, x0, x7, x55 => if x55 = true then (gaolerlaw01_ModesRead.l1 k x0 x7 0) else (some true)
def gaolerlaw01_ModesRead.l1 : Nat → ByteArray → Int → Int → Option (Bool)
  | 0, _, _, _ => none
  | k + 1, x0, x7, x8 => if x8 < 4096 then ((gaolerref01_Show.f k x7 x8).bind fun t287 => (if t287.toList = x0.toList then (some false) else (gaolerlaw01_ModesRead.l1 k x0 x7 (wrap64 (x8 + 1))))) else (gaolerlaw01_ModesRead.l0 k x0 (wrap64 (x7 + 1)))
end
def gaolerlaw01_ModesRead.f (k : Nat) (a0 : ByteArray) : Option (Bool) := (gaolerlaw01_awake.f).bind fun t282 => (if t282 = true then (if (a0.size : Int) > 30 then (some true) else ((modes_Read.f a0).bind fun bt283 => (if bt283.2.2 = true then (if bt283.1 ≥ 0 then (if bt283.1 ≤ 3 then (if bt283.2.1 ≥ 0 then (if bt283.2.1 ≤ 4095 then ((gaolerref01_Show.f k bt283.1 bt283.2.1).bind fun t286 => (some (t286.toList == a0.toList))) else (some false)) else (some false)) else (some false)) else (some false)) else (if bt283.1 = 0 then (gaolerlaw01_ModesRead.j0 k a0 (bt283.2.1 != 0)) else (gaolerlaw01_ModesRead.j0 k a0 true))))) else (some false))
theorem gaolerlaw01_ModesRead.mono_l : ∀ k, (∀ y0 y1, LeO (gaolerlaw01_ModesRead.j0 k y0 y1) (gaolerlaw01_ModesRead.j0 (k + 1) y0 y1)) ∧ (∀ y0 y1, LeO (gaolerlaw01_ModesRead.l0 k y0 y1) (gaolerlaw01_ModesRead.l0 (k + 1) y0 y1)) ∧ (∀ y0 y1 y2, LeO (gaolerlaw01_ModesRead.j2 k y0 y1 y2) (gaolerlaw01_ModesRead.j2 (k + 1) y0 y1 y2)) ∧ (∀ y0 y1 y2, LeO (gaolerlaw01_ModesRead.l1 k y0 y1 y2) (gaolerlaw01_ModesRead.l1 (k + 1) y0 y1 y2))
  | 0 => ⟨fun _ _ r h => by simp [gaolerlaw01_ModesRead.j0] at h, fun _ _ r h => by simp [gaolerlaw01_ModesRead.l0] at h, fun _ _ _ r h => by simp [gaolerlaw01_ModesRead.j2] at h, fun _ _ _ r h => by simp [gaolerlaw01_ModesRead.l1] at h⟩
  | k + 1 => by
    obtain ⟨ih0, ih1, ih2, ih3⟩ := gaolerlaw01_ModesRead.mono_l k
    refine ⟨?_, ?_, ?_, ?_⟩
    · intro y0 y1
      unfold gaolerlaw01_ModesRead.j0
      repeat' first
      | (with_reducible exact ih0 _ _)
      | (with_reducible exact ih1 _ _)
      | (with_reducible exact ih2 _ _ _)
      | (with_reducible exact ih3 _ _ _)
      | (with_reducible exact gaolerref01_Show.mono _ _ _)
      | (with_reducible exact LeO.refl _)
      | (with_reducible exact LeO.none _)
      | (with_reducible refine LeO.ite ?_ ?_)
      | (with_reducible refine LeO.bind ?_ (fun _ => ?_))
      | exact ih0 _ _
      | exact ih1 _ _
      | exact ih2 _ _ _
      | exact ih3 _ _ _
      | exact gaolerref01_Show.mono _ _ _
      | exact LeO.none _
      | refine LeO.ite ?_ ?_
      | refine LeO.bind ?_ (fun _ => ?_)
    · intro y0 y1
      unfold gaolerlaw01_ModesRead.l0
      repeat' first
      | (with_reducible exact ih0 _ _)
      | (with_reducible exact ih1 _ _)
      | (with_reducible exact ih2 _ _ _)
      | (with_reducible exact ih3 _ _ _)
      | (with_reducible exact gaolerref01_Show.mono _ _ _)
      | (with_reducible exact LeO.refl _)
      | (with_reducible exact LeO.none _)
      | (with_reducible refine LeO.ite ?_ ?_)
      | (with_reducible refine LeO.bind ?_ (fun _ => ?_))
      | exact ih0 _ _
      | exact ih1 _ _
      | exact ih2 _ _ _
      | exact ih3 _ _ _
      | exact gaolerref01_Show.mono _ _ _
      | exact LeO.none _
      | refine LeO.ite ?_ ?_
      | refine LeO.bind ?_ (fun _ => ?_)
    · intro y0 y1 y2
      unfold gaolerlaw01_ModesRead.j2
      repeat' first
      | (with_reducible exact ih0 _ _)
      | (with_reducible exact ih1 _ _)
      | (with_reducible exact ih2 _ _ _)
      | (with_reducible exact ih3 _ _ _)
      | (with_reducible exact gaolerref01_Show.mono _ _ _)
      | (with_reducible exact LeO.refl _)
      | (with_reducible exact LeO.none _)
      | (with_reducible refine LeO.ite ?_ ?_)
      | (with_reducible refine LeO.bind ?_ (fun _ => ?_))
      | exact ih0 _ _
      | exact ih1 _ _
      | exact ih2 _ _ _
      | exact ih3 _ _ _
      | exact gaolerref01_Show.mono _ _ _
      | exact LeO.none _
      | refine LeO.ite ?_ ?_
      | refine LeO.bind ?_ (fun _ => ?_)
    · intro y0 y1 y2
      unfold gaolerlaw01_ModesRead.l1
      repeat' first
      | (with_reducible exact ih0 _ _)
      | (with_reducible exact ih1 _ _)
      | (with_reducible exact ih2 _ _ _)
      | (with_reducible exact ih3 _ _ _)
      | (with_reducible exact gaolerref01_Show.mono _ _ _)
      | (with_reducible exact LeO.refl _)
      | (with_reducible exact LeO.none _)
      | (with_reducible refine LeO.ite ?_ ?_)
      | (with_reducible refine LeO.bind ?_ (fun _ => ?_))
      | exact ih0 _ _
      | exact ih1 _ _
      | exact ih2 _ _ _
      | exact ih3 _ _ _
      | exact gaolerref01_Show.mono _ _ _
      | exact LeO.none _
      | refine LeO.ite ?_ ?_
      | refine LeO.bind ?_ (fun _ => ?_)
theorem gaolerlaw01_ModesRead.mono : ∀ a0 k, LeO (gaolerlaw01_ModesRead.f k a0) (gaolerlaw01_ModesRead.f (k + 1) a0) := by
  intro a0 k
  obtain ⟨ih0, ih1, ih2, ih3⟩ := gaolerlaw01_ModesRead.mono_l k
  unfold gaolerlaw01_ModesRead.f
  repeat' first
      | (with_reducible exact ih0 _ _)
      | (with_reducible exact ih1 _ _)
      | (with_reducible exact ih2 _ _ _)
      | (with_reducible exact ih3 _ _ _)
      | (with_reducible exact gaolerref01_Show.mono _ _ _)
      | (with_reducible exact LeO.refl _)
      | (with_reducible exact LeO.none _)
      | (with_reducible refine LeO.ite ?_ ?_)
      | (with_reducible refine LeO.bind ?_ (fun _ => ?_))
      | exact ih0 _ _
      | exact ih1 _ _
      | exact ih2 _ _ _
      | exact ih3 _ _ _
      | exact gaolerref01_Show.mono _ _ _
      | exact LeO.none _
      | refine LeO.ite ?_ ?_
      | refine LeO.bind ?_ (fun _ => ?_)
set_option maxHeartbeats 8000000 in
set_option maxRecDepth 100000 in
theorem gaolerlaw01_ModesRead.calls (k : Nat) (a0 : ByteArray) (r : Bool) (w : World) (h : gaolerlaw01_ModesRead.f k a0 = some r) :
    Calls Try.prog 10 #[.string a0] w fun e w' => e = .returned (.bool r) ∧ Below w.heap.size w w' := by
  have HB := Aside0.mk (Below.refl w.heap.size w)
  have H : ((gaolerlaw01_awake.f).bind fun t282 => (if t282 = true then (if (a0.size : Int) > 30 then (some true) else ((modes_Read.f a0).bind fun bt283 => (if bt283.2.2 = true then (if bt283.1 ≥ 0 then (if bt283.1 ≤ 3 then (if bt283.2.1 ≥ 0 then (if bt283.2.1 ≤ 4095 then ((gaolerref01_Show.f k bt283.1 bt283.2.1).bind fun t286 => (some (t286.toList == a0.toList))) else (some false)) else (some false)) else (some false)) else (some false)) else (if bt283.1 = 0 then (gaolerlaw01_ModesRead.j0 k a0 (bt283.2.1 != 0)) else (gaolerlaw01_ModesRead.j0 k a0 true))))) else (some false))) = some r := h
  clear h
  replace H := Option.bind_eq_some_iff.mp H
  obtain ⟨t282, A20, H⟩ := H
  replace H : (if t282 = true then (if (a0.size : Int) > 30 then (some true) else ((modes_Read.f a0).bind fun bt283 => (if bt283.2.2 = true then (if bt283.1 ≥ 0 then (if bt283.1 ≤ 3 then (if bt283.2.1 ≥ 0 then (if bt283.2.1 ≤ 4095 then ((gaolerref01_Show.f k bt283.1 bt283.2.1).bind fun t286 => (some (t286.toList == a0.toList))) else (some false)) else (some false)) else (some false)) else (some false)) else (if bt283.1 = 0 then (gaolerlaw01_ModesRead.j0 k a0 (bt283.2.1 != 0)) else (gaolerlaw01_ModesRead.j0 k a0 true))))) else (some false)) = some r := H
  have A2 := Aside0.mk A20
  clear A20
  by_cases c3 : t282 = true
  · subst c3
    have H1 : (if (a0.size : Int) > 30 then (some true) else ((modes_Read.f a0).bind fun bt283 => (if bt283.2.2 = true then (if bt283.1 ≥ 0 then (if bt283.1 ≤ 3 then (if bt283.2.1 ≥ 0 then (if bt283.2.1 ≤ 4095 then ((gaolerref01_Show.f k bt283.1 bt283.2.1).bind fun t286 => (some (t286.toList == a0.toList))) else (some false)) else (some false)) else (some false)) else (some false)) else (if bt283.1 = 0 then (gaolerlaw01_ModesRead.j0 k a0 (bt283.2.1 != 0)) else (gaolerlaw01_ModesRead.j0 k a0 true))))) = some r := by rw [if_pos rfl] at H; exact H
    clear H
    have H := H1
    clear H1
    by_cases c4 : (a0.size : Int) > 30
    · rw [if_pos c4] at H
      have c4b0 : decide (30 < (a0.size : Int)) = true := decide_eq_true c4
      have c4b1 : decide (30 < a0.size) = true := decide_eq_true (by omega)
      clear c4
      obtain rfl := Option.some.inj H
      go_enter Try.func10, Try.ntmps10
      go_wp2_with (first | ((with_reducible refine gate_callee (f := 34) rfl ?_); refine goesL_ (some 9) rfl rfl Try.func34 (by kernel_rfl) rfl #[] rfl (by (try simp only [List.map_toArray, List.map_cons, List.map_nil]); first | done | rfl | (simp only [List.length_drop, List.length_take]; rfl)) ?_; (with_reducible refine (gaolerlaw01_awake.calls  true _ A2.out).mono ?_); rintro e w5 ⟨rfl, hb⟩; refine ⟨_, rfl, ?_⟩; have n0_ := Aside0.mk (below_step (by repeat (first | (with_reducible first | exact HB.out | apply below_alloc | apply pw_below_drewN | apply below_drew1) | exact HB.out)) hb); clear HB; have HB := n0_; clear n0_; (try clear hb); (try clear hb2); (try clear hk); (try clear hi)))
      go_ret
      exact ⟨by first | rfl | (simp [errW_none, errW_some] <;> rfl) | (simp [*, errW_none, errW_some] <;> rfl), by repeat (first | (with_reducible first | exact HB.out | apply below_alloc | apply pw_below_drewN | apply below_drew1) | exact HB.out)⟩
    · rw [if_neg c4] at H
      have c4b0 : decide (30 < (a0.size : Int)) = false := decide_eq_false c4
      have c4b1 : decide (30 < a0.size) = false := decide_eq_false (by omega)
      clear c4
      replace H := Option.bind_eq_some_iff.mp H
      obtain ⟨⟨t283, t284, t285⟩, A60, H⟩ := H
      replace H : (if t285 = true then (if t283 ≥ 0 then (if t283 ≤ 3 then (if t284 ≥ 0 then (if t284 ≤ 4095 then ((gaolerref01_Show.f k t283 t284).bind fun t286 => (some (t286.toList == a0.toList))) else (some false)) else (some false)) else (some false)) else (some false)) else (if t283 = 0 then (gaolerlaw01_ModesRead.j0 k a0 (t284 != 0)) else (gaolerlaw01_ModesRead.j0 k a0 true))) = some r := H
      have A6 := Aside0.mk A60
      clear A60
      by_cases c7 : t285 = true
      · subst c7
        have H1 : (if t283 ≥ 0 then (if t283 ≤ 3 then (if t284 ≥ 0 then (if t284 ≤ 4095 then ((gaolerref01_Show.f k t283 t284).bind fun t286 => (some (t286.toList == a0.toList))) else (some false)) else (some false)) else (some false)) else (some false)) = some r := by rw [if_pos rfl] at H; exact H
        clear H
        have H := H1
        clear H1
        by_cases c8 : t283 ≥ 0
        · rw [if_pos c8] at H
          have c8b0 : decide (0 ≤ t283) = true := decide_eq_true c8
          clear c8
          by_cases c9 : t283 ≤ 3
          · rw [if_pos c9] at H
            have c9b0 : decide (t283 ≤ 3) = true := decide_eq_true c9
            clear c9
            by_cases c10 : t284 ≥ 0
            · rw [if_pos c10] at H
              have c10b0 : decide (0 ≤ t284) = true := decide_eq_true c10
              clear c10
              by_cases c11 : t284 ≤ 4095
              · rw [if_pos c11] at H
                have c11b0 : decide (t284 ≤ 4095) = true := decide_eq_true c11
                clear c11
                replace H := Option.bind_eq_some_iff.mp H
                obtain ⟨t286, A120, H⟩ := H
                replace H : (some (t286.toList == a0.toList)) = some r := H
                have A12 := Aside0.mk A120
                clear A120
                obtain rfl := Option.some.inj H
                go_enter Try.func10, Try.ntmps10
                go_wp2_with (first | ((with_reducible refine gate_callee (f := 34) rfl ?_); refine goesL_ (some 9) rfl rfl Try.func34 (by kernel_rfl) rfl #[] rfl (by (try simp only [List.map_toArray, List.map_cons, List.map_nil]); first | done | rfl | (simp only [List.length_drop, List.length_take]; rfl)) ?_; (with_reducible refine (gaolerlaw01_awake.calls  true _ A2.out).mono ?_); rintro e w13 ⟨rfl, hb⟩; refine ⟨_, rfl, ?_⟩; have n0_ := Aside0.mk (below_step (by repeat (first | (with_reducible first | exact HB.out | apply below_alloc | apply pw_below_drewN | apply below_drew1) | exact HB.out)) hb); clear HB; have HB := n0_; clear n0_; (try clear hb); (try clear hb2); (try clear hk); (try clear hi)) | ((with_reducible refine gate_callee (f := 37) rfl ?_); refine goesL_ (some 17) rfl rfl Try.func37 (by kernel_rfl) rfl #[.string a0] rfl (by (try simp only [List.map_toArray, List.map_cons, List.map_nil]); first | done | rfl | (simp only [List.length_drop, List.length_take]; rfl)) ?_; (with_reducible refine (modes_Read.calls a0 t283 t284 true _ A6.out).mono ?_); rintro e w14 ⟨rfl, hb⟩; refine ⟨_, rfl, ?_⟩; have n0_ := Aside0.mk (below_step (by repeat (first | (with_reducible first | exact HB.out | apply below_alloc | apply pw_below_drewN | apply below_drew1) | exact HB.out)) hb); clear HB; have HB := n0_; clear n0_; (try clear hb); (try clear hb2); (try clear hk); (try clear hi)) | (go_at_call 36; (with_reducible refine (gaolerref01_Show.calls k t283 t284 t286 _ A12.out).mono ?_); rintro e w' ⟨rfl, ⟨nd, rfl⟩⟩))
                go_ret
                exact ⟨by first | rfl | (simp [errW_none, errW_some] <;> rfl) | (simp [*, errW_none, errW_some] <;> rfl), by repeat (first | (with_reducible first | exact HB.out | apply below_alloc | apply pw_below_drewN | apply below_drew1) | exact HB.out)⟩
              · rw [if_neg c11] at H
                have c11b0 : decide (t284 ≤ 4095) = false := decide_eq_false c11
                clear c11
                obtain rfl := Option.some.inj H
                go_enter Try.func10, Try.ntmps10
                go_wp2_with (first | ((with_reducible refine gate_callee (f := 34) rfl ?_); refine goesL_ (some 9) rfl rfl Try.func34 (by kernel_rfl) rfl #[] rfl (by (try simp only [List.map_toArray, List.map_cons, List.map_nil]); first | done | rfl | (simp only [List.length_drop, List.length_take]; rfl)) ?_; (with_reducible refine (gaolerlaw01_awake.calls  true _ A2.out).mono ?_); rintro e w15 ⟨rfl, hb⟩; refine ⟨_, rfl, ?_⟩; have n0_ := Aside0.mk (below_step (by repeat (first | (with_reducible first | exact HB.out | apply below_alloc | apply pw_below_drewN | apply below_drew1) | exact HB.out)) hb); clear HB; have HB := n0_; clear n0_; (try clear hb); (try clear hb2); (try clear hk); (try clear hi)) | ((with_reducible refine gate_callee (f := 37) rfl ?_); refine goesL_ (some 17) rfl rfl Try.func37 (by kernel_rfl) rfl #[.string a0] rfl (by (try simp only [List.map_toArray, List.map_cons, List.map_nil]); first | done | rfl | (simp only [List.length_drop, List.length_take]; rfl)) ?_; (with_reducible refine (modes_Read.calls a0 t283 t284 true _ A6.out).mono ?_); rintro e w16 ⟨rfl, hb⟩; refine ⟨_, rfl, ?_⟩; have n0_ := Aside0.mk (below_step (by repeat (first | (with_reducible first | exact HB.out | apply below_alloc | apply pw_below_drewN | apply below_drew1) | exact HB.out)) hb); clear HB; have HB := n0_; clear n0_; (try clear hb); (try clear hb2); (try clear hk); (try clear hi)))
                go_ret
                exact ⟨by first | rfl | (simp [errW_none, errW_some] <;> rfl) | (simp [*, errW_none, errW_some] <;> rfl), by repeat (first | (with_reducible first | exact HB.out | apply below_alloc | apply pw_below_drewN | apply below_drew1) | exact HB.out)⟩
            · rw [if_neg c10] at H
              have c10b0 : decide (0 ≤ t284) = false := decide_eq_false c10
              clear c10
              obtain rfl := Option.some.inj H
              go_enter Try.func10, Try.ntmps10
              go_wp2_with (first | ((with_reducible refine gate_callee (f := 34) rfl ?_); refine goesL_ (some 9) rfl rfl Try.func34 (by kernel_rfl) rfl #[] rfl (by (try simp only [List.map_toArray, List.map_cons, List.map_nil]); first | done | rfl | (simp only [List.length_drop, List.length_take]; rfl)) ?_; (with_reducible refine (gaolerlaw01_awake.calls  true _ A2.out).mono ?_); rintro e w17 ⟨rfl, hb⟩; refine ⟨_, rfl, ?_⟩; have n0_ := Aside0.mk (below_step (by repeat (first | (with_reducible first | exact HB.out | apply below_alloc | apply pw_below_drewN | apply below_drew1) | exact HB.out)) hb); clear HB; have HB := n0_; clear n0_; (try clear hb); (try clear hb2); (try clear hk); (try clear hi)) | ((with_reducible refine gate_callee (f := 37) rfl ?_); refine goesL_ (some 17) rfl rfl Try.func37 (by kernel_rfl) rfl #[.string a0] rfl (by (try simp only [List.map_toArray, List.map_cons, List.map_nil]); first | done | rfl | (simp only [List.length_drop, List.length_take]; rfl)) ?_; (with_reducible refine (modes_Read.calls a0 t283 t284 true _ A6.out).mono ?_); rintro e w18 ⟨rfl, hb⟩; refine ⟨_, rfl, ?_⟩; have n0_ := Aside0.mk (below_step (by repeat (first | (with_reducible first | exact HB.out | apply below_alloc | apply pw_below_drewN | apply below_drew1) | exact HB.out)) hb); clear HB; have HB := n0_; clear n0_; (try clear hb); (try clear hb2); (try clear hk); (try clear hi)))
              go_ret
              exact ⟨by first | rfl | (simp [errW_none, errW_some] <;> rfl) | (simp [*, errW_none, errW_some] <;> rfl), by repeat (first | (with_reducible first | exact HB.out | apply below_alloc | apply pw_below_drewN | apply below_drew1) | exact HB.out)⟩
          · rw [if_neg c9] at H
            have c9b0 : decide (t283 ≤ 3) = false := decide_eq_false c9
            clear c9
            obtain rfl := Option.some.inj H
            go_enter Try.func10, Try.ntmps10
            go_wp2_with (first | ((with_reducible refine gate_callee (f := 34) rfl ?_); refine goesL_ (some 9) rfl rfl Try.func34 (by kernel_rfl) rfl #[] rfl (by (try simp only [List.map_toArray, List.map_cons, List.map_nil]); first | done | rfl | (simp only [List.length_drop, List.length_take]; rfl)) ?_; (with_reducible refine (gaolerlaw01_awake.calls  true _ A2.out).mono ?_); rintro e w19 ⟨rfl, hb⟩; refine ⟨_, rfl, ?_⟩; have n0_ := Aside0.mk (below_step (by repeat (first | (with_reducible first | exact HB.out | apply below_alloc | apply pw_below_drewN | apply below_drew1) | exact HB.out)) hb); clear HB; have HB := n0_; clear n0_; (try clear hb); (try clear hb2); (try clear hk); (try clear hi)) | ((with_reducible refine gate_callee (f := 37) rfl ?_); refine goesL_ (some 17) rfl rfl Try.func37 (by kernel_rfl) rfl #[.string a0] rfl (by (try simp only [List.map_toArray, List.map_cons, List.map_nil]); first | done | rfl | (simp only [List.length_drop, List.length_take]; rfl)) ?_; (with_reducible refine (modes_Read.calls a0 t283 t284 true _ A6.out).mono ?_); rintro e w20 ⟨rfl, hb⟩; refine ⟨_, rfl, ?_⟩; have n0_ := Aside0.mk (below_step (by repeat (first | (with_reducible first | exact HB.out | apply below_alloc | apply pw_below_drewN | apply below_drew1) | exact HB.out)) hb); clear HB; have HB := n0_; clear n0_; (try clear hb); (try clear hb2); (try clear hk); (try clear hi)))
            go_ret
            exact ⟨by first | rfl | (simp [errW_none, errW_some] <;> rfl) | (simp [*, errW_none, errW_some] <;> rfl), by repeat (first | (with_reducible first | exact HB.out | apply below_alloc | apply pw_below_drewN | apply below_drew1) | exact HB.out)⟩
        · rw [if_neg c8] at H
          have c8b0 : decide (0 ≤ t283) = false := decide_eq_false c8
          clear c8
          obtain rfl := Option.some.inj H
          go_enter Try.func10, Try.ntmps10
          go_wp2_with (first | ((with_reducible refine gate_callee (f := 34) rfl ?_); refine goesL_ (some 9) rfl rfl Try.func34 (by kernel_rfl) rfl #[] rfl (by (try simp only [List.map_toArray, List.map_cons, List.map_nil]); first | done | rfl | (simp only [List.length_drop, List.length_take]; rfl)) ?_; (with_reducible refine (gaolerlaw01_awake.calls  true _ A2.out).mono ?_); rintro e w21 ⟨rfl, hb⟩; refine ⟨_, rfl, ?_⟩; have n0_ := Aside0.mk (below_step (by repeat (first | (with_reducible first | exact HB.out | apply below_alloc | apply pw_below_drewN | apply below_drew1) | exact HB.out)) hb); clear HB; have HB := n0_; clear n0_; (try clear hb); (try clear hb2); (try clear hk); (try clear hi)) | ((with_reducible refine gate_callee (f := 37) rfl ?_); refine goesL_ (some 17) rfl rfl Try.func37 (by kernel_rfl) rfl #[.string a0] rfl (by (try simp only [List.map_toArray, List.map_cons, List.map_nil]); first | done | rfl | (simp only [List.length_drop, List.length_take]; rfl)) ?_; (with_reducible refine (modes_Read.calls a0 t283 t284 true _ A6.out).mono ?_); rintro e w22 ⟨rfl, hb⟩; refine ⟨_, rfl, ?_⟩; have n0_ := Aside0.mk (below_step (by repeat (first | (with_reducible first | exact HB.out | apply below_alloc | apply pw_below_drewN | apply below_drew1) | exact HB.out)) hb); clear HB; have HB := n0_; clear n0_; (try clear hb); (try clear hb2); (try clear hk); (try clear hi)))
          go_ret
          exact ⟨by first | rfl | (simp [errW_none, errW_some] <;> rfl) | (simp [*, errW_none, errW_some] <;> rfl), by repeat (first | (with_reducible first | exact HB.out | apply below_alloc | apply pw_below_drewN | apply below_drew1) | exact HB.out)⟩
      · replace c7 := Bool.eq_false_iff.mpr c7
        subst c7
        have H1 : (if t283 = 0 then (gaolerlaw01_ModesRead.j0 k a0 (t284 != 0)) else (gaolerlaw01_ModesRead.j0 k a0 true)) = some r := by rw [if_neg (show ¬ (false = true) by decide)] at H; exact H
        clear H
        have H := H1
        clear H1
        have HC23 := Aside0.mk H
        clear H
        go_enter Try.func10, Try.ntmps10
        go_upto_region 9 with (first | ((with_reducible refine gate_callee (f := 34) rfl ?_); refine goesL_ (some 9) rfl rfl Try.func34 (by kernel_rfl) rfl #[] rfl (by (try simp only [List.map_toArray, List.map_cons, List.map_nil]); first | done | rfl | (simp only [List.length_drop, List.length_take]; rfl)) ?_; (with_reducible refine (gaolerlaw01_awake.calls  true _ A2.out).mono ?_); rintro e w24 ⟨rfl, hb⟩; refine ⟨_, rfl, ?_⟩; have n0_ := Aside0.mk (below_step (by repeat (first | (with_reducible first | exact HB.out | apply below_alloc | apply pw_below_drewN | apply below_drew1) | exact HB.out)) hb); clear HB; have HB := n0_; clear n0_; (try clear hb); (try clear hb2); (try clear hk); (try clear hi)) | ((with_reducible refine gate_callee (f := 37) rfl ?_); refine goesL_ (some 17) rfl rfl Try.func37 (by kernel_rfl) rfl #[.string a0] rfl (by (try simp only [List.map_toArray, List.map_cons, List.map_nil]); first | done | rfl | (simp only [List.length_drop, List.length_take]; rfl)) ?_; (with_reducible refine (modes_Read.calls a0 t283 t284 false _ A6.out).mono ?_); rintro e w25 ⟨rfl, hb⟩; refine ⟨_, rfl, ?_⟩; have n0_ := Aside0.mk (below_step (by repeat (first | (with_reducible first | exact HB.out | apply below_alloc | apply pw_below_drewN | apply below_drew1) | exact HB.out)) hb); clear HB; have HB := n0_; clear n0_; (try clear hb); (try clear hb2); (try clear hk); (try clear hi)))
        (try simp only [Act.put, List.setIfInBounds_toArray, List.set_cons_zero, List.set_cons_succ])
        go_cut [48] (fun v48 wc => ∃ (kq : Nat) (x48_22 : Bool), v48 = .bool x48_22 ∧ Aside0 (gaolerlaw01_ModesRead.j0 kq a0 x48_22 = some r) ∧ Aside0 (kq ≤ k) ∧ Aside0 (Below w.heap.size w wc))
        case first =>
          have H := HC23.out
          clear HC23
          by_cases c26 : t283 = 0
          · rw [if_pos c26] at H
            have c26b0 : (t283 == 0) = true := beq_iff_eq.mpr c26
            have c26b1 : (t283 != 0) = false := bne_eq_false_iff_eq.mpr c26
            clear c26
            (first | rw [c26b0] | (simp only [i64_w, i32_w]; rw [c26b0]) | skip)
            have H' := Aside0.mk H
            clear H
            go_wp2
            go_meet
            case rel => exact ⟨_, ((t284 != 0)), (by first | rfl | (simp; done) | (simp [*]; done)), H', ⟨by first | omega | exact Nat.le_refl _⟩, ⟨by repeat (first | (with_reducible first | exact HB.out | apply below_alloc | apply pw_below_drewN | apply below_drew1) | exact HB.out)⟩⟩
          · rw [if_neg c26] at H
            have c26b0 : (t283 == 0) = false := beq_eq_false_iff_ne.mpr c26
            have c26b1 : (t283 != 0) = true := bne_iff_ne.mpr c26
            (first | rw [c26b0] | (simp only [i64_w, i32_w]; rw [c26b0]) | skip)
            have H' := Aside0.mk H
            clear H
            go_wp2
            go_meet
            case rel => exact ⟨_, (true), (by first | rfl | (simp; done) | (simp [*]; done)), H', ⟨by first | omega | exact Nat.le_refl _⟩, ⟨by repeat (first | (with_reducible first | exact HB.out | apply below_alloc | apply pw_below_drewN | apply below_drew1) | exact HB.out)⟩⟩
        case rest =>
          clear HC23
          try clear c1
          try clear c2
          try clear p2
          try clear c3
          try clear c4
          try clear c4b0
          try clear c4b1
          try clear c7
          try clear c8
          try clear c8b0
          try clear c9
          try clear c9b0
          try clear c10
          try clear c10b0
          try clear c11
          try clear c11b0
          try clear c26
          try clear c26b0
          try clear c26b1
          obtain ⟨kq, x48_22, rfl, HA, HJ22, HB⟩ := hcut
          cases kq with
          | zero => exact absurd HA.out (by simp [gaolerlaw01_ModesRead.j0])
          | succ kj22 =>
            have H := HA.out
            clear HA
            simp only [gaolerlaw01_ModesRead.j0] at H
            by_cases c27 : x48_22 = true
            · subst c27
              have H1 : (some false) = some r := by rw [if_pos rfl] at H; exact H
              clear H
              have H := H1
              clear H1
              obtain rfl := Option.some.inj H
              go_wp2
              go_ret
              exact ⟨by first | rfl | (simp [errW_none, errW_some] <;> rfl) | (simp [*, errW_none, errW_some] <;> rfl), by repeat (first | (with_reducible first | exact HB.out | apply below_alloc | apply pw_below_drewN | apply below_drew1) | exact HB.out)⟩
            · replace c27 := Bool.eq_false_iff.mpr c27
              subst c27
              have H1 : (gaolerlaw01_ModesRead.l0 kj22 a0 0) = some r := by rw [if_neg (show ¬ (false = true) by decide)] at H; exact H
              clear H
              have H := H1
              clear H1
              have H' := Aside0.mk H
              clear H
              go_wp2
              go_loopg [7] kj22 (fun kq v7 w' => ∃ (x7_2 : Int), v7 = .int .i64 x7_2 ∧ Aside0 (gaolerlaw01_ModesRead.l0 kq a0 x7_2 = some r) ∧ Aside0 (kq ≤ kj22) ∧ Aside0 (Below w.heap.size w w'))
              case atStart => exact ⟨(0), (by first | rfl | (simp; done) | (simp [*]; done)), H', ⟨Nat.le_refl _⟩, ⟨by repeat (first | (with_reducible first | exact HB.out | apply below_alloc | apply pw_below_drewN | apply below_drew1) | exact HB.out)⟩⟩
              case round =>
                clear H'
                try clear c1
                try clear c2
                try clear p2
                try clear c3
                try clear c4
                try clear c4b0
                try clear c4b1
                try clear c7
                try clear c8
                try clear c8b0
                try clear c9
                try clear c9b0
                try clear c10
                try clear c10b0
                try clear c11
                try clear c11b0
                try clear c26
                try clear c26b0
                try clear c26b1
                try clear c27
                try clear p2
                obtain ⟨x7_2, rfl, HA, HK2, HB⟩ := hrel
                cases gk with
                | zero => exact absurd HA.out (by simp [gaolerlaw01_ModesRead.l0])
                | succ k2 =>
                  have H := HA.out
                  clear HA
                  simp only [gaolerlaw01_ModesRead.l0] at H
                  have HC28 := Aside0.mk H
                  clear H
                  go_upto_region 12 with (fail)
                  go_cut [55] (fun v55 wc => ∃ (kq : Nat) (x55_27 : Bool), v55 = .bool x55_27 ∧ Aside0 (gaolerlaw01_ModesRead.j2 kq a0 x7_2 x55_27 = some r) ∧ Aside0 (kq ≤ k2) ∧ Aside0 (Below w.heap.size w wc))
                  case first =>
                    have H := HC28.out
                    clear HC28
                    by_cases c29 : x7_2 < 4
                    · rw [if_pos c29] at H
                      have c29b0 : decide (x7_2 < 4) = true := decide_eq_true c29
                      clear c29
                      (first | rw [c29b0] | (simp only [i64_w, i32_w]; rw [c29b0]) | skip)
                      have H' := Aside0.mk H
                      clear H
                      go_wp2
                      go_meet
                      case rel => exact ⟨_, (((a0.size : Int) == 10)), (by first | rfl | (simp; done) | (simp [*]; done)), H', ⟨by have := HJ22.out; have := HK2.out; first | omega | exact Nat.le_refl _⟩, ⟨by repeat (first | (with_reducible first | exact HB.out | apply below_alloc | apply pw_below_drewN | apply below_drew1) | exact HB.out)⟩⟩
                    · rw [if_neg c29] at H
                      have c29b0 : decide (x7_2 < 4) = false := decide_eq_false c29
                      clear c29
                      (first | rw [c29b0] | (simp only [i64_w, i32_w]; rw [c29b0]) | skip)
                      have H' := Aside0.mk H
                      clear H
                      go_wp2
                      go_meet
                      case rel => exact ⟨_, (false), (by first | rfl | (simp; done) | (simp [*]; done)), H', ⟨by have := HJ22.out; have := HK2.out; first | omega | exact Nat.le_refl _⟩, ⟨by repeat (first | (with_reducible first | exact HB.out | apply below_alloc | apply pw_below_drewN | apply below_drew1) | exact HB.out)⟩⟩
                  case rest =>
                    clear HC28
                    try clear c1
                    try clear c2
                    try clear p2
                    try clear c3
                    try clear c4
                    try clear c4b0
                    try clear c4b1
                    try clear c7
                    try clear c8
                    try clear c8b0
                    try clear c9
                    try clear c9b0
                    try clear c10
                    try clear c10b0
                    try clear c11
                    try clear c11b0
                    try clear c26
                    try clear c26b0
                    try clear c26b1
                    try clear c27
                    try clear c29
                    try clear c29b0
                    try clear p2
                    obtain ⟨kq, x55_27, rfl, HA, HJ27, HB⟩ := hcut
                    cases kq with
                    | zero => exact absurd HA.out (by simp [gaolerlaw01_ModesRead.j2])
                    | succ kj27 =>
                      have H := HA.out
                      clear HA
                      simp only [gaolerlaw01_ModesRead.j2] at H
                      by_cases c30 : x55_27 = true
                      · subst c30
                        have H1 : (gaolerlaw01_ModesRead.l1 kj27 a0 x7_2 0) = some r := by rw [if_pos rfl] at H; exact H
                        clear H
                        have H := H1
                        clear H1
                        have H' := Aside0.mk H
                        clear H
                        go_wp2
                        go_loopg [8] kj27 (fun kq v8 w' => ∃ (x8_4 : Int), v8 = .int .i64 x8_4 ∧ Aside0 (gaolerlaw01_ModesRead.l1 kq a0 x7_2 x8_4 = some r) ∧ Aside0 (kq ≤ kj27) ∧ Aside0 (Below w.heap.size w w'))
                        case atStart => exact ⟨(0), (by first | rfl | (simp; done) | (simp [*]; done)), H', ⟨Nat.le_refl _⟩, ⟨by repeat (first | (with_reducible first | exact HB.out | apply below_alloc | apply pw_below_drewN | apply below_drew1) | exact HB.out)⟩⟩
                        case round =>
                          clear H'
                          try clear c1
                          try clear c2
                          try clear p2
                          try clear c3
                          try clear c4
                          try clear c4b0
                          try clear c4b1
                          try clear c7
                          try clear c8
                          try clear c8b0
                          try clear c9
                          try clear c9b0
                          try clear c10
                          try clear c10b0
                          try clear c11
                          try clear c11b0
                          try clear c26
                          try clear c26b0
                          try clear c26b1
                          try clear c27
                          try clear c29
                          try clear c29b0
                          try clear c30
                          try clear p2
                          obtain ⟨x8_4, rfl, HA, HK4, HB⟩ := hrel
                          cases gk with
                          | zero => exact absurd HA.out (by simp [gaolerlaw01_ModesRead.l1])
                          | succ k4 =>
                            have H := HA.out
                            clear HA
                            simp only [gaolerlaw01_ModesRead.l1] at H
                            by_cases c31 : x8_4 < 4096
                            · rw [if_pos c31] at H
                              have c31b0 : decide (x8_4 < 4096) = true := decide_eq_true c31
                              clear c31
                              replace H := Option.bind_eq_some_iff.mp H
                              obtain ⟨t287, A320, H⟩ := H
                              replace H : (if t287.toList = a0.toList then (some false) else (gaolerlaw01_ModesRead.l1 k4 a0 x7_2 (wrap64 (x8_4 + 1)))) = some r := H
                              have A32 := Aside0.mk A320
                              clear A320
                              by_cases c33 : t287.toList = a0.toList
                              · rw [if_pos c33] at H
                                have c33b0 : (t287.toList == a0.toList) = true := beq_iff_eq.mpr c33
                                have c33b1 : (t287.toList != a0.toList) = false := bne_eq_false_iff_eq.mpr c33
                                clear c33
                                obtain rfl := Option.some.inj H
                                go_wp2_with (first | ((with_reducible refine gate_callee (f := 36) rfl ?_); refine goesL_ (some 64) rfl rfl Try.func36 (by kernel_rfl) rfl #[.int .i64 x7_2, .int .i64 x8_4] rfl (by (try simp only [List.map_toArray, List.map_cons, List.map_nil]); first | done | rfl | (simp only [List.length_drop, List.length_take]; rfl)) ?_; (with_reducible refine (gaolerref01_Show.calls k4 x7_2 x8_4 t287 _ A32.out).mono ?_); rintro e w' ⟨rfl, ⟨nd, rfl⟩⟩; refine ⟨_, rfl, ?_⟩))
                                go_ret
                                exact ⟨by first | rfl | (simp [errW_none, errW_some] <;> rfl) | (simp [*, errW_none, errW_some] <;> rfl), by repeat (first | (with_reducible first | exact HB.out | apply below_alloc | apply pw_below_drewN | apply below_drew1) | exact HB.out)⟩
                              · rw [if_neg c33] at H
                                have c33b0 : (t287.toList == a0.toList) = false := beq_eq_false_iff_ne.mpr c33
                                have c33b1 : (t287.toList != a0.toList) = true := bne_iff_ne.mpr c33
                                have H' := Aside0.mk H
                                clear H
                                go_wp2_with (first | ((with_reducible refine gate_callee (f := 36) rfl ?_); refine goesL_ (some 64) rfl rfl Try.func36 (by kernel_rfl) rfl #[.int .i64 x7_2, .int .i64 x8_4] rfl (by (try simp only [List.map_toArray, List.map_cons, List.map_nil]); first | done | rfl | (simp only [List.length_drop, List.length_take]; rfl)) ?_; (with_reducible refine (gaolerref01_Show.calls k4 x7_2 x8_4 t287 _ A32.out).mono ?_); rintro e w' ⟨rfl, ⟨nd, rfl⟩⟩; refine ⟨_, rfl, ?_⟩))
                                go_roundg k4
                                case measure => have := HJ22.out; have := HK2.out; have := HJ27.out; have := HK4.out; omega
                                case rel => exact ⟨(wrap64 (x8_4 + 1)), (by first | rfl | (simp; done) | (simp [*]; done)), H', ⟨by have := HJ22.out; have := HK2.out; have := HJ27.out; have := HK4.out; omega⟩, ⟨by repeat (first | (with_reducible first | exact HB.out | apply below_alloc | apply pw_below_drewN | apply below_drew1) | exact HB.out)⟩⟩
                            · rw [if_neg c31] at H
                              have c31b0 : decide (x8_4 < 4096) = false := decide_eq_false c31
                              clear c31
                              have H' := Aside0.mk H
                              clear H
                              go_wp2
                              go_roundg k4
                              case measure => have := HJ22.out; have := HK2.out; have := HJ27.out; have := HK4.out; omega
                              case rel => exact ⟨(wrap64 (x7_2 + 1)), (by first | rfl | (simp; done) | (simp [*]; done)), H', ⟨by have := HJ22.out; have := HK2.out; have := HJ27.out; have := HK4.out; omega⟩, ⟨by repeat (first | (with_reducible first | exact HB.out | apply below_alloc | apply pw_below_drewN | apply below_drew1) | exact HB.out)⟩⟩
                      · replace c30 := Bool.eq_false_iff.mpr c30
                        subst c30
                        have H1 : (some true) = some r := by rw [if_neg (show ¬ (false = true) by decide)] at H; exact H
                        clear H
                        have H := H1
                        clear H1
                        obtain rfl := Option.some.inj H
                        go_wp2
                        go_ret
                        exact ⟨by first | rfl | (simp [errW_none, errW_some] <;> rfl) | (simp [*, errW_none, errW_some] <;> rfl), by repeat (first | (with_reducible first | exact HB.out | apply below_alloc | apply pw_below_drewN | apply below_drew1) | exact HB.out)⟩
  · replace c3 := Bool.eq_false_iff.mpr c3
    subst c3
    have H1 : (some false) = some r := by rw [if_neg (show ¬ (false = true) by decide)] at H; exact H
    clear H
    have H := H1
    clear H1
    obtain rfl := Option.some.inj H
    go_enter Try.func10, Try.ntmps10
    go_wp2_with (first | ((with_reducible refine gate_callee (f := 34) rfl ?_); refine goesL_ (some 9) rfl rfl Try.func34 (by kernel_rfl) rfl #[] rfl (by (try simp only [List.map_toArray, List.map_cons, List.map_nil]); first | done | rfl | (simp only [List.length_drop, List.length_take]; rfl)) ?_; (with_reducible refine (gaolerlaw01_awake.calls  false _ A2.out).mono ?_); rintro e w34 ⟨rfl, hb⟩; refine ⟨_, rfl, ?_⟩; have n0_ := Aside0.mk (below_step (by repeat (first | (with_reducible first | exact HB.out | apply below_alloc | apply pw_below_drewN | apply below_drew1) | exact HB.out)) hb); clear HB; have HB := n0_; clear n0_; (try clear hb); (try clear hb2); (try clear hk); (try clear hi)))
    go_ret
    exact ⟨by first | rfl | (simp [errW_none, errW_some] <;> rfl) | (simp [*, errW_none, errW_some] <;> rfl), by repeat (first | (with_reducible first | exact HB.out | apply below_alloc | apply pw_below_drewN | apply below_drew1) | exact HB.out)⟩

/-- THE ONE PURE STATEMENT of gaolerlaw01_ModesRead: yours. -/
def gaolerlaw01_ModesRead.Pure : Prop := ∀ (a0 : ByteArray), a0.size ≤ 140737488351232 → ∃ k, gaolerlaw01_ModesRead.f k a0 = some true
theorem gaolerlaw01_ModesRead.walk (P : gaolerlaw01_ModesRead.Pure) (a0 : ByteArray) (w : World) (w0 : a0.size ≤ 140737488351232) :
    Calls Try.prog 10 #[.string a0] w fun e w' => e = .returned (.bool true) ∧ Below w.heap.size w w' := by
  obtain ⟨k, h⟩ := P a0 w0
  refine (gaolerlaw01_ModesRead.calls k a0 true w h).mono ?_
  rintro e w' ⟨rfl, hd⟩
  exact ⟨rfl, hd⟩

end Go.Proofs.Ytbbobjchokffbaa.S
