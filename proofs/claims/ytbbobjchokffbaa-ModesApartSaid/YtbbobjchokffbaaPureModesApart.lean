/- ModesApart in numbers: a class that is changed has what was told, and the others, and the three bits besides, are as they were. -/
import Derived.Test.YtbbobjchokffbaaLm
import Derived.Test.YtbbobjchokffbaaS14
import Derived.OpenShut
namespace Go.Proofs.Ytbbobjchokffbaa.Pure
set_option linter.unusedSimpArgs false
set_option linter.unusedVariables false
open Go.RowKit Go.Proofs.Ytbbobjchokffbaa.S Go.Proofs.Ytbbobjchokffbaa.L Go.Proofs.YtbbobjchokffbaaW.PrintWords Go.Proofs.YtbbobjchokffbaaW.PrintLast
theorem apart_cls (m c b j : Int) (h0 : 0 ≤ m) (h1 : m < 4096) (hc : c = 0 ∨ c = 1 ∨ c = 2) (hj : j = 0 ∨ j = 1 ∨ j = 2) : clsS (withS m c b) j = if j = c then b % 8 else clsS m j := by
  rcases hc with rfl | rfl | rfl <;> rcases hj with rfl | rfl | rfl <;> simp [clsS, withS] <;> omega
theorem apart_high (m c b : Int) (h0 : 0 ≤ m) (h1 : m < 4096) (hc : c = 0 ∨ c = 1 ∨ c = 2) : 0 ≤ withS m c b ∧ withS m c b < 4096 ∧ withS m c b / 512 = m / 512 ∧ withS (withS m c b) c (clsS m c) = m := by
  rcases hc with rfl | rfl | rfl <;> simp [clsS, withS] <;> omega
theorem apart_sum (m : Int) (h0 : 0 ≤ m) (h1 : m < 4096) : m = m / 512 * 512 + clsS m 0 * 64 + clsS m 1 * 8 + clsS m 2 := by
  simp [clsS]; omega
theorem ModesApart : gaolerlaw01_ModesApart.Pure := by
  intro a0 a1 a2 w0 w1 w2
  have b0 := bounds_u16 w0
  have b1 := bounds_u8 w1
  have b2 := bounds_u8 w2
  refine ⟨10, ?_⟩
  unfold gaolerlaw01_ModesApart.f modes_With.f
  rw [awake1, tmod_nn a0 _ b0.1, tmod_nn a1 _ b1.1, w64 (a0 % 4096) (by omega) (by omega), w64 (a1 % 3) (by omega) (by omega), w64 a2 (by omega) (by omega)]
  simp only [Option.bind_some, if_true]
  have hm0 : 0 ≤ a0 % 4096 := by omega
  have hm1 : a0 % 4096 < 4096 := by omega
  have hc : a1 % 3 = 0 ∨ a1 % 3 = 1 ∨ a1 % 3 = 2 := by omega
  generalize a0 % 4096 = m at hm0 hm1
  generalize a1 % 3 = c at hc
  obtain ⟨x0, x1, x2, x3⟩ := apart_high m c a2 hm0 hm1 hc
  have hs := apart_sum m hm0 hm1
  have hj : ∀ j : Int, (j = 0 ∨ j = 1 ∨ j = 2) → ∀ k : Nat, gaolerlaw01_ModesApart.l0 (k + 1) a2 m c (withS m c a2) j = gaolerlaw01_ModesApart.l0 k a2 m c (withS m c a2) (j + 1) := by
    intro j hj k
    have h := apart_cls m c a2 j hm0 hm1 hc hj
    rw [gaolerlaw01_ModesApart.l0]
    simp only [modes_Class.f, Option.bind_some]
    rw [if_pos (by omega), tmod_nn a2 _ b2.1, w64 (a2 % 8) (by omega) (by omega), w64 (j + 1) (by omega) (by omega), h]
    by_cases e : j = c
    · rw [if_pos e, if_pos e, if_pos rfl]
    · rw [if_neg e, if_neg e, if_pos rfl]
  rw [hj 0 (.inl rfl) 9, show ((0 : Int) + 1) = 1 from rfl, hj 1 (.inr (.inl rfl)) 8, show ((1 : Int) + 1) = 2 from rfl, hj 2 (.inr (.inr rfl)) 7, show ((2 : Int) + 1) = 3 from rfl]
  rw [gaolerlaw01_ModesApart.l0]
  simp only [modes_Class.f, modes_With.f, Option.bind_some]
  rw [if_neg (by decide), tdiv_nn _ _ x0, tdiv_nn _ _ hm0, x2, if_pos rfl, x3, if_pos rfl]
  have r0 := clsS_range' m 0
  have r1 := clsS_range' m 1
  have r2 := clsS_range' m 2
  congr 1
  rw [beq_iff_eq]
  simp only [wrap64]; omega
end Go.Proofs.Ytbbobjchokffbaa.Pure
