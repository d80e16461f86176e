/- Plain facts of the laws of Apply: few, model, classes bit by bit. No machine in sight. -/
import Derived.Test.YtlohbepfecahdaaDoorZfLt
import Derived.Test.YtlohbepfecahdaaDoorZfS21
namespace Go.Proofs.YtlohbepfecahdaaDoor.L
open Go.RowKit Go.Proofs.YtlohbepfecahdaaDoor.S Go.Proofs.YtlohbepfecahdaaDoorW.PrintWords Go.Proofs.YtlohbepfecahdaaDoorW.PrintLast
set_option linter.unusedVariables false
set_option linter.unusedSimpArgs false
theorem few_loop (l : List S34) (hl : l.length ≤ 9223372036854775807) (n : Nat) : ∀ (k i : Nat), i ≤ l.length → l.length - i = n → n < k → ∃ b, gaolerlaw03_few.l0 k l (i : Int) = some b ∧ (b = true → l.length ≤ 20 ∧ ∀ c ∈ l.drop i, c.f1.length ≤ 20) := by
  induction n with
  | zero =>
    intro k i h1 hd hk
    obtain ⟨k, rfl⟩ : ∃ m, k = m + 1 := ⟨k - 1, by omega⟩
    simp only [gaolerlaw03_few.l0]
    rw [if_neg (by omega), List.drop_eq_nil_of_le (by omega)]
    exact ⟨_, rfl, fun h => ⟨by have := of_decide_eq_true h; omega, by simp⟩⟩
  | succ n ih =>
    intro k i h1 hd hk
    obtain ⟨k, rfl⟩ : ∃ m, k = m + 1 := ⟨k - 1, by omega⟩
    have hlt : i < l.length := by omega
    have hdrop : l.drop i = l[i] :: l.drop (i + 1) := (List.getElem_cons_drop hlt).symm
    simp only [gaolerlaw03_few.l0, rd34 l i hlt]
    rw [if_pos (by omega), if_pos (by omega)]
    by_cases hc : (l[i].f1.length : Int) > 20
    · rw [if_pos hc]
      exact ⟨false, rfl, fun h => by cases h⟩
    · rw [if_neg hc, w64 _ (by omega) (by omega)]
      obtain ⟨b, hb, hq⟩ := ih k (i + 1) (by omega) (by omega) (by omega)
      refine ⟨b, hb, fun h => ?_⟩
      obtain ⟨q1, q2⟩ := hq h
      refine ⟨q1, fun c hc2 => ?_⟩
      rw [hdrop] at hc2
      rcases List.mem_cons.1 hc2 with rfl | hc2
      · omega
      · exact q2 c hc2
theorem few_eq (l : List S34) (hl : l.length ≤ 9223372036854775807) (k : Nat) (hk : l.length < k) : ∃ b, gaolerlaw03_few.f k l = some b ∧ (b = true → l.length ≤ 20 ∧ ∀ c ∈ l, c.f1.length ≤ 20) := by
  unfold gaolerlaw03_few.f
  have := few_loop l hl l.length k 0 (by omega) (by omega) hk
  rw [List.drop_zero] at this
  exact this
/-! ### Classes, bit by bit -/
end Go.Proofs.YtlohbepfecahdaaDoor.L
