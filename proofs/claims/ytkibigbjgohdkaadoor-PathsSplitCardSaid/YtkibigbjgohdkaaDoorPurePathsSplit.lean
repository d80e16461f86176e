import Derived.Test.YtkibigbjgohdkaaDoorS4
import Derived.Test.YtkibigbjgohdkaaDoorLc
namespace Go.Proofs.YtkibigbjgohdkaaDoor.Pure
open Go.RowKit Go.Proofs.YtkibigbjgohdkaaDoor.S Go.Proofs.YtkibigbjgohdkaaDoorW.PrintWords Go.Proofs.YtkibigbjgohdkaaDoorW.PrintLast Go.Proofs.YtkibigbjgohdkaaDoor.L

theorem PathsSplit : gaolerlaw07_PathsSplit.Pure := by
  intro a0 _
  refine ⟨400000, ?_⟩
  obtain ⟨l, rfl⟩ : ∃ l, a0 = T l := ⟨_, (T_of a0).symm⟩
  unfold gaolerlaw07_PathsSplit.f
  rw [awake_eq _ (by decide)]
  simp only [Option.bind_some, if_true]
  by_cases h : ((T l).size : Int) > 200
  · rw [if_pos h]
  · rw [if_neg h]
    have hl : l.length ≤ 200 := by rw [T_size] at h; omega
    have h1 := split_len l
    have h2 := stp_len l []
    rw [split_eq l (by omega), split_ref l (by omega) _ (by omega), fits_eq, fits_ref l _ (by decide), name_eq, name_ref l _ (by decide), steps_eq l (by omega) _ (by omega), steps_ref l (by omega) _ (by omega)]
    simp only [Option.bind_some]
    rw [same_eq _ (by rw [List.length_map]; omega) _ (by rw [List.length_map]; omega), same_eq _ (by rw [List.length_map]; omega) _ (by rw [List.length_map]; omega)]
    simp

end Go.Proofs.YtkibigbjgohdkaaDoor.Pure
