import Derived.Test.YtkibigbjgohdkaaDoorS5
import Derived.Test.YtkibigbjgohdkaaDoorLc
namespace Go.Proofs.YtkibigbjgohdkaaDoor.Pure
open Go.RowKit Go.Proofs.YtkibigbjgohdkaaDoor.S Go.Proofs.YtkibigbjgohdkaaDoorW.PrintWords Go.Proofs.YtkibigbjgohdkaaDoorW.PrintLast Go.Proofs.YtkibigbjgohdkaaDoor.L

theorem parts_j0 (a b : List UInt8) (ha : a.length ≤ 200) (hb : b.length ≤ 200) (k : Nat) (hk : 300001 < k) (x : Bool) : gaolerlaw07_PathsParts.j0 k (T a) (T b) x = some true := by
  obtain ⟨k, rfl⟩ : ∃ m, k = m + 1 := ⟨k - 1, by omega⟩
  simp only [gaolerlaw07_PathsParts.j0]
  cases x with
  | true => rfl
  | false =>
    rw [base_eq a (by omega), base_ref a (by omega) k (by omega), up_eq a (by omega), up_ref a (by omega) k (by omega), join_eq a b (by omega) (by omega), join_ref a b (by omega) (by omega)]
    simp
theorem PathsParts : gaolerlaw07_PathsParts.Pure := by
  intro a0 a1 _ _
  refine ⟨400000, ?_⟩
  obtain ⟨a, rfl⟩ : ∃ l, a0 = T l := ⟨_, (T_of a0).symm⟩
  obtain ⟨b, rfl⟩ : ∃ l, a1 = T l := ⟨_, (T_of a1).symm⟩
  unfold gaolerlaw07_PathsParts.f
  rw [awake_eq _ (by decide)]
  simp only [Option.bind_some, if_true]
  have hT : ∀ x y, gaolerlaw07_PathsParts.j0 400000 x y true = some true := fun x y => by simp only [gaolerlaw07_PathsParts.j0, if_true]
  by_cases h : ((T a).size : Int) > 200
  · rw [if_pos h, hT]
  · rw [if_neg h]
    by_cases h2 : ((T b).size : Int) > 200
    · rw [decide_eq_true h2, hT]
    · rw [T_size] at h h2
      exact parts_j0 a b (by omega) (by omega) _ (by decide) _

end Go.Proofs.YtkibigbjgohdkaaDoor.Pure
