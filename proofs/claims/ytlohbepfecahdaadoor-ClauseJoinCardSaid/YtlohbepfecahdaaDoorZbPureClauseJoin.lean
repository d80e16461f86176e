/- ClauseJoin: two texts with a comma between have the clauses of the one and those of the other; without clauses in one there are none; for texts up to 150 bytes each. Pure part: numbers and lists alone. -/
import Derived.Test.YtlohbepfecahdaaDoorZbLf
import Derived.Test.YtlohbepfecahdaaDoorZbS14
namespace Go.Proofs.YtlohbepfecahdaaDoor.Pure
open Go.RowKit Go.Proofs.YtlohbepfecahdaaDoor.S Go.Proofs.YtlohbepfecahdaaDoor.L Go.Proofs.YtlohbepfecahdaaDoorW.PrintWords Go.Proofs.YtlohbepfecahdaaDoorW.PrintLast
set_option linter.unusedVariables false
theorem ClauseJoin : gaolerlaw02_ClauseJoin.Pure := by
  intro s t _ _
  refine ⟨big, ?_⟩
  have hb := big_eq
  obtain ⟨k, hk⟩ : ∃ k, k = big := ⟨_, rfl⟩
  rw [← hk] at hb ⊢
  clear hk
  obtain ⟨a, rfl⟩ : ∃ l, s = T l := ⟨s.data.toList, (T_of s).symm⟩
  obtain ⟨b, rfl⟩ : ∃ l, t = T l := ⟨t.data.toList, (T_of t).symm⟩
  unfold gaolerlaw02_ClauseJoin.f
  rw [awake2 k (by omega), Option.bind_some, if_pos rfl, T_size, T_size]
  obtain ⟨k, rfl⟩ : ∃ m, k = m + 1 := ⟨k - 1, by omega⟩
  simp only [gaolerlaw02_ClauseJoin.j0]
  by_cases h1 : (a.length : Int) > 150
  · rw [if_pos h1, if_pos trivial]
  · rw [if_neg h1]
    by_cases h2 : (b.length : Int) > 150
    · rw [if_pos (by exact decide_eq_true h2)]
    · rw [if_neg (by rw [decide_eq_true_eq]; exact h2)]
      have e : (T a ++ (⟨#[44]⟩ : ByteArray)) ++ T b = T (a ++ 44 :: b) := by
        rw [show (⟨#[44]⟩ : ByteArray) = T [44] from rfl, T_app, T_app]; simp
      rw [parse_eq a (by omega) k (by omega), Option.bind_some, parse_eq b (by omega) k (by omega), Option.bind_some, if_pos (by rw [T_size]; omega),
        if_pos (by rw [show (⟨#[44]⟩ : ByteArray) = T [44] from rfl, T_app, T_size, T_size]; simp; omega), e, parse_eq (a ++ 44 :: b) (by simp; omega) k (by omega), Option.bind_some]
      obtain ⟨k, rfl⟩ : ∃ m, k = m + 1 := ⟨k - 1, by omega⟩
      simp only [gaolerlaw02_ClauseJoin.j1]
      unfold parseS
      rw [pcs_app, parseL_app]
      cases hx : parseL (pcs [] a) with
      | none => rfl
      | some x =>
        cases hy : parseL (pcs [] b) with
        | none => rfl
        | some y =>
          have zx := parse_sized a (by omega) x hx
          have zy := parse_sized b (by omega) y hy
          have lx := parseL_len _ _ hx
          have ly := parseL_len _ _ hy
          have px := pcs_len a []
          have py := pcs_len b []
          have hs : ∀ c ∈ x ++ y, c.f1.length ≤ 1000 := fun c hc => by
            rcases List.mem_append.1 hc with hc | hc
            · exact (zx.2 c hc).1
            · exact (zy.2 c hc).1
          have hl : (x ++ y).length ≤ 1000 := by rw [List.length_append]; omega
          show (if (0 : Int) = 0 then (if ((0 : Int) != 0) = true then _ else if ([] : List S34).length + x.length < 4398046511104 then (some ([] ++ x)).bind fun y288 => if y288.length + y.length < 4398046511104 then if (0 : Int) = 0 then (gaolerlaw02_model.f k (y288 ++ y)).bind fun t294 => (gaolerlaw02_same.f k (x ++ y) t294).bind fun t297 => some t297 else some false else none else none) else _) = _
          rw [if_pos rfl, if_neg (by decide), if_pos (by simp; omega), Option.bind_some, List.nil_append, if_pos (by omega), if_pos rfl, model_eq _ hl hs k (by omega), Option.bind_some, same_eq _ hl hs k (by omega)]
          rfl
end Go.Proofs.YtlohbepfecahdaaDoor.Pure
