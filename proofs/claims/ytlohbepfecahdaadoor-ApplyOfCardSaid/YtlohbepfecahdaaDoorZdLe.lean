/- Plain facts: Show tells the texts of clauses; the document's examples hold. No machine in sight. -/
import Derived.Test.YtlohbepfecahdaaDoorZdLd
import Derived.KernelRfl
namespace Go.Proofs.YtlohbepfecahdaaDoor.L
open Go.RowKit Go.Proofs.YtlohbepfecahdaaDoor.S Go.Proofs.YtlohbepfecahdaaDoorW.PrintWords Go.Proofs.YtlohbepfecahdaaDoorW.PrintLast
set_option linter.unusedVariables false
set_option linter.unusedSimpArgs false
def big : Nat := 50000000
theorem big_eq : big = 50000000 := rfl
theorem actS_op (l : List UInt8) : (actS l).1.1 = 0 ∨ ∃ c : UInt8, (actS l).1.1 = (c.toNat : Int) := by
  cases l with
  | nil => exact .inl rfl
  | cons c l =>
    cases hs : signK c with
    | false => exact .inl (by simp [actS, hs])
    | true =>
      refine .inr ⟨c, ?_⟩
      cases l with
      | nil => simp [actS, hs]
      | cons d m =>
        by_cases hk : 0 ≤ classK d
        · simp [actS, hs, hk]
        · simp [actS, hs, hk]
/-- What is parsed is not large. -/
theorem actsN_byte : ∀ (n : Nat) (l : List UInt8), bytesA (actsN n l).1
  | 0, l => by simp [actsN, bytesA]
  | n + 1, l => by
    have ih := actsN_byte n (actS l).2
    unfold actsN
    split
    · simp [bytesA]
    · intro a ha
      rcases List.mem_cons.1 ha with rfl | ha
      · show 0 ≤ (actS l).1.1 ∧ (actS l).1.1 ≤ 255
        rcases actS_op l with h | ⟨c, h⟩
        · rw [h]; decide
        · have hc := c.toNat_lt
          rw [h]; omega
      · exact ih a ha
theorem parseL_mem : ∀ (ps : List (List UInt8)) (r : List S34), parseL ps = some r → ∀ c ∈ r, ∃ p ∈ ps, c = ⟨(oneS p).1, (oneS p).2.1⟩ ∧ (oneS p).2.2 = true
  | [], r, h, c, hc => by have := Option.some.inj h; subst this; simp at hc
  | p :: ps, r, h, c, hc => by
    unfold parseL at h
    split at h
    · rename_i ho
      obtain ⟨r', h1, rfl⟩ := Option.map_eq_some_iff.1 h
      rcases List.mem_cons.1 hc with rfl | hc
      · exact ⟨p, by simp, rfl, ho⟩
      · obtain ⟨q, hq, e⟩ := parseL_mem ps r' h1 c hc
        exact ⟨q, by simp [hq], e⟩
    · exact absurd h (by simp)
theorem parse_sized (l : List UInt8) (hl : l.length ≤ 900) (r : List S34) (h : parseL (pcs [] l) = some r) : sized r := by
  have h1 := parseL_len _ _ h
  have h2 := pcs_len l []
  refine ⟨by omega, fun c hc => ?_⟩
  obtain ⟨p, hp, rfl, _⟩ := parseL_mem _ _ h c hc
  have h3 := pcs_sub l [] p hp
  have h4 := actsN_len p.length (whoS 0 p).2
  exact ⟨by show (actsN p.length (whoS 0 p).2).1.length ≤ 1000; simp at h3; omega, actsN_byte _ _⟩
end Go.Proofs.YtlohbepfecahdaaDoor.L
