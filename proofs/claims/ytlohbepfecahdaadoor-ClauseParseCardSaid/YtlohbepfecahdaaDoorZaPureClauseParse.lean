/- ClauseParse: the clauses of any text up to 300 bytes, or that it has none, are the reference's. Pure part: numbers and lists alone. -/
import Derived.Test.YtlohbepfecahdaaDoorZaLe
namespace Go.Proofs.YtlohbepfecahdaaDoor.Pure
open Go.RowKit Go.Proofs.YtlohbepfecahdaaDoor.S Go.Proofs.YtlohbepfecahdaaDoor.L Go.Proofs.YtlohbepfecahdaaDoorW.PrintWords Go.Proofs.YtlohbepfecahdaaDoorW.PrintLast
set_option linter.unusedVariables false
theorem ClauseParse : gaolerlaw02_ClauseParse.Pure := by
  intro s _
  refine ⟨big, ?_⟩
  have hb := big_eq
  obtain ⟨k, hk⟩ : ∃ k, k = big := ⟨_, rfl⟩
  rw [← hk] at hb ⊢
  clear hk
  unfold gaolerlaw02_ClauseParse.f
  rw [awake2 k (by omega), Option.bind_some, if_pos rfl]
  by_cases hl : (s.size : Int) > 300
  · rw [if_pos hl]
  · rw [if_neg hl]
    obtain ⟨l, hs⟩ : ∃ l, s = T l := ⟨s.data.toList, (T_of s).symm⟩
    subst hs
    rw [T_size] at hl
    rw [parse_eq l (by omega) k (by omega), Option.bind_some, rparse_eq l (by omega) k (by omega), Option.bind_some]
    unfold parseS pfin
    cases h : parseL (pcs [] l) with
    | none => rfl
    | some r =>
      have hz := parse_sized l (by omega) r h
      show (if true = true then (if (0 : Int) = 0 then (gaolerlaw02_same.f k r ([] ++ r.map cvC)).bind fun t204 => some t204 else some false) else _) = _
      rw [if_pos rfl, if_pos rfl, List.nil_append, same_eq r hz.1 (fun c hc => (hz.2 c hc).1) k (by omega)]
      rfl
end Go.Proofs.YtlohbepfecahdaaDoor.Pure
