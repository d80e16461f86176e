/- ApplyClauses: what any clauses make of any mode, of whatever numbers they are, is the reference's; for up to 20 clauses of up to 20 acts. Pure part: numbers and lists alone. -/
import Derived.Test.YtlohbepfecahdaaDoorZcLu
import Derived.Test.YtlohbepfecahdaaDoorZcS22
namespace Go.Proofs.YtlohbepfecahdaaDoor.Pure
open Go.RowKit Go.Proofs.YtlohbepfecahdaaDoor.S Go.Proofs.YtlohbepfecahdaaDoor.L Go.Proofs.YtlohbepfecahdaaDoorW.PrintWords Go.Proofs.YtlohbepfecahdaaDoorW.PrintLast
set_option linter.unusedVariables false
theorem ApplyClauses (l : List S34) (hb : ∀ c ∈ l, bytesA c.f1) (hl : l.length ≤ maxLen) (m : Int) (wm : (Lit.int .i64 m).wf = true) (d : Bool) (u : Int) (wu : (Lit.int .i64 u).wf = true) : ∃ k, gaolerlaw03_ApplyClauses.f k l m d u = some true := by
  unfold maxLen at hl
  refine ⟨l.length + 2000000, ?_⟩
  obtain ⟨k, hk⟩ : ∃ k, k = l.length + 2000000 := ⟨_, rfl⟩
  rw [← hk]
  unfold gaolerlaw03_ApplyClauses.f
  obtain ⟨b, hb1, hb2⟩ := few_eq l hl k (by omega)
  rw [awake3 k (by omega), Option.bind_some, if_pos rfl, hb1, Option.bind_some]
  cases b with
  | false => rfl
  | true =>
    obtain ⟨q1, q2⟩ := hb2 rfl
    have hs : sized l := ⟨by omega, fun c hc => ⟨by have := q2 c hc; omega, hb c hc⟩⟩
    rw [if_pos rfl, apply_eq l hs m d u k (by omega), Option.bind_some, model3_eq l hs.1 (fun c hc => (hs.2 c hc).1) k (by omega), Option.bind_some, rapply_eq l hs m d u k (by omega), Option.bind_some]
    simp
end Go.Proofs.YtlohbepfecahdaaDoor.Pure
