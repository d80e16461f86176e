/- ApplyParts: clauses one behind the other make of a mode what the first ones make, and of that the others. The walk, joined with the plain law. -/
import Derived.Test.YtlohbepfecahdaaDoorZfLw
import Derived.Test.YtlohbepfecahdaaDoorZfV
namespace Go.Proofs.YtlohbepfecahdaaDoor.Pure
open Go.RowKit Go.Proofs.YtlohbepfecahdaaDoor.S Go.Proofs.YtlohbepfecahdaaDoor.L Go.Proofs.YtlohbepfecahdaaDoorW.PrintWords Go.Proofs.YtlohbepfecahdaaDoorW.PrintLast
set_option linter.unusedVariables false
theorem ApplyParts (A0 A1 : Option Addr) (c0 c1 : Nat) (l0 l1 : List S34) (a2 : Int) (a3 : Bool) (a4 : Int) (W : World)
    (hr0 : Kd.C k34 W A0 l0.length l0) (hc0 : l0.length ≤ c0) (hr1 : Kd.C k34 W A1 l1.length l1) (hc1 : l1.length ≤ c1)
    (hb0 : ∀ c ∈ l0, bytesA c.f1) (hb1 : ∀ c ∈ l1, bytesA c.f1) (hl0 : l0.length ≤ maxLen) (hl1 : l1.length ≤ maxLen) :
    Calls Tryd.prog 12 #[.slice A0 l0.length c0, .slice A1 l1.length c1, .int .i64 a2, .bool a3, .int .i64 a4] W fun e w' => e = .returned (.bool true) ∧ Below W.heap.size W w' := by
  unfold maxLen at hl0 hl1
  obtain ⟨k, hk⟩ : ∃ k, k = l0.length + l1.length + 2000000 := ⟨_, rfl⟩
  have ha := awake3 k (by omega)
  obtain ⟨b0, f0, q0⟩ := few_eq l0 hl0 k (by omega)
  obtain ⟨b1, f1, q1⟩ := few_eq l1 hl1 k (by omega)
  cases b0 with
  | false => exact gaolerlaw03_ApplyParts.no1 k A0 A1 c0 c1 l0 l1 a2 a3 a4 W hr0 hc0 hr1 hc1 ha f0
  | true =>
    cases b1 with
    | false => exact gaolerlaw03_ApplyParts.no2 k A0 A1 c0 c1 l0 l1 a2 a3 a4 W hr0 hc0 hr1 hc1 ha f0 f1
    | true =>
      obtain ⟨x0, y0⟩ := q0 rfl
      obtain ⟨x1, y1⟩ := q1 rfl
      have s0 : sized l0 := ⟨by omega, fun c hc => ⟨by have := y0 c hc; omega, hb0 c hc⟩⟩
      have s1 : sized l1 := ⟨by omega, fun c hc => ⟨by have := y1 c hc; omega, hb1 c hc⟩⟩
      have s2 : sized (l0 ++ l1) := ⟨by rw [List.length_append]; omega, fun c hc => by rcases List.mem_append.1 hc with h | h; exact s0.2 c h; exact s1.2 c h⟩
      have r0 := right_eq l0 s0 k (by omega)
      have r1 := right_eq l1 s1 k (by omega)
      cases h0 : rightS l0 with
      | false => exact gaolerlaw03_ApplyParts.no3 k A0 A1 c0 c1 l0 l1 a2 a3 a4 W hr0 hc0 hr1 hc1 ha f0 f1 (by rw [r0, h0])
      | true =>
        cases h1 : rightS l1 with
        | false => exact gaolerlaw03_ApplyParts.no4 k A0 A1 c0 c1 l0 l1 a2 a3 a4 W hr0 hc0 hr1 hc1 ha f0 f1 (by rw [r0, h0]) (by rw [r1, h1])
        | true =>
          exact gaolerlaw03_ApplyParts.yes k A0 A1 c0 c1 l0 l1 a2 a3 a4 (applyV l0 a2 a3 a4) (applyV (l0 ++ l1) a2 a3 a4) (l0 ++ l1) W hr0 hc0 hr1 hc1 ha f0 f1 (by rw [r0, h0]) (by rw [r1, h1]) x0 x1 rfl
            (apply_eq _ s2 a2 a3 a4 k (by omega)) (apply_eq _ s0 a2 a3 a4 k (by omega)) (by rw [apply_eq _ s1 (applyV l0 a2 a3 a4) a3 a4 k (by omega), parts l0 l1 h0 h1])
end Go.Proofs.YtlohbepfecahdaaDoor.Pure
