/- Plain facts of the laws of Apply: few, model, classes bit by bit. No machine in sight. -/
import Derived.Test.YtlohbepfecahdaaDoorZeLt
import Derived.Test.YtlohbepfecahdaaDoorZeS21
namespace Go.Proofs.YtlohbepfecahdaaDoor.L
open Go.RowKit Go.Proofs.YtlohbepfecahdaaDoor.S Go.Proofs.YtlohbepfecahdaaDoorW.PrintWords Go.Proofs.YtlohbepfecahdaaDoorW.PrintLast
set_option linter.unusedVariables false
set_option linter.unusedSimpArgs false
/-! ### Classes, bit by bit -/
theorem eq_bits (x y : Int) (hx : small x) (hy : small y) (h : ∀ i, i < 12 → tb x i = tb y i) : x = y := by
  have h1 := sum_of x hx.1 hx.2 (fun i => tb x i) (fun i _ => rfl)
  have h2 := sum_of y hy.1 hy.2 (fun i => tb x i) (fun i hi => h i hi)
  omega
theorem one_act (w o p c m : Int) (d : Bool) (u : Int) (hr : rightC ⟨w, [⟨o, p, c⟩]⟩ = true) (hm : small m) : applyV [⟨w, [⟨o, p, c⟩]⟩] m d u = actV o w p c m d u := by
  unfold applyV
  have h1 : rightS [⟨w, [⟨o, p, c⟩]⟩] = true := by unfold rightS; rw [List.all_cons, hr]; rfl
  rw [if_pos h1, show m % 4096 = m by have := hm.1; have := hm.2; omega]; rfl
theorem one_sized (w o p c : Int) (h0 : 0 ≤ o) (h1 : o ≤ 255) : sized [⟨w, [⟨o, p, c⟩]⟩] := by
  refine ⟨by simp, fun x hx => ?_⟩
  rw [List.mem_singleton.1 hx]
  refine ⟨by simp, fun a ha => ?_⟩
  rw [List.mem_singleton.1 ha]
  exact ⟨h0, h1⟩
end Go.Proofs.YtlohbepfecahdaaDoor.L
