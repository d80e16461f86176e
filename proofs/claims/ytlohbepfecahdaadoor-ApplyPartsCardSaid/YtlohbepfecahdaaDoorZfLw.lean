/- Laws of Apply: an act made twice, plus after minus; clauses one behind the other. -/
import Derived.Test.YtlohbepfecahdaaDoorZfLu
namespace Go.Proofs.YtlohbepfecahdaaDoor.L
open Go.RowKit Go.Proofs.YtlohbepfecahdaaDoor.S Go.Proofs.YtlohbepfecahdaaDoorW.PrintWords Go.Proofs.YtlohbepfecahdaaDoorW.PrintLast
set_option linter.unusedVariables false
def A (w p : Int) (d : Bool) (u : Int) (o m : Int) : Int := actV o w p 0 m d u
theorem right_app (a b : List S34) (ha : rightS a = true) (hb : rightS b = true) : rightS (a ++ b) = true := by
  unfold rightS at *
  simp only [Bool.and_eq_true, List.all_append] at *
  refine ⟨⟨ha.1, hb.1⟩, ?_⟩
  have := ha.2
  cases a with
  | nil => simp at this
  | cons x a => rfl
theorem right_all (a : List S34) (ha : rightS a = true) : ∀ c ∈ a, rightC c = true := by
  unfold rightS at ha
  simp only [Bool.and_eq_true, List.all_eq_true] at ha
  exact ha.1
theorem parts (a b : List S34) (ha : rightS a = true) (hb : rightS b = true) (m : Int) (d : Bool) (u : Int) : applyV (a ++ b) m d u = applyV b (applyV a m d u) d u := by
  have hs := clV_small d u a (m % 4096) (right_all a ha) ⟨by omega, by omega⟩
  unfold applyV
  rw [if_pos (right_app a b ha hb), if_pos ha, if_pos hb]
  have e : clV d u (m % 4096) a % 4096 = clV d u (m % 4096) a := by have := hs.1; have := hs.2; omega
  rw [e]
  unfold clV
  rw [List.foldl_append]
end Go.Proofs.YtlohbepfecahdaaDoor.L
