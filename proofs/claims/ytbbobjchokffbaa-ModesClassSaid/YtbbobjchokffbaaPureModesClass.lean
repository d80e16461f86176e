/- ModesClass in numbers: any class's bits of any mode, and the mode with other ones, are the document's. -/
import Derived.Test.YtbbobjchokffbaaLm
import Derived.Test.YtbbobjchokffbaaS13
namespace Go.Proofs.Ytbbobjchokffbaa.Pure
set_option linter.unusedSimpArgs false
set_option linter.unusedVariables false
open Go.RowKit Go.Proofs.Ytbbobjchokffbaa.S Go.Proofs.Ytbbobjchokffbaa.L Go.Proofs.YtbbobjchokffbaaW.PrintWords Go.Proofs.YtbbobjchokffbaaW.PrintLast
theorem rwith_eq (m k b : Int) : gaolerref01_With.f m k b = some (withS m k b) := by
  unfold gaolerref01_With.f withS
  rw [rest_8, low_eq]
  simp only [Option.bind_some, rclass_eq]
  have h0 : clsS (m % 4096) 0 = m / 64 % 8 := by unfold clsS; rw [if_pos rfl]; omega
  have h1 : clsS (m % 4096) 1 = m / 8 % 8 := by unfold clsS; rw [if_neg (by decide), if_pos rfl]; omega
  have h2 : clsS (m % 4096) 2 = m % 8 := by unfold clsS; rw [if_neg (by decide), if_neg (by decide), if_pos rfl]; omega
  rw [h0, h1, h2]
  split
  · congr 1; simp only [wrap64]; omega
  · split
    · congr 1; simp only [wrap64]; omega
    · split
      · congr 1; simp only [wrap64]; omega
      · rfl
theorem ModesClass : gaolerlaw01_ModesClass.Pure := by
  intro a0 a1 a2 _ _ _
  unfold gaolerlaw01_ModesClass.f modes_Class.f modes_With.f
  rw [awake1, rclass_eq, rwith_eq]
  simp
end Go.Proofs.Ytbbobjchokffbaa.Pure
