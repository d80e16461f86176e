/- ModesShow in numbers: any kind and mode as ten signs are the document's. -/
import Derived.Test.YtbbobjchokffbaaLs
namespace Go.Proofs.Ytbbobjchokffbaa.Pure
set_option linter.unusedSimpArgs false
set_option linter.unusedVariables false
open Go.RowKit Go.Proofs.Ytbbobjchokffbaa.S Go.Proofs.Ytbbobjchokffbaa.L Go.Proofs.YtbbobjchokffbaaW.PrintWords Go.Proofs.YtbbobjchokffbaaW.PrintLast
theorem ModesShow : gaolerlaw01_ModesShow.Pure := by
  intro a0 a1 _ _
  refine ⟨10, ?_⟩
  unfold gaolerlaw01_ModesShow.f modes_Show.f
  rw [awake1, rshow_eq 10 (by decide)]
  simp
end Go.Proofs.Ytbbobjchokffbaa.Pure
