/- CredRoot in numbers and lists: root may all, and its modes are as it asks for. -/
import Derived.Test.YtbbobjchokffbaaLd
import Derived.Test.YtbbobjchokffbaaS9
import Derived.OpenShut
namespace Go.Proofs.Ytbbobjchokffbaa.Pure
set_option linter.unusedSimpArgs false
set_option linter.unusedVariables false
open Go.RowKit Go.Proofs.Ytbbobjchokffbaa.S Go.Proofs.Ytbbobjchokffbaa.L Go.Proofs.YtbbobjchokffbaaW.PrintWords Go.Proofs.YtbbobjchokffbaaW.PrintLast
theorem CredRoot : gaolerlaw04_CredRoot.Pure := by
  intro a0 l1 a2 a3 a4 a5 a6 w0 _ _ _ w2 w3 w4 w5 w6
  have b4 := bounds_u16 w4
  refine ⟨100, ?_⟩
  unfold gaolerlaw04_CredRoot.f
  rw [awake4 100 (by omega)]
  simp only [Option.bind_some, if_true]
  by_cases hl : (l1.length : Int) > 20
  · rw [if_pos hl]
  · rw [if_neg hl]
    have hl' : l1.length ≤ 20 := by omega
    rw [tmod_nn a4 4096 b4.1, w64 (a4 % 4096) (by omega) (by omega), can_eq 100 0 a0 l1 hl' (by omega), maymode_eq 100 0 a0 l1 (by omega), mayown_eq 100 0 a0 l1 hl' (by omega), mode_eq 100 0 a0 l1 hl' (by omega), written_eq, sticky_eq 100 0 a0 l1 (by omega)]
    have e : a4 % 4096 % 4096 = a4 % 4096 := by omega
    simp [modeS, writtenS, mayOwn]
end Go.Proofs.Ytbbobjchokffbaa.Pure
