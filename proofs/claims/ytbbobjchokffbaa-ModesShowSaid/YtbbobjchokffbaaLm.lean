/- Plain facts on modes: the examples hold; a class's bits, a mode with others, as the document has them. No machine in sight. -/
import Derived.Test.YtbbobjchokffbaaLb
import Derived.Test.YtbbobjchokffbaaS11
namespace Go.Proofs.Ytbbobjchokffbaa.L
set_option linter.unusedSimpArgs false
set_option linter.unusedVariables false
open Go.RowKit Go.Proofs.Ytbbobjchokffbaa.S Go.Proofs.YtbbobjchokffbaaW.PrintWords Go.Proofs.YtbbobjchokffbaaW.PrintLast
theorem awake1 : gaolerlaw01_awake.f = some true := by decide +kernel
end Go.Proofs.Ytbbobjchokffbaa.L
