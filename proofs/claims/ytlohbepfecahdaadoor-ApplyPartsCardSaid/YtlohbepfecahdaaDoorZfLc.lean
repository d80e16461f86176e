/- Plain facts: the reference's one and Parse tell the same clauses as the program's. No machine in sight. -/
import Derived.Test.YtlohbepfecahdaaDoorZfLb
namespace Go.Proofs.YtlohbepfecahdaaDoor.L
open Go.RowKit Go.Proofs.YtlohbepfecahdaaDoor.S Go.Proofs.YtlohbepfecahdaaDoorW.PrintWords Go.Proofs.YtlohbepfecahdaaDoorW.PrintLast
set_option linter.unusedVariables false
set_option linter.unusedSimpArgs false
theorem inU (c : UInt8) : 0 ≤ Lib.indexByte [117, 103, 111, 97] c ↔ isU c = true := by
  rw [index_mem]; simp [isU, or_assoc]
theorem inS (c : UInt8) : 0 ≤ Lib.indexByte [43, 45, 61] c ↔ signK c = true := by
  rw [index_mem]; simp [signK, or_assoc]
end Go.Proofs.YtlohbepfecahdaaDoor.L
