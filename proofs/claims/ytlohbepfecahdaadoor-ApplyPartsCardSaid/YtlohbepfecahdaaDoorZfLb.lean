/- Plain facts: what the reference's Place, Pow, sum, one and Parse say of a text: the same clauses as the program's. No machine in sight. -/
import Derived.Test.YtlohbepfecahdaaDoorZfLa
import Derived.Test.YtlohbepfecahdaaDoorZfS6
import Derived.Test.YtlohbepfecahdaaDoorZfS7
import Derived.Test.YtlohbepfecahdaaDoorZfS8
import Derived.Test.YtlohbepfecahdaaDoorZfS9
namespace Go.Proofs.YtlohbepfecahdaaDoor.L
open Go.RowKit Go.Proofs.YtlohbepfecahdaaDoor.S Go.Proofs.YtlohbepfecahdaaDoorW.PrintWords Go.Proofs.YtlohbepfecahdaaDoorW.PrintLast
set_option linter.unusedVariables false
set_option linter.unusedSimpArgs false
theorem index_cons (c d : UInt8) (l : List UInt8) : Lib.indexByte (c :: l) d = if c = d then 0 else if Lib.indexByte l d = -1 then -1 else Lib.indexByte l d + 1 := by
  simp only [Lib.indexByte, beq_iff_eq]
theorem index_mem (s : List UInt8) (c : UInt8) : 0 ≤ Lib.indexByte s c ↔ c ∈ s := by
  induction s with
  | nil => simp [Lib.indexByte]
  | cons d s ih =>
    rw [index_cons]
    have := Lib.indexByte_ge s c
    by_cases h : d = c
    · rw [if_pos h]; simp [h]
    · rw [if_neg h]
      by_cases hm : Lib.indexByte s c = -1
      · rw [if_pos hm]
        have : c ∉ s := fun hc => by have := ih.2 hc; omega
        simp [this]; exact fun e => h e.symm
      · rw [if_neg hm]
        have : c ∈ s := ih.1 (by omega)
        simp [this]; omega
/-! ### Letters, folded and summed -/
def isU (c : UInt8) : Bool := c = 117 || c = 103 || c = 111 || c = 97
end Go.Proofs.YtlohbepfecahdaaDoor.L
