/- TopModes: a part of the proof, merged. -/
import Derived.Test.YtbjhcjgniciooaaGreatDoorM17
namespace Go.Proofs.YtbjhcjgniciooaaGreatDoor.E.Kt
set_option linter.unusedVariables false
/-! ### Contracts of scripts and of worlds' beginnings, shown by runs in the kernel -/
theorem n_k90 : chkN rkP [(90, 3, ⟨[(.f 13, cI)], [5, 6, 14, 15, 16, 17, 18, 19, 20, 21, 22, 23, 24, 25, 26, 27, 28, 29, 30, 31, 32, 33, 34, 35, 36, 37, 38, 39, 40, 41], [], [⟨0, [(.x 0, 1)]⟩, ⟨0, [(.s 0, 1), (.x 0, -1)]⟩], ⟨0, [(.s 0, 1), (.x 0, -1)]⟩, [1005], false⟩)] [] k90 false (0, 0, 0) = true := by decide +kernel
theorem n_k55 : chkN rkP [(219, 2, ⟨[(.f 8, cI)], [5, 9, 10, 11, 12, 13, 14, 15, 16, 18], [], [⟨0, [(.x 0, 1)]⟩, ⟨0, [(.s 0, 1), (.x 0, -1)]⟩], ⟨0, [(.s 0, 1), (.x 0, -1)]⟩, [], false⟩)] [k89, k93, k147p] k55 false (0, 0, 0) = true := by decide +kernel
theorem n_k28p : chkN rkP [(59, 11, ⟨[(.f 10, cI), (.f 0, cS)], [11, 34, 35, 36, 37, 38, 39, 40, 41, 42, 43, 44, 45, 46, 47, 48, 49, 50, 51, 52, 53, 54, 55, 56, 57], [], [⟨0, [(.x 0, 1)]⟩, ⟨0, [(.s 3, 1), (.x 0, -1)]⟩, ⟨0, [(.s 10, 1), (.s 0, 1), (.x 0, -1), (.x 1, -1)]⟩], ⟨0, [(.s 0, 1), (.x 0, -1)]⟩, [4009], false⟩)] [] k28p false (0, 0, 0) = true := by decide +kernel
end Go.Proofs.YtbjhcjgniciooaaGreatDoor.E.Kt
