/- TopModes: a part of the proof, merged. -/
import Derived.Test.YtbjhcjgniciooaaGreatDoorM17
namespace Go.Proofs.YtbjhcjgniciooaaGreatDoor.E.Kt
set_option linter.unusedVariables false
/-! ### Contracts of scripts and of worlds' beginnings, shown by runs in the kernel -/
theorem n_k15 : chkN rkP [(15, 4, ⟨[(.f 29, cI), (.g, cI), (.h, cI)], [7, 8, 9, 30, 31, 32, 33, 34, 35, 36, 37, 38, 39, 45, 95, 40, 41, 42, 43, 44, 10, 11, 12, 46, 47, 48, 49, 50, 51, 52, 53, 54, 55, 56, 57, 58, 59, 60, 61, 62, 63, 64, 65, 66, 67, 68, 69, 70, 71, 72, 73, 74, 75, 76, 82, 83, 84, 85, 86, 87, 88], [2050090], [⟨0, [(.s 27, 1), (.x 0, -1)]⟩, ⟨0, [(.x 1, 1), (.g, -1)]⟩, ⟨0, [(.x 2, 1), (.h, -1)]⟩, ⟨0, [(.x 0, 1), (.x 1, -1), (.s 29, -1), (.g, 1)]⟩, ⟨0, [(.h, 1), (.g, -1500), (.x 2, -1), (.x 1, 1500)]⟩], ⟨0, [(.s 27, 1), (.x 0, -1)]⟩, [1087, 1035, 1003, 1005, 1065, 1009, 3088, 90], false⟩)] [k28p, k29, k31, k49, k50, k51, k52, k53, k54, k55, k56, k57, k58] k15 false (0, 0, 0) = true := by decide +kernel
end Go.Proofs.YtbjhcjgniciooaaGreatDoor.E.Kt
