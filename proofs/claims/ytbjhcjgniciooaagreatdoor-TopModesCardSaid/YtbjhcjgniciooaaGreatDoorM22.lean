/- TopModes: a part of the proof, merged. -/
import Derived.Test.YtbjhcjgniciooaaGreatDoorM17
namespace Go.Proofs.YtbjhcjgniciooaaGreatDoor.E.Kt
set_option linter.unusedVariables false
/-! ### Contracts of scripts and of worlds' beginnings, shown by runs in the kernel -/
theorem n_k87 : chkN rkF [(87, 5, ⟨[(.f 4, cI), (.t 15, cI)], [6, 16, 17, 18, 19, 20, 21, 22, 23, 24, 25, 26, 27, 28, 29, 30], [], [⟨0, [(.x 1, 1)]⟩, ⟨0, [(.l 15, 1), (.x 1, -1)]⟩], ⟨0, [(.l 15, 1), (.x 1, -1)]⟩, [], false⟩)] [] k87 false (0, 0, 0) = true := by decide +kernel
theorem n_k85 : chkN rkF [(85, 3, ⟨[(.f 4, cI), (.t 8, cI)], [6, 9, 10, 11, 12, 13, 14, 15, 16, 17, 18, 19, 20, 21, 22, 23], [], [⟨0, [(.x 1, 1)]⟩, ⟨0, [(.s 0, 1), (.x 1, -1)]⟩], ⟨0, [(.s 0, 1), (.x 1, -1)]⟩, [], false⟩)] [] k85 false (0, 0, 0) = true := by decide +kernel
theorem n_k233 : chkN rkF [(233, 8, ⟨[(.f 8, cI), (.t 27, cI)], [10, 28, 29, 30, 31, 32, 33, 34, 35, 36, 37, 38, 39, 40, 41, 42], [], [⟨0, [(.x 1, 1)]⟩, ⟨0, [(.l 27, 1), (.x 1, -1)]⟩], ⟨0, [(.l 27, 1), (.x 1, -1)]⟩, [], false⟩)] [] k233 false (0, 0, 0) = true := by decide +kernel
theorem n_k188 : chkN rkF [] [k233] k188 false (0, 0, 0) = true := by decide +kernel
theorem n_k175 : chkN rkF [] [k233] k175 false (0, 0, 0) = true := by decide +kernel
theorem n_k146 : chkN rkF [] [k175, k188] k146 false (0, 0, 0) = true := by decide +kernel
theorem n_k147p : chkN rkP [] [k212p] k147p false (0, 0, 0) = true := by decide +kernel
theorem n_k94p : chkN rkF [(94, 3, ⟨[(.f 11, cI), (.f 4, bSl 1003)], [6, 7, 8, 12, 13, 14, 15, 16, 17, 18, 19, 20, 21, 22, 23, 24, 25, 26], [], [⟨0, [(.s 9, 1), (.x 0, -1)]⟩, ⟨0, [(.x 0, 1), (.x 1, -1)]⟩, ⟨0, [(.x 1, 1), (.x 0, -1)]⟩], ⟨0, [(.s 9, 1), (.x 0, -1)]⟩, [1003], false⟩)] [k85] k94p false (0, 0, 0) = true := by decide +kernel
theorem n_k91 : chkN rkP [] [k146] k91 false (0, 0, 0) = true := by decide +kernel
theorem n_k95 : chkN rkF [] [] k95 false (0, 0, 0) = true := by decide +kernel
theorem n_k89 : chkN rkP [(219, 2, ⟨[(.f 8, cI)], [5, 9, 10, 11, 12, 13, 14, 15, 16, 18], [], [⟨0, [(.x 0, 1)]⟩, ⟨0, [(.s 0, 1), (.x 0, -1)]⟩], ⟨0, [(.s 0, 1), (.x 0, -1)]⟩, [], false⟩)] [k93, k147p] k89 true (1, 0, 0) = true := by decide +kernel
theorem n_k49 : chkN rkP [] [k85] k49 true (1, 0, 0) = true := by decide +kernel
theorem n_k50 : chkN rkP [] [k87] k50 true (1, 0, 0) = true := by decide +kernel
theorem n_k51 : chkN rkP [] [k87, k91] k51 true (1, 0, 0) = true := by decide +kernel
theorem n_k52 : chkN rkP [] [k87, k89, k91] k52 false (0, 0, 0) = true := by decide +kernel
theorem n_k53 : chkN rkP [] [k87, k89, k90, k91] k53 false (0, 0, 0) = true := by decide +kernel
theorem n_k54 : chkN rkP [] [k89, k91] k54 false (0, 0, 0) = true := by decide +kernel
theorem n_k56 : chkN rkP [] [k91, k94p] k56 true (1, 0, 0) = true := by decide +kernel
theorem n_k57 : chkN rkP [] [k95] k57 true (0, 0, 0) = true := by decide +kernel
theorem n_k58 : chkN rkP [] [k94p] k58 true (1, 0, 1500) = true := by decide +kernel
theorem n_k64 : chkN rkF [(64, 3, ⟨[(.f 14, cI), (.c 5 1, bSl 1065)], [7, 15, 16, 17, 18, 19, 20, 21, 22, 23, 24, 25, 26, 27, 28, 29], [], [⟨0, [(.s 12, 1), (.x 0, -1)]⟩, ⟨0, [(.x 0, 1), (.x 1, -1)]⟩, ⟨0, [(.x 1, 1), (.x 0, -1)]⟩], ⟨0, [(.s 12, 1), (.x 0, -1)]⟩, [1065, 1009], false⟩)] [] k64 false (0, 0, 0) = true := by decide +kernel
theorem n_k32_1 : chkN rkN [] [k33, k64] (k32 1) false (0, 0, 0) = true := by decide +kernel
theorem n_k32_2 : chkN rkN [] [k33, k64] (k32 2) false (0, 0, 0) = true := by decide +kernel
theorem n_k32_3 : chkN rkN [] [k33, k64] (k32 3) false (0, 0, 0) = true := by decide +kernel
theorem n_k32_4 : chkN rkN [] [k33, k64] (k32 4) false (0, 0, 0) = true := by decide +kernel
theorem n_k16_1 : chkN rkN [] [k31, (k32 1)] (k16 1) false (0, 0, 0) = true := by decide +kernel
theorem n_k16_2 : chkN rkN [] [k31, (k32 2)] (k16 2) false (0, 0, 0) = true := by decide +kernel
theorem n_k16_3 : chkN rkN [] [k31, (k32 3)] (k16 3) false (0, 0, 0) = true := by decide +kernel
theorem n_k16_4 : chkN rkN [] [k31, (k32 4)] (k16 4) false (0, 0, 0) = true := by decide +kernel
end Go.Proofs.YtbjhcjgniciooaaGreatDoor.E.Kt
