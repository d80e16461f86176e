/- TopModes: a part of the proof, merged. -/
import Derived.Test.YtbjhcjgniciooaaGreatDoorM14
namespace Go.Proofs.YtbjhcjgniciooaaGreatDoor.E.Kt
set_option linter.unusedVariables false
/-! ### Contracts, shown by runs in the kernel -/
theorem c_k170 : chkK rkF [(170, 4, ⟨[(.f 20, cI), (.c 7 2, bSl 1268)], [9, 21, 22, 23, 24, 25, 26, 27, 28, 29, 30, 31, 32, 33, 34, 35, 36, 37, 38, 39, 40], [], [⟨0, [(.s 18, 1), (.x 0, -1)]⟩, ⟨0, [(.x 0, 1), (.x 1, -1)]⟩, ⟨0, [(.x 1, 1), (.x 0, -1)]⟩], ⟨0, [(.s 18, 1), (.x 0, -1)]⟩, [1268], false⟩)] [] k170 false (0, 0, 0) = true := by decide +kernel
theorem c_k68 : chkK rk5 [] [k11, k102, k102m, k119, k120, k121, k145] k68 false (0, 0, 0) = true := by decide +kernel
theorem c_k142 : chkK rk5 [] [] k142 false (0, 0, 0) = true := by decide +kernel
theorem c_k87 : chkK rkF [(87, 5, ⟨[(.f 4, cI), (.t 15, cI)], [6, 16, 17, 18, 19, 20, 21, 22, 23, 24, 25, 26, 27, 28, 29, 30], [], [⟨0, [(.x 1, 1)]⟩, ⟨0, [(.l 15, 1), (.x 1, -1)]⟩], ⟨0, [(.l 15, 1), (.x 1, -1)]⟩, [], false⟩)] [] k87 false (0, 0, 0) = true := by decide +kernel
theorem c_k233 : chkK rkF [(233, 8, ⟨[(.f 8, cI), (.t 27, cI)], [10, 28, 29, 30, 31, 32, 33, 34, 35, 36, 37, 38, 39, 40, 41, 42], [], [⟨0, [(.x 1, 1)]⟩, ⟨0, [(.l 27, 1), (.x 1, -1)]⟩], ⟨0, [(.l 27, 1), (.x 1, -1)]⟩, [], false⟩)] [] k233 false (0, 0, 0) = true := by decide +kernel
theorem c_k201 : chkK rk3 [(284, 4, ⟨[(.f 7, cI)], [16, 17, 18, 19, 20, 21, 22, 23, 24, 25, 26, 27, 28, 29, 30, 31, 32, 33, 34, 35, 36, 37, 38, 39, 40, 41, 42, 43, 44, 45, 46, 47, 48], [], [⟨0, [(.x 0, 1)]⟩, ⟨0, [(.s 7, 1), (.x 0, -1)]⟩], ⟨0, [(.x 0, 1)]⟩, [3009], false⟩), (284, 1, ⟨[(.f 6, cI)], [7, 10, 11, 12, 13, 14, 15, 16, 17, 18, 19, 20, 21, 22, 23, 24, 25, 26, 27, 28, 29, 30, 31, 32, 33, 34, 35, 36, 37, 38, 39, 40, 41, 42, 43, 44, 45, 46, 47, 48], [], [⟨8, [(.x 0, -1)]⟩, ⟨0, [(.x 0, 1), (.s 6, -1)]⟩], ⟨8, [(.x 0, -1)]⟩, [3009], false⟩)] [] k201 false (0, 0, 0) = true := by decide +kernel
theorem c_k45 : chkK rk5 [] [k73, k78, k79, k80, k81, k82, k83, k84] k45 false (0, 0, 0) = true := by decide +kernel
theorem c_k280 : chkK rkF [] [] k280 false (0, 0, 0) = true := by decide +kernel
theorem c_k282 : chkK rkF [] [k312, k313] k282 false (0, 0, 0) = true := by decide +kernel
theorem c_hO_2_334 : chkK rkF [] [k271, k333] (hO 2 334) true (1, 0, 0) = true := by decide +kernel
theorem c_k104 : chkK rkF [] [k167, k168, k169, k170, k171] k104 false (0, 0, 0) = true := by decide +kernel
theorem c_hF_1_315 : chkK rkF [] [k330] (hF 1 315) false (0, 0, 0) = true := by decide +kernel
theorem c_k82 : chkK rk5 [] [k126, k138, k139] k82 false (0, 0, 0) = true := by decide +kernel
theorem c_k312 : chkK rkF [] [] k312 false (0, 0, 0) = true := by decide +kernel
theorem c_k330 : chkK rkF [] [k283] k330 true (1, 0, 0) = true := by decide +kernel
theorem c_k175 : chkK rkF [] [k233] k175 false (0, 0, 0) = true := by decide +kernel
theorem c_rpK_294_getD_1_k7 : chkK rkF [] [] ((rpK 294).getD 1 k7) false (0, 0, 0) = true := by decide +kernel
theorem c_sC_43 : chkK rk5 [] [(sC 41)] (sC 43) false (0, 0, 0) = true := by decide +kernel
end Go.Proofs.YtbjhcjgniciooaaGreatDoor.E.Kt
