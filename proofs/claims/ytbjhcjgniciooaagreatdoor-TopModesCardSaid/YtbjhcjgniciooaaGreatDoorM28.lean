/- TopModes: a part of the proof, merged. -/
import Derived.Test.YtbjhcjgniciooaaGreatDoorM14
namespace Go.Proofs.YtbjhcjgniciooaaGreatDoor.E.Kt
set_option linter.unusedVariables false
/-! ### Contracts, shown by runs in the kernel -/
theorem c_k236 : chkK rkF [(236, 9, ⟨[(.f 1, cI), (.f 34, cI)], [12, 13, 14, 35, 36, 37, 38, 39, 40, 41, 42, 43, 44, 45, 46, 47, 48, 49, 53, 54, 55, 56, 57, 68, 58, 59, 60, 61, 62, 63, 64, 65, 66, 67, 50, 51, 52], [], [⟨0, [(.x 1, 1)]⟩, ⟨0, [(.c 10 1, 1), (.x 1, -1)]⟩], ⟨0, [(.c 10 1, 1), (.x 1, -1)]⟩, [], false⟩), (236, 5, ⟨[(.f 1, cI), (.f 23, cI)], [10, 11, 12, 13, 14, 24, 25, 26, 27, 28, 29, 30, 31, 32, 33, 34, 35, 36, 37, 38, 39, 40, 41, 42, 43, 44, 45, 46, 47, 48, 49, 50, 51, 52, 53, 54, 55, 56, 57, 58, 59, 60, 61, 62, 63, 64, 65, 66, 67, 68, 69], [], [⟨0, [(.x 1, 1)]⟩, ⟨0, [(.s 21, 1), (.x 1, -1)]⟩], ⟨0, [(.s 21, 1), (.x 1, -1)]⟩, [], false⟩)] [k278, k279, k280] k236 false (0, 0, 0) = true := by decide +kernel
theorem c_k79 : chkK rk5 [] [k10, k11, k61, k101, k102, k102m, k119, k121, k126, k205] k79 false (0, 0, 0) = true := by decide +kernel
theorem c_k300 : chkK rkF [(300, 11, ⟨[(.c 4 1, cI), (.t 38, cI)], [6, 7, 8, 39, 40, 41, 42, 43, 44, 45, 46, 51, 52, 53, 54, 55, 56], [], [⟨0, [(.x 1, 1)]⟩, ⟨0, [(.s 0, 1), (.x 1, -1)]⟩], ⟨0, [(.s 0, 1), (.x 1, -1)]⟩, [], false⟩)] [k136] k300 false (0, 0, 0) = true := by decide +kernel
theorem c_hM_1_307 : chkK rkF [] [k236, (hM 1 326)] (hM 1 307) false (0, 0, 0) = true := by decide +kernel
theorem c_hC_1_336 : chkK rkF [] [k282, k328, k341, k342] (hC 1 336) false (0, 0, 0) = true := by decide +kernel
theorem c_k128 : chkK rk3 [(128, 3, ⟨[(.f 9, cI), (.f 3, bSl 3009)], [5, 10, 11, 12, 13, 14, 15, 16, 17, 18], [], [⟨0, [(.s 7, 1), (.x 0, -1)]⟩, ⟨0, [(.x 0, 1), (.x 1, -1)]⟩, ⟨0, [(.x 1, 1), (.x 0, -1)]⟩], ⟨0, [(.s 7, 1), (.x 0, -1)]⟩, [3009], false⟩)] [k201] k128 false (0, 0, 0) = true := by decide +kernel
theorem c_k200 : chkK rk5 [] [k11, k124] k200 false (0, 0, 0) = true := by decide +kernel
theorem c_hF_1_331 : chkK rkF [] [k330] (hF 1 331) false (0, 0, 0) = true := by decide +kernel
theorem c_hF_1_244 : chkK rkF [] [k283] (hF 1 244) true (1, 0, 0) = true := by decide +kernel
theorem c_k22 : chkK rk5 [] [k36, k38, (sC 39), (sC 40), (sC 41), (sC 42), (sC 43), (sC 44), k45] k22 false (0, 0, 0) = true := by decide +kernel
theorem c_rpK_288_getD_0_k7 : chkK rkF [] [] ((rpK 288).getD 0 k7) false (0, 0, 0) = true := by decide +kernel
theorem c_k191 : chkK rk5 [] [k11, k136] k191 false (0, 0, 0) = true := by decide +kernel
theorem c_hC_0_186 : chkK rkF [] [] (hC 0 186) false (0, 0, 0) = true := by decide +kernel
theorem c_k188 : chkK rkF [] [k233] k188 false (0, 0, 0) = true := by decide +kernel
theorem c_rpK_337_getD_1_k7 : chkK rkF [] [] ((rpK 337).getD 1 k7) false (0, 0, 0) = true := by decide +kernel
theorem c_sC_42 : chkK rk5 [] [] (sC 42) false (0, 0, 0) = true := by decide +kernel
theorem c_rpK_298_getD_2_k7 : chkK rkF [] [((rpK 141).getD 0 k7), ((rpK 270).getD 0 k7), ((rpK 337).getD 0 k7), ((rpK 288).getD 0 k7), ((rpK 294).getD 0 k7), ((rpK 298).getD 0 k7)] ((rpK 298).getD 2 k7) false (0, 0, 0) = true := by decide +kernel
end Go.Proofs.YtbjhcjgniciooaaGreatDoor.E.Kt
