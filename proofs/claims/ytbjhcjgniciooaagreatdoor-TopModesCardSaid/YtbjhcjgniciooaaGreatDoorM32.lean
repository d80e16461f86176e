/- TopModes: a part of the proof, merged. -/
import Derived.Test.YtbjhcjgniciooaaGreatDoorM14
namespace Go.Proofs.YtbjhcjgniciooaaGreatDoor.E.Kt
set_option linter.unusedVariables false
/-! ### Contracts, shown by runs in the kernel -/
theorem c_k341 : chkK rkF [] [] k341 false (0, 0, 0) = true := by decide +kernel
theorem c_k119 : chkK rk5 [(164, 2, ⟨[(.f 8, cI)], [5, 9, 10, 11, 12, 13, 14, 15, 16, 18], [], [⟨0, [(.x 0, 1)]⟩, ⟨0, [(.s 0, 1), (.x 0, -1)]⟩], ⟨0, [(.s 0, 1), (.x 0, -1)]⟩, [], false⟩), (119, 7, ⟨[(.c 11 0, cI), (.c 12 0, cI), (.c 14 0, bSl 5009)], [16, 17, 18, 19, 20, 21, 36, 37, 38, 39, 40, 41, 42, 43, 44, 45, 46, 47, 48, 49, 50, 51, 52, 53, 54, 55, 56, 57, 58, 59, 60, 61, 62, 64, 65, 66, 67, 68, 69, 71, 72, 73, 22, 74, 75, 76, 77, 78, 79, 80, 81, 82, 83, 84, 85, 86, 88, 89, 90, 91, 92, 93, 94, 95, 97, 98, 99, 100, 101, 102, 103, 107, 108, 109, 110, 112, 113, 114, 104, 105, 106, 116, 117, 118, 119, 124], [], [⟨0, [(.x 1, 1)]⟩, ⟨8, [(.x 1, -1)]⟩, ⟨0, [(.c 14 0, 1), (.c 12 0, -64), (.x 2, -1), (.x 1, 64)]⟩], ⟨528, [(.x 2, 1), (.x 1, -66)]⟩, [], false⟩)] [k11, k121, k147, k191, k194] k119 false (0, 0, 0) = true := by decide +kernel
theorem c_k141 : chkK rk5 [(141, 2, ⟨[(.f 1, cI), (.f 7, cI)], [8, 9, 10, 11, 12, 13, 14, 15, 16, 17, 18, 19], [], [⟨0, [(.x 1, 1)]⟩, ⟨64, [(.x 1, -1)]⟩], ⟨100, [(.x 1, -1)]⟩, [], false⟩)] [k194] k141 false (0, 0, 0) = true := by decide +kernel
theorem c_k178 : chkK rkF [(178, 3, ⟨[(.f 7, .bool), (.f 13, cI), (.f 6, cS)], [9, 14, 15, 16, 17, 18, 19, 20, 21, 22, 23], [], [⟨0, [(.x 1, 1)]⟩, ⟨0, [(.s 11, 1), (.x 1, -1)]⟩], ⟨0, [(.s 11, 1), (.x 1, -1)]⟩, [], false⟩)] [] k178 false (0, 0, 0) = true := by decide +kernel
theorem c_k116 : chkK rkF [] [k167, k175, k178, k187, k188] k116 false (0, 0, 0) = true := by decide +kernel
theorem c_k101 : chkK rk5 [(164, 2, ⟨[(.f 8, cI)], [5, 9, 10, 11, 12, 13, 14, 15, 16, 18], [], [⟨0, [(.x 0, 1)]⟩, ⟨0, [(.s 0, 1), (.x 0, -1)]⟩], ⟨0, [(.s 0, 1), (.x 0, -1)]⟩, [], false⟩)] [] k101 false (0, 0, 0) = true := by decide +kernel
theorem c_sC_39 : chkK rk5 [] [k70] (sC 39) false (0, 0, 0) = true := by decide +kernel
theorem c_k120 : chkK rk5 [] [k10, k11, k61, k101, k102, k102m, k119, k121, k126, k205] k120 false (0, 0, 0) = true := by decide +kernel
theorem c_hC_1_329 : chkK rkF [] [k328, (hC 1 336)] (hC 1 329) false (0, 0, 0) = true := by decide +kernel
theorem c_hD_2_322 : chkK rkF [] [k271, k333] (hD 2 322) true (1, 0, 0) = true := by decide +kernel
theorem c_hM_1_238 : chkK rkF [] [] (hM 1 238) true (1, 0, 0) = true := by decide +kernel
theorem c_hF_1_350 : chkK rkF [] [k330] (hF 1 350) false (0, 0, 0) = true := by decide +kernel
theorem c_k342 : chkK rkF [] [] k342 false (0, 0, 0) = true := by decide +kernel
theorem c_k77 : chkK rk3 [] [k11, k121, k127, k128] k77 false (0, 0, 0) = true := by decide +kernel
theorem c_hF_1_354 : chkK rkF [] [k283, k330] (hF 1 354) false (0, 0, 0) = true := by decide +kernel
theorem c_rpK_141_getD_1_k7 : chkK rkF [] [] ((rpK 141).getD 1 k7) false (0, 0, 0) = true := by decide +kernel
theorem c_k121 : chkK rk5 [] [k11, k196] k121 false (0, 0, 0) = true := by decide +kernel
theorem c_k169 : chkK rkF [] [k178] k169 false (0, 0, 0) = true := by decide +kernel
theorem c_rpK_337_getD_2_k7 : chkK rkF [] [((rpK 141).getD 0 k7), ((rpK 270).getD 0 k7), ((rpK 337).getD 0 k7), ((rpK 288).getD 0 k7), ((rpK 294).getD 0 k7), ((rpK 298).getD 0 k7)] ((rpK 337).getD 2 k7) false (0, 0, 0) = true := by decide +kernel
end Go.Proofs.YtbjhcjgniciooaaGreatDoor.E.Kt
