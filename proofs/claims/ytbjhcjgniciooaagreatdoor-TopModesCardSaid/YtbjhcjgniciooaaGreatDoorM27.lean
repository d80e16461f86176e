/- TopModes: a part of the proof, merged. -/
import Derived.Test.YtbjhcjgniciooaaGreatDoorM14
namespace Go.Proofs.YtbjhcjgniciooaaGreatDoor.E.Kt
set_option linter.unusedVariables false
/-! ### Contracts, shown by runs in the kernel -/
theorem c_k235 : chkK rkF [(276, 3, ⟨[(.f 7, cI), (.f 3, bSl 1009)], [4, 8, 9, 10, 11, 12, 13, 14, 15, 16, 17, 18, 19, 20, 26, 27, 28, 29, 30, 31, 32, 33, 34, 35, 21, 22, 23, 24, 25], [], [⟨0, [(.s 0, 1), (.x 0, -1)]⟩, ⟨0, [(.x 0, 1), (.x 1, -1)]⟩], ⟨0, [(.s 0, 1), (.x 0, -1)]⟩, [1009], false⟩)] [] k235 false (0, 0, 0) = true := by decide +kernel
theorem c_k388 : chkK rkF [] [(hM 1 180), (hM 1 185), k235, (hM 1 238), (hM 1 307), (hM 1 326), (hM 1 327)] k388 true (1, 0, 0) = true := by decide +kernel
theorem c_k83 : chkK rk5 [] [k11, k72, k101, k102, k102m, k121, k138, k139, k140, k141, k142] k83 false (0, 0, 0) = true := by decide +kernel
theorem c_hD_1_273 : chkK rkF [] [k236, k271, k303] (hD 1 273) true (1, 0, 0) = true := by decide +kernel
theorem c_k389 : chkK rkF [] [(hC 0 186), (hC 1 240), (hC 1 314), (hC 1 329), (hC 1 336), (hC 0 343), (hC 1 349)] k389 false (0, 0, 0) = true := by decide +kernel
theorem c_hO_1_305 : chkK rkF [] [k271, k303] (hO 1 305) true (1, 0, 0) = true := by decide +kernel
theorem c_hM_1_326 : chkK rkF [] [k235] (hM 1 326) true (1, 0, 0) = true := by decide +kernel
theorem c_sC_44 : chkK rk5 [] [k76, k77, k127] (sC 44) false (0, 0, 0) = true := by decide +kernel
theorem c_sC_41 : chkK rk5 [] [k72, k73] (sC 41) false (0, 0, 0) = true := by decide +kernel
theorem c_hF_1_337 : chkK rkF [] [k330, (hF 1 344)] (hF 1 337) false (0, 0, 0) = true := by decide +kernel
theorem c_k71 : chkK rk5 [] [k11, k102, k102m, k145] k71 false (0, 0, 0) = true := by decide +kernel
theorem c_hC_0_343 : chkK rkF [] [] (hC 0 343) false (0, 0, 0) = true := by decide +kernel
theorem c_k81 : chkK rk5 [] [k72, k138, k139] k81 false (0, 0, 0) = true := by decide +kernel
theorem c_hM_1_327 : chkK rkF [] [(hM 1 326)] (hM 1 327) false (0, 0, 0) = true := by decide +kernel
theorem c_rpK_337_getD_0_k7 : chkK rkF [] [] ((rpK 337).getD 0 k7) false (0, 0, 0) = true := by decide +kernel
theorem c_k139 : chkK rk5 [] [k11, k102, k102m, k208] k139 false (0, 0, 0) = true := by decide +kernel
theorem c_k187 : chkK rkF [] [k168, k241] k187 false (0, 0, 0) = true := by decide +kernel
theorem c_rpK_298_getD_1_k7 : chkK rkF [] [] ((rpK 298).getD 1 k7) false (0, 0, 0) = true := by decide +kernel
end Go.Proofs.YtbjhcjgniciooaaGreatDoor.E.Kt
