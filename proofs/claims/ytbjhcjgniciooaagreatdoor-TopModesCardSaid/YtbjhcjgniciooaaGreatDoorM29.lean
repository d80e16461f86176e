/- TopModes: a part of the proof, merged. -/
import Derived.Test.YtbjhcjgniciooaaGreatDoorM14
namespace Go.Proofs.YtbjhcjgniciooaaGreatDoor.E.Kt
set_option linter.unusedVariables false
/-! ### Contracts, shown by runs in the kernel -/
theorem c_k333 : chkK rk3 [(333, 3, ⟨[(.f 27, cI), (.f 4, bSl 1268)], [6, 28, 29, 30, 31, 32, 33, 34, 35, 36, 37, 38, 39, 40, 41, 42, 43, 44, 45, 46, 47], [0], [⟨0, [(.s 25, 1), (.x 0, -1)]⟩, ⟨0, [(.x 0, 1), (.x 1, -1)]⟩, ⟨0, [(.x 1, 1), (.x 0, -1)]⟩], ⟨0, [(.s 25, 1), (.x 0, -1)]⟩, [1268], false⟩)] [k312, k338] k333 true (1, 0, 0) = true := by decide +kernel
theorem c_k84 : chkK rk5 [] [k11, k102, k102m, k119, k145, k202, k204] k84 false (0, 0, 0) = true := by decide +kernel
theorem c_k171 : chkK rkF [(171, 3, ⟨[(.f 5, .int .u8 0 255), (.f 11, cI)], [7, 12, 13, 14, 15, 16, 17, 18, 19, 20, 21, 22], [], [⟨0, [(.x 1, 1)]⟩, ⟨0, [(.s 9, 1), (.x 1, -1)]⟩], ⟨0, [(.s 9, 1), (.x 1, -1)]⟩, [], false⟩)] [k136] k171 false (0, 0, 0) = true := by decide +kernel
theorem c_k35 : chkK rkF [] [k104, k106, k108, k110, k112, k114, k116] k35 false (0, 0, 0) = true := by decide +kernel
theorem c_sC_40 : chkK rk5 [] [k71] (sC 40) false (0, 0, 0) = true := by decide +kernel
theorem c_hO_1_324 : chkK rkF [] [k271] (hO 1 324) true (1, 0, 0) = true := by decide +kernel
theorem c_k110 : chkK rkF [] [k167, k168, k169, k178] k110 false (0, 0, 0) = true := by decide +kernel
theorem c_k112 : chkK rkF [] [k167, k168, k169, k183] k112 false (0, 0, 0) = true := by decide +kernel
theorem c_hC_1_240 : chkK rkF [] [k282] (hC 1 240) true (1, 0, 0) = true := by decide +kernel
theorem c_k146 : chkK rkF [] [k175, k188] k146 false (0, 0, 0) = true := by decide +kernel
theorem c_hC_1_314 : chkK rkF [] [k328] (hC 1 314) false (0, 0, 0) = true := by decide +kernel
theorem c_rpK_288_getD_1_k7 : chkK rkF [] [] ((rpK 288).getD 1 k7) false (0, 0, 0) = true := by decide +kernel
theorem c_k70 : chkK rk5 [] [k11] k70 false (0, 0, 0) = true := by decide +kernel
theorem c_k303 : chkK rkF [] [] k303 false (0, 0, 0) = true := by decide +kernel
theorem c_rpK_294_getD_0_k7 : chkK rkF [] [] ((rpK 294).getD 0 k7) false (0, 0, 0) = true := by decide +kernel
theorem c_k76 : chkK rk5 [] [k11, k127] k76 false (0, 0, 0) = true := by decide +kernel
theorem c_rpK_298_getD_0_k7 : chkK rkF [] [] ((rpK 298).getD 0 k7) false (0, 0, 0) = true := by decide +kernel
theorem c_k384 : chkK rkF [] [] k384 false (0, 0, 0) = true := by decide +kernel
end Go.Proofs.YtbjhcjgniciooaaGreatDoor.E.Kt
