/- TopModes: a part of the proof, merged. -/
import Derived.Test.YtbjhcjgniciooaaGreatDoorM14
namespace Go.Proofs.YtbjhcjgniciooaaGreatDoor.E.Kt
set_option linter.unusedVariables false
/-! ### Contracts, shown by runs in the kernel -/
theorem c_k183 : chkK rkF [(183, 3, ⟨[(.t 8, cI), (.f 3, cS)], [4, 5, 6, 7, 9, 10, 11, 12, 13, 14, 17, 18, 19, 20, 21, 22, 23, 24, 25, 26, 27, 28, 29, 30, 31, 32, 33, 34, 35, 36, 37, 38, 15, 16], [], [⟨0, [(.x 0, 1)]⟩, ⟨8, [(.x 0, -1)]⟩, ⟨0, [(.s 3, -64), (.x 0, -1), (.x 1, 64)]⟩, ⟨0, [(.s 3, 1), (.x 1, -1), (.x 0, 64)]⟩], ⟨8, [(.x 0, -1)]⟩, [], false⟩)] [] k183 false (0, 0, 0) = true := by decide +kernel
theorem c_k138 : chkK rk5 [] [k121, k140] k138 false (0, 0, 0) = true := by decide +kernel
theorem c_k204 : chkK rkF [(199, 2, ⟨[(.f 8, cI)], [5, 9, 10, 11, 12, 13, 14, 15, 16, 18], [], [⟨0, [(.x 0, 1)]⟩, ⟨0, [(.s 0, 1), (.x 0, -1)]⟩], ⟨0, [(.s 0, 1), (.x 0, -1)]⟩, [], false⟩)] [] k204 false (0, 0, 0) = true := by decide +kernel
theorem c_k386 : chkK rkF [] [(hD 0 172), (hD 1 273), (hD 1 304), (hD 2 322)] k386 false (0, 0, 0) = true := by decide +kernel
theorem c_k279 : chkK rkF [] [] k279 false (0, 0, 0) = true := by decide +kernel
theorem c_k8 : chkK rkF [] [k21, k22] k8 false (0, 0, 0) = true := by decide +kernel
theorem c_k283 : chkK rkF [] [k312, k313] k283 false (0, 0, 0) = true := by decide +kernel
theorem c_k147 : chkK rk5 [] [k212b] k147 false (0, 0, 0) = true := by decide +kernel
theorem c_hO_0_232 : chkK rkF [] [k271] (hO 0 232) false (0, 0, 0) = true := by decide +kernel
theorem c_hC_1_349 : chkK rkF [] [k282, k328] (hC 1 349) false (0, 0, 0) = true := by decide +kernel
theorem c_k328 : chkK rkF [] [k282] k328 true (1, 0, 0) = true := by decide +kernel
theorem c_k168 : chkK rkF [] [k87, k229] k168 false (0, 0, 0) = true := by decide +kernel
theorem c_rpK_270_getD_1_k7 : chkK rkF [] [] ((rpK 270).getD 1 k7) false (0, 0, 0) = true := by decide +kernel
theorem c_k36 : chkK rk5 [] [] k36 false (0, 0, 0) = true := by decide +kernel
theorem c_rpK_141_getD_2_k7 : chkK rkF [] [((rpK 141).getD 0 k7), ((rpK 270).getD 0 k7), ((rpK 337).getD 0 k7), ((rpK 288).getD 0 k7), ((rpK 294).getD 0 k7), ((rpK 298).getD 0 k7)] ((rpK 141).getD 2 k7) false (0, 0, 0) = true := by decide +kernel
end Go.Proofs.YtbjhcjgniciooaaGreatDoor.E.Kt
