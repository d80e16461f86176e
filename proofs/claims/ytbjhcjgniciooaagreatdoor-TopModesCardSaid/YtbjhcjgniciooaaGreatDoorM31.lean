/- TopModes: a part of the proof, merged. -/
import Derived.Test.YtbjhcjgniciooaaGreatDoorM14
namespace Go.Proofs.YtbjhcjgniciooaaGreatDoor.E.Kt
set_option linter.unusedVariables false
/-! ### Contracts, shown by runs in the kernel -/
theorem c_k73 : chkK rk5 [(73, 5, ⟨[(.f 15, cI), (.f 3, bSl 1003)], [5, 7, 16, 17, 18, 19, 20, 21, 22, 23, 24, 25, 26, 27, 28, 29, 30, 31, 32, 33, 34, 35], [], [⟨0, [(.x 0, 1)]⟩, ⟨0, [(.s 13, 1), (.x 0, -1)]⟩, ⟨0, [(.s 3, 1), (.s 15, -64), (.x 1, -1), (.x 0, 64)]⟩], ⟨0, [(.s 13, 1), (.x 0, -1)]⟩, [1003], false⟩)] [] k73 false (0, 0, 0) = true := by decide +kernel
theorem c_k229 : chkK rkF [(229, 3, ⟨[(.f 12, cI), (.f 4, bSl 1369)], [6, 7, 8, 13, 14, 15, 16, 17, 18, 19, 20, 21, 22, 23, 24, 25, 26, 27], [], [⟨0, [(.s 10, 1), (.x 0, -1)]⟩, ⟨0, [(.x 0, 1), (.x 1, -1)]⟩, ⟨0, [(.x 1, 1), (.x 0, -1)]⟩], ⟨0, [(.s 10, 1), (.x 0, -1)]⟩, [1369, 1378], false⟩)] [k28, k270] k229 false (0, 0, 0) = true := by decide +kernel
theorem c_k278 : chkK rkF [(278, 7, ⟨[(.f 30, cI)], [6, 31, 32, 33, 34, 35, 36, 37], [], [⟨0, [(.x 0, 1)]⟩, ⟨0, [(.s 28, 1), (.x 0, -1)]⟩], ⟨0, [(.s 28, 1), (.x 0, -1)]⟩, [], false⟩), (278, 2, ⟨[(.f 9, cI)], [4, 6, 10, 11, 12, 13, 14, 15, 16, 17, 18, 19, 20, 21, 22, 23, 24, 25, 26, 27, 28, 29, 30, 31, 32, 33, 34, 35, 36, 37, 38], [], [⟨0, [(.x 0, 1)]⟩, ⟨0, [(.s 0, 1), (.x 0, -1)]⟩], ⟨0, [(.s 0, 1), (.x 0, -1)]⟩, [], false⟩)] [k136] k278 false (0, 0, 0) = true := by decide +kernel
theorem c_k270 : chkK rkF [(270, 3, ⟨[(.f 0, cS), (.c 4 1, bSl 1378)], [5, 6, 13, 14, 15, 16, 17, 18, 19, 20, 21, 22, 23, 24, 25, 26, 27], [], [⟨0, [(.s 0, 1), (.c 4 1, 1), (.x 0, -1), (.x 1, -1)]⟩], ⟨0, [(.x 0, 1)]⟩, [1378], false⟩)] [k299, k300] k270 false (0, 0, 0) = true := by decide +kernel
theorem c_k390 : chkK rkF [] [(hF 0 189), (hF 1 244), (hF 1 315), (hF 1 331), (hF 1 337), (hF 1 344), (hF 1 350), (hF 1 354)] k390 false (0, 0, 0) = true := by decide +kernel
theorem c_k38 : chkK rk5 [] [k68] k38 false (0, 0, 0) = true := by decide +kernel
theorem c_hD_1_304 : chkK rkF [] [k271] (hD 1 304) true (1, 0, 0) = true := by decide +kernel
theorem c_k7 : chkK rkF [(34, 2, ⟨[(.f 8, cI)], [5, 9, 10, 11, 12, 13, 14, 15, 16, 18], [], [⟨0, [(.x 0, 1)]⟩, ⟨0, [(.s 0, 1), (.x 0, -1)]⟩], ⟨0, [(.s 0, 1), (.x 0, -1)]⟩, [], false⟩)] [] k7 false (0, 0, 0) = true := by decide +kernel
theorem c_k114 : chkK rkF [] [k167, k169] k114 false (0, 0, 0) = true := by decide +kernel
theorem c_k106 : chkK rkF [] [k146, k167, k169, k170, k171] k106 false (0, 0, 0) = true := by decide +kernel
theorem c_k208 : chkK rk5 [(164, 2, ⟨[(.f 8, cI)], [5, 9, 10, 11, 12, 13, 14, 15, 16, 18], [], [⟨0, [(.x 0, 1)]⟩, ⟨0, [(.s 0, 1), (.x 0, -1)]⟩], ⟨0, [(.s 0, 1), (.x 0, -1)]⟩, [], false⟩)] [] k208 false (0, 0, 0) = true := by decide +kernel
theorem c_hD_0_172 : chkK rkF [] [k271] (hD 0 172) false (0, 0, 0) = true := by decide +kernel
theorem c_k202 : chkK rkF [] [] k202 false (0, 0, 0) = true := by decide +kernel
theorem c_k127 : chkK rk5 [] [k119, k200] k127 false (0, 0, 0) = true := by decide +kernel
theorem c_hF_0_189 : chkK rkF [] [] (hF 0 189) false (0, 0, 0) = true := by decide +kernel
theorem c_rpK_141_getD_0_k7 : chkK rkF [] [] ((rpK 141).getD 0 k7) false (0, 0, 0) = true := by decide +kernel
theorem c_rpK_294_getD_2_k7 : chkK rkF [] [((rpK 141).getD 0 k7), ((rpK 270).getD 0 k7), ((rpK 337).getD 0 k7), ((rpK 288).getD 0 k7), ((rpK 294).getD 0 k7), ((rpK 298).getD 0 k7)] ((rpK 294).getD 2 k7) false (0, 0, 0) = true := by decide +kernel
theorem c_k136 : chkK rk5 [] [] k136 false (0, 0, 0) = true := by decide +kernel
theorem c_rpK_270_getD_2_k7 : chkK rkF [] [((rpK 141).getD 0 k7), ((rpK 270).getD 0 k7), ((rpK 337).getD 0 k7), ((rpK 288).getD 0 k7), ((rpK 294).getD 0 k7), ((rpK 298).getD 0 k7)] ((rpK 270).getD 2 k7) false (0, 0, 0) = true := by decide +kernel
end Go.Proofs.YtbjhcjgniciooaaGreatDoor.E.Kt
