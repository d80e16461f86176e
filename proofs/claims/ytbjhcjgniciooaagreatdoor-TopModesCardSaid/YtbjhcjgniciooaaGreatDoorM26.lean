/- TopModes: a part of the proof, merged. -/
import Derived.Test.YtbjhcjgniciooaaGreatDoorM14
namespace Go.Proofs.YtbjhcjgniciooaaGreatDoor.E.Kt
set_option linter.unusedVariables false
/-! ### Contracts, shown by runs in the kernel -/
theorem c_k28 : chkK rkF [(59, 11, ⟨[(.f 10, cI), (.f 0, cS)], [11, 34, 35, 36, 37, 38, 39, 40, 41, 42, 43, 44, 45, 46, 47, 48, 49, 50, 51, 52, 53, 54, 55, 56, 57], [], [⟨0, [(.x 0, 1)]⟩, ⟨0, [(.s 3, 1), (.x 0, -1)]⟩, ⟨0, [(.s 10, 1), (.s 0, 1), (.x 0, -1), (.x 1, -1)]⟩], ⟨0, [(.s 0, 1), (.x 0, -1)]⟩, [1009], false⟩)] [] k28 false (0, 0, 0) = true := by decide +kernel
theorem c_k196 : chkK rk5 [(199, 2, ⟨[(.f 8, cI)], [5, 9, 10, 11, 12, 13, 14, 15, 16, 18], [], [⟨0, [(.x 0, 1)]⟩, ⟨0, [(.s 0, 1), (.x 0, -1)]⟩], ⟨0, [(.s 0, 1), (.x 0, -1)]⟩, [], false⟩)] [] k196 false (0, 0, 0) = true := by decide +kernel
theorem c_hF_1_344 : chkK rkF [] [k330, k341, k342, (hF 1 350)] (hF 1 344) false (0, 0, 0) = true := by decide +kernel
theorem c_k299 : chkK rkF [(299, 3, ⟨[(.f 4, cI), (.t 9, cI)], [5, 6, 7, 10, 11, 12, 13, 14, 15, 20, 21, 22, 23, 24, 25, 26, 27, 28, 29], [], [⟨0, [(.x 1, 1)]⟩, ⟨0, [(.s 0, 1), (.x 1, -1)]⟩], ⟨0, [(.s 0, 1), (.x 1, -1)]⟩, [], false⟩)] [] k299 false (0, 0, 0) = true := by decide +kernel
theorem c_k78 : chkK rk5 [] [k11, k102, k102m, k119, k202, k204] k78 false (0, 0, 0) = true := by decide +kernel
theorem c_k80 : chkK rk5 [] [k10, k11, k61, k101, k102, k102m, k119, k121, k126, k136, k205] k80 false (0, 0, 0) = true := by decide +kernel
theorem c_k387 : chkK rkF [] [(hO 0 232), (hO 1 305), (hO 1 324), (hO 2 334)] k387 false (0, 0, 0) = true := by decide +kernel
theorem c_hM_1_185 : chkK rkF [] [k236] (hM 1 185) true (1, 0, 0) = true := by decide +kernel
theorem c_k108 : chkK rkF [] [k167, k169, k170, k171, k175] k108 false (0, 0, 0) = true := by decide +kernel
theorem c_k145 : chkK rkF [] [] k145 false (0, 0, 0) = true := by decide +kernel
theorem c_k271 : chkK rkF [] [] k271 false (0, 0, 0) = true := by decide +kernel
theorem c_k313 : chkK rkF [] [k212] k313 false (0, 0, 0) = true := by decide +kernel
theorem c_k72 : chkK rk5 [(199, 2, ⟨[(.f 8, cI)], [5, 9, 10, 11, 12, 13, 14, 15, 16, 18], [], [⟨0, [(.x 0, 1)]⟩, ⟨0, [(.s 0, 1), (.x 0, -1)]⟩], ⟨0, [(.s 0, 1), (.x 0, -1)]⟩, [], false⟩)] [k124, k126] k72 false (0, 0, 0) = true := by decide +kernel
theorem c_hM_1_180 : chkK rkF [] [k235] (hM 1 180) false (0, 0, 0) = true := by decide +kernel
theorem c_rpK_270_getD_0_k7 : chkK rkF [] [] ((rpK 270).getD 0 k7) false (0, 0, 0) = true := by decide +kernel
theorem c_k140 : chkK rk5 [] [k11, k119] k140 false (0, 0, 0) = true := by decide +kernel
theorem c_k241 : chkK rkF [] [k236] k241 false (0, 0, 0) = true := by decide +kernel
theorem c_rpK_288_getD_2_k7 : chkK rkF [] [((rpK 141).getD 0 k7), ((rpK 270).getD 0 k7), ((rpK 337).getD 0 k7), ((rpK 288).getD 0 k7), ((rpK 294).getD 0 k7), ((rpK 298).getD 0 k7)] ((rpK 288).getD 2 k7) false (0, 0, 0) = true := by decide +kernel
end Go.Proofs.YtbjhcjgniciooaaGreatDoor.E.Kt
