import Derived.Test.YtbjhcjgniciooaaGreatDoorRows
import Derived.Test.YtbjhcjgniciooaaGreatDoorCards
import Derived.Test.YtbjhcjgniciooaaGreatDoorTie
import Derived.JoinedCond
import Derived.WalkKit
import Derived.ProofKit
import Derived.SevenTiedAt
import Derived.Stop.Joined
namespace Go.Proofs.YtbjhcjgniciooaaGreatDoor.topModes
open Go.ChangeShapes Go.WideShapes Go.ChangeAt Go.RowKit
/-! ### The row's closed facts -/
theorem c1 : Tryz.pinned.checked.prog.funcNamed Rows.topModesRow.func = some 3 := by kernel_rfl
set_option maxHeartbeats 20000000 in
theorem c2 : joinedFacts Tryz.pinned.checked.prog 3 Tryz.f3 (OpenSpec.ofChange Rows.topModesSpec).bare Rows.topModesRow = true := by
  unfold joinedFacts
  simp only [Bool.and_eq_true]
  and_intros <;> as_aux_lemma => kernel_rfl
theorem c3 : Tryz.f3.isInstance Tryz.pinned.checked.prog Rows.topModesRow.origin Rows.topModesRow.targs := of_decide_eq_true (by kernel_rfl)
theorem c4 : Tryz.f3.isWrapper Tryz.pinned.checked.prog Rows.topModesRow.wrapper Rows.topModesRow.mainSum := by unfold Func.isWrapper; first | (rw [if_pos (by decide +kernel)]; kernel_rfl) | (rw [if_neg (by decide +kernel)]; exact ⟨rfl, rfl⟩)
end Go.Proofs.YtbjhcjgniciooaaGreatDoor.topModes
