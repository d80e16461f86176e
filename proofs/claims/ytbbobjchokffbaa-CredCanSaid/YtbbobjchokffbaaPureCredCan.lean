/- CredCan in numbers and lists: the class and what it lets are the document's. -/
import Derived.Test.YtbbobjchokffbaaLb
import Derived.Test.YtbbobjchokffbaaS3
namespace Go.Proofs.Ytbbobjchokffbaa.Pure
open Go.RowKit Go.Proofs.Ytbbobjchokffbaa.S Go.Proofs.Ytbbobjchokffbaa.L Go.Proofs.YtbbobjchokffbaaW.PrintWords
theorem CredCan (u g : Int) (l : List Int) (a1 a2 a3 a4 : Int) (_w1 : (Lit.int .i64 a1).wf = true) (_w2 : (Lit.int .i64 a2).wf = true) (_w3 : (Lit.int .i64 a3).wf = true) (_w4 : (Lit.int .i64 a4).wf = true) :
    ∃ k, gaolerlaw04_CredCan.f k u g l a1 a2 a3 a4 = some true := by
  refine ⟨100, ?_⟩
  unfold gaolerlaw04_CredCan.f gaolerlaw04_model.f
  rw [awake4 100 (by omega)]
  simp only [Option.bind_some, if_true]
  by_cases hl : (l.length : Int) > 20
  · rw [if_pos hl]
  · rw [if_neg hl]
    have hl' : l.length ≤ 20 := by omega
    rw [member_eq 100 u g l hl' (by omega), rmember_eq 100 u g l hl' (by omega), class_eq 100 u g l hl' (by omega), rcls_eq 100 u g l hl' (by omega), can_eq 100 u g l hl' (by omega), rcan_eq 100 u g l hl' (by omega)]
    simp
end Go.Proofs.Ytbbobjchokffbaa.Pure
