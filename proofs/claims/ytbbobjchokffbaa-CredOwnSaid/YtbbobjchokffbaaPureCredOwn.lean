/- CredOwn in numbers and lists: who may change a mode, an owner, a group, or take an entry away, is as the document has it. -/
import Derived.Test.YtbbobjchokffbaaLc
import Derived.Test.YtbbobjchokffbaaS5
namespace Go.Proofs.Ytbbobjchokffbaa.Pure
set_option linter.unusedSimpArgs false
set_option linter.unusedVariables false
open Go.RowKit Go.Proofs.Ytbbobjchokffbaa.S Go.Proofs.Ytbbobjchokffbaa.L Go.Proofs.YtbbobjchokffbaaW.PrintWords
theorem CredOwn (u g : Int) (l : List Int) (a1 a2 a3 a4 a5 : Int) (_w1 : (Lit.int .i64 a1).wf = true) (_w2 : (Lit.int .i64 a2).wf = true) (_w3 : (Lit.int .i64 a3).wf = true) (_w4 : (Lit.int .i64 a4).wf = true) (_w5 : (Lit.int .i64 a5).wf = true) :
    ∃ k, gaolerlaw04_CredOwn.f k u g l a1 a2 a3 a4 a5 = some true := by
  refine ⟨100, ?_⟩
  unfold gaolerlaw04_CredOwn.f gaolerlaw04_model.f
  rw [awake4 100 (by omega)]
  simp only [Option.bind_some, if_true]
  by_cases hl : (l.length : Int) > 20
  · rw [if_pos hl]
  · rw [if_neg hl]
    have hl' : l.length ≤ 20 := by omega
    rw [maymode_eq 100 u g l (by omega), mayown_eq 100 u g l hl' (by omega), rmayown_eq 100 u g l hl' (by omega), sticky_eq 100 u g l (by omega), rsticky_eq 100 u g l (by omega)]
    simp only [Option.bind_some, beq_self_eq_true, if_true]
    by_cases h : u = 0
    · simp [h]
    · have e : (a1 == u) = (u == a1) := by rw [Bool.eq_iff_iff]; simp; exact ⟨fun e => e.symm, fun e => e.symm⟩
      simp [h, e]
end Go.Proofs.Ytbbobjchokffbaa.Pure
