/- CredModes in numbers and lists: the mode that is set where one is asked for, and the one behind a write, are the document's. -/
import Derived.Test.YtbbobjchokffbaaLd
import Derived.Test.YtbbobjchokffbaaS8
namespace Go.Proofs.Ytbbobjchokffbaa.Pure
set_option linter.unusedSimpArgs false
set_option linter.unusedVariables false
open Go.RowKit Go.Proofs.Ytbbobjchokffbaa.S Go.Proofs.Ytbbobjchokffbaa.L Go.Proofs.YtbbobjchokffbaaW.PrintWords
theorem rmode_eq (k : Nat) (u g : Int) (l : List Int) (hl : l.length ≤ 20) (hk : 100 ≤ k) (kind gid m : Int) : gaolerref04_Mode.f k u g l kind gid m = some (modeS u g l kind gid m) := by
  unfold gaolerref04_Mode.f modeS
  have h2 := without_eq k (m % 4096) 10 (by decide) hk (by omega) (by omega)
  rw [show (((10 : Nat)) : Int) = 10 from rfl, show (((2 ^ 10 : Nat)) : Int) = 1024 from rfl] at h2
  rw [low_eq, rmember_eq k u g l hl hk]
  simp only [Option.bind_some]
  rw [h2]
  simp only [Option.bind_some]
  by_cases h : u = 0
  · simp [h]
  · by_cases h1 : kind = 1
    · cases hm : mem g l gid <;> simp [h, h1]
    · simp [h, h1]
theorem rwritten_eq (k : Nat) (u g : Int) (l : List Int) (hk : 200 ≤ k) (kind m : Int) : gaolerref04_Written.f k u g l kind m = some (writtenS u kind m) := by
  obtain ⟨k, rfl⟩ : ∃ q, k = q + 1 := ⟨k - 1, by omega⟩
  unfold gaolerref04_Written.f writtenS
  rw [low_eq]
  simp only [Option.bind_some, gaolerref04_Written.j0]
  have h1 := without_eq k (m % 4096) 11 (by decide) (by omega) (by omega) (by omega)
  have hb : 0 ≤ wo (m % 4096) 11 ∧ wo (m % 4096) 11 < 4096 := wo_range _ _ (by decide) (by omega) (by omega)
  have h2 := without_eq k (wo (m % 4096) 11) 10 (by decide) (by omega) hb.1 hb.2
  rw [show (((11 : Nat)) : Int) = 11 from rfl, show (((2 ^ 11 : Nat)) : Int) = 2048 from rfl] at h1
  rw [show (((10 : Nat)) : Int) = 10 from rfl, show (((2 ^ 10 : Nat)) : Int) = 1024 from rfl] at h2
  rw [h1]
  simp only [Option.bind_some]
  rw [rclass_eq, h2]
  simp only [Option.bind_some]
  have hc := clsS_range' (wo (m % 4096) 11) 1
  rw [tmod_nn _ _ hc.1]
  by_cases h : u = 0
  · simp [h]
  · by_cases hk1 : kind = 1
    · simp only [h, hk1, if_false, if_true, bne_self_eq_false, Bool.false_eq_true]
      split
      · rfl
      · rfl
    · simp [h, hk1]
theorem CredModes (u g : Int) (l : List Int) (a1 a2 a3 : Int) (_w1 : (Lit.int .i64 a1).wf = true) (_w2 : (Lit.int .i64 a2).wf = true) (_w3 : (Lit.int .i64 a3).wf = true) :
    ∃ k, gaolerlaw04_CredModes.f k u g l a1 a2 a3 = some true := by
  refine ⟨300, ?_⟩
  unfold gaolerlaw04_CredModes.f gaolerlaw04_model.f
  rw [awake4 300 (by omega)]
  simp only [Option.bind_some, if_true]
  by_cases hl : (l.length : Int) > 20
  · rw [if_pos hl]
  · rw [if_neg hl]
    have hl' : l.length ≤ 20 := by omega
    rw [mode_eq 300 u g l hl' (by omega), rmode_eq 300 u g l hl' (by omega), written_eq u g l, rwritten_eq 300 u g l (by omega)]
    simp
end Go.Proofs.Ytbbobjchokffbaa.Pure
