/- ClauseShow: whether any clauses may be, and what is shown of them, are the reference's, for up to 40 clauses of up to 40 acts. Pure part: numbers and lists alone. -/
import Derived.Test.YtlohbepfecahdaaDoorZbLh
import Derived.Test.YtlohbepfecahdaaDoorZbS13
namespace Go.Proofs.YtlohbepfecahdaaDoor.Pure
open Go.RowKit Go.Proofs.YtlohbepfecahdaaDoor.S Go.Proofs.YtlohbepfecahdaaDoor.L Go.Proofs.YtlohbepfecahdaaDoorW.PrintWords Go.Proofs.YtlohbepfecahdaaDoorW.PrintLast
set_option linter.unusedVariables false
theorem show_loop (l : List S34) (hl : l.length ≤ 40) (hb : ∀ c ∈ l, bytesA c.f1) (n : Nat) : ∀ (k i : Nat), i ≤ l.length → l.length - i = n → n + 2000000 < k → (∀ c ∈ l.take i, c.f1.length ≤ 40) → gaolerlaw02_ClauseShow.l0 k l (i : Int) = some true := by
  induction n with
  | zero =>
    intro k i h1 hd hk ht
    obtain ⟨k, rfl⟩ : ∃ m, k = m + 1 := ⟨k - 1, by omega⟩
    simp only [gaolerlaw02_ClauseShow.l0]
    rw [List.take_of_length_le (by omega)] at ht
    have hs : sized l := ⟨by omega, fun c hc => ⟨by have := ht c hc; omega, hb c hc⟩⟩
    rw [if_neg (by omega), model_eq l hs.1 (fun c hc => (hs.2 c hc).1) k (by omega), Option.bind_some, right_eq l hs k (by omega), Option.bind_some, rright_eq l hs k (by omega), Option.bind_some,
      if_pos (by simp), show_eq l hs k (by omega), Option.bind_some, rshow_eq l hs k (by omega), Option.bind_some]
    simp
  | succ n ih =>
    intro k i h1 hd hk ht
    obtain ⟨k, rfl⟩ : ∃ m, k = m + 1 := ⟨k - 1, by omega⟩
    have hlt : i < l.length := by omega
    simp only [gaolerlaw02_ClauseShow.l0, rd34 l i hlt]
    rw [if_pos (by omega), if_pos (by omega)]
    by_cases hc : (l[i].f1.length : Int) > 40
    · rw [if_pos hc]
    · rw [if_neg hc, wsucc i (by omega)]
      refine ih k (i + 1) (by omega) (by omega) (by omega) fun c hc2 => ?_
      rw [List.take_succ_eq_append_getElem hlt] at hc2
      rcases List.mem_append.1 hc2 with h | h
      · exact ht c h
      · rw [List.mem_singleton.1 h]; omega
theorem ClauseShow (l : List S34) (hb : ∀ c ∈ l, bytesA c.f1) : ∃ k, gaolerlaw02_ClauseShow.f k l = some true := by
  refine ⟨big, ?_⟩
  have hbg := big_eq
  obtain ⟨k, hk⟩ : ∃ k, k = big := ⟨_, rfl⟩
  rw [← hk] at hbg ⊢
  clear hk
  unfold gaolerlaw02_ClauseShow.f
  rw [awake2 k (by omega), Option.bind_some, if_pos rfl]
  by_cases hl : (l.length : Int) > 40
  · rw [if_pos hl]
  · rw [if_neg hl]
    exact show_loop l (by omega) hb l.length k 0 (by omega) (by omega) (by omega) (by simp)
end Go.Proofs.YtlohbepfecahdaaDoor.Pure
