/- ClauseBack: what is shown is parsed as it was; what is parsed may be, and is shown as a text that is parsed alike and is no longer; for up to 40 clauses of up to 40 acts and a text of up to 300 bytes. Pure part: numbers and lists alone. -/
import Derived.Test.YtlohbepfecahdaaDoorZbLl
import Derived.Test.YtlohbepfecahdaaDoorZbS13
namespace Go.Proofs.YtlohbepfecahdaaDoor.Pure
open Go.RowKit Go.Proofs.YtlohbepfecahdaaDoor.S Go.Proofs.YtlohbepfecahdaaDoor.L Go.Proofs.YtlohbepfecahdaaDoorW.PrintWords Go.Proofs.YtlohbepfecahdaaDoorW.PrintLast
set_option linter.unusedVariables false
theorem parse_of (l : List S34) (hr : rightS l = true) : parseS (showS l) = (l, 0) := by
  unfold parseS
  rw [parse_show l hr]
theorem back_j2 (s : List UInt8) (hs : s.length ≤ 300) (k : Nat) (hk : 1500000 < k) : gaolerlaw02_ClauseBack.j2 k (T s) = some true := by
  obtain ⟨k, rfl⟩ : ∃ m, k = m + 1 := ⟨k - 1, by omega⟩
  simp only [gaolerlaw02_ClauseBack.j2]
  rw [parse_eq s (by omega) k (by omega), Option.bind_some]
  cases h : parseL (pcs [] s) with
  | none =>
    have e : parseS s = ([], 22) := by unfold parseS; rw [h]
    rw [e, if_neg (by decide)]
  | some y =>
    have e : parseS s = (y, 0) := by unfold parseS; rw [h]
    have hz := parse_sized s (by omega) y h
    obtain ⟨hr, hlen⟩ := parsed s y h
    have hf : ∀ c ∈ y, c.f1.length ≤ 1000 := fun c hc => (hz.2 c hc).1
    rw [e]
    dsimp only
    rw [if_pos rfl, show_eq y hz k (by omega), Option.bind_some, if_pos hr, parse_eq (showS y) (by omega) k (by omega), Option.bind_some, right_eq y hz k (by omega), Option.bind_some, if_pos hr, parse_of y hr]
    dsimp only
    rw [if_pos rfl, model_eq y hz.1 hf k (by omega), Option.bind_some, same_eq y hz.1 hf k (by omega), Option.bind_some, if_pos rfl, Option.bind_some, T_size, T_size, decide_eq_true (by omega)]
theorem show_small (l : List S34) (hs : sized l) (h40 : l.length ≤ 40) (ha : ∀ c ∈ l, c.f1.length ≤ 40) (hr : rightS l = true) : (showS l).length < 20000 := by
  have := showS_len l (rightS_ok l hs hr)
  have hj := join_len 300 (l.map showOne) [44] (fun x hx => by
    obtain ⟨c, hc, rfl⟩ := List.mem_map.1 hx
    have h1 := whoT_len c.f0
    have h2 := actsT_len c.f1
    have h3 := ha c hc
    unfold showOne
    rw [List.length_append]
    omega)
  rw [List.length_map] at hj
  have h4 : l.length * (300 + [44].length) ≤ 40 * 301 := Nat.mul_le_mul_right _ h40
  unfold showS
  omega
theorem back_loop (l : List S34) (hl : l.length ≤ 40) (hb : ∀ c ∈ l, bytesA c.f1) (s : List UInt8) (hs : s.length ≤ 300) (n : Nat) : ∀ (k i : Nat), i ≤ l.length → l.length - i = n → n + 2000000 < k → (∀ c ∈ l.take i, c.f1.length ≤ 40) → gaolerlaw02_ClauseBack.l0 k l (T s) (i : Int) = some true := by
  induction n with
  | zero =>
    intro k i h1 hd hk ht
    obtain ⟨k, rfl⟩ : ∃ m, k = m + 1 := ⟨k - 1, by omega⟩
    simp only [gaolerlaw02_ClauseBack.l0]
    rw [List.take_of_length_le (by omega)] at ht
    have hz : sized l := ⟨by omega, fun c hc => ⟨by have := ht c hc; omega, hb c hc⟩⟩
    rw [if_neg (by omega), right_eq l hz k (by omega), Option.bind_some]
    by_cases hr : rightS l = true
    · have hsm := show_small l hz hl ht hr
      rw [if_pos hr, show_eq l hz k (by omega), Option.bind_some, if_pos hr, parse_eq2 (showS l) (by omega) k (by omega), Option.bind_some, parse_of l hr]
      dsimp only
      rw [if_pos rfl, model_eq l hz.1 (fun c hc => (hz.2 c hc).1) k (by omega), Option.bind_some, same_eq l hz.1 (fun c hc => (hz.2 c hc).1) k (by omega), Option.bind_some, if_pos rfl]
      exact back_j2 s hs k (by omega)
    · rw [if_neg hr]
      exact back_j2 s hs k (by omega)
  | succ n ih =>
    intro k i h1 hd hk ht
    obtain ⟨k, rfl⟩ : ∃ m, k = m + 1 := ⟨k - 1, by omega⟩
    have hlt : i < l.length := by omega
    simp only [gaolerlaw02_ClauseBack.l0, rd34 l i hlt]
    rw [if_pos (by omega), if_pos (by omega)]
    by_cases hc : (l[i].f1.length : Int) > 40
    · rw [if_pos hc]
    · rw [if_neg hc, wsucc i (by omega)]
      refine ih k (i + 1) (by omega) (by omega) (by omega) fun c hc2 => ?_
      rw [List.take_succ_eq_append_getElem hlt] at hc2
      rcases List.mem_append.1 hc2 with h | h
      · exact ht c h
      · rw [List.mem_singleton.1 h]; omega
theorem ClauseBack (l : List S34) (hb : ∀ c ∈ l, bytesA c.f1) (s : ByteArray) : ∃ k, gaolerlaw02_ClauseBack.f k l s = some true := by
  refine ⟨big, ?_⟩
  have hbg := big_eq
  obtain ⟨k, hk⟩ : ∃ k, k = big := ⟨_, rfl⟩
  rw [← hk] at hbg ⊢
  clear hk
  obtain ⟨a, rfl⟩ : ∃ l, s = T l := ⟨s.data.toList, (T_of s).symm⟩
  unfold gaolerlaw02_ClauseBack.f
  rw [awake2 k (by omega), Option.bind_some, if_pos rfl, T_size]
  obtain ⟨k, rfl⟩ : ∃ m, k = m + 1 := ⟨k - 1, by omega⟩
  simp only [gaolerlaw02_ClauseBack.j0]
  by_cases hl : (l.length : Int) > 40
  · rw [if_pos hl, if_pos trivial]
  · rw [if_neg hl]
    by_cases h2 : (a.length : Int) > 300
    · rw [if_pos (by exact decide_eq_true h2)]
    · rw [if_neg (by rw [decide_eq_true_eq]; exact h2)]
      exact back_loop l (by omega) hb a (by omega) l.length k 0 (by omega) (by omega) (by omega) (by simp)
end Go.Proofs.YtlohbepfecahdaaDoor.Pure
