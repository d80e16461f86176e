/- Plain facts: what the reference's Place, Pow, sum, one and Parse say of a text: the same clauses as the program's. No machine in sight. -/
import Derived.Test.YtlohbepfecahdaaDoorZcLa
import Derived.Test.YtlohbepfecahdaaDoorZcS6
import Derived.Test.YtlohbepfecahdaaDoorZcS7
import Derived.Test.YtlohbepfecahdaaDoorZcS8
import Derived.Test.YtlohbepfecahdaaDoorZcS9
namespace Go.Proofs.YtlohbepfecahdaaDoor.L
open Go.RowKit Go.Proofs.YtlohbepfecahdaaDoor.S Go.Proofs.YtlohbepfecahdaaDoorW.PrintWords Go.Proofs.YtlohbepfecahdaaDoorW.PrintLast
set_option linter.unusedVariables false
set_option linter.unusedSimpArgs false
theorem index_cons (c d : UInt8) (l : List UInt8) : Lib.indexByte (c :: l) d = if c = d then 0 else if Lib.indexByte l d = -1 then -1 else Lib.indexByte l d + 1 := by
  simp only [Lib.indexByte, beq_iff_eq]
theorem place_loop (s : List UInt8) (c : UInt8) (hn : s.length < 100000) (d : Nat) : ∀ (k i : Nat), i ≤ s.length → s.length - i = d → d < k →
    gaolerref02_Place.l0 k (T s) (c.toNat : Int) (i : Int) = some (if Lib.indexByte (s.drop i) c = -1 then -1 else Lib.indexByte (s.drop i) c + (i : Int)) := by
  induction d with
  | zero =>
    intro k i h1 hd hk
    obtain ⟨k, rfl⟩ : ∃ m, k = m + 1 := ⟨k - 1, by omega⟩
    simp only [gaolerref02_Place.l0]
    rw [if_neg (by rw [T_size]; omega), List.drop_eq_nil_of_le (by omega)]; rfl
  | succ d ih =>
    intro k i h1 hd hk
    obtain ⟨k, rfl⟩ : ∃ m, k = m + 1 := ⟨k - 1, by omega⟩
    have hlt : i < s.length := by omega
    have hdrop : s.drop i = s[i] :: s.drop (i + 1) := (List.getElem_cons_drop hlt).symm
    simp only [gaolerref02_Place.l0]
    rw [if_pos (by rw [T_size]; omega), if_pos (by omega), bt_T s i hlt, hdrop, index_cons]
    by_cases hc : s[i] = c
    · rw [if_pos ((byte_is _ _).2 hc), if_pos hc]; simp
    · rw [if_neg (fun h => hc ((byte_is _ _).1 h)), if_neg hc, wsucc i (by omega), ih k (i + 1) (by omega) (by omega) (by omega)]
      have := Lib.indexByte_ge (s.drop (i + 1)) c
      by_cases hm : Lib.indexByte (s.drop (i + 1)) c = -1
      · rw [if_pos hm, if_pos hm]; rfl
      · rw [if_neg hm, if_neg hm, if_neg (by omega)]
        congr 1; omega
theorem place_eq (s : List UInt8) (c : UInt8) (hn : s.length < 100000) (k : Nat) (hk : s.length < k) : gaolerref02_Place.f k (T s) (c.toNat : Int) = some (Lib.indexByte s c) := by
  unfold gaolerref02_Place.f
  have := place_loop s c hn s.length k 0 (by omega) (by omega) hk
  rw [show ((0 : Nat) : Int) = 0 from rfl, List.drop_zero] at this
  rw [this]
  split
  · rename_i h; rw [h]
  · rw [Int.add_zero]
theorem index_mem (s : List UInt8) (c : UInt8) : 0 ≤ Lib.indexByte s c ↔ c ∈ s := by
  induction s with
  | nil => simp [Lib.indexByte]
  | cons d s ih =>
    rw [index_cons]
    have := Lib.indexByte_ge s c
    by_cases h : d = c
    · rw [if_pos h]; simp [h]
    · rw [if_neg h]
      by_cases hm : Lib.indexByte s c = -1
      · rw [if_pos hm]
        have : c ∉ s := fun hc => by have := ih.2 hc; omega
        simp [this]; exact fun e => h e.symm
      · rw [if_neg hm]
        have : c ∈ s := ih.1 (by omega)
        simp [this]; omega
theorem pow_loop (n : Nat) (hn : n ≤ 12) (d : Nat) : ∀ (k i : Nat), i ≤ n → n - i = d → d < k → gaolerref02_Pow.l0 k (n : Int) ((2 ^ i : Nat) : Int) (i : Int) = some ((2 ^ n : Nat) : Int) := by
  induction d with
  | zero =>
    intro k i h1 hd hk
    obtain ⟨k, rfl⟩ : ∃ m, k = m + 1 := ⟨k - 1, by omega⟩
    simp only [gaolerref02_Pow.l0]
    rw [if_neg (by omega)]
    have : i = n := by omega
    rw [this]
  | succ d ih =>
    intro k i h1 hd hk
    obtain ⟨k, rfl⟩ : ∃ m, k = m + 1 := ⟨k - 1, by omega⟩
    simp only [gaolerref02_Pow.l0]
    have hp : 2 ^ i ≤ 2 ^ 12 := Nat.pow_le_pow_right (by decide) (by omega)
    have := ih k (i + 1) (by omega) (by omega) (by omega)
    rw [Nat.pow_succ] at this
    generalize 2 ^ i = q at hp this ⊢
    rw [if_pos (by omega), wsucc i (by omega), w64 _ (by omega) (by omega), ← this]; rfl
theorem pow_eq (n : Nat) (hn : n ≤ 12) (k : Nat) (hk : n < k) : gaolerref02_Pow.f k (n : Int) = some ((2 ^ n : Nat) : Int) := by
  unfold gaolerref02_Pow.f
  exact pow_loop n hn n k 0 (by omega) (by omega) hk
/-! ### Letters, folded and summed -/
def b2 (b : Bool) (n : Int) : Int := if b = true then n else 0
def val3 (b0 b1 b2_ : Bool) : Int := b2 b0 1 + b2 b1 2 + b2 b2_ 4
def isU (c : UInt8) : Bool := c = 117 || c = 103 || c = 111 || c = 97
end Go.Proofs.YtlohbepfecahdaaDoor.L
