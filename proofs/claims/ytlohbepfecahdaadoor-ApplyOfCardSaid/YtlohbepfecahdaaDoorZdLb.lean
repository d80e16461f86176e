/- Plain facts: what the reference's Place, Pow, sum, one and Parse say of a text: the same clauses as the program's. No machine in sight. -/
import Derived.Test.YtlohbepfecahdaaDoorZdLa
import Derived.Test.YtlohbepfecahdaaDoorZdS6
import Derived.Test.YtlohbepfecahdaaDoorZdS7
import Derived.Test.YtlohbepfecahdaaDoorZdS8
import Derived.Test.YtlohbepfecahdaaDoorZdS9
namespace Go.Proofs.YtlohbepfecahdaaDoor.L
open Go.RowKit Go.Proofs.YtlohbepfecahdaaDoor.S Go.Proofs.YtlohbepfecahdaaDoorW.PrintWords Go.Proofs.YtlohbepfecahdaaDoorW.PrintLast
set_option linter.unusedVariables false
set_option linter.unusedSimpArgs false
theorem index_cons (c d : UInt8) (l : List UInt8) : Lib.indexByte (c :: l) d = if c = d then 0 else if Lib.indexByte l d = -1 then -1 else Lib.indexByte l d + 1 := by
  simp only [Lib.indexByte, beq_iff_eq]
theorem place_loop (s : List UInt8) (c : UInt8) (hn : s.length < 100000) (d : Nat) : ∀ (k i : Nat), i ≤ s.length → s.length - i = d → d < k →
    gaolerref02_Place.l0 k (T s) (c.toNat : Int) (i : Int) = some (if Lib.indexByte (s.drop i) c = -1 then -1 else Lib.indexByte (s.drop i) c + (i : Int)) := by
  induction d with
  | zero =>
    intro k i h1 hd hk
    obtain ⟨k, rfl⟩ : ∃ m, k = m + 1 := ⟨k - 1, by omega⟩
    simp only [gaolerref02_Place.l0]
    rw [if_neg (by rw [T_size]; omega), List.drop_eq_nil_of_le (by omega)]; rfl
  | succ d ih =>
    intro k i h1 hd hk
    obtain ⟨k, rfl⟩ : ∃ m, k = m + 1 := ⟨k - 1, by omega⟩
    have hlt : i < s.length := by omega
    have hdrop : s.drop i = s[i] :: s.drop (i + 1) := (List.getElem_cons_drop hlt).symm
    simp only [gaolerref02_Place.l0]
    rw [if_pos (by rw [T_size]; omega), if_pos (by omega), bt_T s i hlt, hdrop, index_cons]
    by_cases hc : s[i] = c
    · rw [if_pos ((byte_is _ _).2 hc), if_pos hc]; simp
    · rw [if_neg (fun h => hc ((byte_is _ _).1 h)), if_neg hc, wsucc i (by omega), ih k (i + 1) (by omega) (by omega) (by omega)]
      have := Lib.indexByte_ge (s.drop (i + 1)) c
      by_cases hm : Lib.indexByte (s.drop (i + 1)) c = -1
      · rw [if_pos hm, if_pos hm]; rfl
      · rw [if_neg hm, if_neg hm, if_neg (by omega)]
        congr 1; omega
theorem place_eq (s : List UInt8) (c : UInt8) (hn : s.length < 100000) (k : Nat) (hk : s.length < k) : gaolerref02_Place.f k (T s) (c.toNat : Int) = some (Lib.indexByte s c) := by
  unfold gaolerref02_Place.f
  have := place_loop s c hn s.length k 0 (by omega) (by omega) hk
  rw [show ((0 : Nat) : Int) = 0 from rfl, List.drop_zero] at this
  rw [this]
  split
  · rename_i h; rw [h]
  · rw [Int.add_zero]
theorem index_mem (s : List UInt8) (c : UInt8) : 0 ≤ Lib.indexByte s c ↔ c ∈ s := by
  induction s with
  | nil => simp [Lib.indexByte]
  | cons d s ih =>
    rw [index_cons]
    have := Lib.indexByte_ge s c
    by_cases h : d = c
    · rw [if_pos h]; simp [h]
    · rw [if_neg h]
      by_cases hm : Lib.indexByte s c = -1
      · rw [if_pos hm]
        have : c ∉ s := fun hc => by have := ih.2 hc; omega
        simp [this]; exact fun e => h e.symm
      · rw [if_neg hm]
        have : c ∈ s := ih.1 (by omega)
        simp [this]; omega
theorem pow_loop (n : Nat) (hn : n ≤ 12) (d : Nat) : ∀ (k i : Nat), i ≤ n → n - i = d → d < k → gaolerref02_Pow.l0 k (n : Int) ((2 ^ i : Nat) : Int) (i : Int) = some ((2 ^ n : Nat) : Int) := by
  induction d with
  | zero =>
    intro k i h1 hd hk
    obtain ⟨k, rfl⟩ : ∃ m, k = m + 1 := ⟨k - 1, by omega⟩
    simp only [gaolerref02_Pow.l0]
    rw [if_neg (by omega)]
    have : i = n := by omega
    rw [this]
  | succ d ih =>
    intro k i h1 hd hk
    obtain ⟨k, rfl⟩ : ∃ m, k = m + 1 := ⟨k - 1, by omega⟩
    simp only [gaolerref02_Pow.l0]
    have hp : 2 ^ i ≤ 2 ^ 12 := Nat.pow_le_pow_right (by decide) (by omega)
    have := ih k (i + 1) (by omega) (by omega) (by omega)
    rw [Nat.pow_succ] at this
    generalize 2 ^ i = q at hp this ⊢
    rw [if_pos (by omega), wsucc i (by omega), w64 _ (by omega) (by omega), ← this]; rfl
theorem pow_eq (n : Nat) (hn : n ≤ 12) (k : Nat) (hk : n < k) : gaolerref02_Pow.f k (n : Int) = some ((2 ^ n : Nat) : Int) := by
  unfold gaolerref02_Pow.f
  exact pow_loop n hn n k 0 (by omega) (by omega) hk
def sumF (s : List UInt8) : List UInt8 → Nat → Int → Int
  | [], _, a => a
  | c :: ls, j, a => sumF s ls (j + 1) (if c ∈ s then a + ((2 ^ j : Nat) : Int) else a)
theorem sum_loop (s ls : List UInt8) (hs : s.length < 10000) (hl : ls.length ≤ 6) (d : Nat) : ∀ (k i : Nat) (a : Int), i ≤ ls.length → ls.length - i = d → d + 10000 < k → 0 ≤ a → a < 2 ^ i →
    gaolerref02_sum.l0 k (T s) (T ls) a (i : Int) = some (sumF s (ls.drop i) i a) := by
  induction d with
  | zero =>
    intro k i a h1 hd hk h0 ha
    obtain ⟨k, rfl⟩ : ∃ m, k = m + 1 := ⟨k - 1, by omega⟩
    simp only [gaolerref02_sum.l0]
    rw [if_neg (by rw [T_size]; omega), List.drop_eq_nil_of_le (by omega)]; rfl
  | succ d ih =>
    intro k i a h1 hd hk h0 ha
    obtain ⟨k, rfl⟩ : ∃ m, k = m + 1 := ⟨k - 1, by omega⟩
    have hlt : i < ls.length := by omega
    have hdrop : ls.drop i = ls[i] :: ls.drop (i + 1) := (List.getElem_cons_drop hlt).symm
    have hp : (2 : Int) ^ i = ((2 ^ i : Nat) : Int) := by simp
    have hp6 : 2 ^ i ≤ 2 ^ 6 := Nat.pow_le_pow_right (by decide) (by omega)
    have h2 : (2 : Int) ^ (i + 1) = 2 ^ i * 2 := Int.pow_succ _ _
    simp only [gaolerref02_sum.l0]
    rw [if_pos (by rw [T_size]; omega), if_pos (by omega), bt_T ls i hlt, place_eq s _ (by omega) k (by omega), Option.bind_some, hdrop]
    simp only [sumF]
    by_cases hm : ls[i] ∈ s
    · rw [if_pos ((index_mem _ _).2 hm), if_pos hm, pow_eq i (by omega) k (by omega), Option.bind_some, wsucc i (by omega), w64 _ (by omega) (by omega), ih k (i + 1) _ (by omega) (by omega) (by omega) (by omega) (by omega)]
    · rw [if_neg (fun h => hm ((index_mem _ _).1 h)), if_neg hm, wsucc i (by omega), ih k (i + 1) _ (by omega) (by omega) (by omega) (by omega) (by have : (0 : Int) < 2 ^ i := (by rw [hp]; have := Nat.two_pow_pos i; omega); omega)]
theorem sum_eq (s ls : List UInt8) (hs : s.length < 10000) (hl : ls.length ≤ 6) (k : Nat) (hk : 20000 < k) : gaolerref02_sum.f k (T s) (T ls) = some (sumF s ls 0 0) := by
  unfold gaolerref02_sum.f
  have := sum_loop s ls hs hl ls.length k 0 0 (by omega) (by omega) (by omega) (by decide) (by decide)
  rw [List.drop_zero] at this
  exact this
/-! ### Letters, folded and summed -/
def b2 (b : Bool) (n : Int) : Int := if b = true then n else 0
def val6 (b0 b1 b2_ b3 b4 b5 : Bool) : Int := b2 b0 1 + b2 b1 2 + b2 b2_ 4 + b2 b3 8 + b2 b4 16 + b2 b5 32
def val3 (b0 b1 b2_ : Bool) : Int := b2 b0 1 + b2 b1 2 + b2 b2_ 4
def isP (c : UInt8) : Bool := c = 120 || c = 119 || c = 114 || c = 88 || c = 115 || c = 116
def isU (c : UInt8) : Bool := c = 117 || c = 103 || c = 111 || c = 97
theorem or6 : ∀ b0 b1 b2_ b3 b4 b5 : Bool, orI (val6 b0 b1 b2_ b3 b4 b5) 1 = val6 true b1 b2_ b3 b4 b5 ∧ orI (val6 b0 b1 b2_ b3 b4 b5) 2 = val6 b0 true b2_ b3 b4 b5 ∧ orI (val6 b0 b1 b2_ b3 b4 b5) 4 = val6 b0 b1 true b3 b4 b5 ∧ orI (val6 b0 b1 b2_ b3 b4 b5) 8 = val6 b0 b1 b2_ true b4 b5 ∧ orI (val6 b0 b1 b2_ b3 b4 b5) 16 = val6 b0 b1 b2_ b3 true b5 ∧ orI (val6 b0 b1 b2_ b3 b4 b5) 32 = val6 b0 b1 b2_ b3 b4 true := by decide +kernel
theorem or3 : ∀ b0 b1 b2_ : Bool, orI (val3 b0 b1 b2_) 1 = val3 true b1 b2_ ∧ orI (val3 b0 b1 b2_) 2 = val3 b0 true b2_ ∧ orI (val3 b0 b1 b2_) 4 = val3 b0 b1 true := by decide +kernel
def has (c : UInt8) (l : List UInt8) : Bool := l.contains c
theorem has_cons (c d : UInt8) (l : List UInt8) : has c (d :: l) = (c == d || has c l) := rfl
theorem has_mem (c : UInt8) (l : List UInt8) : has c l = true ↔ c ∈ l := by simp [has]
theorem permS_val : ∀ (l : List UInt8) (b0 b1 b2_ b3 b4 b5 : Bool), permS (val6 b0 b1 b2_ b3 b4 b5) l =
    (val6 (b0 || has 120 (l.takeWhile isP)) (b1 || has 119 (l.takeWhile isP)) (b2_ || has 114 (l.takeWhile isP)) (b3 || has 88 (l.takeWhile isP)) (b4 || has 115 (l.takeWhile isP)) (b5 || has 116 (l.takeWhile isP)), l.dropWhile isP)
  | [], b0, b1, b2_, b3, b4, b5 => by simp [permS, has]
  | c :: l, b0, b1, b2_, b3, b4, b5 => by
    obtain ⟨o1, o2, o3, o4, o5, o6⟩ := or6 b0 b1 b2_ b3 b4 b5
    simp only [permS, o1, o2, o3, o4, o5, o6]
    by_cases h1 : c = 120
    · subst h1; rw [if_pos rfl, permS_val l]; simp [List.takeWhile, List.dropWhile, isP, has_cons]
    · rw [if_neg h1]
      by_cases h2 : c = 119
      · subst h2; rw [if_pos rfl, permS_val l]; simp [List.takeWhile, List.dropWhile, isP, has_cons]
      · rw [if_neg h2]
        by_cases h3 : c = 114
        · subst h3; rw [if_pos rfl, permS_val l]; simp [List.takeWhile, List.dropWhile, isP, has_cons]
        · rw [if_neg h3]
          by_cases h4 : c = 88
          · subst h4; rw [if_pos rfl, permS_val l]; simp [List.takeWhile, List.dropWhile, isP, has_cons]
          · rw [if_neg h4]
            by_cases h5 : c = 115
            · subst h5; rw [if_pos rfl, permS_val l]; simp [List.takeWhile, List.dropWhile, isP, has_cons]
            · rw [if_neg h5]
              by_cases h6 : c = 116
              · subst h6; rw [if_pos rfl, permS_val l]; simp [List.takeWhile, List.dropWhile, isP, has_cons]
              · rw [if_neg h6]
                have hp : isP c = false := by simp [isP, h1, h2, h3, h4, h5, h6]
                simp [List.takeWhile, List.dropWhile, hp, has]
theorem sum6 (l : List UInt8) : sumF l [120, 119, 114, 88, 115, 116] 0 0 = val6 (has 120 l) (has 119 l) (has 114 l) (has 88 l) (has 115 l) (has 116 l) := by
  simp only [sumF, val6, b2, has_mem]
  split <;> split <;> split <;> split <;> split <;> split <;> rfl
theorem sum3 (l : List UInt8) : sumF l [117, 103, 111] 0 0 = val3 (has 117 l) (has 103 l) (has 111 l) := by
  simp only [sumF, val3, b2, has_mem]
  split <;> split <;> split <;> rfl
theorem perm_sum (l : List UInt8) : permS 0 l = (sumF (l.takeWhile isP) [120, 119, 114, 88, 115, 116] 0 0, l.dropWhile isP) := by
  have := permS_val l false false false false false false
  rw [show val6 false false false false false false = 0 from rfl] at this
  rw [this, sum6]; simp
theorem whoS_val : ∀ (l : List UInt8) (b0 b1 b2_ : Bool), whoS (val3 b0 b1 b2_) l =
    (if has 97 (l.takeWhile isU) = true then 7 else val3 (b0 || has 117 (l.takeWhile isU)) (b1 || has 103 (l.takeWhile isU)) (b2_ || has 111 (l.takeWhile isU)), l.dropWhile isU)
  | [], b0, b1, b2_ => by simp [whoS, has]
  | c :: l, b0, b1, b2_ => by
    obtain ⟨o1, o2, o3⟩ := or3 b0 b1 b2_
    simp only [whoS, o1, o2, o3]
    by_cases h1 : c = 97
    · subst h1
      rw [if_pos rfl, show (7 : Int) = val3 true true true from rfl, whoS_val l]
      simp [List.takeWhile, List.dropWhile, isU, has_cons]; intro _; rfl
    · rw [if_neg h1]
      by_cases h2 : c = 117
      · subst h2; rw [if_pos rfl, whoS_val l]; simp [List.takeWhile, List.dropWhile, isU, has_cons]
      · rw [if_neg h2]
        by_cases h3 : c = 103
        · subst h3; rw [if_pos rfl, whoS_val l]; simp [List.takeWhile, List.dropWhile, isU, has_cons]
        · rw [if_neg h3]
          by_cases h4 : c = 111
          · subst h4; rw [if_pos rfl, whoS_val l]; simp [List.takeWhile, List.dropWhile, isU, has_cons]
          · rw [if_neg h4]
            have hp : isU c = false := by simp [isU, h1, h2, h3, h4]
            simp [List.takeWhile, List.dropWhile, hp, has]
theorem who_sum (l : List UInt8) : whoS 0 l = (if has 97 (l.takeWhile isU) = true then 7 else sumF (l.takeWhile isU) [117, 103, 111] 0 0, l.dropWhile isU) := by
  have := whoS_val l false false false
  rw [show val3 false false false = 0 from rfl] at this
  rw [this, sum3]; simp
end Go.Proofs.YtlohbepfecahdaaDoor.L
