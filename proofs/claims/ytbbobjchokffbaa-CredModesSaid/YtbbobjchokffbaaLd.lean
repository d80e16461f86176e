/- Plain facts: the mode that is set, and the one behind a write. No machine in sight. -/
import Derived.Test.YtbbobjchokffbaaLc
import Derived.Test.YtbbobjchokffbaaS7
namespace Go.Proofs.Ytbbobjchokffbaa.L
set_option linter.unusedSimpArgs false
set_option linter.unusedVariables false
open Go.RowKit Go.Proofs.Ytbbobjchokffbaa.S Go.Proofs.YtbbobjchokffbaaW.PrintWords Go.Proofs.YtbbobjchokffbaaW.PrintLast
/-- A mode without the bit of number i. -/
def wo (m : Int) (i : Nat) : Int := m - m / ((2 ^ i : Nat) : Int) % 2 * ((2 ^ i : Nat) : Int)
theorem wo_range (m : Int) (i : Nat) (hi : i ≤ 11) (h0 : 0 ≤ m) (h1 : m < 4096) : 0 ≤ wo m i ∧ wo m i < 4096 := by
  unfold wo
  rcases (show i = 0 ∨ i = 1 ∨ i = 2 ∨ i = 3 ∨ i = 4 ∨ i = 5 ∨ i = 6 ∨ i = 7 ∨ i = 8 ∨ i = 9 ∨ i = 10 ∨ i = 11 by omega) with rfl | rfl | rfl | rfl | rfl | rfl | rfl | rfl | rfl | rfl | rfl | rfl <;> simp only [Nat.reducePow] <;> omega
theorem without_eq (k : Nat) (m : Int) (i : Nat) (hi : i ≤ 11) (hk : 100 ≤ k) (h0 : 0 ≤ m) (h1 : m < 4096) : gaolerref04_without.f k m (i : Int) (((2 ^ i : Nat)) : Int) = some (wo m i) := by
  unfold gaolerref04_without.f wo
  rw [bit_eq k m i (by omega) hk h0 (by omega)]
  simp only [Option.bind_some]
  have hp : 2 ^ i ≤ 2 ^ 11 := Nat.pow_le_pow_right (by decide) hi
  have hp0 : (0 : Int) ≤ ((2 ^ i : Nat) : Int) := Int.natCast_nonneg _
  by_cases h : m / ((2 ^ i : Nat) : Int) % 2 = 1
  · rw [if_pos (beq_iff_eq.2 h), h, w64 _ (by omega) (by omega), Int.one_mul]
  · rw [if_neg (by simpa using h), show m / ((2 ^ i : Nat) : Int) % 2 = 0 by omega]; simp
def modeS (u g : Int) (l : List Int) (kind gid m : Int) : Int := if u = 0 then m % 4096 else if kind = 1 then (if mem g l gid = true then m % 4096 else wo (m % 4096) 10) else m % 4096
def writtenS (u kind m : Int) : Int := if u = 0 then m % 4096 else if kind = 1 then (if clsS (wo (m % 4096) 11) 1 % 2 = 1 then wo (wo (m % 4096) 11) 10 else wo (m % 4096) 11) else m % 4096
theorem andNot_1024 (m : Int) (h0 : 0 ≤ m) (h1 : m < 4096) : Go.bits .andNot .i64 m 1024 = wo m 10 := B.andNot_bit m 10 (by decide) h0 h1
theorem andNot_2048 (m : Int) (h0 : 0 ≤ m) (h1 : m < 4096) : Go.bits .andNot .i64 m 2048 = wo m 11 := B.andNot_bit m 11 (by decide) h0 h1
theorem mode_eq (k : Nat) (u g : Int) (l : List Int) (hl : l.length ≤ 20) (hk : 100 ≤ k) (kind gid m : Int) : cred_Mode.f k u g l kind gid m = some (modeS u g l kind gid m) := by
  unfold cred_Mode.f modeS cred_root.f
  simp only [Option.bind_some]
  rw [member_eq k u g l hl hk]
  simp only [Option.bind_some]
  rw [one3 k _ _ _ (by omega), B.and_4095, andNot_1024 _ (by omega) (by omega)]
  simp only [Option.bind_some]
  by_cases h : u = 0
  · simp [h]
  · by_cases h1 : kind = 1
    · cases hm : mem g l gid <;> simp [h, h1]
    · simp [h, h1]
theorem written_eq (u g : Int) (l : List Int) (kind m : Int) : cred_Written.f u g l kind m = some (writtenS u kind m) := by
  unfold cred_Written.f writtenS modes_Class.f
  have hb : 0 ≤ wo (m % 4096) 11 ∧ wo (m % 4096) 11 < 4096 := wo_range _ _ (by decide) (by omega) (by omega)
  rw [B.and_4095, andNot_2048 _ (by omega) (by omega), andNot_1024 _ hb.1 hb.2]
  simp only [Option.bind_some, B.and_1]
  by_cases h : u = 0
  · simp [h]
  · by_cases h1 : kind = 1
    · by_cases h2 : clsS (wo (m % 4096) 11) 1 % 2 = 1
      · have : ¬ clsS (wo (m % 4096) 11) 1 % 2 = 0 := by omega
        simp [h, h1, h2]
      · have : clsS (wo (m % 4096) 11) 1 % 2 = 0 := by omega
        simp [h, h1, this]
    · simp [h, h1]
end Go.Proofs.Ytbbobjchokffbaa.L
