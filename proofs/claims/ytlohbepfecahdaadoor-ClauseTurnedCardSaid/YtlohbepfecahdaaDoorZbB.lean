/- Plain facts on the bits of whole numbers, as Go's and, or, andNot have them: no program in sight. -/
import Derived.Laws.BitsLemmas
import Derived.Laws.BitsAllLaws
import Derived.RowKit
namespace Go.Proofs.YtlohbepfecahdaaDoor.B
open Go.RowKit
theorem wrap_small (n : Int) (h0 : -9223372036854775808 ≤ n) (h1 : n < 9223372036854775808) : IntKind.i64.wrap n = n := by
  rw [IntKind.wrap_i64]; omega
theorem ofInt_toNat (x : Int) : (BitVec.ofInt 64 x).toNat = (x % 18446744073709551616).toNat := by
  simp
/-- x & (2^i - 1) is the rest by 2^i, of any number. -/
theorem and_low (x : Int) (i : Nat) (hi : i ≤ 62) : Go.bits .and .i64 x (((2 ^ i - 1 : Nat)) : Int) = x % (2 ^ i : Nat) := by
  have hp : (2 : Nat) ^ i ≤ 2 ^ 62 := Nat.pow_le_pow_right (by decide) hi
  have h62 : (2 : Nat) ^ 62 = 4611686018427387904 := by decide
  have hpos : 0 < (2 : Nat) ^ i := Nat.two_pow_pos i
  have e : Go.bits .and .i64 x (((2 ^ i - 1 : Nat)) : Int) = IntKind.i64.wrap ((BitVec.ofInt 64 x &&& BitVec.ofInt 64 ((2 ^ i - 1 : Nat) : Int)).toNat : Int) := rfl
  rw [e, BitVec.toNat_and, ofInt_toNat, BitVec.ofInt_natCast, BitVec.toNat_ofNat, Nat.mod_eq_of_lt (show 2 ^ i - 1 < 2 ^ 64 by omega), Nat.and_two_pow_sub_one_eq_mod]
  have hd : ((2 : Int) ^ i) ∣ 18446744073709551616 := by
    have : (18446744073709551616 : Int) = 2 ^ i * 2 ^ (64 - i) := by
      rw [← Int.pow_add]; have : i + (64 - i) = 64 := by omega
      rw [this]; decide
    exact ⟨_, this⟩
  have hx0 : 0 ≤ x % 18446744073709551616 := Int.emod_nonneg _ (by decide)
  have key : (((x % 18446744073709551616).toNat % 2 ^ i : Nat) : Int) = x % (2 ^ i : Nat) := by
    rw [Int.natCast_emod, Int.toNat_of_nonneg hx0]
    have : (((2 ^ i : Nat)) : Int) = (2 : Int) ^ i := by simp
    rw [this]
    exact Int.emod_emod_of_dvd x hd
  rw [key]
  have h1 : 0 ≤ x % ((2 ^ i : Nat) : Int) := Int.emod_nonneg _ (by omega)
  have h2 : x % ((2 ^ i : Nat) : Int) < (2 ^ i : Nat) := Int.emod_lt_of_pos _ (by omega)
  exact wrap_small _ (by omega) (by omega)
theorem and_1 (x : Int) : Go.bits .and .i64 x 1 = x % 2 := and_low x 1 (by decide)
end Go.Proofs.YtlohbepfecahdaaDoor.B
