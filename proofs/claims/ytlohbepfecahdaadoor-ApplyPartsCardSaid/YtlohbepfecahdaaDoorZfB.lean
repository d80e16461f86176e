/- Plain facts on the bits of whole numbers, as Go's and, or, andNot have them: no program in sight. -/
import Derived.Laws.BitsLemmas
import Derived.Laws.BitsAllLaws
import Derived.RowKit
namespace Go.Proofs.YtlohbepfecahdaaDoor.B
open Go.RowKit
theorem wrap_small (n : Int) (h0 : -9223372036854775808 ≤ n) (h1 : n < 9223372036854775808) : IntKind.i64.wrap n = n := by
  rw [IntKind.wrap_i64]; omega
theorem ofInt_toNat (x : Int) : (BitVec.ofInt 64 x).toNat = (x % 18446744073709551616).toNat := by
  simp
/-- x & (2^i - 1) is the rest by 2^i, of any number. -/
theorem and_low (x : Int) (i : Nat) (hi : i ≤ 62) : Go.bits .and .i64 x (((2 ^ i - 1 : Nat)) : Int) = x % (2 ^ i : Nat) := by
  have hp : (2 : Nat) ^ i ≤ 2 ^ 62 := Nat.pow_le_pow_right (by decide) hi
  have h62 : (2 : Nat) ^ 62 = 4611686018427387904 := by decide
  have hpos : 0 < (2 : Nat) ^ i := Nat.two_pow_pos i
  have e : Go.bits .and .i64 x (((2 ^ i - 1 : Nat)) : Int) = IntKind.i64.wrap ((BitVec.ofInt 64 x &&& BitVec.ofInt 64 ((2 ^ i - 1 : Nat) : Int)).toNat : Int) := rfl
  rw [e, BitVec.toNat_and, ofInt_toNat, BitVec.ofInt_natCast, BitVec.toNat_ofNat, Nat.mod_eq_of_lt (show 2 ^ i - 1 < 2 ^ 64 by omega), Nat.and_two_pow_sub_one_eq_mod]
  have hd : ((2 : Int) ^ i) ∣ 18446744073709551616 := by
    have : (18446744073709551616 : Int) = 2 ^ i * 2 ^ (64 - i) := by
      rw [← Int.pow_add]; have : i + (64 - i) = 64 := by omega
      rw [this]; decide
    exact ⟨_, this⟩
  have hx0 : 0 ≤ x % 18446744073709551616 := Int.emod_nonneg _ (by decide)
  have key : (((x % 18446744073709551616).toNat % 2 ^ i : Nat) : Int) = x % (2 ^ i : Nat) := by
    rw [Int.natCast_emod, Int.toNat_of_nonneg hx0]
    have : (((2 ^ i : Nat)) : Int) = (2 : Int) ^ i := by simp
    rw [this]
    exact Int.emod_emod_of_dvd x hd
  rw [key]
  have h1 : 0 ≤ x % ((2 ^ i : Nat) : Int) := Int.emod_nonneg _ (by omega)
  have h2 : x % ((2 ^ i : Nat) : Int) < (2 ^ i : Nat) := Int.emod_lt_of_pos _ (by omega)
  exact wrap_small _ (by omega) (by omega)
theorem and_7 (x : Int) : Go.bits .and .i64 x 7 = x % 8 := and_low x 3 (by decide)
theorem and_4095 (x : Int) : Go.bits .and .i64 x 4095 = x % 4096 := and_low x 12 (by decide)
theorem and_511 (x : Int) : Go.bits .and .i64 x 511 = x % 512 := and_low x 9 (by decide)
theorem and_nat (a b : Nat) (ha : a < 2 ^ 62) (hb : b < 2 ^ 62) : Go.bits .and .i64 (a : Int) (b : Int) = ((a &&& b : Nat) : Int) :=
  (bits_nat .i64 62 (by decide) (fun n h0 h1 => wrap_small n (by omega) (by omega)) a b ha hb).1
theorem or_nat (a b : Nat) (ha : a < 2 ^ 62) (hb : b < 2 ^ 62) : Go.bits .or .i64 (a : Int) (b : Int) = ((a ||| b : Nat) : Int) :=
  (bits_nat .i64 62 (by decide) (fun n h0 h1 => wrap_small n (by omega) (by omega)) a b ha hb).2
/-- a &^ b is a less what both have. -/
theorem andNot_nat (a b : Nat) (ha : a < 2 ^ 62) (hb : b < 2 ^ 62) : Go.bits .andNot .i64 (a : Int) (b : Int) = ((a - (a &&& b) : Nat) : Int) := by
  have e : Go.bits .andNot .i64 (a : Int) (b : Int) = IntKind.i64.wrap ((BitVec.ofInt 64 (a : Int) &&& ~~~ BitVec.ofInt 64 (b : Int)).toNat : Int) := rfl
  rw [e, BitVec.ofInt_natCast, BitVec.ofInt_natCast]
  have hdis : (BitVec.ofNat 64 a &&& BitVec.ofNat 64 b) &&& (BitVec.ofNat 64 a &&& ~~~ BitVec.ofNat 64 b) = 0#64 := by
    apply BitVec.eq_of_getLsbD_eq
    intro i hi
    simp only [BitVec.getLsbD_and, BitVec.getLsbD_not, BitVec.getLsbD_zero]
    cases (BitVec.ofNat 64 a).getLsbD i <;> cases (BitVec.ofNat 64 b).getLsbD i <;> simp
  have hor : (BitVec.ofNat 64 a &&& BitVec.ofNat 64 b) ||| (BitVec.ofNat 64 a &&& ~~~ BitVec.ofNat 64 b) = BitVec.ofNat 64 a := by
    apply BitVec.eq_of_getLsbD_eq
    intro i hi
    simp only [BitVec.getLsbD_and, BitVec.getLsbD_or, BitVec.getLsbD_not]
    cases (BitVec.ofNat 64 a).getLsbD i <;> cases (BitVec.ofNat 64 b).getLsbD i <;> simp [hi]
  have hadd := BitVec.toNat_add_of_and_eq_zero hdis
  rw [BitVec.add_eq_or_of_and_eq_zero _ _ hdis, hor] at hadd
  have h62 : (2 : Nat) ^ 62 = 4611686018427387904 := by decide
  have e1 : (BitVec.ofNat 64 a).toNat = a := by rw [BitVec.toNat_ofNat]; exact Nat.mod_eq_of_lt (by omega)
  have e2 : (BitVec.ofNat 64 b).toNat = b := by rw [BitVec.toNat_ofNat]; exact Nat.mod_eq_of_lt (by omega)
  rw [BitVec.toNat_and (x := BitVec.ofNat 64 a) (y := BitVec.ofNat 64 b), e1, e2] at hadd
  have hle : a &&& b ≤ a := Nat.and_le_left
  have : (BitVec.ofNat 64 a &&& ~~~ BitVec.ofNat 64 b).toNat = a - (a &&& b) := by omega
  rw [this]
  exact wrap_small _ (by omega) (by omega)
theorem and_int (x y : Int) (hx : 0 ≤ x) (hx1 : x < 4611686018427387904) (hy : 0 ≤ y) (hy1 : y < 4611686018427387904) : Go.bits .and .i64 x y = ((x.toNat &&& y.toNat : Nat) : Int) := by
  have := and_nat x.toNat y.toNat (by omega) (by omega)
  rwa [Int.toNat_of_nonneg hx, Int.toNat_of_nonneg hy] at this
theorem or_int (x y : Int) (hx : 0 ≤ x) (hx1 : x < 4611686018427387904) (hy : 0 ≤ y) (hy1 : y < 4611686018427387904) : Go.bits .or .i64 x y = ((x.toNat ||| y.toNat : Nat) : Int) := by
  have := or_nat x.toNat y.toNat (by omega) (by omega)
  rwa [Int.toNat_of_nonneg hx, Int.toNat_of_nonneg hy] at this
theorem andNot_int (x y : Int) (hx : 0 ≤ x) (hx1 : x < 4611686018427387904) (hy : 0 ≤ y) (hy1 : y < 4611686018427387904) : Go.bits .andNot .i64 x y = ((x.toNat - (x.toNat &&& y.toNat) : Nat) : Int) := by
  have := andNot_nat x.toNat y.toNat (by omega) (by omega)
  rwa [Int.toNat_of_nonneg hx, Int.toNat_of_nonneg hy] at this
end Go.Proofs.YtlohbepfecahdaaDoor.B
