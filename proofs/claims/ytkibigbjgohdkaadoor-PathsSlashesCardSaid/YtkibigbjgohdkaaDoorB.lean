/- Plain facts on the bits of whole numbers, as Go's and, or, andNot have them: no program in sight. -/
import Derived.Laws.BitsLemmas
import Derived.Laws.BitsAllLaws
import Derived.RowKit
namespace Go.Proofs.YtkibigbjgohdkaaDoor.B
open Go.RowKit

theorem wrap_small (n : Int) (h0 : -9223372036854775808 ≤ n) (h1 : n < 9223372036854775808) : IntKind.i64.wrap n = n := by
  rw [IntKind.wrap_i64]; omega

theorem ofInt_toNat (x : Int) : (BitVec.ofInt 64 x).toNat = (x % 18446744073709551616).toNat := by
  simp

/-- x & (2^i - 1) is the rest by 2^i, of any number. -/
theorem and_low (x : Int) (i : Nat) (hi : i ≤ 62) : Go.bits .and .i64 x (((2 ^ i - 1 : Nat)) : Int) = x % (2 ^ i : Nat) := by
  have hp : (2 : Nat) ^ i ≤ 2 ^ 62 := Nat.pow_le_pow_right (by decide) hi
  have h62 : (2 : Nat) ^ 62 = 4611686018427387904 := by decide
  have hpos : 0 < (2 : Nat) ^ i := Nat.two_pow_pos i
  have e : Go.bits .and .i64 x (((2 ^ i - 1 : Nat)) : Int) = IntKind.i64.wrap ((BitVec.ofInt 64 x &&& BitVec.ofInt 64 ((2 ^ i - 1 : Nat) : Int)).toNat : Int) := rfl
  rw [e, BitVec.toNat_and, ofInt_toNat, BitVec.ofInt_natCast, BitVec.toNat_ofNat, Nat.mod_eq_of_lt (show 2 ^ i - 1 < 2 ^ 64 by omega), Nat.and_two_pow_sub_one_eq_mod]
  have hd : ((2 : Int) ^ i) ∣ 18446744073709551616 := by
    have : (18446744073709551616 : Int) = 2 ^ i * 2 ^ (64 - i) := by
      rw [← Int.pow_add]; have : i + (64 - i) = 64 := by omega
      rw [this]; decide
    exact ⟨_, this⟩
  have hx0 : 0 ≤ x % 18446744073709551616 := Int.emod_nonneg _ (by decide)
  have key : (((x % 18446744073709551616).toNat % 2 ^ i : Nat) : Int) = x % (2 ^ i : Nat) := by
    rw [Int.natCast_emod, Int.toNat_of_nonneg hx0]
    have : (((2 ^ i : Nat)) : Int) = (2 : Int) ^ i := by simp
    rw [this]
    exact Int.emod_emod_of_dvd x hd
  rw [key]
  have h1 : 0 ≤ x % ((2 ^ i : Nat) : Int) := Int.emod_nonneg _ (by omega)
  have h2 : x % ((2 ^ i : Nat) : Int) < (2 ^ i : Nat) := Int.emod_lt_of_pos _ (by omega)
  exact wrap_small _ (by omega) (by omega)
theorem and_1 (x : Int) : Go.bits .and .i64 x 1 = x % 2 := and_low x 1 (by decide)
theorem and_7 (x : Int) : Go.bits .and .i64 x 7 = x % 8 := and_low x 3 (by decide)
theorem and_63 (x : Int) : Go.bits .and .i64 x 63 = x % 64 := and_low x 6 (by decide)
theorem and_4095 (x : Int) : Go.bits .and .i64 x 4095 = x % 4096 := and_low x 12 (by decide)
theorem and_511 (x : Int) : Go.bits .and .i64 x 511 = x % 512 := and_low x 9 (by decide)

theorem and_nat (a b : Nat) (ha : a < 2 ^ 62) (hb : b < 2 ^ 62) : Go.bits .and .i64 (a : Int) (b : Int) = ((a &&& b : Nat) : Int) :=
  (bits_nat .i64 62 (by decide) (fun n h0 h1 => wrap_small n (by omega) (by omega)) a b ha hb).1
theorem or_nat (a b : Nat) (ha : a < 2 ^ 62) (hb : b < 2 ^ 62) : Go.bits .or .i64 (a : Int) (b : Int) = ((a ||| b : Nat) : Int) :=
  (bits_nat .i64 62 (by decide) (fun n h0 h1 => wrap_small n (by omega) (by omega)) a b ha hb).2
/-- a &^ b is a less what both have. -/
theorem andNot_nat (a b : Nat) (ha : a < 2 ^ 62) (hb : b < 2 ^ 62) : Go.bits .andNot .i64 (a : Int) (b : Int) = ((a - (a &&& b) : Nat) : Int) := by
  have e : Go.bits .andNot .i64 (a : Int) (b : Int) = IntKind.i64.wrap ((BitVec.ofInt 64 (a : Int) &&& ~~~ BitVec.ofInt 64 (b : Int)).toNat : Int) := rfl
  rw [e, BitVec.ofInt_natCast, BitVec.ofInt_natCast]
  have hdis : (BitVec.ofNat 64 a &&& BitVec.ofNat 64 b) &&& (BitVec.ofNat 64 a &&& ~~~ BitVec.ofNat 64 b) = 0#64 := by
    apply BitVec.eq_of_getLsbD_eq
    intro i hi
    simp only [BitVec.getLsbD_and, BitVec.getLsbD_not, BitVec.getLsbD_zero]
    cases (BitVec.ofNat 64 a).getLsbD i <;> cases (BitVec.ofNat 64 b).getLsbD i <;> simp
  have hor : (BitVec.ofNat 64 a &&& BitVec.ofNat 64 b) ||| (BitVec.ofNat 64 a &&& ~~~ BitVec.ofNat 64 b) = BitVec.ofNat 64 a := by
    apply BitVec.eq_of_getLsbD_eq
    intro i hi
    simp only [BitVec.getLsbD_and, BitVec.getLsbD_or, BitVec.getLsbD_not]
    cases (BitVec.ofNat 64 a).getLsbD i <;> cases (BitVec.ofNat 64 b).getLsbD i <;> simp [hi]
  have hadd := BitVec.toNat_add_of_and_eq_zero hdis
  rw [BitVec.add_eq_or_of_and_eq_zero _ _ hdis, hor] at hadd
  have h62 : (2 : Nat) ^ 62 = 4611686018427387904 := by decide
  have e1 : (BitVec.ofNat 64 a).toNat = a := by rw [BitVec.toNat_ofNat]; exact Nat.mod_eq_of_lt (by omega)
  have e2 : (BitVec.ofNat 64 b).toNat = b := by rw [BitVec.toNat_ofNat]; exact Nat.mod_eq_of_lt (by omega)
  rw [BitVec.toNat_and (x := BitVec.ofNat 64 a) (y := BitVec.ofNat 64 b), e1, e2] at hadd
  have hle : a &&& b ≤ a := Nat.and_le_left
  have : (BitVec.ofNat 64 a &&& ~~~ BitVec.ofNat 64 b).toNat = a - (a &&& b) := by omega
  rw [this]
  exact wrap_small _ (by omega) (by omega)
theorem and_int (x y : Int) (hx : 0 ≤ x) (hx1 : x < 4611686018427387904) (hy : 0 ≤ y) (hy1 : y < 4611686018427387904) : Go.bits .and .i64 x y = ((x.toNat &&& y.toNat : Nat) : Int) := by
  have := and_nat x.toNat y.toNat (by omega) (by omega)
  rwa [Int.toNat_of_nonneg hx, Int.toNat_of_nonneg hy] at this
theorem or_int (x y : Int) (hx : 0 ≤ x) (hx1 : x < 4611686018427387904) (hy : 0 ≤ y) (hy1 : y < 4611686018427387904) : Go.bits .or .i64 x y = ((x.toNat ||| y.toNat : Nat) : Int) := by
  have := or_nat x.toNat y.toNat (by omega) (by omega)
  rwa [Int.toNat_of_nonneg hx, Int.toNat_of_nonneg hy] at this
theorem andNot_int (x y : Int) (hx : 0 ≤ x) (hx1 : x < 4611686018427387904) (hy : 0 ≤ y) (hy1 : y < 4611686018427387904) : Go.bits .andNot .i64 x y = ((x.toNat - (x.toNat &&& y.toNat) : Nat) : Int) := by
  have := andNot_nat x.toNat y.toNat (by omega) (by omega)
  rwa [Int.toNat_of_nonneg hx, Int.toNat_of_nonneg hy] at this
theorem and_bit (m : Int) (i : Nat) (hi : i ≤ 12) : Go.bits .and .i64 m ((2 ^ i : Nat) : Int) = m / ((2 ^ i : Nat) : Int) % 2 * ((2 ^ i : Nat) : Int) := by
  have h1 := and_low m 13 (by decide)
  have e : Go.bits .and .i64 m ((2 ^ i : Nat) : Int) = Go.bits .and .i64 (m % 8192) ((2 ^ i : Nat) : Int) := by
    have hlt : 2 ^ i < 2 ^ 13 := Nat.pow_lt_pow_right (by decide) (by omega)
    have a1 : Go.bits .and .i64 m ((2 ^ i : Nat) : Int) = IntKind.i64.wrap (((BitVec.ofInt 64 m &&& BitVec.ofInt 64 ((2 ^ i : Nat) : Int))).toNat : Int) := rfl
    have a2 : Go.bits .and .i64 (m % 8192) ((2 ^ i : Nat) : Int) = IntKind.i64.wrap (((BitVec.ofInt 64 (m % 8192) &&& BitVec.ofInt 64 ((2 ^ i : Nat) : Int))).toNat : Int) := rfl
    rw [a1, a2]
    congr 2
    have key : ∀ x : Int, (BitVec.ofInt 64 x &&& BitVec.ofInt 64 ((2 ^ i : Nat) : Int)).toNat = (x % 18446744073709551616).toNat / 2 ^ i % 2 * 2 ^ i := by
      intro x
      rw [BitVec.toNat_and, ofInt_toNat, BitVec.ofInt_natCast, BitVec.toNat_ofNat, Nat.mod_eq_of_lt (show 2 ^ i < 2 ^ 64 from Nat.lt_of_lt_of_le hlt (by decide)), nat_bit]
    rw [key, key]
    congr 1
    rcases (show i = 0 ∨ i = 1 ∨ i = 2 ∨ i = 3 ∨ i = 4 ∨ i = 5 ∨ i = 6 ∨ i = 7 ∨ i = 8 ∨ i = 9 ∨ i = 10 ∨ i = 11 ∨ i = 12 by omega) with rfl | rfl | rfl | rfl | rfl | rfl | rfl | rfl | rfl | rfl | rfl | rfl | rfl <;> simp only [Nat.reducePow] <;> omega
  obtain ⟨M, hM⟩ := Int.eq_ofNat_of_zero_le (show 0 ≤ m % 8192 by omega)
  have hM1 : M < 8192 := by omega
  have hle : 2 ^ i ≤ 2 ^ 12 := Nat.pow_le_pow_right (by decide) hi
  rw [e, hM, and_nat M (2 ^ i) (by omega) (by omega), nat_bit, Int.natCast_mul, Int.natCast_emod, Int.natCast_ediv]
  congr 1
  have : (M : Int) = m % 8192 := hM.symm
  rw [this]
  rcases (show i = 0 ∨ i = 1 ∨ i = 2 ∨ i = 3 ∨ i = 4 ∨ i = 5 ∨ i = 6 ∨ i = 7 ∨ i = 8 ∨ i = 9 ∨ i = 10 ∨ i = 11 ∨ i = 12 by omega) with rfl | rfl | rfl | rfl | rfl | rfl | rfl | rfl | rfl | rfl | rfl | rfl | rfl <;> simp only [Nat.reducePow] <;> omega
theorem andNot_bit (m : Int) (i : Nat) (hi : i ≤ 11) (h0 : 0 ≤ m) (h1 : m < 4096) : Go.bits .andNot .i64 m ((2 ^ i : Nat) : Int) = m - m / ((2 ^ i : Nat) : Int) % 2 * ((2 ^ i : Nat) : Int) := by
  obtain ⟨M, rfl⟩ := Int.eq_ofNat_of_zero_le h0
  have hle : 2 ^ i ≤ 2 ^ 11 := Nat.pow_le_pow_right (by decide) hi
  rw [andNot_nat M (2 ^ i) (by omega) (by omega), nat_bit]
  have hq : M / 2 ^ i % 2 * 2 ^ i ≤ M := Nat.le_trans (Nat.mul_le_mul_right _ (Nat.mod_le _ _)) (Nat.div_mul_le_self _ _)
  rw [Int.ofNat_sub hq, Int.natCast_mul, Int.natCast_emod, Int.natCast_ediv]
  rfl
end Go.Proofs.YtkibigbjgohdkaaDoor.B
