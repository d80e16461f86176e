/- Plain facts: the reference's act, bit by bit, is the program's. No machine in sight. -/
import Derived.Test.YtlohbepfecahdaaDoorZfLp
import Derived.Test.YtlohbepfecahdaaDoorZfS18
import Derived.Test.YtlohbepfecahdaaDoorZfS19
namespace Go.Proofs.YtlohbepfecahdaaDoor.L
open Go.RowKit Go.Proofs.YtlohbepfecahdaaDoor.S Go.Proofs.YtlohbepfecahdaaDoorW.PrintWords Go.Proofs.YtlohbepfecahdaaDoorW.PrintLast
set_option linter.unusedVariables false
set_option linter.unusedSimpArgs false
/-- A bit of a number from 0 on. -/
def tb (x : Int) (i : Nat) : Bool := x.toNat.testBit i
/-! ### Go's own bits, bit by bit -/
theorem r12 (x y : Int) (hx : 0 ≤ x ∧ x < 4096) (hy : 0 ≤ y ∧ y < 4096) : (0 ≤ Go.bits .and .i64 x y ∧ Go.bits .and .i64 x y < 4096) ∧ (0 ≤ Go.bits .or .i64 x y ∧ Go.bits .or .i64 x y < 4096) ∧ (0 ≤ Go.bits .andNot .i64 x y ∧ Go.bits .andNot .i64 x y < 4096) := by
  rw [B.and_int x y hx.1 (by omega) hy.1 (by omega), B.or_int x y hx.1 (by omega) hy.1 (by omega), B.andNot_int x y hx.1 (by omega) hy.1 (by omega)]
  have h1 : x.toNat &&& y.toNat ≤ x.toNat := Nat.and_le_left
  have h2 : x.toNat ||| y.toNat < 2 ^ 12 := Nat.or_lt_two_pow (by omega) (by omega)
  omega
theorem tb_and (x y : Int) (hx : 0 ≤ x ∧ x < 4096) (hy : 0 ≤ y ∧ y < 4096) (i : Nat) : tb (Go.bits .and .i64 x y) i = (tb x i && tb y i) := by
  rw [B.and_int x y hx.1 (by omega) hy.1 (by omega)]
  unfold tb; rw [Int.toNat_natCast, Nat.testBit_and]
theorem tb_or (x y : Int) (hx : 0 ≤ x ∧ x < 4096) (hy : 0 ≤ y ∧ y < 4096) (i : Nat) : tb (Go.bits .or .i64 x y) i = (tb x i || tb y i) := by
  rw [B.or_int x y hx.1 (by omega) hy.1 (by omega)]
  unfold tb; rw [Int.toNat_natCast, Nat.testBit_or]
theorem sub_and (a b : Nat) (ha : a < 2 ^ 62) (hb : b < 2 ^ 62) (i : Nat) (hi : i < 64) : (a - (a &&& b)).testBit i = (a.testBit i && !b.testBit i) := by
  have hdis : (BitVec.ofNat 64 a &&& BitVec.ofNat 64 b) &&& (BitVec.ofNat 64 a &&& ~~~ BitVec.ofNat 64 b) = 0#64 := by
    apply BitVec.eq_of_getLsbD_eq
    intro i hi
    simp only [BitVec.getLsbD_and, BitVec.getLsbD_not, BitVec.getLsbD_zero]
    cases (BitVec.ofNat 64 a).getLsbD i <;> cases (BitVec.ofNat 64 b).getLsbD i <;> simp
  have hor : (BitVec.ofNat 64 a &&& BitVec.ofNat 64 b) ||| (BitVec.ofNat 64 a &&& ~~~ BitVec.ofNat 64 b) = BitVec.ofNat 64 a := by
    apply BitVec.eq_of_getLsbD_eq
    intro i hi
    simp only [BitVec.getLsbD_and, BitVec.getLsbD_or, BitVec.getLsbD_not]
    cases (BitVec.ofNat 64 a).getLsbD i <;> cases (BitVec.ofNat 64 b).getLsbD i <;> simp [hi]
  have hadd := BitVec.toNat_add_of_and_eq_zero hdis
  rw [BitVec.add_eq_or_of_and_eq_zero _ _ hdis, hor] at hadd
  have h62 : (2 : Nat) ^ 62 = 4611686018427387904 := by decide
  have e1 : (BitVec.ofNat 64 a).toNat = a := by rw [BitVec.toNat_ofNat]; exact Nat.mod_eq_of_lt (by omega)
  have e2 : (BitVec.ofNat 64 b).toNat = b := by rw [BitVec.toNat_ofNat]; exact Nat.mod_eq_of_lt (by omega)
  rw [BitVec.toNat_and (x := BitVec.ofNat 64 a) (y := BitVec.ofNat 64 b), e1, e2] at hadd
  have : (BitVec.ofNat 64 a &&& ~~~ BitVec.ofNat 64 b).toNat = a - (a &&& b) := by omega
  rw [← this, BitVec.testBit_toNat, BitVec.getLsbD_and, BitVec.getLsbD_not, BitVec.getLsbD_ofNat, BitVec.getLsbD_ofNat]
  simp [hi]
theorem tb_andNot (x y : Int) (hx : 0 ≤ x ∧ x < 4096) (hy : 0 ≤ y ∧ y < 4096) (i : Nat) (hi : i < 64) : tb (Go.bits .andNot .i64 x y) i = (tb x i && !tb y i) := by
  rw [B.andNot_int x y hx.1 (by omega) hy.1 (by omega)]
  unfold tb; rw [Int.toNat_natCast, sub_and _ _ (by omega) (by omega) i hi]
/-! ### A number of twelve bits -/
/-! ### has, in, act: what the document says of a bit -/
def clsI (i : Nat) : Nat := if i < 3 then 2 else if i < 6 then 1 else if i < 9 then 0 else (14 - i) % 3
def hasB (w u : Int) (i : Nat) : Bool := if w = 0 then (decide (i > 8) || !tb (u % 4096) i) else tb w (clsI i)
def inB (p c m : Int) (d : Bool) (i : Nat) : Bool :=
  if c > 0 then decide (i < 9) && tb (clsS m (c - 1)) (i % 3) else if i = 9 then tb p 5 else if i > 9 then tb p 4 else tb p (i % 3) || (i % 3 == 0 && tb p 3 && (d || (tb m 0 || tb m 3 || tb m 6)))
def actB (o w p c m : Int) (d : Bool) (u : Int) (i : Nat) : Bool :=
  if o = 43 then tb m i || (hasB w u i && inB p c m d i) else if o = 45 then tb m i && !(hasB w u i && inB p c m d i) else if o = 61 then (hasB w u i && inB p c m d i) || (tb m i && !hasB w u i && decide (w > 0)) else tb m i
end Go.Proofs.YtlohbepfecahdaaDoor.L
