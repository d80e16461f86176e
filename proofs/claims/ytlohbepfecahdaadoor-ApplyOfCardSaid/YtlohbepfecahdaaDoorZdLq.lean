/- Plain facts: the reference's act, bit by bit, is the program's. No machine in sight. -/
import Derived.Test.YtlohbepfecahdaaDoorZdLp
import Derived.Test.YtlohbepfecahdaaDoorZdS18
import Derived.Test.YtlohbepfecahdaaDoorZdS19
namespace Go.Proofs.YtlohbepfecahdaaDoor.L
open Go.RowKit Go.Proofs.YtlohbepfecahdaaDoor.S Go.Proofs.YtlohbepfecahdaaDoorW.PrintWords Go.Proofs.YtlohbepfecahdaaDoorW.PrintLast
set_option linter.unusedVariables false
set_option linter.unusedSimpArgs false
theorem tmod_nn (a b : Int) (h : 0 ≤ a) : Int.tmod a b = a % b := Int.tmod_eq_emod_of_nonneg h
theorem tdiv_nn (a b : Int) (h : 0 ≤ a) : Int.tdiv a b = a / b := Int.tdiv_eq_ediv_of_nonneg h
theorem tmod_neg (a b : Int) (h : a < 0) : Int.tmod a b = -((-a) % b) := by
  have := Int.neg_tmod (-a) b
  rw [Int.neg_neg, tmod_nn (-a) b (by omega)] at this
  exact this
theorem rest_4096 (a : Int) : gaolerref01_rest.f a 4096 = some (a % 4096) := by
  unfold gaolerref01_rest.f
  rw [if_neg (by decide)]
  by_cases h : 0 ≤ a
  · rw [tmod_nn a _ h, if_neg (by omega)]
  · rw [tmod_neg a _ (by omega)]
    by_cases h2 : -((-a) % 4096) < 0
    · rw [if_pos h2, w64 _ (by omega) (by omega)]; congr 1; omega
    · rw [if_neg h2]; congr 1; omega
theorem low_eq (a : Int) : gaolerref01_Low.f a = some (a % 4096) := by unfold gaolerref01_Low.f; rw [rest_4096]; rfl
theorem rclass_eq (m k : Int) : gaolerref01_Class.f m k = some (clsS m k) := by
  unfold gaolerref01_Class.f clsS
  rw [low_eq]; simp only [Option.bind_some]
  have h0 : 0 ≤ m % 4096 := by omega
  rw [tdiv_nn _ 64 h0, tdiv_nn _ 8 h0, w64 _ (by omega) (by omega), w64 _ (by omega) (by omega), tmod_nn _ _ (by omega), tmod_nn _ _ (by omega), tmod_nn _ _ h0]
  split
  · congr 1; omega
  · split
    · congr 1; omega
    · split
      · congr 1; omega
      · rfl
theorem bit_loop (m : Nat) (hm : m ≤ 12) (j : Nat) : ∀ (k : Nat) (n : Int), 0 ≤ n → n < 1099511627776 → j ≤ m → j < k →
    gaolerref01_Bit.l0 k n (m : Int) ((m - j : Nat) : Int) = some (n / ((2 ^ j : Nat) : Int) % 2 == 1) := by
  induction j with
  | zero =>
    intro k n h0 h1 hj hk
    obtain ⟨k, rfl⟩ : ∃ q, k = q + 1 := ⟨k - 1, by omega⟩
    simp only [gaolerref01_Bit.l0]
    rw [if_neg (by omega), tmod_nn n 2 h0]; simp
  | succ j ih =>
    intro k n h0 h1 hj hk
    obtain ⟨k, rfl⟩ : ∃ q, k = q + 1 := ⟨k - 1, by omega⟩
    simp only [gaolerref01_Bit.l0]
    rw [if_pos (by omega), tdiv_nn n 2 h0, w64 _ (by omega) (by omega), show wrap64 (((m - (j + 1) : Nat) : Int) + 1) = ((m - j : Nat) : Int) from by rw [w64 _ (by omega) (by omega)]; omega]
    rw [ih k (n / 2) (by omega) (by omega) (by omega) (by omega)]
    rw [Int.ediv_ediv_of_nonneg (by decide), show (2 : Int) * ((2 ^ j : Nat) : Int) = ((2 ^ (j + 1) : Nat) : Int) from by rw [Nat.pow_succ, Nat.mul_comm]; rfl]
/-- A bit of a number from 0 on. -/
def tb (x : Int) (i : Nat) : Bool := x.toNat.testBit i
theorem tb_div (n : Int) (h0 : 0 ≤ n) (i : Nat) : (n / ((2 ^ i : Nat) : Int) % 2 == 1) = tb n i := by
  obtain ⟨m, rfl⟩ := Int.eq_ofNat_of_zero_le h0
  unfold tb
  rw [Int.toNat_natCast, Nat.testBit_eq_decide_div_mod_eq, ← Int.natCast_ediv]
  by_cases h : m / 2 ^ i % 2 = 1
  · rw [decide_eq_true h, beq_iff_eq]; omega
  · rw [decide_eq_false h, beq_eq_false_iff_ne]; omega
theorem bit_eq (k : Nat) (n : Int) (m : Nat) (hm : m ≤ 12) (hk : 100 ≤ k) (h0 : 0 ≤ n) (h1 : n < 1099511627776) : gaolerref01_Bit.f k n (m : Int) = some (tb n m) := by
  unfold gaolerref01_Bit.f
  have := bit_loop m hm m k n h0 h1 (Nat.le_refl _) (by omega)
  rw [Nat.sub_self] at this
  rw [← tb_div n h0]
  exact this
/-! ### Go's own bits, bit by bit -/
theorem r12 (x y : Int) (hx : 0 ≤ x ∧ x < 4096) (hy : 0 ≤ y ∧ y < 4096) : (0 ≤ Go.bits .and .i64 x y ∧ Go.bits .and .i64 x y < 4096) ∧ (0 ≤ Go.bits .or .i64 x y ∧ Go.bits .or .i64 x y < 4096) ∧ (0 ≤ Go.bits .andNot .i64 x y ∧ Go.bits .andNot .i64 x y < 4096) := by
  rw [B.and_int x y hx.1 (by omega) hy.1 (by omega), B.or_int x y hx.1 (by omega) hy.1 (by omega), B.andNot_int x y hx.1 (by omega) hy.1 (by omega)]
  have h1 : x.toNat &&& y.toNat ≤ x.toNat := Nat.and_le_left
  have h2 : x.toNat ||| y.toNat < 2 ^ 12 := Nat.or_lt_two_pow (by omega) (by omega)
  omega
theorem tb_and (x y : Int) (hx : 0 ≤ x ∧ x < 4096) (hy : 0 ≤ y ∧ y < 4096) (i : Nat) : tb (Go.bits .and .i64 x y) i = (tb x i && tb y i) := by
  rw [B.and_int x y hx.1 (by omega) hy.1 (by omega)]
  unfold tb; rw [Int.toNat_natCast, Nat.testBit_and]
theorem tb_or (x y : Int) (hx : 0 ≤ x ∧ x < 4096) (hy : 0 ≤ y ∧ y < 4096) (i : Nat) : tb (Go.bits .or .i64 x y) i = (tb x i || tb y i) := by
  rw [B.or_int x y hx.1 (by omega) hy.1 (by omega)]
  unfold tb; rw [Int.toNat_natCast, Nat.testBit_or]
theorem sub_and (a b : Nat) (ha : a < 2 ^ 62) (hb : b < 2 ^ 62) (i : Nat) (hi : i < 64) : (a - (a &&& b)).testBit i = (a.testBit i && !b.testBit i) := by
  have hdis : (BitVec.ofNat 64 a &&& BitVec.ofNat 64 b) &&& (BitVec.ofNat 64 a &&& ~~~ BitVec.ofNat 64 b) = 0#64 := by
    apply BitVec.eq_of_getLsbD_eq
    intro i hi
    simp only [BitVec.getLsbD_and, BitVec.getLsbD_not, BitVec.getLsbD_zero]
    cases (BitVec.ofNat 64 a).getLsbD i <;> cases (BitVec.ofNat 64 b).getLsbD i <;> simp
  have hor : (BitVec.ofNat 64 a &&& BitVec.ofNat 64 b) ||| (BitVec.ofNat 64 a &&& ~~~ BitVec.ofNat 64 b) = BitVec.ofNat 64 a := by
    apply BitVec.eq_of_getLsbD_eq
    intro i hi
    simp only [BitVec.getLsbD_and, BitVec.getLsbD_or, BitVec.getLsbD_not]
    cases (BitVec.ofNat 64 a).getLsbD i <;> cases (BitVec.ofNat 64 b).getLsbD i <;> simp [hi]
  have hadd := BitVec.toNat_add_of_and_eq_zero hdis
  rw [BitVec.add_eq_or_of_and_eq_zero _ _ hdis, hor] at hadd
  have h62 : (2 : Nat) ^ 62 = 4611686018427387904 := by decide
  have e1 : (BitVec.ofNat 64 a).toNat = a := by rw [BitVec.toNat_ofNat]; exact Nat.mod_eq_of_lt (by omega)
  have e2 : (BitVec.ofNat 64 b).toNat = b := by rw [BitVec.toNat_ofNat]; exact Nat.mod_eq_of_lt (by omega)
  rw [BitVec.toNat_and (x := BitVec.ofNat 64 a) (y := BitVec.ofNat 64 b), e1, e2] at hadd
  have : (BitVec.ofNat 64 a &&& ~~~ BitVec.ofNat 64 b).toNat = a - (a &&& b) := by omega
  rw [← this, BitVec.testBit_toNat, BitVec.getLsbD_and, BitVec.getLsbD_not, BitVec.getLsbD_ofNat, BitVec.getLsbD_ofNat]
  simp [hi]
theorem tb_andNot (x y : Int) (hx : 0 ≤ x ∧ x < 4096) (hy : 0 ≤ y ∧ y < 4096) (i : Nat) (hi : i < 64) : tb (Go.bits .andNot .i64 x y) i = (tb x i && !tb y i) := by
  rw [B.andNot_int x y hx.1 (by omega) hy.1 (by omega)]
  unfold tb; rw [Int.toNat_natCast, sub_and _ _ (by omega) (by omega) i hi]
/-! ### A number of twelve bits -/
def sumB (f : Nat → Bool) : Nat → Nat → Int
  | 0, i => 0
  | n + 1, i => (if f i then ((2 ^ i : Nat) : Int) else 0) + sumB f n (i + 1)
theorem sum_all : (List.range 4096).all (fun x => sumB (fun i => x.testBit i) 12 0 == (x : Int)) = true := by decide +kernel
theorem sum_fin (x : Nat) (h : x < 4096) : sumB (fun i => x.testBit i) 12 0 = (x : Int) := by
  have := List.all_eq_true.1 sum_all x (List.mem_range.2 h)
  simpa using this
theorem sumB_ext (f g : Nat → Bool) : ∀ (n i : Nat), (∀ j, i ≤ j → j < i + n → f j = g j) → sumB f n i = sumB g n i
  | 0, i, _ => rfl
  | n + 1, i, h => by
    simp only [sumB]
    rw [h i (Nat.le_refl _) (by omega), sumB_ext f g n (i + 1) (fun j h1 h2 => h j (by omega) (by omega))]
theorem sum_of (x : Int) (h0 : 0 ≤ x) (h1 : x < 4096) (f : Nat → Bool) (hf : ∀ i, i < 12 → f i = tb x i) : sumB f 12 0 = x := by
  obtain ⟨n, rfl⟩ := Int.eq_ofNat_of_zero_le h0
  rw [← sum_fin n (by omega)]
  exact sumB_ext f _ 12 0 (fun j _ h => hf j (by omega))
/-! ### has, in, act: what the document says of a bit -/
def clsI (i : Nat) : Nat := if i < 3 then 2 else if i < 6 then 1 else if i < 9 then 0 else (14 - i) % 3
def hasB (w u : Int) (i : Nat) : Bool := if w = 0 then (decide (i > 8) || !tb (u % 4096) i) else tb w (clsI i)
def inB (p c m : Int) (d : Bool) (i : Nat) : Bool :=
  if c > 0 then decide (i < 9) && tb (clsS m (c - 1)) (i % 3) else if i = 9 then tb p 5 else if i > 9 then tb p 4 else tb p (i % 3) || (i % 3 == 0 && tb p 3 && (d || (tb m 0 || tb m 3 || tb m 6)))
def actB (o w p c m : Int) (d : Bool) (u : Int) (i : Nat) : Bool :=
  if o = 43 then tb m i || (hasB w u i && inB p c m d i) else if o = 45 then tb m i && !(hasB w u i && inB p c m d i) else if o = 61 then (hasB w u i && inB p c m d i) || (tb m i && !hasB w u i && decide (w > 0)) else tb m i
theorem class_eq (i : Nat) (hi : i < 12) : ∃ q, gaolerref03_class.f (i : Int) = some q ∧ Int.tmod q 3 = (clsI i : Int) := by
  have : ∀ i : Fin 12, ∃ q ∈ [(0 : Int), 1, 2, 3, 4, 5], gaolerref03_class.f (i.val : Int) = some q ∧ Int.tmod q 3 = (clsI i.val : Int) := by decide +kernel
  obtain ⟨q, _, h⟩ := this ⟨i, hi⟩
  exact ⟨q, h⟩
theorem rhas_eq (k : Nat) (hk : 100 ≤ k) (w u : Int) (h0 : 0 ≤ w) (h7 : w ≤ 7) (i : Nat) (hi : i < 12) : gaolerref03_has.f k w u (i : Int) = some (hasB w u i) := by
  unfold gaolerref03_has.f hasB
  by_cases h : w = 0
  · rw [if_pos h, if_pos h]
    by_cases h8 : i > 8
    · rw [if_pos (by omega), decide_eq_true h8]; rfl
    · rw [if_neg (by omega), low_eq, Option.bind_some, bit_eq k _ i (by omega) hk (by omega) (by omega), decide_eq_false h8]; rfl
  · obtain ⟨q, h1, h2⟩ := class_eq i hi
    have h3 : clsI i ≤ 2 := by unfold clsI; split <;> (try split) <;> (try split) <;> omega
    rw [if_neg h, if_neg h, h1, Option.bind_some, h2, bit_eq k w _ (by omega) hk h0 (by omega)]; rfl
theorem rin_eq (k : Nat) (hk : 100 ≤ k) (o p c m : Int) (d : Bool) (p0 : 0 ≤ p) (p1 : p ≤ 63) (c0 : 0 ≤ c) (c3 : c ≤ 3) (m0 : 0 ≤ m) (m1 : m < 4096) (i : Nat) (hi : i < 12) : gaolerref03_in.f k o p c m d (i : Int) = some (inB p c m d i) := by
  unfold gaolerref03_in.f inB
  have hm3 : Int.tmod (i : Int) 3 = ((i % 3 : Nat) : Int) := by rw [tmod_nn _ _ (by omega)]; rfl
  by_cases hc : c > 0
  · rw [if_pos hc, if_pos hc]
    by_cases h9 : i < 9
    · obtain ⟨a, b⟩ := clsS_range m (c - 1)
      rw [if_pos (by omega), w64 _ (by omega) (by omega), rclass_eq, Option.bind_some, hm3, bit_eq k _ _ (by omega) hk a (by omega), decide_eq_true h9]; rfl
    · rw [if_neg (by omega), decide_eq_false h9]; rfl
  · rw [if_neg hc, if_neg hc]
    have B := fun (j : Nat) (hj : j ≤ 12) => bit_eq k p j hj hk p0 (by omega)
    have M := fun (j : Nat) (hj : j ≤ 12) => bit_eq k m j hj hk m0 (by omega)
    have B3 := B (i % 3) (by omega)
    have b5 : gaolerref01_Bit.f k p 5 = some (tb p 5) := B 5 (by decide)
    have b4 : gaolerref01_Bit.f k p 4 = some (tb p 4) := B 4 (by decide)
    have b3 : gaolerref01_Bit.f k p 3 = some (tb p 3) := B 3 (by decide)
    have q0 : gaolerref01_Bit.f k m 0 = some (tb m 0) := M 0 (by decide)
    have q3 : gaolerref01_Bit.f k m 3 = some (tb m 3) := M 3 (by decide)
    have q6 : gaolerref01_Bit.f k m 6 = some (tb m 6) := M 6 (by decide)
    by_cases h9 : i = 9
    · rw [if_pos (by omega), if_pos h9, b5]; rfl
    · rw [if_neg (by omega), if_neg h9]
      by_cases h10 : i > 9
      · rw [if_pos (by omega), if_pos h10, b4]; rfl
      · rw [if_neg (by omega), if_neg h10, q0, Option.bind_some, hm3, B3, b3, q3, q6]
        simp only [Option.bind_some]
        have e : ((((i % 3 : Nat) : Int)) = 0) ↔ i % 3 = 0 := by omega
        by_cases hz : i % 3 = 0
        · rw [hz] at *
          cases tb m 0 <;> cases tb m 3 <;> cases tb m 6 <;> cases tb p 0 <;> cases tb p 3 <;> cases d <;> simp
        · have hz' : (i % 3 == 0) = false := beq_eq_false_iff_ne.2 hz
          have hz2 : ¬ (((i % 3 : Nat) : Int)) = 0 := by omega
          simp only [if_neg hz2, hz']
          cases tb m 0 <;> cases tb m 3 <;> cases tb m 6 <;> cases tb p (i % 3) <;> simp
end Go.Proofs.YtlohbepfecahdaaDoor.L
