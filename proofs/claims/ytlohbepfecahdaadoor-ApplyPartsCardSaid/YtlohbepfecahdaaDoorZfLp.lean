/- Plain facts on modes as twelve bits: what has, bits and an act come to. No machine in sight. -/
import Derived.Test.YtlohbepfecahdaaDoorZfLd
import Derived.KernelRfl
import Derived.Test.YtlohbepfecahdaaDoorZfS17
namespace Go.Proofs.YtlohbepfecahdaaDoor.L
open Go.RowKit Go.Proofs.YtlohbepfecahdaaDoor.S Go.Proofs.YtlohbepfecahdaaDoorW.PrintWords Go.Proofs.YtlohbepfecahdaaDoorW.PrintLast
set_option linter.unusedVariables false
set_option linter.unusedSimpArgs false
theorem more_rounds {α : Type} (g : Nat → Option α) (hm : ∀ k, LeO (g k) (g (k + 1))) (k0 : Nat) (r : α) (h : g k0 = some r) : ∀ k, k0 ≤ k → g k = some r := by
  intro k hk
  obtain ⟨d, rfl⟩ : ∃ d, k = k0 + d := ⟨k - k0, by omega⟩
  clear hk
  induction d with
  | zero => exact h
  | succ d ih => exact hm (k0 + d) r ih
theorem awake3 (k : Nat) (hk : 60 ≤ k) : gaolerlaw03_awake.f k = some true :=
  more_rounds gaolerlaw03_awake.f (fun k => gaolerlaw03_awake.mono k) 60 true (by decide +kernel) k hk
def hasT (w : Int) : Int := (if w % 2 = 1 then 2496 else 0) + (if w / 2 % 2 = 1 then 1080 else 0) + (if w / 4 % 2 = 1 then 519 else 0)
def hasS (w u : Int) : Int := if w = 0 then 4095 - u % 512 else hasT w
theorem has_fin : ∀ w : Fin 8, w.val ≠ 0 → apply_has.f 10 (w.val : Int) 0 = some (hasT (w.val : Int)) := by decide +kernel
theorem has_u (k : Nat) (w u : Int) (h : w ≠ 0) : apply_has.f k w u = apply_has.f k w 0 := by
  unfold apply_has.f
  rw [if_neg h, if_neg h]
theorem and_full (u : Nat) (h : u < 512) : 4095 &&& u = u := by
  rw [Nat.and_comm, show (4095 : Nat) = 2 ^ 12 - 1 from rfl, Nat.and_two_pow_sub_one_eq_mod]; omega
theorem has_eq (k : Nat) (hk : 10 ≤ k) (w u : Int) (h0 : 0 ≤ w) (h7 : w ≤ 7) : apply_has.f k w u = some (hasS w u) := by
  unfold hasS
  by_cases h : w = 0
  · rw [if_pos h, h]
    unfold apply_has.f
    rw [if_pos rfl, B.and_511, B.andNot_int 4095 (u % 512) (by decide) (by decide) (by omega) (by omega)]
    have e : ((4095 : Int).toNat &&& (u % 512).toNat) = (u % 512).toNat := and_full _ (by omega)
    rw [e]
    congr 1
    have : (4095 : Int).toNat = 4095 := rfl
    omega
  · rw [if_neg h, has_u k w u h]
    obtain ⟨n, rfl⟩ := Int.eq_ofNat_of_zero_le h0
    exact more_rounds (fun k => apply_has.f k (n : Int) 0) (fun k => apply_has.mono _ _ k) 10 _ (has_fin ⟨n, by omega⟩ (by simp; omega)) k hk
theorem spread_fin : ∀ t : Fin 8, spreadS (t.val : Int) = 73 * (t.val : Int) := by decide +kernel
theorem clsS_range (m k : Int) : 0 ≤ clsS m k ∧ clsS m k ≤ 7 := by unfold clsS; split <;> (try split) <;> (try split) <;> omega
/-- The bits of an act that copies nothing: of its number, and of whether X sets. -/
def plainV (p : Int) (x : Bool) : Int := more p 32 (more p 16 (if x = true then more p 8 (73 * (p % 8)) 73 else 73 * (p % 8)) 3072) 512
theorem plain_eq (p m : Int) (d : Bool) (h0 : 0 ≤ p) (h1 : p ≤ 63) : plainS p m d = plainV p (anyX m d) := by
  have e1 : spreadS (Go.bits .and .i64 p 7) = 73 * (p % 8) := by
    rw [B.and_7]
    obtain ⟨n, hn⟩ := Int.eq_ofNat_of_zero_le (show 0 ≤ p % 8 by omega)
    rw [hn]; exact spread_fin ⟨n, by omega⟩
  have e2 : spreadS 1 = 73 := spread_fin 1
  unfold plainS plainV
  rw [e1, e2]
def bitsV (p c m : Int) (d : Bool) : Int := if c > 0 then 73 * clsS m (c - 1) else plainV p (anyX m d)
theorem bits_eq (o p c m : Int) (d : Bool) (h0 : 0 ≤ p) (h1 : p ≤ 63) (c0 : 0 ≤ c) (c3 : c ≤ 3) : apply_bits.f o p c m d = some (bitsV p c m d) := by
  unfold apply_bits.f bitsV
  by_cases h : c > 0
  · rw [if_pos h, if_pos h, w64 _ (by omega) (by omega)]
    obtain ⟨a, b⟩ := clsS_range m (c - 1)
    show some (spreadS (clsS m (c - 1))) = _
    obtain ⟨n, hn⟩ := Int.eq_ofNat_of_zero_le a
    rw [hn]
    exact congrArg some (spread_fin ⟨n, by omega⟩)
  · rw [if_neg h, if_neg h, plain_eq p m d h0 h1]
theorem plainV_fin : ∀ p : Fin 64, ∀ x : Bool, 0 ≤ plainV (p.val : Int) x ∧ plainV (p.val : Int) x < 4096 := by decide +kernel
theorem plainV_bit : ∀ p : Fin 64, ∀ x : Bool, ∀ i : Fin 12, (plainV (p.val : Int) x).toNat.testBit i.val = (if i.val = 9 then p.val.testBit 5 else if i.val > 9 then p.val.testBit 4 else p.val.testBit (i.val % 3) || (i.val % 3 == 0 && p.val.testBit 3 && x)) := by decide +kernel
end Go.Proofs.YtlohbepfecahdaaDoor.L
