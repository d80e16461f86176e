/- Plain facts: an act, of the reference and of the program, is the same number. No machine in sight. -/
import Derived.Test.YtlohbepfecahdaaDoorZfLq
namespace Go.Proofs.YtlohbepfecahdaaDoor.L
open Go.RowKit Go.Proofs.YtlohbepfecahdaaDoor.S Go.Proofs.YtlohbepfecahdaaDoorW.PrintWords Go.Proofs.YtlohbepfecahdaaDoorW.PrintLast
set_option linter.unusedVariables false
set_option linter.unusedSimpArgs false
/-- What an act makes of a mode. -/
def actV (o w p c m : Int) (d : Bool) (u : Int) : Int :=
  if o = 45 then Go.bits .andNot .i64 m (Go.bits .and .i64 (bitsV p c m d) (hasS w u))
  else if o = 61 then Go.bits .or .i64 (Go.bits .andNot .i64 (if w = 0 then 0 else m) (hasS w u)) (Go.bits .and .i64 (bitsV p c m d) (hasS w u))
  else Go.bits .or .i64 m (Go.bits .and .i64 (bitsV p c m d) (hasS w u))
theorem hasT_fin : ∀ w : Fin 8, 0 ≤ hasT (w.val : Int) ∧ hasT (w.val : Int) < 4096 ∧ ∀ i : Fin 12, tb (hasT (w.val : Int)) i.val = tb (w.val : Int) (clsI i.val) := by decide +kernel
theorem hasS_bit (w u : Int) (w0 : 0 ≤ w) (w7 : w ≤ 7) : (0 ≤ hasS w u ∧ hasS w u < 4096) ∧ ∀ i, i < 12 → tb (hasS w u) i = hasB w u i := by
  unfold hasS hasB
  by_cases h : w = 0
  · rw [if_pos h]
    refine ⟨by omega, fun i hi => ?_⟩
    rw [if_pos h]
    unfold tb
    have e1 : (4095 - u % 512).toNat = 2 ^ 12 - ((u % 512).toNat + 1) := by
      have : (2 : Nat) ^ 12 = 4096 := rfl
      omega
    have e2 : (u % 512).toNat = (u % 4096).toNat % 2 ^ 9 := by
      have : (2 : Nat) ^ 9 = 512 := rfl
      omega
    rw [e1, Nat.testBit_two_pow_sub_succ (by have : (2 : Nat) ^ 12 = 4096 := rfl; omega), decide_eq_true hi, e2, Nat.testBit_mod_two_pow, Bool.true_and]
    by_cases h8 : i > 8
    · rw [decide_eq_true h8, decide_eq_false (by omega)]; rfl
    · rw [decide_eq_false h8, decide_eq_true (by omega)]; simp
  · rw [if_neg h]
    obtain ⟨n, rfl⟩ := Int.eq_ofNat_of_zero_le w0
    obtain ⟨a, b, q⟩ := hasT_fin ⟨n, by omega⟩
    refine ⟨⟨a, b⟩, fun i hi => ?_⟩
    rw [if_neg h]
    exact q ⟨i, hi⟩
theorem spread_bit : ∀ t : Fin 8, (0 ≤ 73 * (t.val : Int) ∧ 73 * (t.val : Int) < 4096) ∧ ∀ i : Fin 12, tb (73 * (t.val : Int)) i.val = (decide (i.val < 9) && tb (t.val : Int) (i.val % 3)) := by decide +kernel
theorem any_all : (List.range 4096).all (fun m => (m &&& 73 != 0) == (m.testBit 0 || m.testBit 3 || m.testBit 6)) = true := by decide +kernel
theorem anyX_eq (m : Int) (d : Bool) (m0 : 0 ≤ m) (m1 : m < 4096) : anyX m d = (d || (tb m 0 || tb m 3 || tb m 6)) := by
  unfold anyX
  rw [show spreadS 1 = 73 from spread_fin 1, B.and_int m 73 m0 (by omega) (by decide) (by decide)]
  have := List.all_eq_true.1 any_all m.toNat (List.mem_range.2 (by omega))
  rw [beq_iff_eq] at this
  unfold tb
  rw [← this]
  congr 1
  have e : ((73 : Int)).toNat = 73 := rfl
  rw [e]
  by_cases h : m.toNat &&& 73 = 0
  · rw [h]; rfl
  · have h1 : (((m.toNat &&& 73 : Nat) : Int) != 0) = true := bne_iff_ne.2 (by omega)
    have h2 : (m.toNat &&& 73 != 0) = true := bne_iff_ne.2 h
    rw [h1, h2]
theorem bitsV_bit (p c m : Int) (d : Bool) (p0 : 0 ≤ p) (p1 : p ≤ 63) (c0 : 0 ≤ c) (c3 : c ≤ 3) (m0 : 0 ≤ m) (m1 : m < 4096) : (0 ≤ bitsV p c m d ∧ bitsV p c m d < 4096) ∧ ∀ i, i < 12 → tb (bitsV p c m d) i = inB p c m d i := by
  unfold bitsV inB
  by_cases hc : c > 0
  · rw [if_pos hc]
    obtain ⟨a, b⟩ := clsS_range m (c - 1)
    obtain ⟨n, hn⟩ := Int.eq_ofNat_of_zero_le a
    rw [hn] at b ⊢
    obtain ⟨q1, q2⟩ := spread_bit ⟨n, by omega⟩
    refine ⟨q1, fun i hi => ?_⟩
    rw [if_pos hc]
    exact q2 ⟨i, hi⟩
  · rw [if_neg hc, anyX_eq m d m0 m1]
    obtain ⟨n, rfl⟩ := Int.eq_ofNat_of_zero_le p0
    refine ⟨plainV_fin ⟨n, by omega⟩ _, fun i hi => ?_⟩
    rw [if_neg hc]
    exact plainV_bit ⟨n, by omega⟩ _ ⟨i, hi⟩
theorem actV_bit (o w p c m : Int) (d : Bool) (u : Int) (ho : signI o = true) (w0 : 0 ≤ w) (w7 : w ≤ 7) (p0 : 0 ≤ p) (p1 : p ≤ 63) (c0 : 0 ≤ c) (c3 : c ≤ 3) (m0 : 0 ≤ m) (m1 : m < 4096) :
    (0 ≤ actV o w p c m d u ∧ actV o w p c m d u < 4096) ∧ ∀ i, i < 12 → tb (actV o w p c m d u) i = actB o w p c m d u i := by
  obtain ⟨hr, hb⟩ := hasS_bit w u w0 w7
  obtain ⟨br, bb⟩ := bitsV_bit p c m d p0 p1 c0 c3 m0 m1
  have nr := (r12 _ _ br hr).1
  have nb := fun i hi => (tb_and _ _ br hr i).trans (by rw [bb i hi, hb i hi] : _ = (inB p c m d i && hasB w u i))
  unfold actV actB
  simp [signI] at ho
  rcases ho with (rfl | rfl) | rfl
  · rw [if_neg (by decide), if_neg (by decide)]
    refine ⟨(r12 _ _ ⟨m0, m1⟩ nr).2.1, fun i hi => ?_⟩
    rw [tb_or _ _ ⟨m0, m1⟩ nr, nb i hi, if_pos rfl, Bool.and_comm]
  · rw [if_pos rfl]
    refine ⟨(r12 _ _ ⟨m0, m1⟩ nr).2.2, fun i hi => ?_⟩
    rw [tb_andNot _ _ ⟨m0, m1⟩ nr i (by omega), nb i hi, if_neg (by decide), if_pos rfl, Bool.and_comm (inB p c m d i)]
  · rw [if_neg (by decide), if_pos rfl]
    have mr : 0 ≤ (if w = 0 then (0 : Int) else m) ∧ (if w = 0 then (0 : Int) else m) < 4096 := by split <;> omega
    have kr := (r12 _ _ mr hr).2.2
    refine ⟨(r12 _ _ kr nr).2.1, fun i hi => ?_⟩
    rw [tb_or _ _ kr nr, tb_andNot _ _ mr hr i (by omega), nb i hi, hb i hi, if_neg (show ¬ (61 : Int) = 43 by decide), if_neg (show ¬ (61 : Int) = 45 by decide), if_pos (show (61 : Int) = 61 from rfl)]
    by_cases hw : w = 0
    · rw [if_pos hw, decide_eq_false (show ¬ w > 0 by omega)]
      have : tb 0 i = false := by unfold tb; simp
      rw [this]
      cases hasB w u i <;> cases inB p c m d i <;> simp
    · rw [if_neg hw, decide_eq_true (show w > 0 by omega)]
      cases tb m i <;> cases hasB w u i <;> cases inB p c m d i <;> rfl
end Go.Proofs.YtlohbepfecahdaaDoor.L
