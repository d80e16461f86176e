/- CredApart in numbers and lists: what the classes let that don't count plays no part; more bits let no less, and less that is wanted is let, too. -/
import Derived.Test.YtbbobjchokffbaaLb
import Derived.Test.YtbbobjchokffbaaS6
import Derived.OpenShut
namespace Go.Proofs.Ytbbobjchokffbaa.Pure
set_option linter.unusedSimpArgs false
set_option linter.unusedVariables false
open Go.RowKit Go.Proofs.Ytbbobjchokffbaa.S Go.Proofs.Ytbbobjchokffbaa.L Go.Proofs.YtbbobjchokffbaaW.PrintWords Go.Proofs.YtbbobjchokffbaaW.PrintLast

theorem cls_with (o k b : Int) (h0 : 0 ≤ k) (h1 : k ≤ 2) (hb : 0 ≤ b) (hb1 : b ≤ 7) : clsS (withS o k b) k = b := by
  rcases (show k = 0 ∨ k = 1 ∨ k = 2 by omega) with rfl | rfl | rfl <;> simp [clsS, withS] <;> omega
/-- Three bits of a number of twelve, at k. -/
theorem cls_or (m o : Nat) (k : Int) (hm : m < 4096) (ho : o < 4096) : clsS (((m ||| o : Nat)) : Int) k = (((clsS m k).toNat ||| (clsS o k).toNat : Nat) : Int) := by
  have hd : ∀ s : Nat, (m ||| o) / 2 ^ s % 8 = (m / 2 ^ s % 8) ||| (o / 2 ^ s % 8) := by
    intro s
    apply Nat.eq_of_testBit_eq
    intro i
    rw [show (8 : Nat) = 2 ^ 3 from rfl]
    simp only [Nat.testBit_mod_two_pow, Nat.testBit_div_two_pow, Nat.testBit_or]
    cases decide (i < 3) <;> simp
  have hc : ∀ x : Nat, ∀ s : Nat, ((x : Int) / ((2 ^ s : Nat) : Int) % 8).toNat = x / 2 ^ s % 8 := by intro x s; rw [← Int.natCast_ediv]; omega
  unfold clsS
  split
  · have h := hd 6; have h1 := hc m 6; have h2 := hc o 6; have h3 := hc (m ||| o) 6
    rw [show ((2 ^ 6 : Nat) : Int) = 64 from rfl] at h1 h2 h3
    rw [h1, h2, ← h, ← h3, Int.toNat_of_nonneg (by omega)]
  · split
    · have h := hd 3; have h1 := hc m 3; have h2 := hc o 3; have h3 := hc (m ||| o) 3
      rw [show ((2 ^ 3 : Nat) : Int) = 8 from rfl] at h1 h2 h3
      rw [h1, h2, ← h, ← h3, Int.toNat_of_nonneg (by omega)]
    · split
      · have h := hd 0; have h1 := hc m 0; have h2 := hc o 0; have h3 := hc (m ||| o) 0
        rw [show ((2 ^ 0 : Nat) : Int) = 1 from rfl, Int.ediv_one] at h1 h2 h3
        rw [h1, h2, ← h, ← h3, Int.toNat_of_nonneg (by omega)]
      · rfl
theorem more_lets : ∀ b c w : Fin 8, (b.val &&& w.val) = w.val → ((b.val ||| c.val) &&& w.val) = w.val := by decide +kernel
theorem less_asks : ∀ b w x : Fin 8, (b.val &&& w.val) = w.val → (b.val &&& (w.val &&& x.val)) = (w.val &&& x.val) := by decide +kernel
theorem lets_iff (b w : Nat) (hb : b < 8) (hw : w < 8) : (Go.bits .and .i64 (b : Int) (w : Int) == (w : Int)) = true ↔ (b &&& w) = w := by
  rw [B.and_nat b w (by omega) (by omega), beq_iff_eq]; omega
theorem CredApart (u g : Int) (l : List Int) (a1 a2 a3 a4 a5 : Int) (_w1 : (Lit.int .i64 a1).wf = true) (_w2 : (Lit.int .i64 a2).wf = true) (w3 : (Lit.int .u16 a3).wf = true) (w4 : (Lit.int .u16 a4).wf = true) (w5 : (Lit.int .u8 a5).wf = true) :
    ∃ k, gaolerlaw04_CredApart.f k u g l a1 a2 a3 a4 a5 = some true := by
  have b3 := bounds_u16 w3
  have b4 := bounds_u16 w4
  have b5 := bounds_u8 w5
  refine ⟨100, ?_⟩
  unfold gaolerlaw04_CredApart.f
  rw [awake4 100 (by omega)]
  simp only [Option.bind_some, if_true]
  by_cases hl : (l.length : Int) > 20
  · rw [if_pos hl]
  · rw [if_neg hl]
    have hl' : l.length ≤ 20 := by omega
    rw [tmod_nn a3 4096 b3.1, tmod_nn a4 4096 b4.1, tmod_nn a5 8 b5.1, tmod_nn a4 8 b4.1, w64 (a3 % 4096) (by omega) (by omega), w64 (a4 % 4096) (by omega) (by omega), w64 (a5 % 8) (by omega) (by omega), w64 (a4 % 8) (by omega) (by omega)]
    rw [class_eq 100 u g l hl' (by omega)]
    simp only [Option.bind_some, modes_Class.f, modes_With.f]
    obtain ⟨k0, k1⟩ := cl_range u g l a1 a2
    generalize hkk : cl u g l a1 a2 = kk at k0 k1
    have hcan : ∀ m w : Int, cred_Can.f 100 u g l a1 a2 m w = some (u == 0 || (Go.bits .and .i64 (clsS m kk) (w % 8) == w % 8)) := fun m w => by rw [can_eq 100 u g l hl' (by omega), hkk]
    obtain ⟨m, hm⟩ := Int.eq_ofNat_of_zero_le (show 0 ≤ a3 % 4096 by omega)
    obtain ⟨o, ho⟩ := Int.eq_ofNat_of_zero_le (show 0 ≤ a4 % 4096 by omega)
    obtain ⟨w, hw⟩ := Int.eq_ofNat_of_zero_le (show 0 ≤ a5 % 8 by omega)
    obtain ⟨x, hx⟩ := Int.eq_ofNat_of_zero_le (show 0 ≤ a4 % 8 by omega)
    have hm1 : m < 4096 := by omega
    have ho1 : o < 4096 := by omega
    have hw1 : w < 8 := by omega
    have hx1 : x < 8 := by omega
    rw [hm, ho, hw, hx]
    have hc := clsS_range' (m : Int) kk
    have hco := clsS_range' (o : Int) kk
    obtain ⟨b, hb⟩ := Int.eq_ofNat_of_zero_le hc.1
    obtain ⟨c, hcc⟩ := Int.eq_ofNat_of_zero_le hco.1
    have hb1 : b < 8 := by omega
    have hc1 : c < 8 := by omega
    rw [B.or_nat m o (by omega) (by omega), B.and_nat w x (by omega) (by omega)]
    have hwx : w &&& x ≤ w := Nat.and_le_left
    simp only [hcan, Option.bind_some]
    rw [cls_with _ _ _ k0 k1 hc.1 hc.2, if_pos (by omega), if_pos (by omega), cls_or m o kk hm1 ho1, hb, hcc, Int.toNat_natCast, Int.toNat_natCast]
    have e0 : Go.bits .and .i64 (b : Int) (0 % 8) = 0 % 8 := by rw [show ((0 : Int) % 8) = ((0 : Nat) : Int) from rfl, B.and_nat b 0 (by omega) (by omega), Nat.and_zero]
    rw [e0, show ((w : Int) % 8) = (w : Int) by omega, show (((w &&& x : Nat) : Int) % 8) = ((w &&& x : Nat) : Int) by omega]
    cases hcan1 : (u == 0 || (Go.bits .and .i64 (b : Int) (w : Int) == (w : Int)))
    · simp
    · have hor : b ||| c < 8 := Nat.or_lt_two_pow (n := 3) hb1 hc1
      have e1 : (u == 0 || (Go.bits .and .i64 (((b ||| c : Nat)) : Int) (w : Int) == (w : Int))) = true := by
        rcases Bool.or_eq_true_iff.1 hcan1 with h | h
        · rw [h]; rfl
        · rw [(lets_iff (b ||| c) w hor hw1).2 (more_lets ⟨b, hb1⟩ ⟨c, hc1⟩ ⟨w, hw1⟩ ((lets_iff b w hb1 hw1).1 h)), Bool.or_true]
      have e2 : (u == 0 || (Go.bits .and .i64 (b : Int) (((w &&& x : Nat)) : Int) == ((w &&& x : Nat) : Int))) = true := by
        rcases Bool.or_eq_true_iff.1 hcan1 with h | h
        · rw [h]; rfl
        · rw [(lets_iff b (w &&& x) hb1 (by omega)).2 (less_asks ⟨b, hb1⟩ ⟨w, hw1⟩ ⟨x, hx1⟩ ((lets_iff b w hb1 hw1).1 h)), Bool.or_true]
      rw [e1, e2]; simp
end Go.Proofs.Ytbbobjchokffbaa.Pure
