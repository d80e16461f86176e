/- CredGives in numbers and lists: who isn't root never gives away an owner, never has a set mode behind a write, and changes nothing of what isn't theirs. -/
import Derived.Test.YtbbobjchokffbaaLd
import Derived.OpenShut
namespace Go.Proofs.Ytbbobjchokffbaa.Pure
set_option linter.unusedSimpArgs false
set_option linter.unusedVariables false
open Go.RowKit Go.Proofs.Ytbbobjchokffbaa.S Go.Proofs.Ytbbobjchokffbaa.L Go.Proofs.YtbbobjchokffbaaW.PrintWords Go.Proofs.YtbbobjchokffbaaW.PrintLast

def woN (m i : Nat) : Nat := m - m / 2 ^ i % 2 * 2 ^ i
def wrN (m : Nat) : Nat := if woN m 11 / 8 % 2 = 1 then woN (woN m 11) 10 else woN m 11
def okN (m : Nat) : Bool := (wrN m &&& 2048) == 0 && ((wrN m &&& 1024) == 0 || wrN m / 8 % 2 != 1) && (wrN m - (wrN m &&& 3072)) == (m - (m &&& 3072)) && (wrN m ||| m) == m && decide (wrN m < 4096)
theorem ok_all : (List.range 4096).all okN = true := by decide +kernel
theorem wo_nat (m i : Nat) : wo (m : Int) i = ((woN m i : Nat) : Int) := by
  unfold wo woN
  have hq : m / 2 ^ i % 2 * 2 ^ i ≤ m := Nat.le_trans (Nat.mul_le_mul_right _ (Nat.mod_le _ _)) (Nat.div_mul_le_self _ _)
  rw [Int.ofNat_sub hq, Int.natCast_mul, Int.natCast_emod, Int.natCast_ediv]; rfl
theorem written_nat (u : Int) (m : Nat) (hu : u ≠ 0) (hm : m < 4096) : writtenS u 1 (m : Int) = ((wrN m : Nat) : Int) := by
  unfold writtenS wrN
  rw [if_neg hu, if_pos rfl, show (m : Int) % 4096 = (m : Int) by omega, wo_nat, wo_nat]
  have e : clsS ((woN m 11 : Nat) : Int) 1 % 2 = ((woN m 11 / 8 % 2 : Nat) : Int) := by unfold clsS; rw [if_neg (by decide), if_pos rfl]; omega
  rw [e]
  by_cases h : woN m 11 / 8 % 2 = 1
  · rw [if_pos (by rw [h]; rfl), if_pos h]
  · rw [if_neg (by omega), if_neg h]
theorem not_given (u g : Int) (l : List Int) (uid gid tu tg : Int) (hu : u ≠ 0) (h : 0 ≤ tu) (h2 : tu ≠ uid) : mayOwn u g l uid gid tu tg = false := by
  unfold mayOwn
  have h3 : ¬ tu < 0 := by omega
  simp [hu, h3, h2]
theorem CredGives (u g : Int) (l : List Int) (a1 a2 a3 a4 a5 : Int) (_w1 : (Lit.int .i64 a1).wf = true) (_w2 : (Lit.int .i64 a2).wf = true) (w3 : (Lit.int .u16 a3).wf = true) (_w4 : (Lit.int .i64 a4).wf = true) (w5 : (Lit.int .u16 a5).wf = true) :
    ∃ k, gaolerlaw04_CredGives.f k u g l a1 a2 a3 a4 a5 = some true := by
  have b3 := bounds_u16 w3
  have b5 := bounds_u16 w5
  refine ⟨300, ?_⟩
  unfold gaolerlaw04_CredGives.f
  rw [awake4 300 (by omega)]
  simp only [Option.bind_some, if_true]
  by_cases hl : (l.length : Int) > 20
  · rw [if_pos hl]; simp only [gaolerlaw04_CredGives.j0, if_true]
  · rw [if_neg hl]
    have hl' : l.length ≤ 20 := by omega
    by_cases hu : u = 0
    · rw [beq_iff_eq.2 hu]; simp only [gaolerlaw04_CredGives.j0, if_true]
    · rw [beq_eq_false_iff_ne.2 hu]
      simp only [gaolerlaw04_CredGives.j0, Bool.false_eq_true, if_false]
      obtain ⟨m, hm⟩ := Int.eq_ofNat_of_zero_le (show 0 ≤ a5 % 4096 by omega)
      have hm1 : m < 4096 := by omega
      rw [tmod_nn a5 4096 b5.1, w64 (a5 % 4096) (by omega) (by omega), hm, written_eq, written_nat u m hu hm1]
      simp only [Option.bind_some]
      have hok := List.all_eq_true.1 ok_all m (List.mem_range.2 hm1)
      simp only [okN, Bool.and_eq_true, beq_iff_eq, Bool.or_eq_true, bne_iff_ne, decide_eq_true_eq] at hok
      obtain ⟨⟨⟨⟨h1, h2⟩, h3⟩, h4⟩, h5⟩ := hok
      have e1 : Go.bits .and .i64 ((wrN m : Nat) : Int) 2048 = 0 := by rw [show (2048 : Int) = ((2048 : Nat) : Int) from rfl, B.and_nat _ _ (by omega) (by omega), h1]; rfl
      have e3 : Go.bits .andNot .i64 ((wrN m : Nat) : Int) 3072 = Go.bits .andNot .i64 (m : Int) 3072 := by
        rw [show (3072 : Int) = ((3072 : Nat) : Int) from rfl, B.andNot_nat _ _ (by omega) (by omega), B.andNot_nat _ _ (by omega) (by omega), h3]
      have e4 : Go.bits .or .i64 ((wrN m : Nat) : Int) (m : Int) = (m : Int) := by rw [B.or_nat _ _ (by omega) (by omega), h4]
      have e4' : (Go.bits .or .i64 ((wrN m : Nat) : Int) (m : Int) != (m : Int)) = false := by rw [e4]; simp
      have hj1 : gaolerlaw04_CredGives.j1 299 a1 a2 a3 a4 false u g l = some true := by
        simp only [gaolerlaw04_CredGives.j1, Bool.false_eq_true, if_false]
        rw [w64 a3 (by omega) (by omega), maymode_eq 298 u g l (by omega), mayown_eq 298 u g l hl' (by omega), mayown_eq 298 u g l hl' (by omega)]
        simp only [Option.bind_some]
        by_cases h : a1 = u
        · rw [if_pos h]
          by_cases h6 : a3 = a1
          · rw [if_pos h6]
          · rw [if_neg h6, not_given u g l a1 a2 a3 a4 hu b3.1 h6]; rfl
        · rw [if_neg h]
          have e5 : (u == 0 || a1 == u) = false := by simp [hu, h]
          have e6 : mayOwn u g l a1 a2 (-1) (-1) = false := by unfold mayOwn; simp [hu, h]
          rw [e5, e6]
          simp only [Bool.false_eq_true, if_false]
          by_cases h6 : a3 = a1
          · rw [if_pos h6]
          · rw [if_neg h6, not_given u g l a1 a2 a3 a4 hu b3.1 h6]; rfl
      rw [if_pos e1, e3, e4', hj1]
      simp only [if_true]
      by_cases h7 : Go.bits .and .i64 ((wrN m : Nat) : Int) 1024 = 0
      · rw [if_pos h7]
      · rw [if_neg h7, if_neg]
        have hne : wrN m &&& 1024 ≠ 0 := by
          intro h; apply h7; rw [show (1024 : Int) = ((1024 : Nat) : Int) from rfl, B.and_nat _ _ (by omega) (by omega), h]; rfl
        have h8 := h2.resolve_left hne
        rw [B.and_1]; omega
end Go.Proofs.Ytbbobjchokffbaa.Pure
