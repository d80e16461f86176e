/- Plain facts: a bit by its number, who may own, what a sticky directory lets. No machine in sight. -/
import Derived.Test.YtbbobjchokffbaaLb
import Derived.Test.YtbbobjchokffbaaS4
namespace Go.Proofs.Ytbbobjchokffbaa.L
set_option linter.unusedSimpArgs false
set_option linter.unusedVariables false
open Go.RowKit Go.Proofs.Ytbbobjchokffbaa.S Go.Proofs.YtbbobjchokffbaaW.PrintWords Go.Proofs.YtbbobjchokffbaaW.PrintLast

theorem bit_loop (m : Nat) (hm : m ≤ 12) (j : Nat) : ∀ (k : Nat) (n : Int), 0 ≤ n → n < 1099511627776 → j ≤ m → j < k →
    gaolerref01_Bit.l0 k n (m : Int) ((m - j : Nat) : Int) = some (n / ((2 ^ j : Nat) : Int) % 2 == 1) := by
  induction j with
  | zero =>
    intro k n h0 h1 hj hk
    obtain ⟨k, rfl⟩ : ∃ q, k = q + 1 := ⟨k - 1, by omega⟩
    simp only [gaolerref01_Bit.l0]
    rw [if_neg (by omega), tmod_nn n 2 h0]; simp
  | succ j ih =>
    intro k n h0 h1 hj hk
    obtain ⟨k, rfl⟩ : ∃ q, k = q + 1 := ⟨k - 1, by omega⟩
    simp only [gaolerref01_Bit.l0]
    rw [if_pos (by omega), tdiv_nn n 2 h0, w64 _ (by omega) (by omega), show wrap64 (((m - (j + 1) : Nat) : Int) + 1) = ((m - j : Nat) : Int) from by rw [w64 _ (by omega) (by omega)]; omega]
    rw [ih k (n / 2) (by omega) (by omega) (by omega) (by omega)]
    rw [Int.ediv_ediv_of_nonneg (by decide), show (2 : Int) * ((2 ^ j : Nat) : Int) = ((2 ^ (j + 1) : Nat) : Int) from by rw [Nat.pow_succ, Nat.mul_comm]; rfl]
theorem bit_eq (k : Nat) (n : Int) (m : Nat) (hm : m ≤ 12) (hk : 100 ≤ k) (h0 : 0 ≤ n) (h1 : n < 1099511627776) : gaolerref01_Bit.f k n (m : Int) = some (n / ((2 ^ m : Nat) : Int) % 2 == 1) := by
  unfold gaolerref01_Bit.f
  have := bit_loop m hm m k n h0 h1 (Nat.le_refl _) (by omega)
  rwa [Nat.sub_self] at this
section
variable (k : Nat) (u g : Int) (l : List Int) (hl : l.length ≤ 20) (hk : 100 ≤ k)
include hl hk
def mayOwn (u g : Int) (l : List Int) (uid gid tu tg : Int) : Bool := u == 0 || (uid == u && ((decide (tu < 0) || tu == uid) && (decide (tg < 0) || tg == gid || mem g l tg)))
theorem mayown_eq (uid gid tu tg : Int) : cred_MayOwn.f k u g l uid gid tu tg = some (mayOwn u g l uid gid tu tg) := by
  unfold cred_MayOwn.f mayOwn cred_root.f
  rw [member_eq k u g l hl hk]
  simp only [Option.bind_some]
  rw [one2 k _ _ (by omega), one3 k _ _ _ (by omega)]
  simp only [Option.bind_some]
  rw [one2 k _ _ (by omega), one2 k _ _ (by omega)]
  simp only [Option.bind_some]
  by_cases h : uid = u
  · rw [if_pos h]
    cases hc : (decide (tu < 0) || tu == uid) <;> simp [h]
  · rw [if_neg h]; simp [h]
theorem rmayown_eq (uid gid tu tg : Int) : gaolerref04_MayOwn.f k u g l uid gid tu tg = some (mayOwn u g l uid gid tu tg) := by
  unfold gaolerref04_MayOwn.f mayOwn
  rw [rmember_eq k u g l hl hk]
  simp only [Option.bind_some]
  by_cases h : u = 0
  · simp [h]
  · rw [if_neg h]
    by_cases h1 : u = uid
    · subst h1
      rw [if_pos rfl]
      by_cases h2 : tu ≥ 0
      · rw [if_pos h2]
        have h2' : ¬ tu < 0 := by omega
        by_cases h3 : tu = u
        · rw [if_pos h3]
          by_cases h4 : tg < 0
          · rw [if_pos h4]; simp [h4, h3]
          · rw [if_neg h4]
            by_cases h5 : tg = gid
            · rw [if_pos h5]; simp [h5, h3]
            · rw [if_neg h5, beq_eq_false_iff_ne.2 h, beq_eq_false_iff_ne.2 h5]; simp [h4, h3]
        · rw [if_neg h3]; simp [h, h3, h2']
      · rw [if_neg h2]
        have h2' : tu < 0 := by omega
        by_cases h4 : tg < 0
        · rw [if_pos h4]; simp [h4, h2']
        · rw [if_neg h4]
          by_cases h5 : tg = gid
          · rw [if_pos h5]; simp [h5, h2']
          · rw [if_neg h5, beq_eq_false_iff_ne.2 h, beq_eq_false_iff_ne.2 h5]; simp [h4, h2']
    · rw [if_neg h1]
      have : ¬ uid = u := fun e => h1 e.symm
      simp [h, this]
omit hl in
theorem sticky_eq (m du uid : Int) : cred_Sticky.f k u g l m du uid = some (u == 0 || (m % 4096 / 512 % 2 == 0) || du == u || uid == u) := by
  unfold cred_Sticky.f cred_root.f
  simp only [Option.bind_some]
  rw [one4 k _ _ _ _ (by omega)]
  simp only [Option.bind_some]
  have h512 : Go.bits .and .i64 m 512 = m / 512 % 2 * 512 := by
    have h1 := B.and_low m 13 (by decide)
    have e := B.and_bit m 9 (by decide)
    simpa using e
  rw [h512]
  congr 4
  rw [Bool.eq_iff_iff]; simp only [beq_iff_eq]; omega
omit hl in
theorem rsticky_eq (m du uid : Int) : gaolerref04_Sticky.f k u g l m du uid = some (u == 0 || (m % 4096 / 512 % 2 == 0) || du == u || uid == u) := by
  unfold gaolerref04_Sticky.f
  rw [low_eq]
  simp only [Option.bind_some]
  have hb := bit_eq k (m % 4096) 9 (by decide) hk (by omega) (by omega)
  rw [show ((9 : Nat) : Int) = 9 from rfl, show ((2 ^ 9 : Nat) : Int) = 512 from rfl] at hb
  rw [hb]
  simp only [Option.bind_some]
  by_cases h : u = 0
  · simp [h]
  · rw [if_neg h]
    by_cases h1 : m % 4096 / 512 % 2 = 1
    · have h2 : ¬ m % 4096 / 512 % 2 = 0 := by omega
      rw [if_pos (beq_iff_eq.2 h1)]
      by_cases h3 : u = du
      · simp [h3]
      · have h4 : ¬ du = u := fun e => h3 e.symm
        rw [if_neg h3]
        have h5 : (m % 4096 / 512 % 2 == 0) = false := beq_eq_false_iff_ne.2 h2
        have h6 : (u == 0) = false := beq_eq_false_iff_ne.2 h
        have h7 : (du == u) = false := beq_eq_false_iff_ne.2 h4
        have h8 : (u == uid) = (uid == u) := by rw [Bool.eq_iff_iff, beq_iff_eq, beq_iff_eq]; exact ⟨fun e => e.symm, fun e => e.symm⟩
        rw [h5, h6, h7, h8]; rfl
    · have h2 : m % 4096 / 512 % 2 = 0 := by omega
      rw [if_neg (by simp [h1])]; simp [h2]
end
end Go.Proofs.Ytbbobjchokffbaa.L
