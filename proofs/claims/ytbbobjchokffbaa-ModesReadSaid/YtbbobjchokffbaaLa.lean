/- Plain facts on what the functions of package cred answer: who is a member, which class counts, what it lets. No machine in sight. -/
import Derived.Test.YtbbobjchokffbaaS1
namespace Go.Proofs.Ytbbobjchokffbaa.L
open Go.RowKit Go.Proofs.Ytbbobjchokffbaa.S Go.Proofs.YtbbobjchokffbaaW.PrintWords Go.Proofs.YtbbobjchokffbaaW.PrintLast

theorem w64 (n : Int) (h0 : -9223372036854775808 ≤ n) (h1 : n < 9223372036854775808) : wrap64 n = n := by unfold wrap64; omega

theorem idxB (xs : List Bool) (a : Bool) (hn : xs.length ≤ 1000) (d : Nat) : ∀ (k i : Nat), i ≤ xs.length → xs.length - i = d → d < k →
    ∃ r : Int, slices_Index_bool_bool.l0 k xs a (xs.length : Int) (i : Int) = some r ∧ decide (r ≥ 0) = (xs.drop i).contains a := by
  induction d with
  | zero =>
    intro k i h1 hd hk
    obtain ⟨k, rfl⟩ : ∃ m, k = m + 1 := ⟨k - 1, by omega⟩
    refine ⟨-1, ?_, ?_⟩
    · simp only [slices_Index_bool_bool.l0]; rw [if_neg (by omega)]
    · rw [List.drop_eq_nil_of_le (by omega)]; rfl
  | succ d ih =>
    intro k i h1 hd hk
    obtain ⟨k, rfl⟩ : ∃ m, k = m + 1 := ⟨k - 1, by omega⟩
    have hlt : i < xs.length := by omega
    have hdrop : xs.drop i = xs[i] :: xs.drop (i + 1) := (List.getElem_cons_drop hlt).symm
    have hrd : rdOf false xs (i : Int) = xs[i] := by simp [rdOf, hlt]
    simp only [slices_Index_bool_bool.l0]
    rw [if_pos (by omega), if_pos (by omega), if_pos (by omega), hrd, w64 _ (by omega) (by omega)]
    by_cases he : (a == xs[i]) = true
    · refine ⟨i, if_pos he, ?_⟩
      have e : a = xs[i] := eq_of_beq he
      rw [hdrop, decide_eq_true (by omega), List.contains_cons, ← e, beq_self_eq_true, Bool.true_or]
    · obtain ⟨r, hr, hc⟩ := ih k (i + 1) (by omega) (by omega) (by omega)
      refine ⟨r, by rw [if_neg he]; exact hr, ?_⟩
      rw [hdrop, hc, List.contains_cons, Bool.eq_false_iff.2 he, Bool.false_or]

theorem containsB (k : Nat) (xs : List Bool) (a : Bool) (hn : xs.length ≤ 1000) (hk : xs.length < k) : slices_Contains_bool_bool.f k xs a = some (xs.contains a) := by
  obtain ⟨r, hr, hc⟩ := idxB xs a hn xs.length k 0 (by omega) (by omega) hk
  unfold slices_Contains_bool_bool.f slices_Index_bool_bool.f
  rw [show ((0 : Nat) : Int) = 0 from rfl] at hr
  rw [hr, Option.bind_some, hc]; rfl

theorem idxI (xs : List Int) (a : Int) (hn : xs.length ≤ 1000) (d : Nat) : ∀ (k i : Nat), i ≤ xs.length → xs.length - i = d → d < k →
    ∃ r : Int, slices_Index_int_int.l0 k xs a (xs.length : Int) (i : Int) = some r ∧ decide (r ≥ 0) = (xs.drop i).contains a := by
  induction d with
  | zero =>
    intro k i h1 hd hk
    obtain ⟨k, rfl⟩ : ∃ m, k = m + 1 := ⟨k - 1, by omega⟩
    refine ⟨-1, ?_, ?_⟩
    · simp only [slices_Index_int_int.l0]; rw [if_neg (by omega)]
    · rw [List.drop_eq_nil_of_le (by omega)]; rfl
  | succ d ih =>
    intro k i h1 hd hk
    obtain ⟨k, rfl⟩ : ∃ m, k = m + 1 := ⟨k - 1, by omega⟩
    have hlt : i < xs.length := by omega
    have hdrop : xs.drop i = xs[i] :: xs.drop (i + 1) := (List.getElem_cons_drop hlt).symm
    have hrd : rd xs (i : Int) = xs[i] := by simp [rd, hlt]
    simp only [slices_Index_int_int.l0]
    rw [if_pos (by omega), if_pos (by omega), if_pos (by omega), hrd, w64 _ (by omega) (by omega)]
    by_cases he : a = xs[i]
    · refine ⟨i, if_pos he, ?_⟩
      rw [hdrop, decide_eq_true (by omega), List.contains_cons, ← he, beq_self_eq_true, Bool.true_or]
    · obtain ⟨r, hr, hc⟩ := ih k (i + 1) (by omega) (by omega) (by omega)
      refine ⟨r, by rw [if_neg he]; exact hr, ?_⟩
      rw [hdrop, hc, List.contains_cons, beq_eq_false_iff_ne.2 he, Bool.false_or]

theorem containsI (k : Nat) (xs : List Int) (a : Int) (hn : xs.length ≤ 1000) (hk : xs.length < k) : slices_Contains_int_int.f k xs a = some (xs.contains a) := by
  obtain ⟨r, hr, hc⟩ := idxI xs a hn xs.length k 0 (by omega) (by omega) hk
  unfold slices_Contains_int_int.f slices_Index_int_int.f
  rw [show ((0 : Nat) : Int) = 0 from rfl] at hr
  rw [hr, Option.bind_some, hc]; rfl

theorem one_eq (k : Nat) (xs : List Bool) (hn : xs.length ≤ 1000) (hk : xs.length < k) : cred_one.f k xs = some (xs.contains true) := by
  unfold cred_one.f; rw [containsB k xs true hn hk]; rfl
theorem one2 (k : Nat) (x y : Bool) (hk : 2 < k) : cred_one.f k [x, y] = some (x || y) := by
  rw [one_eq k _ (by simp) (by simpa using hk)]; cases x <;> cases y <;> rfl
theorem one3 (k : Nat) (x y z : Bool) (hk : 3 < k) : cred_one.f k [x, y, z] = some (x || y || z) := by
  rw [one_eq k _ (by simp) (by simpa using hk)]; cases x <;> cases y <;> cases z <;> rfl
theorem one4 (k : Nat) (x y z u : Bool) (hk : 4 < k) : cred_one.f k [x, y, z, u] = some (x || y || z || u) := by
  rw [one_eq k _ (by simp) (by simpa using hk)]; cases x <;> cases y <;> cases z <;> cases u <;> rfl

theorem clsS_range' (m k : Int) : 0 ≤ clsS m k ∧ clsS m k ≤ 7 := by unfold clsS; split <;> (try split) <;> (try split) <;> omega
def mem (g : Int) (l : List Int) (a : Int) : Bool := a == g || l.contains a
def cl (u g : Int) (l : List Int) (uid gid : Int) : Int := if uid = u then 0 else if mem g l gid = true then 1 else 2
theorem cl_range (u g : Int) (l : List Int) (uid gid : Int) : 0 ≤ cl u g l uid gid ∧ cl u g l uid gid ≤ 2 := by unfold cl; split <;> (try split) <;> omega

section
variable (k : Nat) (u g : Int) (l : List Int) (hl : l.length ≤ 20) (hk : 100 ≤ k)
include hl hk
theorem member_eq (a : Int) : cred_Member.f k u g l a = some (mem g l a) := by
  unfold cred_Member.f; rw [containsI k l a (by omega) (by omega)]; simp only [Option.bind_some]; rw [one2 k _ _ (by omega)]; rfl
theorem class_eq (uid gid : Int) : cred_Class.f k u g l uid gid = some (cl u g l uid gid) := by
  unfold cred_Class.f cl
  by_cases h : uid = u
  · rw [if_pos h, if_pos h]
  · rw [if_neg h, if_neg h, member_eq k u g l hl hk]; simp only [Option.bind_some]; split <;> rfl
theorem can_eq (uid gid mode want : Int) : cred_Can.f k u g l uid gid mode want =
    some (u == 0 || (Go.bits .and .i64 (clsS mode (cl u g l uid gid)) (want % 8) == want % 8)) := by
  unfold cred_Can.f cred_root.f
  simp only [Option.bind_some]
  rw [class_eq k u g l hl hk]
  simp only [Option.bind_some, modes_Class.f, B.and_7]
  rw [one2 k _ _ (by omega)]; rfl
end
end Go.Proofs.Ytbbobjchokffbaa.L
