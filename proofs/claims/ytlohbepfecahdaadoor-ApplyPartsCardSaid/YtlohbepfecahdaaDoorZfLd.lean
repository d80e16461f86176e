/- Plain facts: Right, same, model: of the program's clauses and of the reference's. No machine in sight. -/
import Derived.Test.YtlohbepfecahdaaDoorZfLc
import Derived.Test.YtlohbepfecahdaaDoorZfS10
import Derived.Test.YtlohbepfecahdaaDoorZfS11
namespace Go.Proofs.YtlohbepfecahdaaDoor.L
open Go.RowKit Go.Proofs.YtlohbepfecahdaaDoor.S Go.Proofs.YtlohbepfecahdaaDoorW.PrintWords Go.Proofs.YtlohbepfecahdaaDoorW.PrintLast
set_option linter.unusedVariables false
set_option linter.unusedSimpArgs false
theorem rd34 (l : List S34) (i : Nat) (h : i < l.length) : rd_T34 l (i : Int) = l[i] := by
  unfold rd_T34; rw [Int.toNat_natCast, List.getD_eq_getElem?_getD, List.getElem?_eq_getElem h]; rfl
theorem rd60 (l : List S60) (i : Nat) (h : i < l.length) : rd_T60 l (i : Int) = l[i] := by
  unfold rd_T60; rw [Int.toNat_natCast, List.getD_eq_getElem?_getD, List.getElem?_eq_getElem h]; rfl
def signI (o : Int) : Bool := o == 43 || o == 45 || o == 61
def rightA (a : S60) : Bool := signI a.f0 && (decide (0 ≤ a.f1) && (decide (a.f1 ≤ 63) && (decide (0 ≤ a.f2) && (decide (a.f2 ≤ 3) && (a.f1 == 0 || a.f2 == 0)))))
def rightC (c : S34) : Bool := decide (0 ≤ c.f0) && (decide (c.f0 ≤ 7) && (!c.f1.isEmpty && c.f1.all rightA))
def rightS (l : List S34) : Bool := l.all rightC && !l.isEmpty
/-- Bytes for signs. -/
def bytesA (l : List S60) : Prop := ∀ a ∈ l, 0 ≤ a.f0 ∧ a.f0 ≤ 255
theorem op_byte (o : Int) (h0 : 0 ≤ o) (h1 : o ≤ 255) : ((o.toNat.toUInt8).toNat : Int) = o := by
  obtain ⟨n, rfl⟩ := Int.eq_ofNat_of_zero_le h0
  have : n < 256 := by omega
  simp; omega
theorem signI_K (o : Int) (h0 : 0 ≤ o) (h1 : o ≤ 255) : signI o = signK o.toNat.toUInt8 := by
  have hb := op_byte o h0 h1
  generalize o.toNat.toUInt8 = c at hb
  subst hb
  unfold signI signK
  have e : ∀ d : UInt8, (((c.toNat : Int)) == (d.toNat : Int)) = decide (c = d) := fun d => by
    by_cases h : c = d
    · subst h; simp
    · have : ¬ ((c.toNat : Int) = (d.toNat : Int)) := fun h2 => h ((byte_is c d).1 h2)
      simp [h]; omega
  rw [← e 43, ← e 45, ← e 61]; rfl
theorem aright_eq (a : S60) (h0 : 0 ≤ a.f0) (h1 : a.f0 ≤ 255) : clause_Act_right.f a.f0 a.f1 a.f2 = some (rightA a) := by
  have hs := signI_K a.f0 h0 h1
  have hi := inS a.f0.toNat.toUInt8
  unfold clause_Act_right.f strings_IndexByte.f rightA
  by_cases hz : a.f0 = 0
  · rw [if_pos hz, hz]; rfl
  · rw [if_neg hz, Option.bind_some]
    by_cases h2 : signI a.f0 = true
    · rw [if_pos (by rw [← hs] at hi; exact hi.2 h2), h2]
      by_cases h3 : 0 ≤ a.f1
      · rw [if_pos h3]
        by_cases h4 : a.f1 ≤ 63
        · rw [if_pos (by omega)]
          by_cases h5 : 0 ≤ a.f2
          · rw [if_pos h5]
            by_cases h6 : a.f2 ≤ 3
            · rw [if_pos h6]
              by_cases h7 : a.f1 = 0
              · rw [if_pos h7]; simp [h3, h4, h5, h6, h7]
              · rw [if_neg h7]
                have : (a.f1 == 0) = false := beq_eq_false_iff_ne.2 h7
                simp [h3, h4, h5, h6, this]
            · rw [if_neg h6]; simp [h6]
          · rw [if_neg h5]; simp [h5]
        · rw [if_neg (by omega)]; simp [h4]
      · rw [if_neg h3]; simp [h3]
    · rw [if_neg (fun h => h2 (by rw [hs]; exact hi.1 h))]
      have h2' : signI a.f0 = false := by simpa using h2
      rw [h2']; rfl
def sized (l : List S34) : Prop := l.length ≤ 1000 ∧ ∀ c ∈ l, c.f1.length ≤ 1000 ∧ bytesA c.f1
theorem right_l1 (x0 x7 : List S34) (x8 x9 : Int) (acts : List S60) (ha : acts.length ≤ 1000) (hb : bytesA acts) (R : Bool) (K : Nat) (n : Nat) : ∀ (k j : Nat), j ≤ acts.length → acts.length - j = n → n + K < k →
    (∀ k', K ≤ k' → clause_Right.l0 k' x0 x7 x8 (wrap64 (x9 + 1)) = some R) → clause_Right.l1 k x0 x7 x8 x9 acts (acts.length : Int) (j : Int) = some ((acts.drop j).all rightA && R) := by
  induction n with
  | zero =>
    intro k j h1 hd hk hR
    obtain ⟨k, rfl⟩ : ∃ m, k = m + 1 := ⟨k - 1, by omega⟩
    simp only [clause_Right.l1]
    rw [if_neg (by omega), List.drop_eq_nil_of_le (by omega), hR k (by omega)]; rfl
  | succ n ih =>
    intro k j h1 hd hk hR
    obtain ⟨k, rfl⟩ : ∃ m, k = m + 1 := ⟨k - 1, by omega⟩
    have hlt : j < acts.length := by omega
    have hdrop : acts.drop j = acts[j] :: acts.drop (j + 1) := (List.getElem_cons_drop hlt).symm
    obtain ⟨g0, g1⟩ := hb _ (List.getElem_mem hlt)
    simp only [clause_Right.l1]
    rw [if_pos (by omega), if_pos (by omega), if_pos (by omega), rd60 acts j hlt, aright_eq _ g0 g1, Option.bind_some, hdrop, List.all_cons]
    by_cases h : rightA acts[j] = true
    · rw [if_pos h, wsucc j (by omega), ih k (j + 1) (by omega) (by omega) (by omega) hR, h]; rfl
    · rw [if_neg h]
      have h' : rightA acts[j] = false := by simpa using h
      rw [h']; rfl
set_option maxRecDepth 100000 in
theorem right_l0 (l : List S34) (hs : sized l) (n : Nat) : ∀ (k i : Nat), i ≤ l.length → l.length - i = n → n * 1010 + 10 < k →
    clause_Right.l0 k l l (l.length : Int) (i : Int) = some ((l.drop i).all rightC && !l.isEmpty) := by
  induction n with
  | zero =>
    intro k i h1 hd hk
    obtain ⟨k, rfl⟩ : ∃ m, k = m + 1 := ⟨k - 1, by omega⟩
    simp only [clause_Right.l0]
    rw [if_neg (by omega), List.drop_eq_nil_of_le (by omega)]
    cases l <;> simp <;> omega
  | succ n ih =>
    intro k i h1 hd hk
    obtain ⟨k, rfl⟩ : ∃ m, k = m + 1 := ⟨k - 1, by omega⟩
    have hlt : i < l.length := by omega
    have hdrop : l.drop i = l[i] :: l.drop (i + 1) := (List.getElem_cons_drop hlt).symm
    have hsz := hs.1
    obtain ⟨g0, g1⟩ := hs.2 _ (List.getElem_mem hlt)
    simp only [clause_Right.l0]
    rw [if_pos (by omega), if_pos (by omega), if_pos (by omega), rd34 l i hlt, hdrop, List.all_cons]
    obtain ⟨k, rfl⟩ : ∃ m, k = m + 1 := ⟨k - 1, by omega⟩
    simp only [clause_Right.j1]
    generalize l[i] = C at g0 g1 ⊢
    by_cases h2 : C.f0 < 0
    · rw [if_pos h2, if_pos trivial]
      have : rightC C = false := by unfold rightC; rw [decide_eq_false (by omega)]; rfl
      rw [this]; rfl
    · rw [if_neg h2]
      by_cases h3 : C.f0 > 7
      · rw [if_pos h3, if_pos trivial]
        have : rightC C = false := by unfold rightC; rw [decide_eq_false (show ¬ C.f0 ≤ 7 by omega)]; simp
        rw [this]; rfl
      · rw [if_neg h3]
        cases hC : C.f1 with
        | nil =>
          have : rightC C = false := by unfold rightC; rw [hC]; simp
          rw [this]; rfl
        | cons a m =>
          rw [if_neg (by simp; omega), ← hC]
          obtain ⟨K, hK⟩ : ∃ K, n * 1010 + 11 = K := ⟨_, rfl⟩
          have := right_l1 l l (l.length : Int) (i : Int) C.f1 g0 g1 ((l.drop (i + 1)).all rightC && !l.isEmpty) K C.f1.length k 0 (by omega) (by omega) (by omega) (fun k' hk' => by rw [wsucc i (by omega)]; exact ih k' (i + 1) (by omega) (by omega) (by omega))
          rw [show ((0 : Nat) : Int) = 0 from rfl, List.drop_zero] at this
          rw [this]
          have : rightC C = C.f1.all rightA := by
            unfold rightC
            rw [decide_eq_true (show 0 ≤ C.f0 by omega), decide_eq_true (show C.f0 ≤ 7 by omega), hC]; rfl
          rw [this, Bool.and_assoc]
set_option maxRecDepth 100000 in
theorem right_eq (l : List S34) (hs : sized l) (k : Nat) (hk : 1020000 < k) : clause_Right.f k l = some (rightS l) := by
  unfold clause_Right.f
  have hsz := hs.1
  exact right_l0 l hs l.length k 0 (by omega) (by omega) (by omega)
/-! ### The reference's -/
/-! ### same, model -/
end Go.Proofs.YtlohbepfecahdaaDoor.L
