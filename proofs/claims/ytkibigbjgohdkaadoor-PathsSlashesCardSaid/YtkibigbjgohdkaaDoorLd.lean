/- Plain facts: paths that are made of names and slashes. No machine in sight. -/
import Derived.Test.YtkibigbjgohdkaaDoorLc
namespace Go.Proofs.YtkibigbjgohdkaaDoor.L
open Go.RowKit Go.Proofs.YtkibigbjgohdkaaDoor.S Go.Proofs.YtkibigbjgohdkaaDoorW.PrintWords Go.Proofs.YtkibigbjgohdkaaDoorW.PrintLast
set_option linter.unusedVariables false
set_option linter.unusedSimpArgs false

theorem names_slash (m : List UInt8) : ∀ (l cur : List UInt8), namesL cur (l ++ 47 :: m) = namesL cur l ++ namesL [] m
  | [], cur => by
    simp only [List.nil_append, namesL, if_true]
    split <;> simp
  | c :: l, cur => by
    simp only [List.cons_append, namesL]
    rw [names_slash m l [], names_slash m l (cur ++ [c])]
    split
    · split <;> simp
    · rfl
theorem names_plain (m : List UInt8) (h : ∀ c ∈ m, c ≠ 47) (hm : m ≠ []) : namesL [] m = [m] := by
  have := namesL_skip m [] [] h
  rw [List.append_nil, List.nil_append] at this
  rw [this]
  simp [namesL, hm]
/-- A name: no slash in it, and it isn't empty. -/
def Nm (b : List UInt8) : Prop := b ≠ [] ∧ ∀ c ∈ b, c ≠ 47
theorem nm_of {b : List UInt8} (h : nameL b = true) : Nm b ∧ b.length ≤ 12 := by
  unfold nameL at h
  split at h
  · cases h
  · rename_i h0
    split at h
    · rename_i h1
      split at h
      · cases h
      · split at h
        · cases h
        · simp only [Bool.not_eq_true', Bool.or_eq_false_iff] at h
          refine ⟨⟨h0, fun c hc he => ?_⟩, h1⟩
          subst he
          have := h.1
          simp at this
          exact this hc
    · cases h
theorem nm_last {b : List UInt8} (h : Nm b) : ∃ m c, b = m ++ [c] ∧ c ≠ 47 := by
  rcases last_or b with rfl | ⟨m, c, rfl⟩
  · exact absurd rfl h.1
  · exact ⟨m, c, rfl, h.2 c (by simp)⟩
theorem end_app (a b : List UInt8) (h : b ≠ []) : endL (a ++ b) = endL b := by
  unfold endL
  rcases last_or b with rfl | ⟨m, c, rfl⟩
  · exact absurd rfl h
  · rw [← List.append_assoc, List.getLast?_append, List.getLast?_append]; simp
theorem end_nm {b : List UInt8} (h : Nm b) : endL b = false := by
  obtain ⟨m, c, rfl, hc⟩ := nm_last h
  simp [endL, hc]
theorem bare_app (a b : List UInt8) (h : Nm b) : bareL (a ++ b) = a ++ b := by
  obtain ⟨m, c, rfl, hc⟩ := nm_last h
  rw [← List.append_assoc, bare_snoc, if_neg hc]
theorem bare_end (a : List UInt8) (h : endL a = false) : bareL a = a := by
  rcases last_or a with rfl | ⟨m, c, rfl⟩
  · rfl
  · rw [bare_snoc, if_neg]
    intro hc
    simp [endL, hc] at h
theorem cut_app : ∀ (n : Nat) (x b : List UInt8), b.length = n → (∀ c ∈ b, c ≠ 47) → cutL (x ++ b) = cutL x := by
  intro n
  induction n with
  | zero => intro x b h _; have : b = [] := List.length_eq_zero_iff.1 h; subst this; rw [List.append_nil]
  | succ n ih =>
    intro x b h hb
    rcases last_or b with rfl | ⟨m, c, rfl⟩
    · simp at h
    · rw [← List.append_assoc, cut_snoc, if_neg (hb c (by simp)), ih x m (by simpa using h) (fun d hd => hb d (by simp [hd]))]
theorem base_of (l : List UInt8) (xs : List (List UInt8)) (x : List UInt8) (h : namesL [] l = xs ++ [x]) : baseL l = x := by
  unfold baseL
  rw [h]
  simp
theorem split_noend (l : List UInt8) (h : endL l = false) : splitL l = namesL [] l := by
  unfold splitL
  rw [h]
  split
  · rename_i h0; exact h0.symm
  · rfl
theorem join_facts (a b : List UInt8) (ha : a ≠ []) (he : endL a = false) (hb : Nm b) :
    joinL a b = a ++ [47] ++ b ∧ splitL (joinL a b) = splitL a ++ [b] ∧ baseL (joinL a b) = b ∧ upL (joinL a b) = a := by
  have h1 : joinL a b = a ++ [47] ++ b := by unfold joinL; rw [if_neg ha, he]; rfl
  have h2 : namesL [] (a ++ [47] ++ b) = namesL [] a ++ [b] := by
    rw [List.append_assoc]
    show namesL [] (a ++ 47 :: b) = _
    rw [names_slash, names_plain b hb.2 hb.1]
  refine ⟨h1, ?_, ?_, ?_⟩
  · rw [h1, split_noend _ (by rw [end_app _ _ hb.1, end_nm hb]), split_noend a he, h2]
  · rw [h1]; exact base_of _ _ _ h2
  · rw [h1]
    unfold upL
    rw [bare_app _ _ hb, cut_app _ _ _ rfl hb.2, cut_snoc, if_pos rfl, bare_snoc, if_pos rfl, bare_end a he, if_neg ha]
end Go.Proofs.YtkibigbjgohdkaaDoor.L
