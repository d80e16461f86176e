/- Plain facts: how a path's beginnings follow each other. No machine in sight. -/
import Derived.Test.YtkibigbjgohdkaaDoorLd
namespace Go.Proofs.YtkibigbjgohdkaaDoor.L
open Go.RowKit Go.Proofs.YtkibigbjgohdkaaDoor.S Go.Proofs.YtkibigbjgohdkaaDoorW.PrintWords Go.Proofs.YtkibigbjgohdkaaDoorW.PrintLast
set_option linter.unusedVariables false
set_option linter.unusedSimpArgs false

def Sl (z : List UInt8) : Prop := ∀ c ∈ z, c = 47
theorem names_lead : ∀ (z m : List UInt8), Sl z → namesL [] (z ++ m) = namesL [] m
  | [], m, _ => rfl
  | c :: z, m, h => by
    have hc : c = 47 := h c (by simp)
    subst hc
    simp only [List.cons_append, namesL, if_true]
    exact names_lead z m (fun d hd => h d (by simp [hd]))
theorem names_trail (q z : List UInt8) (h : Sl z) : namesL [] (q ++ z) = namesL [] q := by
  cases z with
  | nil => rw [List.append_nil]
  | cons c z =>
    have hc : c = 47 := h c (by simp)
    subst hc
    rw [names_slash]
    have := names_lead z [] (fun d hd => h d (by simp [hd]))
    rw [List.append_nil] at this
    rw [this]; simp [namesL]
theorem bare_sl : ∀ (n : Nat) (q z : List UInt8), z.length = n → Sl z → bareL (q ++ z) = bareL q := by
  intro n
  induction n with
  | zero => intro q z h _; have : z = [] := List.length_eq_zero_iff.1 h; subst this; rw [List.append_nil]
  | succ n ih =>
    intro q z h hz
    rcases last_or z with rfl | ⟨m, c, rfl⟩
    · simp at h
    · rw [← List.append_assoc, bare_snoc, if_pos (hz c (by simp)), ih q m (by simpa using h) (fun d hd => hz d (by simp [hd]))]
theorem cut_sl (q z : List UInt8) (hz : Sl z) (h0 : z ≠ []) : cutL (q ++ z) = q ++ z := by
  rcases last_or z with rfl | ⟨m, c, rfl⟩
  · exact absurd rfl h0
  · rw [← List.append_assoc, cut_snoc, if_pos (hz c (by simp))]
/-- One more name behind q: its names, what stands above it. -/
theorem more_name (q z m : List UInt8) (hz : Sl z) (hm : Nm m) (hq : q ≠ [] → z ≠ []) (he : q = [] ∨ endL q = false) :
    namesL [] (q ++ z ++ m) = namesL [] q ++ [m] ∧ (q ≠ [] → upL (q ++ z ++ m) = q) ∧ endL (q ++ z ++ m) = false := by
  have h1 : namesL [] m = [m] := names_plain m hm.2 hm.1
  refine ⟨?_, fun h0 => ?_, by rw [end_app _ _ hm.1, end_nm hm]⟩
  · by_cases h0 : q = []
    · subst h0
      rw [List.nil_append, names_lead z m hz, h1]; rfl
    · cases z with
      | nil => exact absurd rfl (hq h0)
      | cons c z =>
        have hc : c = 47 := hz c (by simp)
        subst hc
        rw [List.append_assoc, List.cons_append, names_slash, names_lead z m (fun d hd => hz d (by simp [hd])), h1]
  · have e : endL q = false := by
      rcases he with h | h
      · exact absurd h h0
      · exact h
    unfold upL
    rw [bare_app _ _ hm, cut_app _ _ _ rfl hm.2, cut_sl q z hz (hq h0), bare_sl _ q z rfl hz, bare_end q e, if_neg h0]
/-- What a beginning is, behind the one ahead of it (q, with n names). -/
structure Good (l q : List UInt8) (n : Nat) (x : List UInt8) : Prop where
  pre : l.take x.length = x
  len : x.length ≤ l.length
  more : q.length < x.length
  noend : endL x = false
  names : (namesL [] x).length = n + 1
  up : 0 < n → upL x = q
def Chain (l : List UInt8) : List UInt8 → Nat → List (List UInt8) → Prop
  | _, _, [] => True
  | q, n, x :: xs => Good l q n x ∧ Chain l x (n + 1) xs
structure Inv (q z m rest : List UInt8) (n : Nat) : Prop where
  sl : Sl z
  nm : ∀ c ∈ m, c ≠ 47
  cnt : (namesL [] q).length = n
  qe : q = [] ∨ endL q = false
  mid : m ≠ [] → stops rest = false
  apart : m ≠ [] → q ≠ [] → z ≠ []
  rest0 : m = [] → z = [] → q ≠ [] → stops rest = true
theorem chain_of : ∀ (rest q z m : List UInt8) (n : Nat), Inv q z m rest n →
    Chain (q ++ z ++ m ++ rest) q n (stp (q ++ z ++ m) rest) ∧ (namesL [] (q ++ z ++ m ++ rest)).length = n + (stp (q ++ z ++ m) rest).length
  | [], q, z, m, n, h => by
    have hm : m = [] := Classical.byContradiction fun h0 => by have := h.mid h0; simp [stops] at this
    subst hm
    simp only [stp, List.append_nil, List.length_nil, Nat.add_zero]
    exact ⟨trivial, by rw [names_trail q z h.sl, h.cnt]⟩
  | c :: rest, q, z, m, n, h => by
    by_cases hc : c = 47
    · subst hc
      have hm : m = [] := Classical.byContradiction fun h0 => by have := h.mid h0; rw [stops_cons] at this; simp at this
      subst hm
      have hz : Sl (z ++ [47]) := fun d hd => by
        rcases List.mem_append.1 hd with h1 | h1
        · exact h.sl d h1
        · simpa using h1
      have ih := chain_of rest q (z ++ [47]) [] n ⟨hz, by simp, h.cnt, h.qe, fun h0 => absurd rfl h0, fun h0 => absurd rfl h0, fun _ h0 => by simp at h0⟩
      simp only [stp, if_true, List.append_nil]
      simp only [List.append_nil, List.append_assoc, List.singleton_append] at ih ⊢
      exact ih
    · simp only [stp, if_neg hc]
      have hnm : ∀ d ∈ m ++ [c], d ≠ 47 := fun d hd => by
        rcases List.mem_append.1 hd with h1 | h1
        · exact h.nm d h1
        · simp at h1; subst h1; exact hc
      have hz0 : q ≠ [] → z ≠ [] := fun h0 hz => by
        by_cases hm : m = []
        · have := h.rest0 hm hz h0; rw [stops_cons] at this; simp at this; exact hc this
        · exact h.apart hm h0 hz
      by_cases hs : stops rest = true
      · rw [if_pos hs]
        obtain ⟨f1, f2, f3⟩ := more_name q z (m ++ [c]) h.sl ⟨by simp, hnm⟩ hz0 h.qe
        have ih := chain_of rest (q ++ z ++ (m ++ [c])) [] [] (n + 1) ⟨by intro d hd; simp at hd, by simp, by rw [f1, List.length_append, h.cnt]; rfl, .inr f3, fun h0 => absurd rfl h0, fun h0 => absurd rfl h0, fun _ _ _ => hs⟩
        simp only [List.append_nil] at ih
        have e1 : q ++ z ++ m ++ [c] = q ++ z ++ (m ++ [c]) := by simp
        have e2 : q ++ z ++ m ++ c :: rest = q ++ z ++ (m ++ [c]) ++ rest := by simp
        rw [e1, e2]
        refine ⟨⟨⟨?_, ?_, ?_, f3, by rw [f1, List.length_append, h.cnt]; rfl, fun h0 => f2 ?_⟩, ih.1⟩, by rw [ih.2, List.length_cons]; omega⟩
        · rw [List.take_left]
        · simp
        · simp; omega
        · rintro rfl; have := h.cnt; simp [namesL] at this; omega
      · rw [if_neg hs]
        have ih := chain_of rest q z (m ++ [c]) n ⟨h.sl, hnm, h.cnt, h.qe, fun _ => by simpa using hs, fun _ => hz0, fun h0 => by simp at h0⟩
        have e1 : q ++ z ++ m ++ [c] = q ++ z ++ (m ++ [c]) := by simp
        have e2 : q ++ z ++ m ++ c :: rest = q ++ z ++ (m ++ [c]) ++ rest := by simp
        rw [e1, e2]
        exact ih
theorem chain_all (l : List UInt8) : Chain l [] 0 (stp [] l) ∧ (namesL [] l).length = (stp [] l).length := by
  have := chain_of l [] [] [] 0 ⟨fun d hd => by simp at hd, by simp, rfl, .inl rfl, fun h0 => absurd rfl h0, fun h0 => absurd rfl h0, fun _ _ h0 => absurd rfl h0⟩
  simpa using this
def prevOf (xs : List (List UInt8)) (q : List UInt8) (i : Nat) : List UInt8 := if i = 0 then q else xs.getD (i - 1) []
theorem chain_get (l : List UInt8) : ∀ (xs : List (List UInt8)) (q : List UInt8) (n i : Nat) (h : i < xs.length), Chain l q n xs → Good l (prevOf xs q i) (n + i) (xs[i]'h)
  | [], _, _, _, h, _ => by simp at h
  | x :: xs, q, n, 0, h, hc => hc.1
  | x :: xs, q, n, i + 1, h, hc => by
    have ih := chain_get l xs x (n + 1) i (by simpa using h) hc.2
    have e : prevOf (x :: xs) q (i + 1) = prevOf xs x i := by
      unfold prevOf
      cases i with
      | zero => rfl
      | succ i => rfl
    rw [e]
    have e2 : n + (i + 1) = n + 1 + i := by omega
    rw [e2]
    exact ih
theorem stp_last : ∀ (rest pre : List UInt8), rest ≠ [] → endL rest = false → (stp pre rest).getLast? = some (pre ++ rest)
  | [], _, h, _ => absurd rfl h
  | [c], pre, _, he => by
    have hc : c ≠ 47 := by intro h; subst h; simp [endL] at he
    simp [stp, hc, stops]
  | c :: d :: r, pre, _, he => by
    have he2 : endL (d :: r) = false := by
      have := end_app [c] (d :: r) (by simp)
      rw [← this]; exact he
    have ih := stp_last (d :: r) (pre ++ [c]) (by simp) he2
    have e : pre ++ [c] ++ d :: r = pre ++ c :: d :: r := by simp
    rw [e] at ih
    rw [stp]
    split
    · exact ih
    · split
      · rw [List.getLast?_cons, ih]; rfl
      · exact ih
end Go.Proofs.YtkibigbjgohdkaaDoor.L
