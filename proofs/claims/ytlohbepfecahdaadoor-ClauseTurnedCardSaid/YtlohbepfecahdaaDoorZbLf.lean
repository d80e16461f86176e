/- Plain facts: model; two texts with a comma between. No machine in sight. -/
import Derived.Test.YtlohbepfecahdaaDoorZbLe
namespace Go.Proofs.YtlohbepfecahdaaDoor.L
open Go.RowKit Go.Proofs.YtlohbepfecahdaaDoor.S Go.Proofs.YtlohbepfecahdaaDoorW.PrintWords Go.Proofs.YtlohbepfecahdaaDoorW.PrintLast
set_option linter.unusedVariables false
set_option linter.unusedSimpArgs false
theorem model_l1 (l : List S34) (i : Nat) (hi : i < l.length) (hil : l.length ≤ 1000) (acc : List S72) (hacc : acc.length ≤ 1000) (w : Int) (ha : l[i].f1.length ≤ 1000) (R : List S72) (K : Nat) (n : Nat) : ∀ (k j : Nat) (b : List S75), j ≤ l[i].f1.length → l[i].f1.length - j = n → n + K < k → b.length = j →
    (∀ k', K ≤ k' → gaolerlaw02_model.l0 k' l (acc ++ [(⟨w, b ++ (l[i].f1.drop j).map cv⟩ : S72)]) (wrap64 ((i : Int) + 1)) = some R) → gaolerlaw02_model.l1 k l acc (i : Int) (j : Int) w b = some R := by
  have e34 := rd34 l i hi
  obtain ⟨C, hC⟩ : ∃ C, l[i] = C := ⟨_, rfl⟩
  rw [hC] at ha e34 ⊢
  induction n with
  | zero =>
    intro k j b h1 hd hk hb hR
    obtain ⟨k, rfl⟩ : ∃ m, k = m + 1 := ⟨k - 1, by omega⟩
    have := hR k (by omega)
    rw [List.drop_eq_nil_of_le (by omega), List.map_nil, List.append_nil] at this
    simp only [gaolerlaw02_model.l1, e34]
    rw [if_pos (by omega), if_pos (by omega), if_neg (by omega), if_pos (by omega)]
    exact this
  | succ n ih =>
    intro k j b h1 hd hk hb hR
    obtain ⟨k, rfl⟩ : ∃ m, k = m + 1 := ⟨k - 1, by omega⟩
    have hlt : j < C.f1.length := by omega
    have hdrop : C.f1.drop j = C.f1[j] :: C.f1.drop (j + 1) := (List.getElem_cons_drop hlt).symm
    simp only [gaolerlaw02_model.l1, e34, rd60 C.f1 j hlt]
    rw [if_pos (by omega), if_pos (by omega), if_pos (by omega), if_pos (by omega), if_pos (by omega), wsucc j (by omega)]
    refine ih k (j + 1) _ (by omega) (by omega) (by omega) (by simp [hb]) fun k' hk' => ?_
    have := hR k' hk'
    rw [hdrop, List.map_cons] at this
    rw [List.append_assoc]
    exact this
set_option maxRecDepth 100000 in
theorem model_l0 (l : List S34) (hl : l.length ≤ 1000) (hs : ∀ c ∈ l, c.f1.length ≤ 1000) (n : Nat) : ∀ (k i : Nat) (acc : List S72), i ≤ l.length → l.length - i = n → n * 1010 + 10 < k → acc.length = i →
    gaolerlaw02_model.l0 k l acc (i : Int) = some (acc ++ (l.drop i).map cvC) := by
  induction n with
  | zero =>
    intro k i acc h1 hd hk ha
    obtain ⟨k, rfl⟩ : ∃ m, k = m + 1 := ⟨k - 1, by omega⟩
    simp only [gaolerlaw02_model.l0]
    rw [if_neg (by omega), List.drop_eq_nil_of_le (by omega)]; simp
  | succ n ih =>
    intro k i acc h1 hd hk ha
    obtain ⟨k, rfl⟩ : ∃ m, k = m + 1 := ⟨k - 1, by omega⟩
    have hlt : i < l.length := by omega
    have hdrop : l.drop i = l[i] :: l.drop (i + 1) := (List.getElem_cons_drop hlt).symm
    have g0 := hs _ (List.getElem_mem hlt)
    obtain ⟨K, hK⟩ : ∃ K, n * 1010 + 11 = K := ⟨_, rfl⟩
    simp only [gaolerlaw02_model.l0, rd34 l i hlt]
    rw [if_pos (by omega), if_pos (by omega)]
    refine model_l1 l i hlt hl acc (by omega) l[i].f0 g0 _ K l[i].f1.length k 0 [] (by omega) (by omega) (by omega) rfl fun k' hk' => ?_
    rw [wsucc i (by omega), ih k' (i + 1) _ (by omega) (by omega) (by omega) (by simp [ha]), hdrop, List.map_cons, List.drop_zero, List.nil_append, List.append_assoc]
    rfl
set_option maxRecDepth 100000 in
theorem model_eq (l : List S34) (hl : l.length ≤ 1000) (hs : ∀ c ∈ l, c.f1.length ≤ 1000) (k : Nat) (hk : 1020000 < k) : gaolerlaw02_model.f k l = some (l.map cvC) := by
  unfold gaolerlaw02_model.f
  have := model_l0 l hl hs l.length k 0 [] (by omega) (by omega) (by omega) rfl
  rw [List.drop_zero, List.nil_append] at this
  exact this
theorem pcs_app : ∀ (a cur b : List UInt8), pcs cur (a ++ 44 :: b) = pcs cur a ++ pcs [] b
  | [], cur, b => by simp [pcs]
  | c :: a, cur, b => by
    simp only [List.cons_append, pcs]
    split
    · rw [pcs_app a [] b]; rfl
    · rw [pcs_app a _ b]
theorem parseL_app : ∀ (a b : List (List UInt8)), parseL (a ++ b) = (parseL a).bind fun x => (parseL b).map fun y => x ++ y
  | [], b => by simp [parseL]
  | p :: a, b => by
    simp only [List.cons_append, parseL]
    split
    · rw [parseL_app a b]
      cases parseL a with
      | none => rfl
      | some x => cases parseL b <;> rfl
    · rfl
end Go.Proofs.YtlohbepfecahdaaDoor.L
