/- Plain facts of the laws of Apply: few, model, classes bit by bit. No machine in sight. -/
import Derived.Test.YtlohbepfecahdaaDoorZcLt
import Derived.Test.YtlohbepfecahdaaDoorZcS21
namespace Go.Proofs.YtlohbepfecahdaaDoor.L
open Go.RowKit Go.Proofs.YtlohbepfecahdaaDoor.S Go.Proofs.YtlohbepfecahdaaDoorW.PrintWords Go.Proofs.YtlohbepfecahdaaDoorW.PrintLast
set_option linter.unusedVariables false
set_option linter.unusedSimpArgs false
theorem model3_l1 (l : List S34) (i : Nat) (hi : i < l.length) (hil : l.length ≤ 1000) (acc : List S72) (hacc : acc.length ≤ 1000) (w : Int) (ha : l[i].f1.length ≤ 1000) (R : List S72) (K : Nat) (n : Nat) : ∀ (k j : Nat) (b : List S75), j ≤ l[i].f1.length → l[i].f1.length - j = n → n + K < k → b.length = j →
    (∀ k', K ≤ k' → gaolerlaw03_model.l0 k' l (acc ++ [(⟨w, b ++ (l[i].f1.drop j).map cv⟩ : S72)]) (wrap64 ((i : Int) + 1)) = some R) → gaolerlaw03_model.l1 k l acc (i : Int) (j : Int) w b = some R := by
  have e34 := rd34 l i hi
  obtain ⟨C, hC⟩ : ∃ C, l[i] = C := ⟨_, rfl⟩
  rw [hC] at ha e34 ⊢
  induction n with
  | zero =>
    intro k j b h1 hd hk hb hR
    obtain ⟨k, rfl⟩ : ∃ m, k = m + 1 := ⟨k - 1, by omega⟩
    have := hR k (by omega)
    rw [List.drop_eq_nil_of_le (by omega), List.map_nil, List.append_nil] at this
    simp only [gaolerlaw03_model.l1, e34]
    rw [if_pos (by omega), if_pos (by omega), if_neg (by omega), if_pos (by omega)]
    exact this
  | succ n ih =>
    intro k j b h1 hd hk hb hR
    obtain ⟨k, rfl⟩ : ∃ m, k = m + 1 := ⟨k - 1, by omega⟩
    have hlt : j < C.f1.length := by omega
    have hdrop : C.f1.drop j = C.f1[j] :: C.f1.drop (j + 1) := (List.getElem_cons_drop hlt).symm
    simp only [gaolerlaw03_model.l1, e34, rd60 C.f1 j hlt]
    rw [if_pos (by omega), if_pos (by omega), if_pos (by omega), if_pos (by omega), if_pos (by omega), wsucc j (by omega)]
    refine ih k (j + 1) _ (by omega) (by omega) (by omega) (by simp [hb]) fun k' hk' => ?_
    have := hR k' hk'
    rw [hdrop, List.map_cons] at this
    rw [List.append_assoc]
    exact this
set_option maxRecDepth 100000 in
theorem model3_l0 (l : List S34) (hl : l.length ≤ 1000) (hs : ∀ c ∈ l, c.f1.length ≤ 1000) (n : Nat) : ∀ (k i : Nat) (acc : List S72), i ≤ l.length → l.length - i = n → n * 1010 + 10 < k → acc.length = i →
    gaolerlaw03_model.l0 k l acc (i : Int) = some (acc ++ (l.drop i).map cvC) := by
  induction n with
  | zero =>
    intro k i acc h1 hd hk ha
    obtain ⟨k, rfl⟩ : ∃ m, k = m + 1 := ⟨k - 1, by omega⟩
    simp only [gaolerlaw03_model.l0]
    rw [if_neg (by omega), List.drop_eq_nil_of_le (by omega)]; simp
  | succ n ih =>
    intro k i acc h1 hd hk ha
    obtain ⟨k, rfl⟩ : ∃ m, k = m + 1 := ⟨k - 1, by omega⟩
    have hlt : i < l.length := by omega
    have hdrop : l.drop i = l[i] :: l.drop (i + 1) := (List.getElem_cons_drop hlt).symm
    have g0 := hs _ (List.getElem_mem hlt)
    obtain ⟨K, hK⟩ : ∃ K, n * 1010 + 11 = K := ⟨_, rfl⟩
    simp only [gaolerlaw03_model.l0, rd34 l i hlt]
    rw [if_pos (by omega), if_pos (by omega)]
    refine model3_l1 l i hlt hl acc (by omega) l[i].f0 g0 _ K l[i].f1.length k 0 [] (by omega) (by omega) (by omega) rfl fun k' hk' => ?_
    rw [wsucc i (by omega), ih k' (i + 1) _ (by omega) (by omega) (by omega) (by simp [ha]), hdrop, List.map_cons, List.drop_zero, List.nil_append, List.append_assoc]
    rfl
set_option maxRecDepth 100000 in
theorem model3_eq (l : List S34) (hl : l.length ≤ 1000) (hs : ∀ c ∈ l, c.f1.length ≤ 1000) (k : Nat) (hk : 1020000 < k) : gaolerlaw03_model.f k l = some (l.map cvC) := by
  unfold gaolerlaw03_model.f
  have := model3_l0 l hl hs l.length k 0 [] (by omega) (by omega) (by omega) rfl
  rw [List.drop_zero, List.nil_append] at this
  exact this
theorem few_loop (l : List S34) (hl : l.length ≤ 9223372036854775807) (n : Nat) : ∀ (k i : Nat), i ≤ l.length → l.length - i = n → n < k → ∃ b, gaolerlaw03_few.l0 k l (i : Int) = some b ∧ (b = true → l.length ≤ 20 ∧ ∀ c ∈ l.drop i, c.f1.length ≤ 20) := by
  induction n with
  | zero =>
    intro k i h1 hd hk
    obtain ⟨k, rfl⟩ : ∃ m, k = m + 1 := ⟨k - 1, by omega⟩
    simp only [gaolerlaw03_few.l0]
    rw [if_neg (by omega), List.drop_eq_nil_of_le (by omega)]
    exact ⟨_, rfl, fun h => ⟨by have := of_decide_eq_true h; omega, by simp⟩⟩
  | succ n ih =>
    intro k i h1 hd hk
    obtain ⟨k, rfl⟩ : ∃ m, k = m + 1 := ⟨k - 1, by omega⟩
    have hlt : i < l.length := by omega
    have hdrop : l.drop i = l[i] :: l.drop (i + 1) := (List.getElem_cons_drop hlt).symm
    simp only [gaolerlaw03_few.l0, rd34 l i hlt]
    rw [if_pos (by omega), if_pos (by omega)]
    by_cases hc : (l[i].f1.length : Int) > 20
    · rw [if_pos hc]
      exact ⟨false, rfl, fun h => by cases h⟩
    · rw [if_neg hc, w64 _ (by omega) (by omega)]
      obtain ⟨b, hb, hq⟩ := ih k (i + 1) (by omega) (by omega) (by omega)
      refine ⟨b, hb, fun h => ?_⟩
      obtain ⟨q1, q2⟩ := hq h
      refine ⟨q1, fun c hc2 => ?_⟩
      rw [hdrop] at hc2
      rcases List.mem_cons.1 hc2 with rfl | hc2
      · omega
      · exact q2 c hc2
theorem few_eq (l : List S34) (hl : l.length ≤ 9223372036854775807) (k : Nat) (hk : l.length < k) : ∃ b, gaolerlaw03_few.f k l = some b ∧ (b = true → l.length ≤ 20 ∧ ∀ c ∈ l, c.f1.length ≤ 20) := by
  unfold gaolerlaw03_few.f
  have := few_loop l hl l.length k 0 (by omega) (by omega) hk
  rw [List.drop_zero] at this
  exact this
/-! ### Classes, bit by bit -/
theorem cls_all : (List.range 4096).all (fun m => (clsS (m : Int) 0 == val3 (m.testBit 6) (m.testBit 7) (m.testBit 8)) && ((clsS (m : Int) 1 == val3 (m.testBit 3) (m.testBit 4) (m.testBit 5)) && (clsS (m : Int) 2 == val3 (m.testBit 0) (m.testBit 1) (m.testBit 2)))) = true := by decide +kernel
theorem cls_bits (m : Int) (hm : small m) : clsS m 0 = val3 (tb m 6) (tb m 7) (tb m 8) ∧ clsS m 1 = val3 (tb m 3) (tb m 4) (tb m 5) ∧ clsS m 2 = val3 (tb m 0) (tb m 1) (tb m 2) := by
  obtain ⟨n, rfl⟩ := Int.eq_ofNat_of_zero_le hm.1
  have hn := hm.2
  have := List.all_eq_true.1 cls_all n (List.mem_range.2 (by omega))
  simp only [Bool.and_eq_true, beq_iff_eq] at this
  exact this
theorem cls_eq (x m : Int) (hx : small x) (hm : small m) (k : Nat) (hk : k < 3) (h : ∀ i, i < 12 → clsI i = k → i < 9 → tb x i = tb m i) : clsS x (k : Int) = clsS m (k : Int) := by
  obtain ⟨a0, a1, a2⟩ := cls_bits x hx
  obtain ⟨b0, b1, b2⟩ := cls_bits m hm
  rcases (show k = 0 ∨ k = 1 ∨ k = 2 by omega) with rfl | rfl | rfl
  · show clsS x 0 = clsS m 0
    rw [a0, b0, h 6 (by decide) (by decide) (by decide), h 7 (by decide) (by decide) (by decide), h 8 (by decide) (by decide) (by decide)]
  · show clsS x 1 = clsS m 1
    rw [a1, b1, h 3 (by decide) (by decide) (by decide), h 4 (by decide) (by decide) (by decide), h 5 (by decide) (by decide) (by decide)]
  · show clsS x 2 = clsS m 2
    rw [a2, b2, h 0 (by decide) (by decide) (by decide), h 1 (by decide) (by decide) (by decide), h 2 (by decide) (by decide) (by decide)]
theorem eq_bits (x y : Int) (hx : small x) (hy : small y) (h : ∀ i, i < 12 → tb x i = tb y i) : x = y := by
  have h1 := sum_of x hx.1 hx.2 (fun i => tb x i) (fun i _ => rfl)
  have h2 := sum_of y hy.1 hy.2 (fun i => tb x i) (fun i hi => h i hi)
  omega
theorem one_act (w o p c m : Int) (d : Bool) (u : Int) (hr : rightC ⟨w, [⟨o, p, c⟩]⟩ = true) (hm : small m) : applyV [⟨w, [⟨o, p, c⟩]⟩] m d u = actV o w p c m d u := by
  unfold applyV
  have h1 : rightS [⟨w, [⟨o, p, c⟩]⟩] = true := by unfold rightS; rw [List.all_cons, hr]; rfl
  rw [if_pos h1, show m % 4096 = m by have := hm.1; have := hm.2; omega]; rfl
theorem one_sized (w o p c : Int) (h0 : 0 ≤ o) (h1 : o ≤ 255) : sized [⟨w, [⟨o, p, c⟩]⟩] := by
  refine ⟨by simp, fun x hx => ?_⟩
  rw [List.mem_singleton.1 hx]
  refine ⟨by simp, fun a ha => ?_⟩
  rw [List.mem_singleton.1 ha]
  exact ⟨h0, h1⟩
end Go.Proofs.YtlohbepfecahdaaDoor.L
