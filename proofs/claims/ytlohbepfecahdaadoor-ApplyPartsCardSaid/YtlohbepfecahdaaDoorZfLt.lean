/- Plain facts: Apply, of the program and of the reference. No machine in sight. -/
import Derived.Test.YtlohbepfecahdaaDoorZfLs
import Derived.Test.YtlohbepfecahdaaDoorZfS20
namespace Go.Proofs.YtlohbepfecahdaaDoor.L
open Go.RowKit Go.Proofs.YtlohbepfecahdaaDoor.S Go.Proofs.YtlohbepfecahdaaDoorW.PrintWords Go.Proofs.YtlohbepfecahdaaDoorW.PrintLast
set_option linter.unusedVariables false
set_option linter.unusedSimpArgs false
def actsV (w : Int) (d : Bool) (u : Int) (m : Int) (l : List S60) : Int := l.foldl (fun m a => actV a.f0 w a.f1 a.f2 m d u) m
def clV (d : Bool) (u : Int) (m : Int) (l : List S34) : Int := l.foldl (fun m c => actsV c.f0 d u m c.f1) m
def applyV (l : List S34) (m : Int) (d : Bool) (u : Int) : Int := if rightS l = true then clV d u (m % 4096) l else m % 4096
def small (m : Int) : Prop := 0 ≤ m ∧ m < 4096
theorem rightA_parts (a : S60) (h : rightA a = true) : signI a.f0 = true ∧ 0 ≤ a.f1 ∧ a.f1 ≤ 63 ∧ 0 ≤ a.f2 ∧ a.f2 ≤ 3 := by
  simp [rightA] at h
  exact ⟨h.1, h.2.1, h.2.2.1, h.2.2.2.1, h.2.2.2.2.1⟩
theorem actV_small (a : S60) (h : rightA a = true) (w m : Int) (d : Bool) (u : Int) (w0 : 0 ≤ w) (w7 : w ≤ 7) (hm : small m) : small (actV a.f0 w a.f1 a.f2 m d u) := by
  obtain ⟨h1, h2, h3, h4, h5⟩ := rightA_parts a h
  exact (actV_bit a.f0 w a.f1 a.f2 m d u h1 w0 w7 h2 h3 h4 h5 hm.1 hm.2).1
theorem actsV_small (w : Int) (d : Bool) (u : Int) (w0 : 0 ≤ w) (w7 : w ≤ 7) : ∀ (l : List S60) (m : Int), l.all rightA = true → small m → small (actsV w d u m l)
  | [], m, _, h => h
  | a :: l, m, hl, h => by
    rw [List.all_cons, Bool.and_eq_true] at hl
    exact actsV_small w d u w0 w7 l _ hl.2 (actV_small a hl.1 w m d u w0 w7 h)
theorem rightC_parts (c : S34) (h : rightC c = true) : 0 ≤ c.f0 ∧ c.f0 ≤ 7 ∧ c.f1.all rightA = true := by
  simp [rightC] at h
  exact ⟨h.1, h.2.1, List.all_eq_true.2 h.2.2.2⟩
theorem clV_small (d : Bool) (u : Int) : ∀ (l : List S34) (m : Int), (∀ c ∈ l, rightC c = true) → small m → small (clV d u m l)
  | [], m, _, h => h
  | c :: l, m, hl, h => by
    obtain ⟨a, b, q⟩ := rightC_parts c (hl c (by simp))
    exact clV_small d u l _ (fun x hx => hl x (by simp [hx])) (actsV_small c.f0 d u a b c.f1 m q h)
theorem ap_l1 (x21 : List S34) (x22 x23 : Int) (w : Int) (d : Bool) (u : Int) (w0 : 0 ≤ w) (w7 : w ≤ 7) (acts : List S60) (hl : acts.length ≤ 1000) (hr : acts.all rightA = true) (R : Int) (K : Nat) (hK : 100 ≤ K) (n : Nat) : ∀ (k j : Nat) (m : Int), small m → j ≤ acts.length → acts.length - j = n → n + K < k →
    (∀ k', K ≤ k' → apply_Apply.l0 k' (actsV w d u m (acts.drop j)) d u x21 x22 (wrap64 (x23 + 1)) = some R) →
    apply_Apply.l1 k m d u (hasS w u) x21 x22 x23 (acts.length : Int) (j : Int) w acts = some R := by
  induction n with
  | zero =>
    intro k j m hm h1 hd hk hR
    obtain ⟨k, rfl⟩ : ∃ q, k = q + 1 := ⟨k - 1, by omega⟩
    have := hR k (by omega)
    rw [List.drop_eq_nil_of_le (by omega)] at this
    simp only [apply_Apply.l1]
    rw [if_neg (by omega)]
    exact this
  | succ n ih =>
    intro k j m hm h1 hd hk hR
    obtain ⟨k, rfl⟩ : ∃ q, k = q + 1 := ⟨k - 1, by omega⟩
    have hlt : j < acts.length := by omega
    have hdrop : acts.drop j = acts[j] :: acts.drop (j + 1) := (List.getElem_cons_drop hlt).symm
    have hra := List.all_eq_true.1 hr _ (List.getElem_mem hlt)
    obtain ⟨h2, h3, h4, h5, h6⟩ := rightA_parts _ hra
    have hsm := actV_small acts[j] hra w m d u w0 w7 hm
    have go : apply_Apply.l1 k (actV acts[j].f0 w acts[j].f1 acts[j].f2 m d u) d u (hasS w u) x21 x22 x23 (acts.length : Int) ((j + 1 : Nat) : Int) w acts = some R := by
      refine ih k (j + 1) _ hsm (by omega) (by omega) (by omega) fun k' hk' => ?_
      have := hR k' hk'
      rw [hdrop] at this
      exact this
    simp only [apply_Apply.l1, rd60 acts j hlt]
    rw [if_pos (by omega), if_pos (by omega), if_pos (by omega), bits_eq _ _ _ m d h3 h4 h5 h6, Option.bind_some, wsucc j (by omega)]
    unfold actV at go
    by_cases o1 : acts[j].f0 = 45
    · rw [if_pos o1] at go ⊢
      exact go
    · rw [if_neg o1] at go ⊢
      by_cases o2 : acts[j].f0 = 61
      · rw [if_pos o2] at go ⊢
        by_cases hw : w = 0
        · rw [if_pos hw] at go ⊢
          exact go
        · rw [if_neg hw] at go ⊢
          exact go
      · rw [if_neg o2] at go ⊢
        exact go
set_option maxRecDepth 100000 in
theorem ap_l0 (l : List S34) (hs : sized l) (hr : ∀ c ∈ l, rightC c = true) (d : Bool) (u : Int) (n : Nat) : ∀ (k i : Nat) (m : Int), small m → i ≤ l.length → l.length - i = n → n * 1010 + 200 < k →
    apply_Apply.l0 k m d u l (l.length : Int) (i : Int) = some (clV d u m (l.drop i)) := by
  induction n with
  | zero =>
    intro k i m hm h1 hd hk
    obtain ⟨k, rfl⟩ : ∃ q, k = q + 1 := ⟨k - 1, by omega⟩
    simp only [apply_Apply.l0]
    rw [if_neg (by omega), List.drop_eq_nil_of_le (by omega)]; rfl
  | succ n ih =>
    intro k i m hm h1 hd hk
    obtain ⟨k, rfl⟩ : ∃ q, k = q + 1 := ⟨k - 1, by omega⟩
    have hlt : i < l.length := by omega
    have hdrop : l.drop i = l[i] :: l.drop (i + 1) := (List.getElem_cons_drop hlt).symm
    have hsz := hs.1
    obtain ⟨g0, g1⟩ := hs.2 _ (List.getElem_mem hlt)
    obtain ⟨a, b, q⟩ := rightC_parts _ (hr _ (List.getElem_mem hlt))
    obtain ⟨K, hK⟩ : ∃ K, n * 1010 + 201 = K := ⟨_, rfl⟩
    simp only [apply_Apply.l0, rd34 l i hlt]
    rw [if_pos (by omega), if_pos (by omega), if_pos (by omega), has_eq k (by omega) _ u a b, Option.bind_some, hdrop]
    have := ap_l1 l (l.length : Int) (i : Int) l[i].f0 d u a b l[i].f1 g0 q (clV d u m (l[i] :: l.drop (i + 1))) K (by omega) l[i].f1.length k 0 m hm (by omega) (by omega) (by omega) (fun k' hk' => by
      rw [wsucc i (by omega), List.drop_zero]
      exact ih k' (i + 1) _ (actsV_small _ d u a b _ m q hm) (by omega) (by omega) (by omega))
    exact this
set_option maxRecDepth 100000 in
theorem apply_eq (l : List S34) (hs : sized l) (m : Int) (d : Bool) (u : Int) (k : Nat) (hk : 1100000 < k) : apply_Apply.f k l m d u = some (applyV l m d u) := by
  unfold apply_Apply.f applyV
  have hsz := hs.1
  rw [right_eq l hs k (by omega), Option.bind_some, B.and_4095]
  by_cases h : rightS l = true
  · rw [if_pos h, if_pos h]
    have hr : ∀ c ∈ l, rightC c = true := by
      unfold rightS at h
      rw [Bool.and_eq_true, List.all_eq_true] at h
      exact h.1
    have := ap_l0 l hs hr d u l.length k 0 (m % 4096) ⟨by omega, by omega⟩ (by omega) (by omega) (by omega)
    rw [List.drop_zero] at this
    exact this
  · rw [if_neg h, if_neg h]
/-! ### The reference's -/
end Go.Proofs.YtlohbepfecahdaaDoor.L
