import Derived.Test.YtkibigbjgohdkaaDoorS5
import Derived.Test.YtkibigbjgohdkaaDoorLd
namespace Go.Proofs.YtkibigbjgohdkaaDoor.Pure
open Go.RowKit Go.Proofs.YtkibigbjgohdkaaDoor.S Go.Proofs.YtkibigbjgohdkaaDoorW.PrintWords Go.Proofs.YtkibigbjgohdkaaDoorW.PrintLast Go.Proofs.YtkibigbjgohdkaaDoor.L

theorem join_j0 (a b : List UInt8) (ha : a.length ≤ 100) (hb : b.length ≤ 100) (h0 : a ≠ []) (he : endL a = false) (k : Nat) : gaolerlaw07_PathsJoin.j0 (k + 1) (T a) (T b) (!(nameL b)) = some true := by
  simp only [gaolerlaw07_PathsJoin.j0]
  cases hn : nameL b with
  | false => rfl
  | true =>
    obtain ⟨hb2, hb3⟩ := nm_of hn
    obtain ⟨j1, j2, j3, j4⟩ := join_facts a b h0 he hb2
    have hl : (joinL a b).length = a.length + b.length + 1 := by rw [j1]; simp; omega
    have hs := split_len a
    rw [join_eq a b (by omega) (by omega)]
    simp only [Option.bind_some]
    rw [split_eq _ (by omega), split_eq a (by omega), base_eq _ (by omega), up_eq _ (by omega)]
    have c1 : (T (baseL (joinL a b))).toList = (T b).toList := by rw [j3]
    have c2 : (T (upL (joinL a b))).toList = (T a).toList := by rw [j4]
    have c3 : ((((splitL (joinL a b)).map T).length : Nat) : Int) = wrap64 ((((splitL a).map T).length : Int) + 1) := by
      rw [j2, w64 _ (by rw [List.length_map]; omega) (by rw [List.length_map]; omega), List.map_append, List.length_append]; rfl
    have c4 : ((T (joinL a b)).size : Int) = wrap64 (wrap64 (((T a).size : Int) + ((T b).size : Int)) + 1) := by
      rw [T_size, T_size, T_size, hl, w64 ((a.length : Int) + (b.length : Int)) (by omega) (by omega), w64 _ (by omega) (by omega)]; omega
    simp only [Option.bind_some]
    rw [if_neg (by decide), if_pos c1, if_pos c2, if_pos c3, beq_iff_eq.2 c4]
theorem PathsJoin : gaolerlaw07_PathsJoin.Pure := by
  intro a0 a1 _ _
  refine ⟨400000, ?_⟩
  obtain ⟨a, rfl⟩ : ∃ l, a0 = T l := ⟨_, (T_of a0).symm⟩
  obtain ⟨b, rfl⟩ : ∃ l, a1 = T l := ⟨_, (T_of a1).symm⟩
  unfold gaolerlaw07_PathsJoin.f
  rw [awake_eq _ (by decide)]
  simp only [Option.bind_some, if_true]
  have hT : ∀ x y, gaolerlaw07_PathsJoin.j0 400000 x y true = some true := fun x y => by simp only [gaolerlaw07_PathsJoin.j0, if_true]
  rw [hT]
  by_cases h1 : ((T a).size : Int) > 100
  · rw [if_pos h1]
  · rw [if_neg h1]
    by_cases h2 : ((T b).size : Int) > 100
    · rw [if_pos h2]
    · rw [if_neg h2]
      by_cases h3 : ((T a).size : Int) = 0
      · rw [if_pos h3]
      · rw [if_neg h3]
        rw [T_size] at h1 h2
        rcases last_or a with rfl | ⟨m, c, rfl⟩
        · exact absurd rfl h3
        · have hm : m.length + 1 ≤ 100 := by simp at h1; omega
          have e : wrap64 (((T (m ++ [c])).size : Int) - 1) = (m.length : Int) := by
            rw [T_size, w64 _ (by first | (simp; done) | (simp; omega)) (by first | (simp; done) | (simp; omega))]; simp
          have g1 : (0 : Int) ≤ (m.length : Int) := by omega
          have g2 : (m.length : Int) < ((T (m ++ [c])).size : Int) := by rw [T_size]; simp; omega
          rw [e, if_pos g1, if_pos g2, bt_T _ _ (by simp)]
          have g : (m ++ [c])[m.length]'(by simp) = c := by simp
          rw [g]
          by_cases hc : c = 47
          · rw [if_pos ((byte47 _).2 hc)]
          · rw [if_neg (fun h => hc ((byte47 _).1 h)), name_eq]
            simp only [Option.bind_some]
            exact join_j0 (m ++ [c]) b (by simp; omega) (by omega) (by simp) (by simp [endL, hc]) _

end Go.Proofs.YtkibigbjgohdkaaDoor.Pure
