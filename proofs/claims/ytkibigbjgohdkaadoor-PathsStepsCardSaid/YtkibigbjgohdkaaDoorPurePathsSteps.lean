import Derived.Test.YtkibigbjgohdkaaDoorS7
import Derived.Test.YtkibigbjgohdkaaDoorLe
namespace Go.Proofs.YtkibigbjgohdkaaDoor.Pure
open Go.RowKit Go.Proofs.YtkibigbjgohdkaaDoor.S Go.Proofs.YtkibigbjgohdkaaDoorW.PrintWords Go.Proofs.YtkibigbjgohdkaaDoorW.PrintLast Go.Proofs.YtkibigbjgohdkaaDoor.L

theorem rd_map (xs : List (List UInt8)) (i : Nat) (h : i < xs.length) : rdOf ByteArray.empty (xs.map T) (i : Int) = T (xs[i]'h) := by
  simp [rdOf, h]
theorem steps_loop (l : List UInt8) (hl : l.length ≤ 200) (d : Nat) : ∀ (k i : Nat) (last : Int), i ≤ (stp [] l).length → (stp [] l).length - i = d → 2 * d + 1 < k → last = ((prevOf (stp [] l) [] i).length : Int) →
    gaolerlaw07_PathsSteps.l0 k (T l) ((stp [] l).map T) last (i : Int) = some true := by
  have hlen := stp_len l []
  have hch := chain_all l
  induction d with
  | zero =>
    intro k i last h1 hd hk hla
    obtain ⟨k, rfl⟩ : ∃ m, k = m + 1 := ⟨k - 1, by omega⟩
    simp only [gaolerlaw07_PathsSteps.l0]
    rw [if_neg (by rw [List.length_map]; omega), split_eq l (by omega)]
    simp only [Option.bind_some]
    have hsp := split_len l
    have hn := hch.2
    by_cases h0 : namesL [] l = []
    · have : splitL l = [] := by unfold splitL; rw [if_pos h0]
      rw [this]
      have hz : (stp [] l).length = 0 := by rw [← hn, h0]; rfl
      rw [if_pos (by rw [List.length_map, List.length_map, hz]; rfl)]
    · by_cases he : endL l = true
      · have hs : splitL l = namesL [] l ++ [[46]] := by unfold splitL; rw [if_neg h0, if_pos he]
        rw [hs]
        have e1 : (((namesL [] l ++ [[46]]).map T).length : Int) = wrap64 ((((stp [] l).map T).length : Int) + 1) := by
          rw [w64 _ (by rw [List.length_map]; omega) (by rw [List.length_map]; omega), List.length_map, List.length_append, List.length_map, hn]; rfl
        have e0 : ¬ (((namesL [] l ++ [[46]]).map T).length : Int) = (((stp [] l).map T).length : Int) := by
          rw [List.length_map, List.length_append, List.length_map, hn]; simp; omega
        have e2 : (0 : Int) ≤ (((stp [] l).map T).length : Int) := by omega
        have e3 : (((stp [] l).map T).length : Int) < (((namesL [] l ++ [[46]]).map T).length : Int) := by
          rw [List.length_map, List.length_map, List.length_append, hn]; simp; omega
        rw [if_neg e0, if_pos e1, if_pos e2, if_pos e3]
        have e4 : rdOf ByteArray.empty ((namesL [] l ++ [[46]]).map T) (((stp [] l).map T).length : Int) = T [46] := by
          rw [List.length_map, ← hn, rd_map _ _ (by simp)]
          simp
        rw [e4, T_list]; rfl
      · have hs : splitL l = namesL [] l := by unfold splitL; rw [if_neg h0, if_neg he]
        rw [hs, if_pos (by rw [List.length_map, List.length_map, hn])]
  | succ d ih =>
    intro k i last h1 hd hk hla
    obtain ⟨k, rfl⟩ : ∃ m, k = m + 1 + 1 := ⟨k - 2, by omega⟩
    have hi : i < (stp [] l).length := by omega
    have g := chain_get l (stp [] l) [] 0 i hi hch.1
    rw [Nat.zero_add] at g
    have g6 := fun j (hj : j < (stp [] l).length) => chain_get l (stp [] l) [] 0 j hj hch.1
    have hp : prevOf (stp [] l) [] (i + 1) = (stp [] l)[i] := by
      unfold prevOf
      rw [if_neg (by omega)]
      simp [hi]
    have hrd := rd_map (stp [] l) i hi
    generalize hx : (stp [] l)[i] = x at g hp hrd
    have f1 : (i : Int) < (((stp [] l).map T).length : Int) := by rw [List.length_map]; omega
    have f2 : (0 : Int) ≤ (i : Int) := by omega
    have gm := g.more
    have gl := g.len
    have hnext := ih k (i + 1) ((T x).size : Int) (by omega) (by omega) (by omega) (by rw [hp, T_size])
    simp only [gaolerlaw07_PathsSteps.l0]
    rw [hrd, if_pos f1, if_pos f2, if_neg (by rw [T_size, hla]; omega), if_pos (by omega), if_pos (by rw [T_size, T_size]; omega)]
    have e1 : (((T l).extract 0 (((T x).size : Int)).toNat).toList != (T x).toList) = false := by
      rw [T_ext, List.drop_zero, T_list, T_list, Int.toNat_natCast, Nat.sub_zero, T_size, g.pre]
      simp
    rw [e1]
    simp only [gaolerlaw07_PathsSteps.j1]
    have hsx : splitL x = namesL [] x := split_noend x g.noend
    rw [if_neg (by decide), if_pos f2, if_pos f1, hrd, split_eq x (by omega)]
    rw [Option.bind_some]
    dsimp only
    rw [hsx]
    have e2 : (((namesL [] x).map T).length : Int) = wrap64 ((i : Int) + 1) := by
      rw [wsucc i (by omega), List.length_map, g.names]
    have e3 : (i : Int) < (((namesL [] x).map T).length : Int) := by rw [List.length_map, g.names]; omega
    rw [if_pos e2, if_pos e3, base_eq x (by omega)]
    rw [Option.bind_some]
    rcases last_or2 (namesL [] x) with h0 | ⟨xs, y, h0⟩
    · have := g.names; rw [h0] at this; simp at this
    · have hxs : xs.length = i := by have := g.names; rw [h0, List.length_append] at this; simp at this; exact this
      have hb := base_of x xs y h0
      have e4 : (rdOf ByteArray.empty ((namesL [] x).map T) (i : Int)).toList = (T (baseL x)).toList := by
        rw [h0, rd_map _ i (by simp; omega), hb]
        subst hxs
        simp
      rw [if_pos e4]
      by_cases hz : i = 0
      · rw [if_neg (by omega), wsucc i (by omega)]
        exact hnext
      · have hup := g.up (by omega)
        rw [if_pos (by omega), up_eq x (by omega)]
        rw [Option.bind_some]
        have e5 : wrap64 ((i : Int) - 1) = ((i - 1 : Nat) : Int) := wpred i (by omega) (by omega)
        have hrd2 := rd_map (stp [] l) (i - 1) (by omega)
        have hpv : prevOf (stp [] l) [] i = (stp [] l)[i - 1]'(by omega) := by
          unfold prevOf
          rw [if_neg hz]
          have : i - 1 < (stp [] l).length := by omega
          simp [this]
        rw [e5, if_pos (by omega), if_pos (by rw [List.length_map]; omega), hrd2, hup, hpv, if_neg (by omega), wsucc i (by omega)]
        exact hnext
theorem PathsSteps : gaolerlaw07_PathsSteps.Pure := by
  intro a0 _
  refine ⟨400000, ?_⟩
  obtain ⟨l, rfl⟩ : ∃ l, a0 = T l := ⟨_, (T_of a0).symm⟩
  unfold gaolerlaw07_PathsSteps.f
  rw [awake_eq _ (by decide)]
  simp only [Option.bind_some, if_true]
  by_cases h : ((T l).size : Int) > 200
  · rw [if_pos h]
  · rw [if_neg h]
    have hl : l.length ≤ 200 := by rw [T_size] at h; omega
    have h2 := stp_len l []
    rw [steps_eq l (by omega) _ (by omega)]
    simp only [Option.bind_some]
    have := steps_loop l hl _ 400000 0 0 (by omega) rfl (by omega) (by simp [prevOf])
    rw [show ((0 : Nat) : Int) = 0 from rfl] at this
    exact this

end Go.Proofs.YtkibigbjgohdkaaDoor.Pure
