/- Plain facts: a path's beginnings, and the document's examples. No machine in sight. -/
import Derived.Test.YtkibigbjgohdkaaDoorLb
namespace Go.Proofs.YtkibigbjgohdkaaDoor.L
open Go.RowKit Go.Proofs.YtkibigbjgohdkaaDoor.S Go.Proofs.YtkibigbjgohdkaaDoorW.PrintWords Go.Proofs.YtkibigbjgohdkaaDoorW.PrintLast
set_option linter.unusedVariables false
set_option linter.unusedSimpArgs false

/-- Does a text end here, or does a slash follow? -/
def stops (l : List UInt8) : Bool := l = [] || l.head? == some 47
theorem stops_cons (c : UInt8) (l : List UInt8) : stops (c :: l) = decide (c = 47) := by
  unfold stops
  by_cases h : c = 47 <;> simp [h]
def stp : List UInt8 → List UInt8 → List (List UInt8)
  | pre, [] => []
  | pre, c :: l => if c = 47 then stp (pre ++ [c]) l else if stops l then (pre ++ [c]) :: stp (pre ++ [c]) l else stp (pre ++ [c]) l
theorem stp_len : ∀ (l pre : List UInt8), (stp pre l).length ≤ l.length
  | [], pre => Nat.le_refl _
  | c :: l, pre => by
    have := stp_len l (pre ++ [c])
    unfold stp
    split
    · simp; omega
    · split
      · simp; omega
      · simp; omega
theorem take_succ_c (l : List UInt8) (i : Nat) (h : i < l.length) : l.take i ++ [l[i]] = l.take (i + 1) := by rw [List.take_succ_eq_append_getElem h]
theorem steps_at (l : List UInt8) (h : l.length < 100000) (d : Nat) : ∀ (k i : Nat) (acc : List ByteArray), i ≤ l.length → l.length - i = d → d < k → acc.length ≤ i →
    paths_Steps.l0 k (T l) acc (l.length : Int) (i : Int) = some (acc ++ (stp (l.take i) (l.drop i)).map T) := by
  induction d with
  | zero =>
    intro k i acc h1 hd hk ha
    obtain ⟨k, rfl⟩ : ∃ m, k = m + 1 := ⟨k - 1, by omega⟩
    simp only [paths_Steps.l0]
    rw [if_neg (by omega), List.drop_eq_nil_of_le (by omega)]
    simp [stp]
  | succ d ih =>
    intro k i acc h1 hd hk ha
    obtain ⟨k, rfl⟩ : ∃ m, k = m + 1 := ⟨k - 1, by omega⟩
    have hlt : i < l.length := by omega
    have hdrop : l.drop i = l[i] :: l.drop (i + 1) := (List.getElem_cons_drop hlt).symm
    have ht : l.take i ++ [l[i]] = l.take (i + 1) := take_succ_c l i hlt
    have hx : (T l).extract 0 (((i + 1 : Nat) : Int)).toNat = T (l.take (i + 1)) := by rw [T_ext, Int.toNat_natCast]; rfl
    simp only [paths_Steps.l0]
    rw [wsucc i (by omega), if_pos (by omega), if_pos (by omega), if_pos (by rw [T_size]; omega), bt_T l i hlt, hdrop]
    simp only [stp, ht]
    by_cases hc : l[i] = 47
    · rw [if_pos ((byte47 _).2 hc), if_pos hc, ih k (i + 1) acc (by omega) (by omega) (by omega) (by omega)]
    · rw [if_neg (fun h => hc ((byte47 _).1 h)), if_neg hc]
      by_cases he : i + 1 = l.length
      · have hnil : l.drop (i + 1) = [] := List.drop_eq_nil_of_le (by omega)
        have f1 : ((i + 1 : Nat) : Int) = ((T l).size : Int) := by rw [T_size]; omega
        have f2 : (0 : Int) ≤ ((i + 1 : Nat) : Int) := by omega
        have f3 : ((i + 1 : Nat) : Int) ≤ ((T l).size : Int) := by rw [T_size]; omega
        have f4 : acc.length < 8796093022208 := by omega
        rw [if_pos f1, if_pos f2, if_pos f3, if_pos f4, hx, ih k (i + 1) _ (by omega) (by omega) (by omega) (by simp; omega), hnil, if_pos (by simp [stops])]
        simp
      · have hlt2 : i + 1 < l.length := by omega
        have hdrop2 : l.drop (i + 1) = l[i + 1] :: l.drop (i + 2) := (List.getElem_cons_drop hlt2).symm
        have f1 : ¬ ((i + 1 : Nat) : Int) = ((T l).size : Int) := by rw [T_size]; omega
        have f2 : (0 : Int) ≤ ((i + 1 : Nat) : Int) := by omega
        have f3 : ((i + 1 : Nat) : Int) ≤ ((T l).size : Int) := by rw [T_size]; omega
        have f4 : acc.length < 8796093022208 := by omega
        have f5 : ((i + 1 : Nat) : Int) < ((T l).size : Int) := by rw [T_size]; omega
        rw [if_neg f1, if_pos f2, if_pos f5, bt_T l (i + 1) hlt2]
        have hs : stops (l.drop (i + 1)) = decide (l[i + 1] = 47) := by rw [hdrop2, stops_cons]
        by_cases hc2 : l[i + 1] = 47
        · rw [if_pos ((byte47 _).2 hc2), if_pos f3, if_pos f4, hx, ih k (i + 1) _ (by omega) (by omega) (by omega) (by simp; omega), if_pos (by rw [hs]; simp [hc2])]
          simp
        · rw [if_neg (fun h => hc2 ((byte47 _).1 h)), ih k (i + 1) _ (by omega) (by omega) (by omega) (by omega), if_neg (by rw [hs]; simp [hc2])]
theorem steps_eq (l : List UInt8) (h : l.length < 100000) (k : Nat) (hk : l.length < k) : paths_Steps.f k (T l) = some ((stp [] l).map T) := by
  unfold paths_Steps.f
  exact steps_at l h l.length k 0 [] (by omega) (by omega) hk (Nat.le_refl _)
theorem steps_ref_at (l : List UInt8) (h : l.length < 100000) (d : Nat) : ∀ (k i : Nat) (acc : List ByteArray), i ≤ l.length → l.length - i = d → d < k → acc.length ≤ i →
    gaolerref07_Steps.l0 k (T l) acc ((i + 1 : Nat) : Int) = some (acc ++ (stp (l.take i) (l.drop i)).map T) := by
  induction d with
  | zero =>
    intro k i acc h1 hd hk ha
    obtain ⟨k, rfl⟩ : ∃ m, k = m + 1 := ⟨k - 1, by omega⟩
    simp only [gaolerref07_Steps.l0]
    rw [if_neg (by rw [T_size]; omega), List.drop_eq_nil_of_le (by omega)]
    simp [stp]
  | succ d ih =>
    intro k i acc h1 hd hk ha
    obtain ⟨k, rfl⟩ : ∃ m, k = m + 1 := ⟨k - 1, by omega⟩
    have hlt : i < l.length := by omega
    have hdrop : l.drop i = l[i] :: l.drop (i + 1) := (List.getElem_cons_drop hlt).symm
    have ht : l.take i ++ [l[i]] = l.take (i + 1) := take_succ_c l i hlt
    have hx : (T l).extract 0 (((i + 1 : Nat) : Int)).toNat = T (l.take (i + 1)) := by rw [T_ext, Int.toNat_natCast]; rfl
    have e0 : wrap64 (((i + 1 : Nat) : Int) - 1) = (i : Int) := by rw [w64 _ (by omega) (by omega)]; omega
    simp only [gaolerref07_Steps.l0]
    rw [wsucc (i + 1) (by omega), e0, if_pos (by rw [T_size]; omega), if_pos (by omega), if_pos (by rw [T_size]; omega), bt_T l i hlt, hdrop]
    simp only [stp, ht]
    by_cases hc : l[i] = 47
    · rw [if_pos ((byte47 _).2 hc), if_pos hc, ih k (i + 1) acc (by omega) (by omega) (by omega) (by omega)]
    · rw [if_neg (fun h => hc ((byte47 _).1 h)), if_neg hc]
      by_cases he : i + 1 = l.length
      · have hnil : l.drop (i + 1) = [] := List.drop_eq_nil_of_le (by omega)
        have f1 : ((i + 1 : Nat) : Int) = ((T l).size : Int) := by rw [T_size]; omega
        have f2 : (0 : Int) ≤ ((i + 1 : Nat) : Int) := by omega
        have f4 : acc.length < 8796093022208 := by omega
        rw [if_pos f1, if_pos f2, if_pos f4, hx, ih k (i + 1) _ (by omega) (by omega) (by omega) (by simp; omega), hnil, if_pos (by simp [stops])]
        simp
      · have hlt2 : i + 1 < l.length := by omega
        have hdrop2 : l.drop (i + 1) = l[i + 1] :: l.drop (i + 2) := (List.getElem_cons_drop hlt2).symm
        have f1 : ¬ ((i + 1 : Nat) : Int) = ((T l).size : Int) := by rw [T_size]; omega
        have f2 : (0 : Int) ≤ ((i + 1 : Nat) : Int) := by omega
        have f4 : acc.length < 8796093022208 := by omega
        have f5 : ((i + 1 : Nat) : Int) < ((T l).size : Int) := by rw [T_size]; omega
        rw [if_neg f1, if_pos f2, if_pos f5, bt_T l (i + 1) hlt2]
        have hs : stops (l.drop (i + 1)) = decide (l[i + 1] = 47) := by rw [hdrop2, stops_cons]
        by_cases hc2 : l[i + 1] = 47
        · rw [if_pos ((byte47 _).2 hc2), if_pos f4, hx, ih k (i + 1) _ (by omega) (by omega) (by omega) (by simp; omega), if_pos (by rw [hs]; simp [hc2])]
          simp
        · rw [if_neg (fun h => hc2 ((byte47 _).1 h)), ih k (i + 1) _ (by omega) (by omega) (by omega) (by omega), if_neg (by rw [hs]; simp [hc2])]
theorem steps_ref (l : List UInt8) (h : l.length < 100000) (k : Nat) (hk : l.length < k) : gaolerref07_Steps.f k (T l) = some ((stp [] l).map T) := by
  unfold gaolerref07_Steps.f
  exact steps_ref_at l h l.length k 0 [] (by omega) (by omega) hk (Nat.le_refl _)
theorem arr6 (a b c d e f : UInt8) : (⟨#[a, b, c, d, e, f]⟩ : ByteArray) = T [a, b, c, d, e, f] := rfl
theorem awake_eq (k : Nat) (hk : 300000 < k) : gaolerlaw07_awake.f k = some true := by
  unfold gaolerlaw07_awake.f
  have a1 : (⟨#[47, 97, 47, 47, 98, 47]⟩ : ByteArray) = T [47, 97, 47, 47, 98, 47] := rfl
  have a2 : (⟨#[47, 97, 47, 98, 47]⟩ : ByteArray) = T [47, 97, 47, 98, 47] := rfl
  have a3 : (⟨#[97, 47, 98]⟩ : ByteArray) = T [97, 47, 98] := rfl
  have a4 : (⟨#[97]⟩ : ByteArray) = T [97] := rfl
  have a5 : (⟨#[98]⟩ : ByteArray) = T [98] := rfl
  have a6 : (⟨#[46, 46]⟩ : ByteArray) = T [46, 46] := rfl
  rw [a1, a2, a3, a4, a5, a6, T_dot, T_slash, T_nil]
  rw [split_eq _ (by decide), base_eq _ (by decide), up_eq _ (by decide), steps_eq _ (by decide) k (by simp; omega), join_eq _ _ (by decide) (by decide), name_eq, name_eq, fits_eq, fits_eq]
  have s1 : splitL [47, 97, 47, 47, 98, 47] = [[97], [98], [46]] := by decide +kernel
  have s2 : absL [47, 97, 47, 47, 98, 47] = true := by decide +kernel
  have s3 : baseL [47, 97, 47, 98, 47] = [98] := by decide +kernel
  have s4 : upL [47, 97, 47, 98, 47] = [47, 97] := by decide +kernel
  have s5 : stp [] [97, 47, 98] = [[97], [97, 47, 98]] := by decide +kernel
  have s6 : joinL [97] [98] = [97, 47, 98] := by decide +kernel
  have s7 : nameL [97] = true := by decide +kernel
  have s8 : nameL [46, 46] = false := by decide +kernel
  have s9 : fitsL [47] = true := by decide +kernel
  have s10 : fitsL [] = false := by decide +kernel
  simp only [Option.bind_some, s1, s2, s3, s4, s5, s6, s7, s8, s9, s10, List.map_cons, List.map_nil, if_true, T_list]
  rw [same_eq _ (by simp) k (by simp; omega), same_eq _ (by simp) k (by simp; omega)]
  simp
theorem split_len (l : List UInt8) : (splitL l).length ≤ l.length + 2 := by
  have := namesL_len l []
  unfold splitL
  split
  · simp
  · split
    · simp; omega
    · omega
end Go.Proofs.YtkibigbjgohdkaaDoor.L
