/- ApplyOf: what a text written for chmod makes of a mode is the reference's. Pure part: numbers and lists alone. -/
import Derived.Test.YtlohbepfecahdaaDoorZdLt
import Derived.Test.YtlohbepfecahdaaDoorZdS21
import Derived.Test.YtlohbepfecahdaaDoorZdS22
namespace Go.Proofs.YtlohbepfecahdaaDoor.Pure
open Go.RowKit Go.Proofs.YtlohbepfecahdaaDoor.S Go.Proofs.YtlohbepfecahdaaDoor.L Go.Proofs.YtlohbepfecahdaaDoorW.PrintWords Go.Proofs.YtlohbepfecahdaaDoorW.PrintLast
set_option linter.unusedVariables false
set_option linter.unusedSimpArgs false
def octR (s : ByteArray) : Int := if 4095 < octV s.data.toList 0 then -1 else octV s.data.toList 0
theorem rloop (s : ByteArray) (hs : s.size ≤ 8) (d : Nat) : ∀ (k i : Nat), i ≤ s.size → s.size - i = d → d < k → (∀ c ∈ s.data.toList.take i, isOct c = true) →
    gaolerref01_ReadOctal.l0 k s (octV (s.data.toList.take i) 0) (i : Int) = some (if (s.data.toList.drop i).all isOct = true then octR s else -1) := by
  induction d with
  | zero =>
    intro k i h1 hd hk ha
    obtain ⟨k, rfl⟩ : ∃ m, k = m + 1 := ⟨k - 1, by omega⟩
    obtain rfl : i = s.size := by omega
    have hf : s.data.toList.take s.size = s.data.toList := List.take_of_length_le (by simp)
    have hd : s.data.toList.drop s.size = [] := List.drop_eq_nil_of_le (by simp)
    simp only [gaolerref01_ReadOctal.l0]
    rw [if_neg (by omega), hf, hd]
    unfold octR
    by_cases h : 4095 < octV s.data.toList 0
    · rw [if_pos h, if_pos h]; rfl
    · rw [if_neg h, if_neg h]; rfl
  | succ d ih =>
    intro k i h1 hd hk ha
    obtain ⟨k, rfl⟩ : ∃ m, k = m + 1 := ⟨k - 1, by omega⟩
    have hlt : i < s.size := by omega
    have hlt' : i < s.data.toList.length := by simpa using hlt
    have hdrop : s.data.toList.drop i = s[i] :: s.data.toList.drop (i + 1) := (List.getElem_cons_drop hlt').symm
    have hbt : bt s (i : Int) = ((s[i]'hlt).toNat : Int) := by unfold bt; rw [dif_pos (by simpa using hlt)]; rfl
    have hl : (s.data.toList.take i).length ≤ 8 := by rw [List.length_take]; omega
    obtain ⟨b0, b1⟩ := octV_small _ ha hl
    have hc := (s[i]'hlt).toNat_lt
    simp only [gaolerref01_ReadOctal.l0]
    rw [if_pos (by omega), if_pos (by omega), hbt, hdrop, List.all_cons]
    by_cases h2 : ((s[i]'hlt).toNat : Int) < 48
    · rw [if_pos h2, show isOct s[i] = false from by simp [isOct]; omega]; rfl
    · rw [if_neg h2]
      by_cases h3 : ((s[i]'hlt).toNat : Int) > 55
      · rw [if_pos h3, show isOct s[i] = false from by simp [isOct]; omega]; rfl
      · have ho : isOct s[i] = true := by simp [isOct]; omega
        rw [if_neg h3, ho, Bool.true_and]
        have ht := take_snoc s i hlt
        have hx := octV_snoc (s.data.toList.take i) (s[i]'hlt) 0
        have := ih k (i + 1) (by omega) (by omega) (by omega) (by
          rw [ht]; intro c hc; rcases List.mem_append.1 hc with hc | hc
          · exact ha c hc
          · rw [List.mem_singleton.1 hc]; exact ho)
        rw [ht, hx] at this
        rw [← this]
        congr 1
        · simp only [wrap64]; omega
        · rw [w64 _ (by omega) (by omega)]; rfl
theorem rread_eq (k : Nat) (hk : 20 ≤ k) (s : ByteArray) : gaolerref01_ReadOctal.f k s = some (if s.size = 0 ∨ 8 < s.size then -1 else if s.data.toList.all isOct = true then octR s else -1) := by
  obtain ⟨k, rfl⟩ : ∃ m, k = m + 1 := ⟨k - 1, by omega⟩
  unfold gaolerref01_ReadOctal.f
  rw [ByteArray.toList_eq]
  by_cases h0 : s.size = 0
  · rw [if_pos (List.eq_nil_of_length_eq_zero (by simpa using h0)), if_pos (.inl h0)]
    simp [gaolerref01_ReadOctal.j0]
  · rw [if_neg (fun e => h0 (by simpa using congrArg List.length e))]
    by_cases h8 : 8 < s.size
    · rw [decide_eq_true (by omega), if_pos (.inr h8)]; simp [gaolerref01_ReadOctal.j0]
    · rw [decide_eq_false (by omega), if_neg (by omega)]
      have h := rloop s (by omega) s.size k 0 (by omega) (by omega) (by omega) (by simp)
      simp only [gaolerref01_ReadOctal.j0, Bool.false_eq_true, if_false]
      simpa [octV] using h
/-- A text that begins with a digit. -/
def dig0 (s : ByteArray) : Bool := !s.toList.isEmpty && (decide (bt s 0 ≥ 48) && decide (bt s 0 ≤ 57))
theorem read_j (k : Nat) (s : ByteArray) : apply_Read.f k s = apply_Read.j0 k s (dig0 s) := by
  unfold apply_Read.f dig0
  by_cases h : s.toList = []
  · rw [if_pos h, h]; rfl
  · rw [if_neg h]
    have hs : 0 < (s.size : Int) := by
      rcases Nat.eq_zero_or_pos s.size with e | e
      · exact absurd (List.eq_nil_of_length_eq_zero (by rw [ByteArray.toList_eq]; simpa using e)) h
      · omega
    have he : s.toList.isEmpty = false := by simpa using h
    rw [if_pos hs, he]
    by_cases h2 : bt s 0 ≥ 48
    · rw [if_pos h2, decide_eq_true h2]; rfl
    · rw [if_neg h2, decide_eq_false h2]; rfl
theorem rread_j (k : Nat) (s : ByteArray) : gaolerref03_Read.f k s = gaolerref03_Read.j0 k s (dig0 s) := by
  unfold gaolerref03_Read.f dig0
  by_cases h : s.toList = []
  · rw [if_pos h, h]; rfl
  · rw [if_neg h]
    have hs : 0 < (s.size : Int) := by
      rcases Nat.eq_zero_or_pos s.size with e | e
      · exact absurd (List.eq_nil_of_length_eq_zero (by rw [ByteArray.toList_eq]; simpa using e)) h
      · omega
    have he : s.toList.isEmpty = false := by simpa using h
    rw [if_pos hs, he]
    by_cases h2 : bt s 0 ≥ 48
    · rw [if_pos h2, decide_eq_true h2]; rfl
    · rw [if_neg h2, decide_eq_false h2]; rfl
theorem oct_case (s : ByteArray) : (roS s = (0, 22) ∧ (if s.size = 0 ∨ 8 < s.size then (-1 : Int) else if s.data.toList.all isOct = true then octR s else -1) = -1) ∨
    (∃ v : Int, 0 ≤ v ∧ roS s = (v, 0) ∧ (if s.size = 0 ∨ 8 < s.size then (-1 : Int) else if s.data.toList.all isOct = true then octR s else -1) = v) := by
  unfold roS octR
  by_cases h : s.size = 0 ∨ 8 < s.size
  · exact .inl ⟨by rw [if_pos h], by rw [if_pos h]⟩
  · rw [if_neg h, if_neg h]
    by_cases ha : s.data.toList.all isOct = true
    · rw [if_pos ha, if_pos ha]
      have hb := octV_small s.data.toList (List.all_eq_true.1 ha) (by simp; omega)
      by_cases h2 : 4095 < octV s.data.toList 0
      · rw [if_pos h2, if_pos h2]; exact .inl ⟨rfl, rfl⟩
      · rw [if_neg h2, if_neg h2]; exact .inr ⟨_, hb.1, rfl, rfl⟩
    · rw [if_neg ha, if_neg ha]; exact .inl ⟨rfl, rfl⟩
theorem ApplyOf : gaolerlaw03_ApplyOf.Pure := by
  intro s a1 a2 a3 _ _ _
  refine ⟨big, ?_⟩
  have hb := big_eq
  obtain ⟨k, hk⟩ : ∃ k, k = big := ⟨_, rfl⟩
  rw [← hk] at hb ⊢
  clear hk
  unfold gaolerlaw03_ApplyOf.f
  rw [awake3 k (by omega), Option.bind_some, if_pos rfl]
  by_cases hl : (s.size : Int) > 200
  · rw [if_pos hl]
  · rw [if_neg hl, read_j, rread_j]
    obtain ⟨q, rfl⟩ : ∃ q, k = q + 1 := ⟨k - 1, by omega⟩
    simp only [apply_Read.j0, gaolerref03_Read.j0]
    by_cases hd : dig0 s = true
    · rw [if_pos hd, if_pos hd, rread_eq q (by omega)]
      unfold modes_ReadOctal.f
      rcases oct_case s with ⟨e1, e2⟩ | ⟨v, hv, e1, e2⟩
      · rw [e1, e2]; rfl
      · rw [e1, e2]
        simp only [Option.bind_some]
        rw [if_neg (show ¬ v < 0 by omega)]
        simp only [if_true, Option.bind_some]
        unfold apply_Of.f gaolerref03_Of.f
        rw [if_pos rfl, if_pos rfl, low_eq, B.and_4095]
        simp
    · rw [if_neg hd, if_neg hd]
      obtain ⟨l, hs⟩ : ∃ l, s = T l := ⟨s.data.toList, (T_of s).symm⟩
      subst hs
      rw [T_size] at hl
      rw [parse_eq l (by omega) q (by omega), Option.bind_some, rparse_eq l (by omega) q (by omega), Option.bind_some, Option.bind_some, Option.bind_some]
      unfold parseS pfin
      cases h : parseL (pcs [] l) with
      | none => rfl
      | some r =>
        have hz := parse_sized l (by omega) r h
        show (if true = true then (if (0 : Int) = 0 then (apply_Of.f (q + 1) false 0 r a1 a2 a3).bind fun t409 => (gaolerref03_Of.f (q + 1) false 0 ([] ++ r.map cvC) a1 a2 a3).bind fun t410 => some (t409 == t410) else some false) else _) = _
        rw [if_pos rfl, if_pos rfl, List.nil_append]
        unfold apply_Of.f gaolerref03_Of.f
        rw [if_neg (by decide), if_neg (by decide), apply_eq r hz a1 a2 a3 _ (by omega), rapply_eq r hz a1 a2 a3 _ (by omega)]
        simp
end Go.Proofs.YtlohbepfecahdaaDoor.Pure
