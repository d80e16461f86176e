/- ModesOctal in numbers and lists: any mode's digits, and the mode that any text is, or that it is none, are the document's. -/
import Derived.Test.YtbbobjchokffbaaLm
import Derived.Test.YtbbobjchokffbaaS13
namespace Go.Proofs.Ytbbobjchokffbaa.Pure
set_option linter.unusedSimpArgs false
set_option linter.unusedVariables false
open Go.RowKit Go.Proofs.Ytbbobjchokffbaa.S Go.Proofs.Ytbbobjchokffbaa.L Go.Proofs.YtbbobjchokffbaaW.PrintWords Go.Proofs.YtbbobjchokffbaaW.PrintLast
def octR (s : ByteArray) : Int := if 4095 < octV s.data.toList 0 then -1 else octV s.data.toList 0
theorem rloop (s : ByteArray) (hs : s.size ≤ 8) (d : Nat) : ∀ (k i : Nat), i ≤ s.size → s.size - i = d → d < k → (∀ c ∈ s.data.toList.take i, isOct c = true) →
    gaolerref01_ReadOctal.l0 k s (octV (s.data.toList.take i) 0) (i : Int) = some (if (s.data.toList.drop i).all isOct = true then octR s else -1) := by
  induction d with
  | zero =>
    intro k i h1 hd hk ha
    obtain ⟨k, rfl⟩ : ∃ m, k = m + 1 := ⟨k - 1, by omega⟩
    obtain rfl : i = s.size := by omega
    have hf : s.data.toList.take s.size = s.data.toList := List.take_of_length_le (by simp)
    have hd : s.data.toList.drop s.size = [] := List.drop_eq_nil_of_le (by simp)
    simp only [gaolerref01_ReadOctal.l0]
    rw [if_neg (by omega), hf, hd]
    unfold octR
    by_cases h : 4095 < octV s.data.toList 0
    · rw [if_pos h, if_pos h]; rfl
    · rw [if_neg h, if_neg h]; rfl
  | succ d ih =>
    intro k i h1 hd hk ha
    obtain ⟨k, rfl⟩ : ∃ m, k = m + 1 := ⟨k - 1, by omega⟩
    have hlt : i < s.size := by omega
    have hlt' : i < s.data.toList.length := by simpa using hlt
    have hdrop : s.data.toList.drop i = s[i] :: s.data.toList.drop (i + 1) := (List.getElem_cons_drop hlt').symm
    have hbt : bt s (i : Int) = ((s[i]'hlt).toNat : Int) := by unfold bt; rw [dif_pos (by simpa using hlt)]; rfl
    have hl : (s.data.toList.take i).length ≤ 8 := by rw [List.length_take]; omega
    obtain ⟨b0, b1⟩ := octV_small _ ha hl
    have hc := (s[i]'hlt).toNat_lt
    simp only [gaolerref01_ReadOctal.l0]
    rw [if_pos (by omega), if_pos (by omega), hbt, hdrop, List.all_cons]
    by_cases h2 : ((s[i]'hlt).toNat : Int) < 48
    · rw [if_pos h2, show isOct s[i] = false from by simp [isOct]; omega]; rfl
    · rw [if_neg h2]
      by_cases h3 : ((s[i]'hlt).toNat : Int) > 55
      · rw [if_pos h3, show isOct s[i] = false from by simp [isOct]; omega]; rfl
      · have ho : isOct s[i] = true := by simp [isOct]; omega
        rw [if_neg h3, ho, Bool.true_and]
        have ht := take_snoc s i hlt
        have hx := octV_snoc (s.data.toList.take i) (s[i]'hlt) 0
        have := ih k (i + 1) (by omega) (by omega) (by omega) (by
          rw [ht]; intro c hc; rcases List.mem_append.1 hc with hc | hc
          · exact ha c hc
          · rw [List.mem_singleton.1 hc]; exact ho)
        rw [ht, hx] at this
        rw [← this]
        congr 1
        · simp only [wrap64]; omega
        · rw [w64 _ (by omega) (by omega)]; rfl
theorem rread_eq (k : Nat) (hk : 20 ≤ k) (s : ByteArray) : gaolerref01_ReadOctal.f k s = some (if s.size = 0 ∨ 8 < s.size then -1 else if s.data.toList.all isOct = true then octR s else -1) := by
  obtain ⟨k, rfl⟩ : ∃ m, k = m + 1 := ⟨k - 1, by omega⟩
  unfold gaolerref01_ReadOctal.f
  rw [ByteArray.toList_eq]
  by_cases h0 : s.size = 0
  · rw [if_pos (List.eq_nil_of_length_eq_zero (by simpa using h0)), if_pos (.inl h0)]
    simp [gaolerref01_ReadOctal.j0]
  · rw [if_neg (fun e => h0 (by simpa using congrArg List.length e))]
    by_cases h8 : 8 < s.size
    · rw [decide_eq_true (by omega), if_pos (.inr h8)]; simp [gaolerref01_ReadOctal.j0]
    · rw [decide_eq_false (by omega), if_neg (by omega)]
      have h := rloop s (by omega) s.size k 0 (by omega) (by omega) (by omega) (by simp)
      simp only [gaolerref01_ReadOctal.j0, Bool.false_eq_true, if_false]
      simpa [octV] using h
theorem digit_eq (n : Int) (h0 : 0 ≤ n) (h1 : n < 8) : gaolerref01_digit.f n = some ⟨#[UInt8.ofNat (48 + n.toNat)]⟩ := by
  unfold gaolerref01_digit.f strOfNums
  rw [w64 _ (by omega) (by omega), show (48 + n) % 256 = ((48 + n.toNat : Nat) : Int) by omega]; rfl
theorem roctal_eq (m : Int) : gaolerref01_Octal.f m = some (octS m) := by
  unfold gaolerref01_Octal.f
  rw [low_eq]
  simp only [Option.bind_some]
  have r0 := clsS_range' m 0
  have r1 := clsS_range' m 1
  have r2 := clsS_range' m 2
  rw [tdiv_nn _ _ (by omega), w64 _ (by omega) (by omega), rclass_eq, rclass_eq, rclass_eq, digit_eq (m % 4096 / 512) (by omega) (by omega)]
  simp only [Option.bind_some]
  rw [digit_eq _ r0.1 (by omega), digit_eq _ r1.1 (by omega), digit_eq _ r2.1 (by omega)]
  simp only [Option.bind_some]
  rw [if_pos (by simp [ByteArray.size_append, ByteArray.size]), if_pos (by simp [ByteArray.size_append, ByteArray.size]), if_pos (by simp [ByteArray.size_append, ByteArray.size])]
  congr 1
  apply ByteArray.ext
  have e0 : clsS m 0 = m / 64 % 8 := rfl
  have e1 : clsS m 1 = m / 8 % 8 := rfl
  have e2 : clsS m 2 = m % 8 := rfl
  have e3 : m % 4096 / 512 = m / 512 % 8 := by omega
  simp [octS, dg, e0, e1, e2, e3]
theorem ModesOctal : gaolerlaw01_ModesOctal.Pure := by
  intro a0 s _ _
  refine ⟨30, ?_⟩
  unfold gaolerlaw01_ModesOctal.f modes_ReadOctal.f modes_Octal.f
  rw [awake1, rread_eq 30 (by omega), roctal_eq]
  simp only [Option.bind_some, if_true]
  by_cases hl : (s.size : Int) > 40
  · rw [if_pos hl]
  · rw [if_neg hl]
    by_cases h : s.size = 0 ∨ 8 < s.size
    · rw [if_pos h, if_pos (by decide)]; unfold roS; rw [if_pos h]; simp
    · rw [if_neg h]
      by_cases ha : s.data.toList.all isOct = true
      · rw [if_pos ha]
        have hb := octV_small s.data.toList (List.all_eq_true.1 ha) (by simp; omega)
        unfold octR
        by_cases h2 : 4095 < octV s.data.toList 0
        · rw [if_pos h2, if_pos (by decide)]; unfold roS; rw [if_neg h, if_pos ha, if_pos h2]; simp
        · rw [if_neg h2, if_neg (by omega)]; unfold roS; rw [if_neg h, if_pos ha, if_neg h2]; simp
      · rw [if_neg ha, if_pos (by decide)]; unfold roS; rw [if_neg h, if_neg ha]; simp
end Go.Proofs.Ytbbobjchokffbaa.Pure
