/- Plain facts: the reference's letters and Show tell what the program's Show tells. No machine in sight. -/
import Derived.Test.YtlohbepfecahdaaDoorZbLf
import Derived.Test.YtlohbepfecahdaaDoorZbS12
namespace Go.Proofs.YtlohbepfecahdaaDoor.L
open Go.RowKit Go.Proofs.YtlohbepfecahdaaDoor.S Go.Proofs.YtlohbepfecahdaaDoorW.PrintWords Go.Proofs.YtlohbepfecahdaaDoorW.PrintLast
set_option linter.unusedVariables false
set_option linter.unusedSimpArgs false
/-- Letters of a number's bits: by which text, in which order. -/
def lettersS (n : Int) (by_ : List UInt8) : List UInt8 → List UInt8
  | [] => []
  | c :: l => (if n / ((2 ^ (Lib.indexByte by_ c).toNat : Nat) : Int) % 2 = 1 then [c] else []) ++ lettersS n by_ l
theorem letters_loop (n : Int) (h0 : 0 ≤ n) (h1 : n ≤ 63) (bs os : List UInt8) (hb : bs.length ≤ 6) (ho : os.length ≤ 6) (hm : ∀ c ∈ os, 0 ≤ Lib.indexByte bs c ∧ Lib.indexByte bs c ≤ 5) (d : Nat) : ∀ (k i : Nat) (acc : List UInt8), i ≤ os.length → os.length - i = d → d + 100 < k → acc.length ≤ i →
    gaolerref02_letters.l0 k n (T bs) (T os) (T acc) (i : Int) = some (T (acc ++ lettersS n bs (os.drop i))) := by
  induction d with
  | zero =>
    intro k i acc h2 hd hk ha
    obtain ⟨k, rfl⟩ : ∃ m, k = m + 1 := ⟨k - 1, by omega⟩
    simp only [gaolerref02_letters.l0]
    rw [if_neg (by rw [T_size]; omega), List.drop_eq_nil_of_le (by omega)]; simp [lettersS]
  | succ d ih =>
    intro k i acc h2 hd hk ha
    obtain ⟨k, rfl⟩ : ∃ m, k = m + 1 := ⟨k - 1, by omega⟩
    have hlt : i < os.length := by omega
    have hdrop : os.drop i = os[i] :: os.drop (i + 1) := (List.getElem_cons_drop hlt).symm
    obtain ⟨m0, m1⟩ := hm _ (List.getElem_mem hlt)
    simp only [gaolerref02_letters.l0]
    rw [if_pos (by rw [T_size]; omega), if_pos (by omega), bt_T os i hlt, place_eq bs _ (by omega) k (by omega), Option.bind_some, hdrop]
    simp only [lettersS]
    obtain ⟨p, hp⟩ : ∃ p : Nat, Lib.indexByte bs os[i] = (p : Int) := ⟨_, (Int.toNat_of_nonneg m0).symm⟩
    rw [hp] at m1 ⊢
    have hp5 : p ≤ 5 := by omega
    have hq1 : 1 ≤ 2 ^ p := Nat.two_pow_pos p
    have hq2 : 2 ^ p ≤ 2 ^ 5 := Nat.pow_le_pow_right (by decide) hp5
    rw [pow_eq p (by omega) k (by omega), Option.bind_some, Int.toNat_natCast p]
    have hdiv : Int.tmod (wrap64 (Int.tdiv n ((2 ^ p : Nat) : Int))) 2 = n / ((2 ^ p : Nat) : Int) % 2 := by
      generalize 2 ^ p = q at hq1 hq2 ⊢
      rw [Int.tdiv_eq_ediv_of_nonneg h0]
      have a1 : 0 ≤ n / (q : Int) := Int.ediv_nonneg h0 (by omega)
      have a2 : n / (q : Int) ≤ n := Int.ediv_le_self _ h0
      rw [w64 _ (by omega) (by omega), Int.tmod_eq_emod_of_nonneg a1]
    rw [hdiv, if_neg (by generalize 2 ^ p = q at hq1 ⊢; omega), wsucc i (by omega)]
    by_cases hb1 : n / ((2 ^ p : Nat) : Int) % 2 = 1
    · have e : (T os).extract ((i : Int)).toNat (((i + 1 : Nat) : Int)).toNat = T [os[i]] := by
        rw [T_ext, T_inj, Int.toNat_natCast, Int.toNat_natCast, hdrop, show i + 1 - i = 1 by omega]; rfl
      rw [if_pos hb1, if_pos hb1, if_pos (by omega), if_pos (by rw [T_size]; omega), e, if_pos (by rw [T_size, T_size]; simp; omega), T_app, ih k (i + 1) _ (by omega) (by omega) (by omega) (by simp; omega)]
      simp
    · rw [if_neg hb1, if_neg hb1, ih k (i + 1) acc (by omega) (by omega) (by omega) (by omega)]
      rfl
theorem letters_eq (n : Int) (h0 : 0 ≤ n) (h1 : n ≤ 63) (bs os : List UInt8) (hb : bs.length ≤ 6) (ho : os.length ≤ 6) (hm : ∀ c ∈ os, 0 ≤ Lib.indexByte bs c ∧ Lib.indexByte bs c ≤ 5) (k : Nat) (hk : 200 < k) :
    gaolerref02_letters.f k n (T bs) (T os) = some (T (lettersS n bs os)) := by
  unfold gaolerref02_letters.f
  have := letters_loop n h0 h1 bs os hb ho hm os.length k 0 [] (by omega) (by omega) (by omega) (by simp)
  rw [List.drop_zero, List.nil_append] at this
  exact this
theorem filter_cons (p : UInt8 × Nat → Bool) (c : UInt8 × Nat) (l : List (UInt8 × Nat)) : ((c :: l).filter p).map (·.1) = (if p c = true then [c.1] else []) ++ (l.filter p).map (·.1) := by
  by_cases h : p c = true
  · rw [List.filter_cons_of_pos h, if_pos h]; rfl
  · rw [List.filter_cons_of_neg h, if_neg h]; rfl
theorem letters_perm (n : Int) : lettersS n [120, 119, 114, 88, 115, 116] [114, 119, 120, 88, 115, 116] = permT n permL := by
  unfold permT permL
  simp only [filter_cons, decide_eq_true_eq, lettersS]
  rfl
theorem letters_who (n : Int) : lettersS n [117, 103, 111] [117, 103, 111] = permT n whoL := by
  unfold permT whoL
  simp only [filter_cons, decide_eq_true_eq, lettersS]
  rfl
theorem perm_letters (n : Int) (h0 : 0 ≤ n) (h1 : n ≤ 63) (k : Nat) (hk : 200 < k) : gaolerref02_letters.f k n (⟨#[120, 119, 114, 88, 115, 116]⟩ : ByteArray) (⟨#[114, 119, 120, 88, 115, 116]⟩ : ByteArray) = some (T (permT n permL)) := by
  rw [← letters_perm]
  exact letters_eq n h0 h1 [120, 119, 114, 88, 115, 116] [114, 119, 120, 88, 115, 116] (by decide) (by decide) (by decide) k hk
theorem who_letters (n : Int) (h0 : 0 ≤ n) (h1 : n ≤ 63) (k : Nat) (hk : 200 < k) : gaolerref02_letters.f k n (⟨#[117, 103, 111]⟩ : ByteArray) (⟨#[117, 103, 111]⟩ : ByteArray) = some (T (permT n whoL)) := by
  rw [← letters_who]
  exact letters_eq n h0 h1 [117, 103, 111] [117, 103, 111] (by decide) (by decide) (by decide) k hk
end Go.Proofs.YtlohbepfecahdaaDoor.L
