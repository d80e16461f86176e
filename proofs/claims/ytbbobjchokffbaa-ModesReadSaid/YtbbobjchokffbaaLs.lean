/- Plain facts: what is shown is the document's ten signs, and is read as it was. No machine in sight. -/
import Derived.Test.YtbbobjchokffbaaLm
import Derived.Test.YtbbobjchokffbaaS12
namespace Go.Proofs.Ytbbobjchokffbaa.L
set_option linter.unusedSimpArgs false
set_option linter.unusedVariables false
open Go.RowKit Go.Proofs.Ytbbobjchokffbaa.S Go.Proofs.YtbbobjchokffbaaW.PrintWords Go.Proofs.YtbbobjchokffbaaW.PrintLast
theorem str_append (xs ys : List Int) : strOfNums (xs ++ ys) = strOfNums xs ++ strOfNums ys := by
  apply ByteArray.ext; simp [strOfNums]
/-- A class's last sign, out of its bits and whether its bit besides is set. -/
def lastF (is : Bool) (sign b : Int) : Int := if is = true then (if b % 2 = 0 then sign - 32 else sign) else sg b 2
theorem three_s : ∀ b : Fin 8, ∀ is : Bool, gaolerref01_three.f ((b.val : Nat) : Int) is ⟨#[115]⟩ ⟨#[83]⟩ = some (strOfNums [sg ((b.val : Nat) : Int) 0, sg ((b.val : Nat) : Int) 1, lastF is 115 ((b.val : Nat) : Int)]) := by decide +kernel
theorem three_t : ∀ b : Fin 8, ∀ is : Bool, gaolerref01_three.f ((b.val : Nat) : Int) is ⟨#[116]⟩ ⟨#[84]⟩ = some (strOfNums [sg ((b.val : Nat) : Int) 0, sg ((b.val : Nat) : Int) 1, lastF is 116 ((b.val : Nat) : Int)]) := by decide +kernel
theorem three_s' (b : Int) (is : Bool) (h0 : 0 ≤ b) (h1 : b ≤ 7) : gaolerref01_three.f b is ⟨#[115]⟩ ⟨#[83]⟩ = some (strOfNums [sg b 0, sg b 1, lastF is 115 b]) := by
  have := three_s ⟨b.toNat, by omega⟩ is
  simpa [Int.toNat_of_nonneg h0] using this
theorem three_t' (b : Int) (is : Bool) (h0 : 0 ≤ b) (h1 : b ≤ 7) : gaolerref01_three.f b is ⟨#[116]⟩ ⟨#[84]⟩ = some (strOfNums [sg b 0, sg b 1, lastF is 116 b]) := by
  have := three_t ⟨b.toNat, by omega⟩ is
  simpa [Int.toNat_of_nonneg h0] using this
theorem last_eq' (m bit sign b : Int) : lastS m bit sign b = lastF (m / bit % 2 == 1) sign b := by
  unfold lastS lastF
  by_cases h : m / bit % 2 = 1
  · rw [if_neg (by omega), if_pos (beq_iff_eq.2 h)]
  · rw [if_pos (by omega), if_neg (by simpa using h)]
theorem rshow_j2 (k : Nat) (m : Int) (c : Int) : gaolerref01_Show.j2 (k + 1) m (strOfNums [c]) = some (strOfNums [c, sg (clsS m 0) 0, sg (clsS m 0) 1, lastS m 2048 115 (clsS m 0), sg (clsS m 1) 0, sg (clsS m 1) 1, lastS m 1024 115 (clsS m 1), sg (clsS m 2) 0, sg (clsS m 2) 1, lastS m 512 116 (clsS m 2)]) := by
  have r0 := clsS_range' m 0
  have r1 := clsS_range' m 1
  have r2 := clsS_range' m 2
  simp only [gaolerref01_Show.j2]
  rw [low_eq]
  simp only [Option.bind_some]
  rw [rclass_eq, rclass_eq, rclass_eq]
  simp only [Option.bind_some]
  rw [tdiv_nn (m % 4096) 512 (by omega), w64 (m % 4096 / 512) (by omega) (by omega), tdiv_nn _ 4 (by omega), w64 (m % 4096 / 512 / 4) (by omega) (by omega), tdiv_nn _ 2 (by omega), w64 (m % 4096 / 512 / 2) (by omega) (by omega), tmod_nn (m % 4096 / 512 / 2) 2 (by omega), tmod_nn (m % 4096 / 512) 2 (by omega)]
  rw [three_s' _ _ r0.1 r0.2, three_s' _ _ r1.1 r1.2, three_t' _ _ r2.1 r2.2]
  simp only [Option.bind_some]
  rw [if_pos (by simp [ByteArray.size_append, strOfNums_size]), if_pos (by simp [ByteArray.size_append, strOfNums_size]), if_pos (by simp [ByteArray.size_append, strOfNums_size])]
  rw [← str_append, ← str_append, ← str_append, last_eq', last_eq', last_eq']
  rw [show (m % 4096 / 512 / 4 == 1) = (m / 2048 % 2 == 1) from by rw [Bool.eq_iff_iff]; simp only [beq_iff_eq]; omega,
    show (m % 4096 / 512 / 2 % 2 == 1) = (m / 1024 % 2 == 1) from by rw [Bool.eq_iff_iff]; simp only [beq_iff_eq]; omega,
    show (m % 4096 / 512 % 2 == 1) = (m / 512 % 2 == 1) from by rw [Bool.eq_iff_iff]; simp only [beq_iff_eq]; omega]
  rfl
theorem rshow_eq (k : Nat) (hk : 5 ≤ k) (kd m : Int) : gaolerref01_Show.f k kd m = some (showS kd m) := by
  obtain ⟨k, rfl⟩ : ∃ q, k = q + 3 := ⟨k - 3, by omega⟩
  unfold gaolerref01_Show.f showS
  have hj : ∀ c : Int, gaolerref01_Show.j2 (k + 1) m (strOfNums [c]) = _ := fun c => rshow_j2 k m c
  have e45 : (⟨#[45]⟩ : ByteArray) = strOfNums [45] := rfl
  have e63 : (⟨#[63]⟩ : ByteArray) = strOfNums [63] := rfl
  have e100 : (⟨#[100]⟩ : ByteArray) = strOfNums [100] := rfl
  have e108 : (⟨#[108]⟩ : ByteArray) = strOfNums [108] := rfl
  rw [e45, e63]
  simp only [gaolerref01_Show.j0, gaolerref01_Show.j1, e100, e108, hj]
  by_cases h1 : kd = 1
  · rw [if_pos h1, if_neg (by omega), if_neg (by omega)]; simp [preL, kindS, h1]
  · rw [if_neg h1]
    by_cases h2 : kd = 2
    · rw [if_pos h2, if_neg (by omega)]; simp [preL, kindS, h2]
    · rw [if_neg h2]
      by_cases h3 : kd = 3
      · rw [if_pos h3]; simp [preL, kindS, h3]
      · rw [if_neg h3]; simp [preL, kindS, h1, h2, h3]
/-! ### back -/
theorem chr_str (xs : List Int) (j : Nat) (x : Int) (h : xs[j]? = some x) (h0 : 0 ≤ x) (h1 : x ≤ 255) : chr (strOfNums xs) j = x := by
  obtain ⟨hj, he⟩ := List.getElem?_eq_some_iff.1 h
  rw [chr_at (strOfNums xs) j (by rw [strOfNums_size]; exact hj)]
  have : (strOfNums xs)[j]'(by rw [strOfNums_size]; exact hj) = UInt8.ofNat x.toNat := by
    show (strOfNums xs).data[j]'_ = _
    simp [strOfNums, he]
  rw [this, UInt8.toNat_ofNat']
  omega
/-- What a class's three signs are read as. -/
theorem class_back (s : ByteArray) (k : Nat) (hk : k < 3) (c : Int) (c0 : 0 ≤ c) (c7 : c ≤ 7) (is : Bool)
    (h1 : chr s (1 + 3 * k) = sg c 0) (h2 : chr s (2 + 3 * k) = sg c 1) (h3 : chr s (3 + 3 * k) = lastF is (signK k) c) :
    b3 s k = c ∧ ∀ x, mI s k x = if is = true then Go.bits .or .i64 x (bitK k) else x := by
  have e1 : Go.bits .or .i64 0 4 = 4 := by decide +kernel
  have e2 : Go.bits .or .i64 0 2 = 2 := by decide +kernel
  have e3 : Go.bits .or .i64 4 2 = 6 := by decide +kernel
  have e4 : Go.bits .or .i64 0 1 = 1 := by decide +kernel
  have e5 : Go.bits .or .i64 4 1 = 5 := by decide +kernel
  have e6 : Go.bits .or .i64 2 1 = 3 := by decide +kernel
  have e7 : Go.bits .or .i64 6 1 = 7 := by decide +kernel
  unfold b3 b2 b1 mI
  rw [h1, h2, h3]
  rcases (show c = 0 ∨ c = 1 ∨ c = 2 ∨ c = 3 ∨ c = 4 ∨ c = 5 ∨ c = 6 ∨ c = 7 by omega) with rfl | rfl | rfl | rfl | rfl | rfl | rfl | rfl <;>
    rcases (show k = 0 ∨ k = 1 ∨ k = 2 by omega) with rfl | rfl | rfl <;> cases is <;> simp [sg, lastF, signK, e1, e2, e3, e4, e5, e6, e7]
def orOk (x : Nat) : Bool := (x / 2048 % 2 == 1 || (x ||| 2048) == x + 2048) && (x / 1024 % 2 == 1 || (x ||| 1024) == x + 1024) && (x / 512 % 2 == 1 || (x ||| 512) == x + 512)
theorem or_all : (List.range 4096).all orOk = true := by decide +kernel
theorem or_clear (x : Int) (h0 : 0 ≤ x) (h1 : x < 4096) : (x / 2048 % 2 = 0 → Go.bits .or .i64 x 2048 = x + 2048) ∧ (x / 1024 % 2 = 0 → Go.bits .or .i64 x 1024 = x + 1024) ∧ (x / 512 % 2 = 0 → Go.bits .or .i64 x 512 = x + 512) := by
  obtain ⟨n, rfl⟩ := Int.eq_ofNat_of_zero_le h0
  have h := List.all_eq_true.1 or_all n (List.mem_range.2 (by omega))
  simp only [orOk, Bool.and_eq_true, Bool.or_eq_true, beq_iff_eq] at h
  obtain ⟨⟨g1, g2⟩, g3⟩ := h
  refine ⟨fun e => ?_, fun e => ?_, fun e => ?_⟩
  · rw [show (2048 : Int) = ((2048 : Nat) : Int) from rfl, B.or_nat _ _ (by omega) (by omega), g1.resolve_left (by omega)]; rfl
  · rw [show (1024 : Int) = ((1024 : Nat) : Int) from rfl, B.or_nat _ _ (by omega) (by omega), g2.resolve_left (by omega)]; rfl
  · rw [show (512 : Int) = ((512 : Nat) : Int) from rfl, B.or_nat _ _ (by omega) (by omega), g3.resolve_left (by omega)]; rfl
theorem sg_range' (b : Int) (i : Nat) : 0 ≤ sg b i ∧ sg b i ≤ 255 := by
  unfold sg; split <;> (try split) <;> (try split) <;> omega
theorem last_range (is : Bool) (sign b : Int) (h0 : 32 ≤ sign) (h1 : sign ≤ 255) : 0 ≤ lastF is sign b ∧ lastF is sign b ≤ 255 := by
  unfold lastF
  have := sg_range' b 2
  split
  · split <;> omega
  · exact this
theorem mode_back (kd m : Int) (h0 : 0 ≤ m) (h1 : m < 4096) : mS (showS kd m) 3 = m := by
  have hL : showS kd m = strOfNums (preL kd m 3) := rfl
  have r0 := clsS_range' m 0
  have r1 := clsS_range' m 1
  have r2 := clsS_range' m 2
  obtain ⟨p0, q0⟩ := class_back (showS kd m) 0 (by decide) (clsS m 0) r0.1 r0.2 (m / 2048 % 2 == 1)
    (chr_str _ _ _ (by rfl) (sg_range' _ _).1 (sg_range' _ _).2) (chr_str _ _ _ (by rfl) (sg_range' _ _).1 (sg_range' _ _).2)
    (by rw [show signK 0 = 115 from rfl, ← last_eq']; exact chr_str _ _ _ (by rfl) (by rw [last_eq']; exact (last_range _ _ _ (by decide) (by decide)).1) (by rw [last_eq']; exact (last_range _ _ _ (by decide) (by decide)).2))
  obtain ⟨p1, q1⟩ := class_back (showS kd m) 1 (by decide) (clsS m 1) r1.1 r1.2 (m / 1024 % 2 == 1)
    (chr_str _ _ _ (by rfl) (sg_range' _ _).1 (sg_range' _ _).2) (chr_str _ _ _ (by rfl) (sg_range' _ _).1 (sg_range' _ _).2)
    (by rw [show signK 1 = 115 from rfl, ← last_eq']; exact chr_str _ _ _ (by rfl) (by rw [last_eq']; exact (last_range _ _ _ (by decide) (by decide)).1) (by rw [last_eq']; exact (last_range _ _ _ (by decide) (by decide)).2))
  obtain ⟨p2, q2⟩ := class_back (showS kd m) 2 (by decide) (clsS m 2) r2.1 r2.2 (m / 512 % 2 == 1)
    (chr_str _ _ _ (by rfl) (sg_range' _ _).1 (sg_range' _ _).2) (chr_str _ _ _ (by rfl) (sg_range' _ _).1 (sg_range' _ _).2)
    (by rw [show signK 2 = 116 from rfl, ← last_eq']; exact chr_str _ _ _ (by rfl) (by rw [last_eq']; exact (last_range _ _ _ (by decide) (by decide)).1) (by rw [last_eq']; exact (last_range _ _ _ (by decide) (by decide)).2))
  have e0 : bI (showS kd m) 0 3 = clsS m 0 := p0
  have e1 : bI (showS kd m) 1 3 = clsS m 1 := p1
  have e2 : bI (showS kd m) 2 3 = clsS m 2 := p2
  simp only [mS, e0, e1, e2, q0, q1, q2, show bitK 0 = 2048 from rfl, show bitK 1 = 1024 from rfl, show bitK 2 = 512 from rfl]
  have a0 : (if (m / 2048 % 2 == 1) = true then Go.bits .or .i64 0 2048 else 0) = m / 2048 % 2 * 2048 := by
    by_cases h : m / 2048 % 2 = 1
    · rw [if_pos (beq_iff_eq.2 h), (or_clear 0 (by decide) (by decide)).1 (by decide), h]; rfl
    · rw [if_neg (by simpa using h)]; omega
  rw [a0]
  have w0 : withS (m / 2048 % 2 * 2048) ((0 : Nat) : Int) (clsS m 0) = m / 2048 % 2 * 2048 + m / 64 % 8 * 64 := by
    simp [withS, clsS]; omega
  rw [w0]
  have a1 : (if (m / 1024 % 2 == 1) = true then Go.bits .or .i64 (m / 2048 % 2 * 2048 + m / 64 % 8 * 64) 1024 else m / 2048 % 2 * 2048 + m / 64 % 8 * 64) = m / 2048 % 2 * 2048 + m / 1024 % 2 * 1024 + m / 64 % 8 * 64 := by
    by_cases h : m / 1024 % 2 = 1
    · rw [if_pos (beq_iff_eq.2 h), (or_clear _ (by omega) (by omega)).2.1 (by omega), h]; omega
    · rw [if_neg (by simpa using h)]; omega
  rw [a1]
  have w1 : withS (m / 2048 % 2 * 2048 + m / 1024 % 2 * 1024 + m / 64 % 8 * 64) ((1 : Nat) : Int) (clsS m 1) = m / 2048 % 2 * 2048 + m / 1024 % 2 * 1024 + m / 64 % 8 * 64 + m / 8 % 8 * 8 := by
    simp [withS, clsS]; omega
  rw [w1]
  have a2 : (if (m / 512 % 2 == 1) = true then Go.bits .or .i64 (m / 2048 % 2 * 2048 + m / 1024 % 2 * 1024 + m / 64 % 8 * 64 + m / 8 % 8 * 8) 512 else m / 2048 % 2 * 2048 + m / 1024 % 2 * 1024 + m / 64 % 8 * 64 + m / 8 % 8 * 8) = m / 512 * 512 + m / 64 % 8 * 64 + m / 8 % 8 * 8 := by
    by_cases h : m / 512 % 2 = 1
    · rw [if_pos (beq_iff_eq.2 h), (or_clear _ (by omega) (by omega)).2.2 (by omega)]; omega
    · rw [if_neg (by simpa using h)]; omega
  rw [a2]
  simp [withS, clsS]; omega
theorem show_size (kd m : Int) : (showS kd m).size = 10 := by unfold showS; rw [strOfNums_size]; rfl
theorem kind_range (k : Int) : 0 ≤ kindS k ∧ kindS k ≤ 255 := by unfold kindS; split <;> (try split) <;> (try split) <;> omega
theorem show_kind (q k m : Int) (hq : 0 ≤ q) (hq3 : q ≤ 3) (hk : 0 ≤ k) (hk3 : k ≤ 3) (h : showS q m = showS k m) : q = k := by
  have h1 : chr (showS q m) 0 = kindS q := chr_str _ _ _ (by rfl) (kind_range _).1 (kind_range _).2
  have h2 : chr (showS k m) 0 = kindS k := chr_str _ _ _ (by rfl) (kind_range _).1 (kind_range _).2
  rw [h, h2] at h1
  rcases (show q = 0 ∨ q = 1 ∨ q = 2 ∨ q = 3 by omega) with rfl | rfl | rfl | rfl <;> rcases (show k = 0 ∨ k = 1 ∨ k = 2 ∨ k = 3 by omega) with rfl | rfl | rfl | rfl <;> first | rfl | (exfalso; revert h1; decide)
/-- What is shown is read as it was. -/
theorem read_show (k : Nat) (hk : k < 4) (m : Int) (h0 : 0 ≤ m) (h1 : m < 4096) : readS (showS k m) = ((k : Int), m, true) := by
  have hb := mode_back (k : Int) m h0 h1
  have := readS_yes (showS k m) (show_size _ _) k hk (by
    intro q hq h
    rw [hb] at h
    have := show_kind q k m (by omega) (by omega) (by omega) (by omega) h
    omega) (by rw [hb])
  rwa [hb] at this
end Go.Proofs.Ytbbobjchokffbaa.L
