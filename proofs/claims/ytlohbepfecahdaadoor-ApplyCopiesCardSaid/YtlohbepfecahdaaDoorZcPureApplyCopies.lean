/- ApplyCopies: with a copy, and equals, a class has the three bits of the other one, and the three bits besides are cleared of those that are named. Pure part: numbers and lists alone. -/
import Derived.Test.YtlohbepfecahdaaDoorZcLu
import Derived.Test.YtlohbepfecahdaaDoorZcS22
namespace Go.Proofs.YtlohbepfecahdaaDoor.Pure
open Go.RowKit Go.Proofs.YtlohbepfecahdaaDoor.S Go.Proofs.YtlohbepfecahdaaDoor.L Go.Proofs.YtlohbepfecahdaaDoorW.PrintWords Go.Proofs.YtlohbepfecahdaaDoorW.PrintLast
set_option linter.unusedVariables false
theorem u8r2 {x : Int} (h : (Lit.int .u8 x).wf = true) : 0 ≤ x ∧ x ≤ 255 := by simpa [Lit.wf, IntKind.min, IntKind.max, IntKind.signed, IntKind.bits] using h
theorem u16r2 {x : Int} (h : (Lit.int .u16 x).wf = true) : 0 ≤ x ∧ x ≤ 65535 := by simpa [Lit.wf, IntKind.min, IntKind.max, IntKind.signed, IntKind.bits] using h
theorem top_all : (List.range 4096).all (fun m => (Go.bits .and .i64 (shr .i64 (m : Int) 11) 1 == (if m.testBit 11 then 1 else 0)) && ((Go.bits .and .i64 (shr .i64 (m : Int) 10) 1 == (if m.testBit 10 then 1 else 0)) && (Go.bits .and .i64 (shr .i64 (m : Int) 9) 1 == (if m.testBit 9 then 1 else 0)))) = true := by decide +kernel
theorem top_bit (m : Int) (hm : small m) (i : Nat) (hi : i < 3) : Go.bits .and .i64 (shr .i64 m (11 - (i : Int))) 1 = (if tb m (11 - i) = true then 1 else 0) := by
  obtain ⟨n, rfl⟩ := Int.eq_ofNat_of_zero_le hm.1
  have hn := hm.2
  have := List.all_eq_true.1 top_all n (List.mem_range.2 (by omega))
  simp only [Bool.and_eq_true, beq_iff_eq] at this
  rcases (show i = 0 ∨ i = 1 ∨ i = 2 by omega) with rfl | rfl | rfl
  · exact this.1
  · exact this.2.1
  · exact this.2.2
theorem shl_fin : ∀ k : Fin 3, shl .i64 1 (k.val : Int) = ((2 ^ k.val : Nat) : Int) ∧ (∀ i : Fin 12, tb ((2 ^ k.val : Nat) : Int) (clsI i.val) = decide (clsI i.val = k.val)) := by decide +kernel
theorem cls_three : ∀ b0 b1 b2_ : Bool, tb (val3 b0 b1 b2_) 0 = b0 ∧ tb (val3 b0 b1 b2_) 1 = b1 ∧ tb (val3 b0 b1 b2_) 2 = b2_ := by decide +kernel
/-- A copy: the class's bits. -/
theorem copies (k j : Nat) (hk : k < 3) (hj : j < 3) (m : Int) (hm : small m) (d : Bool) (u : Int) :
    small (actV 61 ((2 ^ k : Nat) : Int) 0 ((j : Int) + 1) m d u) ∧ clsS (actV 61 ((2 ^ k : Nat) : Int) 0 ((j : Int) + 1) m d u) (k : Int) = clsS m (j : Int) ∧ tb (actV 61 ((2 ^ k : Nat) : Int) 0 ((j : Int) + 1) m d u) (11 - k) = false ∧
    (∀ i, i < 3 → i ≠ k → clsS (actV 61 ((2 ^ k : Nat) : Int) 0 ((j : Int) + 1) m d u) (i : Int) = clsS m (i : Int) ∧ tb (actV 61 ((2 ^ k : Nat) : Int) 0 ((j : Int) + 1) m d u) (11 - i) = tb m (11 - i)) := by
  have hw : (0 : Int) < ((2 ^ k : Nat) : Int) ∧ ((2 ^ k : Nat) : Int) ≤ 7 := by rcases (show k = 0 ∨ k = 1 ∨ k = 2 by omega) with rfl | rfl | rfl <;> decide
  obtain ⟨_, sh⟩ := shl_fin ⟨k, hk⟩
  obtain ⟨xr, xb⟩ := actV_bit 61 ((2 ^ k : Nat) : Int) 0 ((j : Int) + 1) m d u (by decide) (by omega) hw.2 (by decide) (by decide) (by omega) (by omega) hm.1 hm.2
  generalize hx : actV 61 ((2 ^ k : Nat) : Int) 0 ((j : Int) + 1) m d u = x at xr xb ⊢
  have hb : ∀ i, i < 12 → tb x i = if clsI i = k then (decide (i < 9) && tb (clsS m (j : Int)) (i % 3)) else tb m i := by
    intro i hi
    rw [xb i hi]
    unfold actB hasB inB
    rw [if_neg (by decide), if_neg (by decide), if_pos rfl, if_neg (by omega), if_pos (by omega), Int.add_sub_cancel, sh ⟨i, hi⟩, decide_eq_true (show ((2 ^ k : Nat) : Int) > 0 by omega)]
    by_cases hc : clsI i = k
    · rw [if_pos hc]; simp [hc]
    · rw [if_neg hc]; simp [hc]
  have cm : tb (clsS m (j : Int)) 0 = tb m (6 - 3 * j) ∧ tb (clsS m (j : Int)) 1 = tb m (7 - 3 * j) ∧ tb (clsS m (j : Int)) 2 = tb m (8 - 3 * j) ∧ clsS m (j : Int) = val3 (tb (clsS m (j : Int)) 0) (tb (clsS m (j : Int)) 1) (tb (clsS m (j : Int)) 2) := by
    obtain ⟨a0, a1, a2⟩ := cls_bits m hm
    rcases (show j = 0 ∨ j = 1 ∨ j = 2 by omega) with rfl | rfl | rfl
    · rw [show (((0 : Nat) : Int)) = 0 from rfl, a0]
      obtain ⟨e0, e1, e2⟩ := cls_three (tb m 6) (tb m 7) (tb m 8)
      rw [e0, e1, e2]; exact ⟨rfl, rfl, rfl, rfl⟩
    · rw [show (((1 : Nat) : Int)) = 1 from rfl, a1]
      obtain ⟨e0, e1, e2⟩ := cls_three (tb m 3) (tb m 4) (tb m 5)
      rw [e0, e1, e2]; exact ⟨rfl, rfl, rfl, rfl⟩
    · rw [show (((2 : Nat) : Int)) = 2 from rfl, a2]
      obtain ⟨e0, e1, e2⟩ := cls_three (tb m 0) (tb m 1) (tb m 2)
      rw [e0, e1, e2]; exact ⟨rfl, rfl, rfl, rfl⟩
  refine ⟨xr, ?_, ?_, fun i hi hne => ⟨?_, ?_⟩⟩
  · obtain ⟨b0, b1, b2_⟩ := cls_bits x xr
    rw [cm.2.2.2]
    rcases (show k = 0 ∨ k = 1 ∨ k = 2 by omega) with rfl | rfl | rfl
    · rw [show (((0 : Nat) : Int)) = 0 from rfl, b0, hb 6 (by decide), hb 7 (by decide), hb 8 (by decide)]; rfl
    · rw [show (((1 : Nat) : Int)) = 1 from rfl, b1, hb 3 (by decide), hb 4 (by decide), hb 5 (by decide)]; rfl
    · rw [show (((2 : Nat) : Int)) = 2 from rfl, b2_, hb 0 (by decide), hb 1 (by decide), hb 2 (by decide)]; rfl
  · rw [hb (11 - k) (by omega)]
    rcases (show k = 0 ∨ k = 1 ∨ k = 2 by omega) with rfl | rfl | rfl <;> rfl
  · exact cls_eq x m xr hm i hi fun q hq hc h9 => by rw [hb q hq, if_neg (by omega)]
  · rw [hb (11 - i) (by omega), if_neg]
    rcases (show i = 0 ∨ i = 1 ∨ i = 2 by omega) with rfl | rfl | rfl
    · exact fun h => hne (by have : clsI (11 - 0) = 0 := rfl; omega)
    · exact fun h => hne (by have : clsI (11 - 1) = 1 := rfl; omega)
    · exact fun h => hne (by have : clsI (11 - 2) = 2 := rfl; omega)
theorem copies_loop (kk : Nat) (m x : Int) (hm : small m) (hx : small x) (h : ∀ i, i < 3 → i ≠ kk → clsS x (i : Int) = clsS m (i : Int) ∧ tb x (11 - i) = tb m (11 - i)) (n : Nat) : ∀ (k i : Nat), i + n = 3 → n + 5 < k →
    gaolerlaw03_ApplyCopies.l0 k (kk : Int) m x (i : Int) = some true := by
  induction n with
  | zero =>
    intro k i hi hk
    obtain ⟨k, rfl⟩ : ∃ q, k = q + 1 := ⟨k - 1, by omega⟩
    simp only [gaolerlaw03_ApplyCopies.l0]
    rw [if_neg (by omega)]
  | succ n ih =>
    intro k i hi hk
    obtain ⟨k, rfl⟩ : ∃ q, k = q + 1 := ⟨k - 1, by omega⟩
    have go := ih k (i + 1) (by omega) (by omega)
    simp only [gaolerlaw03_ApplyCopies.l0, modes_Class.f, Option.bind_some]
    rw [if_pos (by omega), wsucc i (by omega), go, w64 (11 - (i : Int)) (by omega) (by omega), top_bit x hx i (by omega), top_bit m hm i (by omega)]
    by_cases he : (i : Int) = (kk : Int)
    · rw [if_pos he]
    · obtain ⟨e1, e2⟩ := h i (by omega) (by omega)
      rw [if_neg he, e1, e2, if_pos rfl, if_pos (by omega), if_pos rfl]
theorem ApplyCopies : gaolerlaw03_ApplyCopies.Pure := by
  intro a0 a1 a2 a3 a4 w0 w1 w2 w4
  have h0 := u8r2 w0
  have h1 := u8r2 w1
  have h2 := u16r2 w2
  have h4 := u16r2 w4
  obtain ⟨kk, hkk⟩ := Int.eq_ofNat_of_zero_le (show 0 ≤ a0 % 3 by omega)
  obtain ⟨j, hj⟩ := Int.eq_ofNat_of_zero_le (show 0 ≤ a1 % 3 by omega)
  have hk3 : kk < 3 := by omega
  have hj3 : j < 3 := by omega
  have hm : small (a2 % 4096) := ⟨by omega, by omega⟩
  have hw : (0 : Int) < ((2 ^ kk : Nat) : Int) ∧ ((2 ^ kk : Nat) : Int) ≤ 7 := by rcases (show kk = 0 ∨ kk = 1 ∨ kk = 2 by omega) with rfl | rfl | rfl <;> decide
  obtain ⟨c1, c2, c3, c4⟩ := copies kk j hk3 hj3 (a2 % 4096) hm a3 a4
  have hr : rightC ⟨((2 ^ kk : Nat) : Int), [⟨61, 0, (j : Int) + 1⟩]⟩ = true := by
    have q1 : 0 ≤ ((2 ^ kk : Nat) : Int) := Int.le_of_lt hw.1
    have q2 := hw.2
    have q3 : 0 ≤ (j : Int) + 1 := by clear hw q1 q2 c1 c2 c3 c4; omega
    have q4 : (j : Int) + 1 ≤ 3 := by clear hw q1 q2 c1 c2 c3 c4; omega
    have ho : signI 61 = true := by decide
    generalize ((2 ^ kk : Nat) : Int) = w at q1 q2 ⊢
    simp [rightC, rightA, ho, q1, q2, q3, q4]
  have e0 : wrap64 (Int.tmod a0 3) = (kk : Int) := by rw [Int.tmod_eq_emod_of_nonneg h0.1, hkk, w64 _ (by omega) (by omega)]
  have e1 : wrap64 (Int.tmod a1 3) = (j : Int) := by rw [Int.tmod_eq_emod_of_nonneg h1.1, hj, w64 _ (by omega) (by omega)]
  have e2 : wrap64 (Int.tmod a2 4096) = a2 % 4096 := by rw [Int.tmod_eq_emod_of_nonneg h2.1, w64 _ (by omega) (by omega)]
  have e4 : wrap64 a4 = a4 := w64 _ (by omega) (by omega)
  have ej : wrap64 ((j : Int) + 1) = (j : Int) + 1 := w64 _ (by omega) (by omega)
  clear w0 w1 w2 w4 hkk hj h0 h1 h2 h4
  obtain ⟨sh, _⟩ := shl_fin ⟨kk, hk3⟩
  refine ⟨2000000, ?_⟩
  obtain ⟨k, hk⟩ : ∃ k, k = 2000000 := ⟨_, rfl⟩
  rw [← hk]
  have hk1 : 60 ≤ k := by rw [hk]; decide
  have hk3k : 1100000 < k := by rw [hk]; decide
  clear hk
  unfold gaolerlaw03_ApplyCopies.f
  rw [awake3 k hk1, Option.bind_some, if_pos rfl, e0, e1, e2, e4, ej, if_pos (Int.natCast_nonneg kk), sh, apply_eq _ (one_sized _ 61 0 _ (by decide) (by decide)) _ a3 a4 k hk3k, Option.bind_some, one_act _ _ _ _ _ a3 a4 hr hm]
  clear sh hr hw e0 e1 e2 e4 ej
  generalize actV 61 ((2 ^ kk : Nat) : Int) 0 ((j : Int) + 1) (a2 % 4096) a3 a4 = x at c1 c2 c3 c4 ⊢
  clear hk1
  have s1 : 0 ≤ 11 - (kk : Int) := by clear c1 c2 c3 c4 hm; omega
  have s2 : wrap64 (11 - (kk : Int)) = 11 - (kk : Int) := w64 _ (by clear c1 c2 c3 c4 hm; omega) (by clear c1 c2 c3 c4 hm; omega)
  unfold modes_Class.f
  rw [Option.bind_some, Option.bind_some, if_pos c2, s2, if_pos s1, top_bit x c1 kk hk3, c3]
  obtain ⟨k, rfl⟩ : ∃ q, k = q + 1 := ⟨k - 1, by clear c1 c2 c3 c4 s2 hm; omega⟩
  simp only [gaolerlaw03_ApplyCopies.j0]
  rw [if_neg (by decide)]
  exact copies_loop kk _ x hm c1 c4 3 k 0 rfl (by clear c1 c2 c3 c4 s2 hm; omega)
end Go.Proofs.YtlohbepfecahdaaDoor.Pure
