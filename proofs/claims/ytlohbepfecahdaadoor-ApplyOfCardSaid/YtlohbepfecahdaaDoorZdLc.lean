/- Plain facts: the reference's one and Parse tell the same clauses as the program's. No machine in sight. -/
import Derived.Test.YtlohbepfecahdaaDoorZdLb
namespace Go.Proofs.YtlohbepfecahdaaDoor.L
open Go.RowKit Go.Proofs.YtlohbepfecahdaaDoor.S Go.Proofs.YtlohbepfecahdaaDoorW.PrintWords Go.Proofs.YtlohbepfecahdaaDoorW.PrintLast
set_option linter.unusedVariables false
set_option linter.unusedSimpArgs false
def cv (a : S60) : S75 := ⟨a.f0, a.f1, a.f2⟩
def cvC (c : S34) : S72 := ⟨c.f0, c.f1.map cv⟩
theorem inU (c : UInt8) : 0 ≤ Lib.indexByte [117, 103, 111, 97] c ↔ isU c = true := by
  rw [index_mem]; simp [isU, or_assoc]
theorem inP (c : UInt8) : 0 ≤ Lib.indexByte [120, 119, 114, 88, 115, 116] c ↔ isP c = true := by
  rw [index_mem]; simp [isP, or_assoc]
theorem inS (c : UInt8) : 0 ≤ Lib.indexByte [43, 45, 61] c ↔ signK c = true := by
  rw [index_mem]; simp [signK, or_assoc]
theorem rone_l0 (s : List UInt8) (hs : s.length < 10000) (R : Int × List S75 × Bool) (B : Nat) (hB : 100 ≤ B) (n : Nat) : ∀ (k i : Nat), i ≤ s.length → s.length - i = n → n + B + 1 < k →
    (∀ k', B < k' → gaolerref02_one.j1 k' (T s) ((i + ((s.drop i).takeWhile isU).length : Nat) : Int) = some R) → gaolerref02_one.l0 k (T s) (i : Int) = some R := by
  induction n with
  | zero =>
    intro k i h1 hd hk hJ
    obtain ⟨k, rfl⟩ : ∃ m, k = m + 1 := ⟨k - 1, by omega⟩
    simp only [gaolerref02_one.l0]
    rw [if_neg (by rw [T_size]; omega)]
    have := hJ k (by omega)
    rw [List.drop_eq_nil_of_le (by omega)] at this
    exact this
  | succ n ih =>
    intro k i h1 hd hk hJ
    obtain ⟨k, rfl⟩ : ∃ m, k = m + 1 := ⟨k - 1, by omega⟩
    have hlt : i < s.length := by omega
    have hdrop : s.drop i = s[i] :: s.drop (i + 1) := (List.getElem_cons_drop hlt).symm
    simp only [gaolerref02_one.l0]
    rw [if_pos (by rw [T_size]; omega), if_pos (by omega), bt_T s i hlt, show (⟨#[117, 103, 111, 97]⟩ : ByteArray) = T [117, 103, 111, 97] from rfl, place_eq _ _ (by decide) k (by simp; omega), Option.bind_some]
    by_cases hu : isU s[i] = true
    · rw [if_pos ((inU _).2 hu), wsucc i (by omega)]
      refine ih k (i + 1) (by omega) (by omega) (by omega) fun k' hk' => ?_
      have := hJ k' hk'
      rw [hdrop, List.takeWhile_cons_of_pos hu, List.length_cons] at this
      rw [show i + 1 + ((s.drop (i + 1)).takeWhile isU).length = i + (((s.drop (i + 1)).takeWhile isU).length + 1) by omega]
      exact this
    · rw [if_neg (fun h => hu ((inU _).1 h))]
      have := hJ k (by omega)
      rw [hdrop, List.takeWhile_cons_of_neg hu] at this
      exact this
theorem rone_l2 (s : List UInt8) (hs : s.length < 10000) (w o q : Int) (p : Int) (acc : List S75) (ha : acc.length < 100000) (f : Nat) (R : Int × List S75 × Bool) (K : Nat) (hK : 20000 < K) (n : Nat) : ∀ (k i : Nat), f ≤ i → i ≤ s.length → s.length - i = n → n + K < k →
    (∀ k', K ≤ k' → gaolerref02_one.l1 k' (T s) ((i + ((s.drop i).takeWhile isP).length : Nat) : Int) w (acc ++ [(⟨o, sumF ((s.drop f).take (i + ((s.drop i).takeWhile isP).length - f)) [120, 119, 114, 88, 115, 116] 0 0, q⟩ : S75)]) = some R) →
    gaolerref02_one.l2 k (T s) (i : Int) (f : Int) w acc o p q = some R := by
  induction n with
  | zero =>
    intro k i hf h1 hd hk hJ
    obtain ⟨k, rfl⟩ : ∃ m, k = m + 1 := ⟨k - 1, by omega⟩
    have := hJ k (by omega)
    rw [List.drop_eq_nil_of_le (show s.length ≤ i by omega)] at this
    simp only [gaolerref02_one.l2]
    rw [if_neg (by rw [T_size]; omega), if_pos (by omega), if_pos (by omega), if_pos (by rw [T_size]; omega), Int.toNat_natCast, Int.toNat_natCast, T_ext, show (⟨#[120, 119, 114, 88, 115, 116]⟩ : ByteArray) = T [120, 119, 114, 88, 115, 116] from rfl,
      sum_eq _ _ (by rw [List.length_take, List.length_drop]; omega) (by decide) k (by omega), Option.bind_some, if_pos (by omega)]
    exact this
  | succ n ih =>
    intro k i hf h1 hd hk hJ
    obtain ⟨k, rfl⟩ : ∃ m, k = m + 1 := ⟨k - 1, by omega⟩
    have hlt : i < s.length := by omega
    have hdrop : s.drop i = s[i] :: s.drop (i + 1) := (List.getElem_cons_drop hlt).symm
    simp only [gaolerref02_one.l2]
    rw [if_pos (by rw [T_size]; omega), if_pos (by omega), bt_T s i hlt, show (⟨#[120, 119, 114, 88, 115, 116]⟩ : ByteArray) = T [120, 119, 114, 88, 115, 116] from rfl, place_eq _ _ (by decide) k (by simp; omega), Option.bind_some]
    by_cases hu : isP s[i] = true
    · rw [if_pos ((inP _).2 hu), wsucc i (by omega)]
      refine ih k (i + 1) (by omega) (by omega) (by omega) (by omega) fun k' hk' => ?_
      have := hJ k' hk'
      rw [hdrop, List.takeWhile_cons_of_pos hu, List.length_cons] at this
      rw [show i + 1 + ((s.drop (i + 1)).takeWhile isP).length = i + (((s.drop (i + 1)).takeWhile isP).length + 1) by omega]
      exact this
    · rw [if_neg (fun h => hu ((inP _).1 h))]
      have := hJ k (by omega)
      rw [hdrop, List.takeWhile_cons_of_neg hu, List.length_nil, Nat.add_zero] at this
      rw [if_pos (by omega), if_pos (by omega), if_pos (by rw [T_size]; omega), Int.toNat_natCast, Int.toNat_natCast, T_ext,
        sum_eq _ _ (by rw [List.length_take, List.length_drop]; omega) (by decide) k (by omega), Option.bind_some, if_pos (by omega)]
      exact this
theorem tw_take (p : UInt8 → Bool) : ∀ l : List UInt8, l.take (l.takeWhile p).length = l.takeWhile p ∧ l.drop (l.takeWhile p).length = l.dropWhile p ∧ (l.takeWhile p).length ≤ l.length
  | [] => ⟨rfl, rfl, Nat.le_refl _⟩
  | c :: l => by
    obtain ⟨h1, h2, h3⟩ := tw_take p l
    by_cases hc : p c = true
    · rw [List.takeWhile_cons_of_pos hc, List.dropWhile_cons_of_pos hc]
      simp [h1, h2, h3]
    · rw [List.takeWhile_cons_of_neg hc, List.dropWhile_cons_of_neg hc]
      simp
def rfin (w : Int) (acc : List S75) (r : List S60 × List UInt8) : Int × List S75 × Bool :=
  if r.2 = [] then (w, acc ++ r.1.map cv, decide (acc ++ r.1.map cv ≠ [])) else (0, [], false)
theorem decide_len (acc : List S75) : decide ((acc.length : Int) > 0) = decide (acc ≠ []) := by
  cases acc <;> simp <;> omega
set_option maxRecDepth 100000 in
theorem rone_l1 (s : List UInt8) (hs : s.length < 10000) (w : Int) (n : Nat) : ∀ (k i : Nat) (acc : List S75), i ≤ s.length → s.length - i ≤ n → n * 10010 + 30000 < k → acc.length ≤ i →
    gaolerref02_one.l1 k (T s) (i : Int) w acc = some (rfin w acc (actsN n (s.drop i))) := by
  induction n with
  | zero =>
    intro k i acc h1 hd hk ha
    obtain ⟨k, rfl⟩ : ∃ m, k = m + 1 := ⟨k - 1, by omega⟩
    simp only [gaolerref02_one.l1]
    rw [if_neg (by rw [T_size]; omega), List.drop_eq_nil_of_le (by omega), decide_len]
    simp [rfin, actsN]
  | succ n ih =>
    intro k i acc h1 hd hk ha
    obtain ⟨k, rfl⟩ : ∃ m, k = m + 1 := ⟨k - 1, by omega⟩
    simp only [gaolerref02_one.l1]
    by_cases hlt : i < s.length
    · have hdrop : s.drop i = s[i] :: s.drop (i + 1) := (List.getElem_cons_drop hlt).symm
      rw [if_pos (by rw [T_size]; omega), if_pos (by omega), bt_T s i hlt, show (⟨#[43, 45, 61]⟩ : ByteArray) = T [43, 45, 61] from rfl, place_eq _ _ (by decide) k (by simp; omega), Option.bind_some]
      obtain ⟨c, hc⟩ : ∃ c, s[i] = c := ⟨_, rfl⟩
      rw [hc] at hdrop ⊢
      cases hsg : signK c with
      | false =>
        have hneg : Lib.indexByte [43, 45, 61] c < 0 := by
          have := inS c
          rw [hsg] at this
          simp at this; exact this
        rw [if_pos hneg, hdrop]
        simp [actsN, actS, hsg, rfin]
      | true =>
        obtain ⟨K, hK⟩ : ∃ K, n * 10010 + 30001 = K := ⟨_, rfl⟩
        have hge : ¬ Lib.indexByte [43, 45, 61] c < 0 := by have := (inS c).2 hsg; omega
        have hc0 : (c.toNat : Int) ≠ 0 := by
          unfold signK at hsg
          simp at hsg
          rcases hsg with (rfl | rfl) | rfl <;> decide
        rw [if_neg hge, wsucc i (by omega)]
        have fin : ∀ (x : Int × Int × Int) (r : List UInt8), actS (c :: s.drop (i + 1)) = (x, r) → x.1 = (c.toNat : Int) → rfin w acc (actsN (n + 1) (s.drop i)) = rfin w (acc ++ [(⟨x.1, x.2.1, x.2.2⟩ : S75)]) (actsN n r) := by
          intro x r hx h1
          rw [hdrop]
          simp only [actsN]
          rw [hx]
          simp only [h1, hc0, if_false]
          simp only [rfin, List.map_cons, List.append_assoc, List.singleton_append, cv]
        by_cases hl : i + 1 < s.length
        · have hdrop2 : s.drop (i + 1) = s[i + 1] :: s.drop (i + 2) := (List.getElem_cons_drop hl).symm
          obtain ⟨d, hd2⟩ : ∃ d, s[i + 1] = d := ⟨_, rfl⟩
          rw [if_pos (by rw [T_size]; omega), if_pos (by omega), bt_T s (i + 1) hl, show (⟨#[117, 103, 111]⟩ : ByteArray) = T [117, 103, 111] from rfl, place_eq _ _ (by decide) k (by simp; omega), Option.bind_some, hd2, class_at]
          rw [hd2] at hdrop2
          obtain ⟨k, rfl⟩ : ∃ m, k = m + 1 := ⟨k - 1, by omega⟩
          simp only [gaolerref02_one.j4]
          rcases classK_rng d with hk1 | ⟨hk0, hk2⟩
          · rw [if_neg (by rw [hk1]; decide)]
            refine rone_l2 s hs w _ _ _ acc (by omega) (i + 1) _ K (by omega) (s.length - (i + 1)) k (i + 1) (Nat.le_refl _) (by omega) rfl (by omega) fun k' hk' => ?_
            have hx : actS (c :: s.drop (i + 1)) = (((c.toNat : Int), (permS 0 (s.drop (i + 1))).1, 0), (permS 0 (s.drop (i + 1))).2) := by
              rw [hdrop2]
              show (if signK c = false then _ else if 0 ≤ classK d then _ else _) = _
              rw [if_neg (by rw [hsg]; decide), if_neg (by omega)]
            rw [fin _ _ hx rfl, perm_sum]
            obtain ⟨t1, t2, t3⟩ := tw_take isP (s.drop (i + 1))
            rw [List.length_drop] at t3
            have e1 : (s.drop (i + 1)).take (i + 1 + ((s.drop (i + 1)).takeWhile isP).length - (i + 1)) = (s.drop (i + 1)).takeWhile isP := by
              rw [Nat.add_sub_cancel_left, t1]
            have e2 : s.drop (i + 1 + ((s.drop (i + 1)).takeWhile isP).length) = (s.drop (i + 1)).dropWhile isP := by
              rw [← List.drop_drop, t2]
            rw [e1, ih k' (i + 1 + ((s.drop (i + 1)).takeWhile isP).length) _ (by omega) (by omega) (by omega) (by simp; omega), e2]
          · rw [if_pos (by exact decide_eq_true hk0), if_pos (by omega), if_pos (by rw [T_size]; omega), bt_T s (i + 1) hl, show (⟨#[117, 103, 111]⟩ : ByteArray) = T [117, 103, 111] from rfl, place_eq _ _ (by decide) k (by simp; omega), Option.bind_some, hd2, class_at, if_pos (by omega), wsucc (i + 1) (by omega), w64 _ (by omega) (by omega)]
            have hx : actS (c :: s.drop (i + 1)) = ((((c.toNat : Int), 0, classK d + 1) : Int × Int × Int), s.drop (i + 2)) := by
              rw [hdrop2]
              show (if signK c = false then _ else if 0 ≤ classK d then _ else _) = _
              rw [if_neg (by rw [hsg]; decide), if_pos hk0]
            rw [fin _ _ hx rfl, ih k (i + 1 + 1) _ (by omega) (by omega) (by omega) (by simp; omega)]
        · rw [if_neg (by rw [T_size]; omega)]
          obtain ⟨k, rfl⟩ : ∃ m, k = m + 1 := ⟨k - 1, by omega⟩
          simp only [gaolerref02_one.j4]
          rw [if_neg (by decide)]
          have hnil : s.drop (i + 1) = [] := List.drop_eq_nil_of_le (by omega)
          refine rone_l2 s hs w _ _ _ acc (by omega) (i + 1) _ K (by omega) (s.length - (i + 1)) k (i + 1) (Nat.le_refl _) (by omega) rfl (by omega) fun k' hk' => ?_
          have hx : actS (c :: s.drop (i + 1)) = ((((c.toNat : Int), 0, 0) : Int × Int × Int), []) := by
            rw [hnil]
            show (if signK c = false then _ else _) = _
            rw [if_neg (by rw [hsg]; decide)]
          rw [fin _ _ hx rfl, hnil]
          simp only [List.takeWhile_nil, List.length_nil, Nat.add_zero, Nat.sub_self, List.take_nil]
          rw [ih k' (i + 1) _ (by omega) (by omega) (by omega) (by simp; omega), hnil]
          rfl
    · rw [if_neg (by rw [T_size]; omega), List.drop_eq_nil_of_le (by omega), decide_len]
      simp [rfin, actsN, actS]
theorem rone_eq (s : List UInt8) (hs : s.length < 1000) (k : Nat) (hk : 30000000 < k) : gaolerref02_one.f k (T s) = some (rfin (whoS 0 s).1 [] (actsN s.length (whoS 0 s).2)) := by
  unfold gaolerref02_one.f
  obtain ⟨t1, t2, t3⟩ := tw_take isU s
  have hw := who_sum s
  obtain ⟨B, hB⟩ : ∃ B, B = 20000000 := ⟨_, rfl⟩
  have := rone_l0 s (by omega) (rfin (whoS 0 s).1 [] (actsN s.length (whoS 0 s).2)) B (by omega) s.length k 0 (by omega) (by omega) (by omega)
  rw [show ((0 : Nat) : Int) = 0 from rfl, List.drop_zero, Nat.zero_add] at this
  refine this fun k' hk' => ?_
  obtain ⟨k', rfl⟩ : ∃ m, k' = m + 1 := ⟨k' - 1, by omega⟩
  simp only [gaolerref02_one.j1]
  have h97 : (0 ≤ Lib.indexByte (s.takeWhile isU) 97) ↔ has 97 (s.takeWhile isU) = true := by rw [index_mem, has_mem]
  have hp := place_eq (s.takeWhile isU) 97 (by omega) k' (by omega)
  rw [show (((97 : UInt8).toNat : Int)) = 97 from rfl] at hp
  rw [if_pos (by omega), if_pos (by rw [T_size]; omega), Int.toNat_natCast, T_ext, List.drop_zero, Nat.sub_zero, t1, show (⟨#[117, 103, 111]⟩ : ByteArray) = T [117, 103, 111] from rfl,
    sum_eq _ _ (by omega) (by decide) k' (by omega), Option.bind_some, hp, Option.bind_some]
  obtain ⟨k', rfl⟩ : ∃ m, k' = m + 1 := ⟨k' - 1, by omega⟩
  have fin := rone_l1 s (by omega) (whoS 0 s).1 s.length k' (s.takeWhile isU).length [] (by omega) (by omega) (by omega) (by simp)
  rw [t2, hw] at fin
  rw [hw]
  by_cases h : has 97 (s.takeWhile isU) = true
  · rw [if_pos (h97.2 h)]
    simp only [gaolerref02_one.j2]
    rw [if_pos h] at fin ⊢
    exact fin
  · rw [if_neg (fun h2 => h (h97.1 h2))]
    simp only [gaolerref02_one.j2]
    rw [if_neg h] at fin ⊢
    exact fin
theorem rone_yes (s : List UInt8) (h : (oneS s).2.2 = true) : rfin (whoS 0 s).1 [] (actsN s.length (whoS 0 s).2) = ((oneS s).1, (oneS s).2.1.map cv, true) := by
  unfold oneS at h
  simp only [decide_eq_true_eq] at h
  obtain ⟨h1, h2⟩ := h
  unfold rfin
  rw [if_pos h1, List.nil_append]
  have : decide (((actsN s.length (whoS 0 s).2).1.map cv) ≠ []) = true := by simpa using h2
  rw [this]; rfl
theorem rone_no (s : List UInt8) (h : ¬ (oneS s).2.2 = true) : (rfin (whoS 0 s).1 [] (actsN s.length (whoS 0 s).2)).2.2 = false := by
  unfold rfin
  by_cases h1 : (actsN s.length (whoS 0 s).2).2 = []
  · rw [if_pos h1, List.nil_append]
    by_cases h2 : (actsN s.length (whoS 0 s).2).1 = []
    · rw [h2]; rfl
    · exact absurd (decide_eq_true (And.intro h1 h2)) h
  · rw [if_neg h1]
theorem byte44 (c : UInt8) : ((c.toNat : Int) = 44) ↔ c = 44 := byte_is c 44
def pT : List UInt8 → List UInt8 → List (List UInt8)
  | cur, [] => []
  | cur, c :: l => if c = 44 then cur :: pT [] l else pT (cur ++ [c]) l
theorem pT_pcs : ∀ (l cur : List UInt8), pT cur (l ++ [44]) = pcs cur l
  | [], cur => by simp [pT, pcs]
  | c :: l, cur => by
    simp only [List.cons_append, pT, pcs]
    rw [pT_pcs l [], pT_pcs l (cur ++ [c])]
def pfin (acc : List S72) (r : Option (List S34)) : List S72 × Bool := match r with | some r => (acc ++ r.map cvC, true) | none => ([], false)
theorem rparse_loop (t : List UInt8) (ht : t.length < 1000) (B : Nat) (hB : 30000000 < B) (n : Nat) : ∀ (k f i : Nat) (acc : List S72), f ≤ i → i ≤ t.length → t.length - i = n → n + B + 1 < k → acc.length ≤ i →
    gaolerref02_Parse.l0 k acc (T t) (f : Int) (i : Int) = some (pfin acc (parseL (pT ((t.drop f).take (i - f)) (t.drop i)))) := by
  induction n with
  | zero =>
    intro k f i acc hf h1 hd hk ha
    obtain ⟨k, rfl⟩ : ∃ m, k = m + 1 := ⟨k - 1, by omega⟩
    simp only [gaolerref02_Parse.l0]
    rw [if_neg (by rw [T_size]; omega), List.drop_eq_nil_of_le (show t.length ≤ i by omega)]
    simp [pT, parseL, pfin]
  | succ n ih =>
    intro k f i acc hf h1 hd hk ha
    obtain ⟨k, rfl⟩ : ∃ m, k = m + 1 := ⟨k - 1, by omega⟩
    have hlt : i < t.length := by omega
    have hdrop : t.drop i = t[i] :: t.drop (i + 1) := (List.getElem_cons_drop hlt).symm
    have hl : ((t.drop f).take (i - f)).length < 1000 := by rw [List.length_take, List.length_drop]; omega
    simp only [gaolerref02_Parse.l0]
    rw [if_pos (by rw [T_size]; omega), if_pos (by omega), bt_T t i hlt, hdrop]
    simp only [pT]
    by_cases hc : t[i] = 44
    · rw [if_pos ((byte44 _).2 hc), if_pos hc, if_pos (by omega), if_pos (by omega), if_pos (by rw [T_size]; omega), Int.toNat_natCast, Int.toNat_natCast, T_ext, rone_eq _ hl k (by omega), Option.bind_some]
      simp only [parseL]
      by_cases ho : (oneS ((t.drop f).take (i - f))).2.2 = true
      · rw [rone_yes _ ho, if_pos ho, if_pos rfl, if_pos (by omega), wsucc i (by omega), ih k (i + 1) (i + 1) _ (Nat.le_refl _) (by omega) (by omega) (by omega) (by simp; omega), Nat.sub_self, List.take_zero]
        cases parseL (pT [] (t.drop (i + 1))) with
        | none => rfl
        | some r => simp [pfin, cvC]
      · rw [rone_no _ ho, if_neg ho, if_neg (by decide)]; rfl
    · rw [if_neg (fun h => hc ((byte44 _).1 h)), if_neg hc, wsucc i (by omega), ih k f (i + 1) acc (by omega) (by omega) (by omega) (by omega) (by omega)]
      have e : (t.drop f).take (i + 1 - f) = (t.drop f).take (i - f) ++ [t[i]] := by
        rw [show i + 1 - f = i - f + 1 by omega, List.take_succ_eq_append_getElem (by rw [List.length_drop]; omega), List.getElem_drop]
        congr 3; omega
      rw [e]
theorem rparse_eq (l : List UInt8) (hl : l.length < 900) (k : Nat) (hk : 40000000 < k) : gaolerref02_Parse.f k (T l) = some (pfin [] (parseL (pcs [] l))) := by
  unfold gaolerref02_Parse.f
  obtain ⟨B, hB⟩ : ∃ B, B = 35000000 := ⟨_, rfl⟩
  have := rparse_loop (l ++ [44]) (by simp; omega) B (by omega) (l ++ [44]).length k 0 0 [] (by omega) (by omega) (by omega) (by simp; omega) (by simp)
  rw [List.drop_zero, Nat.sub_zero, List.take_zero, pT_pcs] at this
  rw [if_pos (by rw [T_size]; omega), show (⟨#[44]⟩ : ByteArray) = T [44] from rfl, T_app]
  exact this
end Go.Proofs.YtlohbepfecahdaaDoor.L
