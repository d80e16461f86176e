/- Plain facts: what is shown is parsed as it was; what is parsed may be, and is shown by no longer text. No machine in sight. -/
import Derived.Test.YtlohbepfecahdaaDoorZbLf
namespace Go.Proofs.YtlohbepfecahdaaDoor.L
open Go.RowKit Go.Proofs.YtlohbepfecahdaaDoor.S Go.Proofs.YtlohbepfecahdaaDoorW.PrintWords Go.Proofs.YtlohbepfecahdaaDoorW.PrintLast
set_option linter.unusedVariables false
set_option linter.unusedSimpArgs false
theorem takeAll (p : UInt8 → Bool) : ∀ (l : List UInt8) (r : List UInt8), (∀ c ∈ l, p c = true) → (∀ c m, r = c :: m → p c = false) → (l ++ r).takeWhile p = l ∧ (l ++ r).dropWhile p = r
  | [], r, _, h => by
    cases r with
    | nil => exact ⟨rfl, rfl⟩
    | cons c m => rw [List.nil_append, List.takeWhile_cons_of_neg (by rw [h c m rfl]; decide), List.dropWhile_cons_of_neg (by rw [h c m rfl]; decide)]; exact ⟨rfl, rfl⟩
  | d :: l, r, hl, h => by
    obtain ⟨h1, h2⟩ := takeAll p l r (fun c hc => hl c (by simp [hc])) h
    rw [List.cons_append, List.takeWhile_cons_of_pos (hl d (by simp)), List.dropWhile_cons_of_pos (hl d (by simp)), h1, h2]
    exact ⟨rfl, rfl⟩
def begS (r : List UInt8) : Prop := ∀ c m, r = c :: m → signK c = true
theorem sign_not (c : UInt8) (h : signK c = true) : isU c = false ∧ isP c = false ∧ classK c = -1 ∧ c ≠ 44 ∧ (c.toNat : Int) ≠ 0 := by
  unfold signK at h
  simp at h
  rcases h with (rfl | rfl) | rfl <;> decide
theorem who_fin : ∀ n : Fin 8, (whoT (n.val : Int)).all isU = true ∧ (if has 97 (whoT (n.val : Int)) = true then 7 else sumF (whoT (n.val : Int)) [117, 103, 111] 0 0) = (n.val : Int) := by decide +kernel
theorem who_back (n : Int) (h0 : 0 ≤ n) (h7 : n ≤ 7) (r : List UInt8) (hr : begS r) : whoS 0 (whoT n ++ r) = (n, r) := by
  obtain ⟨m, rfl⟩ := Int.eq_ofNat_of_zero_le h0
  obtain ⟨f1, f2⟩ := who_fin ⟨m, by omega⟩
  simp only at f1 f2
  obtain ⟨t1, t2⟩ := takeAll isU (whoT (m : Int)) r (fun c hc => List.all_eq_true.1 f1 c hc) (fun c q h => (sign_not c (hr c q h)).1)
  rw [who_sum, t1, t2, f2]
theorem perm_fin : ∀ n : Fin 64, (permT (n.val : Int) permL).all isP = true ∧ sumF (permT (n.val : Int) permL) [120, 119, 114, 88, 115, 116] 0 0 = (n.val : Int) ∧ (permT (n.val : Int) permL = [] → n.val = 0) := by decide +kernel
theorem class_P (c : UInt8) (h : isP c = true) : classK c = -1 := by
  simp [isP] at h
  rcases h with ((((rfl | rfl) | rfl) | rfl) | rfl) | rfl <;> decide
theorem act_back (a : S60) (ha : rightA a = true) (r : List UInt8) (hr : begS r) : actS (textS a.f0 a.f1 a.f2 ++ r) = ((a.f0, a.f1, a.f2), r) := by
  simp [rightA] at ha
  obtain ⟨hs, h1, h2, h3, h4, h5⟩ := ha
  have hb : 0 ≤ a.f0 ∧ a.f0 ≤ 255 := by simp [signI] at hs; omega
  have hk : signK a.f0.toNat.toUInt8 = true := by rw [← signI_K _ hb.1 hb.2]; exact hs
  have ho := op_byte a.f0 hb.1 hb.2
  generalize a.f0.toNat.toUInt8 = c at hk ho
  obtain ⟨p, hp⟩ := Int.eq_ofNat_of_zero_le h1
  have key : ∀ (x : List UInt8), textS a.f0 a.f1 a.f2 = a.f0.toNat.toUInt8 :: x → True := fun _ _ => trivial
  have ht : textS a.f0 a.f1 a.f2 = c :: (if 0 < a.f2 then [classT a.f2] else permT a.f1 permL) := by
    unfold textS
    have : a.f0.toNat.toUInt8 = c := by
      apply UInt8.toNat.inj
      have := op_byte a.f0 hb.1 hb.2
      omega
    rw [this]
  rw [ht]
  by_cases hc : 0 < a.f2
  · have hp0 : a.f1 = 0 := by omega
    rw [if_pos hc, List.cons_append]
    show (if signK c = false then _ else if 0 ≤ classK (classT a.f2) then _ else _) = _
    have e : classK (classT a.f2) = a.f2 - 1 := by
      rcases (show a.f2 = 1 ∨ a.f2 = 2 ∨ a.f2 = 3 by omega) with h | h | h <;> rw [h] <;> decide
    rw [if_neg (by rw [hk]; decide), e, if_pos (by omega), ho, hp0, Int.sub_add_cancel]; rfl
  · have hc0 : a.f2 = 0 := by omega
    rw [if_neg hc, hc0, List.cons_append]
    obtain ⟨f1, f2, f3⟩ := perm_fin ⟨p, by omega⟩
    simp only at f1 f2 f3
    rw [← hp] at f1 f2 f3
    cases hm : permT a.f1 permL ++ r with
    | nil =>
      have h7 := List.append_eq_nil_iff.1 hm
      have hp0 : p = 0 := f3 h7.1
      show (if signK c = false then _ else _) = _
      rw [if_neg (by rw [hk]; decide), ho, hp, hp0, h7.2]; rfl
    | cons d m =>
      have hcl : classK d = -1 := by
        cases hL : permT a.f1 permL with
        | nil =>
          rw [hL, List.nil_append] at hm
          exact (sign_not d (hr d m hm)).2.2.1
        | cons d2 m2 =>
          rw [hL] at hm f1
          injection hm with hm _
          rw [← hm]
          exact class_P d2 (List.all_eq_true.1 f1 d2 (by simp))
      obtain ⟨t1, t2⟩ := takeAll isP (permT a.f1 permL) r (fun q hq => List.all_eq_true.1 f1 q hq) (fun q z h => (sign_not q (hr q z h)).2.1)
      show (if signK c = false then _ else if 0 ≤ classK d then _ else _) = _
      rw [if_neg (by rw [hk]; decide), if_neg (by rw [hcl]; decide), ← hm, perm_sum, t1, t2, f2, ho]
theorem text_beg (a : S60) (ha : rightA a = true) (r : List UInt8) : begS (textS a.f0 a.f1 a.f2 ++ r) := by
  intro c m h
  simp [rightA] at ha
  have hb : 0 ≤ a.f0 ∧ a.f0 ≤ 255 := by have := ha.1; simp [signI] at this; omega
  unfold textS at h
  rw [List.cons_append] at h
  injection h with h _
  rw [← h, ← signI_K _ hb.1 hb.2]; exact ha.1
theorem acts_beg (l : List S60) (hl : l.all rightA = true) : begS (actsT l) := by
  cases l with
  | nil => intro c m h; simp [actsT] at h
  | cons a l =>
    rw [List.all_cons, Bool.and_eq_true] at hl
    exact text_beg a hl.1 (actsT l)
theorem acts_back : ∀ (l : List S60) (n : Nat), l.all rightA = true → l.length ≤ n → actsN n (actsT l) = (l, [])
  | [], n, _, _ => by cases n <;> simp [actsN, actsT, actS]
  | a :: l, n, h, hn => by
    rw [List.all_cons, Bool.and_eq_true] at h
    obtain ⟨n, rfl⟩ : ∃ m, n = m + 1 := ⟨n - 1, by simp at hn; omega⟩
    have e : actsT (a :: l) = textS a.f0 a.f1 a.f2 ++ actsT l := rfl
    have hx := act_back a h.1 (actsT l) (acts_beg l h.2)
    have h0 : a.f0 ≠ 0 := by
      have := h.1; simp [rightA, signI] at this; omega
    simp only [actsN]
    rw [e, hx]
    simp only [h0, if_false]
    rw [acts_back l n h.2 (by simp at hn; omega)]
theorem acts_long (l : List S60) : l.length ≤ (actsT l).length := by
  induction l with
  | nil => simp
  | cons a l ih =>
    have e : actsT (a :: l) = textS a.f0 a.f1 a.f2 ++ actsT l := rfl
    rw [e, List.length_append, List.length_cons]
    have : 1 ≤ (textS a.f0 a.f1 a.f2).length := by unfold textS; simp
    omega
theorem one_back (c : S34) (h : rightC c = true) : oneS (showOne c) = (c.f0, c.f1, true) := by
  simp [rightC] at h
  obtain ⟨h0, h1, h2, h3⟩ := h
  have hall : c.f1.all rightA = true := List.all_eq_true.2 h3
  have hw := who_back c.f0 h0 h1 (actsT c.f1) (acts_beg c.f1 hall)
  have hlen : c.f1.length ≤ (showOne c).length := by
    unfold showOne; rw [List.length_append]; have := acts_long c.f1; omega
  have ha := acts_back c.f1 (showOne c).length hall hlen
  unfold oneS
  rw [show whoS 0 (showOne c) = (c.f0, actsT c.f1) from hw, ha]
  simp; intro he; exact h2 he
theorem text_comma (a : S60) (ha : rightA a = true) : 44 ∉ textS a.f0 a.f1 a.f2 := by
  have hk : signK a.f0.toNat.toUInt8 = true := text_beg a ha [] _ _ (by rw [List.append_nil]; rfl)
  simp [rightA] at ha
  unfold textS
  intro h
  rcases List.mem_cons.1 h with h | h
  · exact (sign_not _ hk).2.2.2.1 h.symm
  · split at h
    · have := List.mem_singleton.1 h
      revert this
      unfold classT
      split <;> (try split) <;> decide
    · obtain ⟨p, hp⟩ := Int.eq_ofNat_of_zero_le ha.2.1
      obtain ⟨f1, _, _⟩ := perm_fin ⟨p, by omega⟩
      simp only at f1
      rw [← hp] at f1
      exact absurd (List.all_eq_true.1 f1 44 h) (by decide)
theorem show_comma (c : S34) (h : rightC c = true) : 44 ∉ showOne c := by
  simp [rightC] at h
  obtain ⟨h0, h1, h2, h3⟩ := h
  unfold showOne
  intro hm
  rcases List.mem_append.1 hm with hm | hm
  · obtain ⟨m, hq⟩ := Int.eq_ofNat_of_zero_le h0
    obtain ⟨f1, _⟩ := who_fin ⟨m, by omega⟩
    simp only at f1
    rw [← hq] at f1
    exact absurd (List.all_eq_true.1 f1 44 hm) (by decide)
  · unfold actsT at hm
    obtain ⟨x, hx, hm⟩ := List.mem_flatten.1 hm
    obtain ⟨a, ha, rfl⟩ := List.mem_map.1 hx
    exact text_comma a (h3 a ha) hm
theorem pcs_join : ∀ (r : List (List UInt8)) (x cur : List UInt8), 44 ∉ x → (∀ y ∈ r, 44 ∉ y) → pcs cur (x ++ Lib.joinTail [44] r) = (cur ++ x) :: r
  | [], x, cur, h, _ => by
    rw [show Lib.joinTail [44] [] = [] from rfl, List.append_nil, pcs_none x cur h]
  | y :: r, x, cur, h, hr => by
    rw [show Lib.joinTail [44] (y :: r) = 44 :: (y ++ Lib.joinTail [44] r) from rfl, pcs_hit x cur _ h, pcs_join r y [] (hr y (by simp)) (fun z hz => hr z (by simp [hz]))]
    rfl
theorem parseL_show : ∀ l : List S34, (∀ c ∈ l, rightC c = true) → parseL (l.map showOne) = some l
  | [], _ => rfl
  | c :: l, h => by
    rw [List.map_cons]
    simp only [parseL]
    rw [one_back c (h c (by simp)), if_pos rfl, parseL_show l (fun d hd => h d (by simp [hd]))]; rfl
theorem parse_show (l : List S34) (h : rightS l = true) : parseL (pcs [] (showS l)) = some l := by
  unfold rightS at h
  rw [Bool.and_eq_true, List.all_eq_true] at h
  cases l with
  | nil => simp at h
  | cons c l =>
    unfold showS
    rw [List.map_cons, Lib.join_cons, pcs_join _ _ [] (show_comma c (h.1 c (by simp))) (fun y hy => by
      obtain ⟨d, hd, rfl⟩ := List.mem_map.1 hy
      exact show_comma d (h.1 d (by simp [hd])))]
    exact parseL_show (c :: l) h.1
end Go.Proofs.YtlohbepfecahdaaDoor.L
