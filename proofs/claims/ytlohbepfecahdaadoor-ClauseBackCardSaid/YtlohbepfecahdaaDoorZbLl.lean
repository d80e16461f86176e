/- Plain facts: what is parsed may be, and what is shown of it is no longer. No machine in sight. -/
import Derived.Test.YtlohbepfecahdaaDoorZbLk
namespace Go.Proofs.YtlohbepfecahdaaDoor.L
open Go.RowKit Go.Proofs.YtlohbepfecahdaaDoor.S Go.Proofs.YtlohbepfecahdaaDoorW.PrintWords Go.Proofs.YtlohbepfecahdaaDoorW.PrintLast
set_option linter.unusedVariables false
set_option linter.unusedSimpArgs false
def nb (b : Bool) : Nat := if b = true then 1 else 0
theorem val6_fin : ∀ b0 b1 b2_ b3 b4 b5 : Bool, 0 ≤ val6 b0 b1 b2_ b3 b4 b5 ∧ val6 b0 b1 b2_ b3 b4 b5 ≤ 63 ∧ (permT (val6 b0 b1 b2_ b3 b4 b5) permL).length ≤ nb b0 + nb b1 + nb b2_ + nb b3 + nb b4 + nb b5 := by decide +kernel
theorem val3_fin : ∀ b0 b1 b2_ : Bool, 0 ≤ val3 b0 b1 b2_ ∧ val3 b0 b1 b2_ ≤ 7 ∧ (whoT (val3 b0 b1 b2_)).length ≤ nb b0 + nb b1 + nb b2_ := by decide +kernel
theorem nb_or (a b : Bool) : nb (a || b) ≤ nb a + nb b := by cases a <;> cases b <;> decide
theorem count6 : ∀ l : List UInt8, nb (has 120 l) + nb (has 119 l) + nb (has 114 l) + nb (has 88 l) + nb (has 115 l) + nb (has 116 l) ≤ l.length
  | [] => by simp [has, nb]
  | c :: l => by
    have ih := count6 l
    have h1 := nb_or (120 == c) (has 120 l)
    have h2 := nb_or (119 == c) (has 119 l)
    have h3 := nb_or (114 == c) (has 114 l)
    have h4 := nb_or (88 == c) (has 88 l)
    have h5 := nb_or (115 == c) (has 115 l)
    have h6 := nb_or (116 == c) (has 116 l)
    have one : nb (120 == c) + nb (119 == c) + nb (114 == c) + nb (88 == c) + nb (115 == c) + nb (116 == c) ≤ 1 := by
      by_cases e1 : c = 120
      · subst e1; decide
      · by_cases e2 : c = 119
        · subst e2; decide
        · by_cases e3 : c = 114
          · subst e3; decide
          · by_cases e4 : c = 88
            · subst e4; decide
            · by_cases e5 : c = 115
              · subst e5; decide
              · by_cases e6 : c = 116
                · subst e6; decide
                · have f : ∀ d : UInt8, c ≠ d → nb (d == c) = 0 := fun d h => by
                    have : (d == c) = false := beq_eq_false_iff_ne.2 (fun e => h e.symm)
                    rw [this]; rfl
                  rw [f _ e1, f _ e2, f _ e3, f _ e4, f _ e5, f _ e6]; decide
    rw [has_cons, has_cons, has_cons, has_cons, has_cons, has_cons, List.length_cons]
    omega
theorem count3 : ∀ l : List UInt8, nb (has 117 l) + nb (has 103 l) + nb (has 111 l) ≤ l.length
  | [] => by simp [has, nb]
  | c :: l => by
    have ih := count3 l
    have h1 := nb_or (117 == c) (has 117 l)
    have h2 := nb_or (103 == c) (has 103 l)
    have h3 := nb_or (111 == c) (has 111 l)
    have one : nb (117 == c) + nb (103 == c) + nb (111 == c) ≤ 1 := by
      by_cases e1 : c = 117
      · subst e1; decide
      · by_cases e2 : c = 103
        · subst e2; decide
        · by_cases e3 : c = 111
          · subst e3; decide
          · have f : ∀ d : UInt8, c ≠ d → nb (d == c) = 0 := fun d h => by
              have : (d == c) = false := beq_eq_false_iff_ne.2 (fun e => h e.symm)
              rw [this]; rfl
            rw [f _ e1, f _ e2, f _ e3]; decide
    rw [has_cons, has_cons, has_cons, List.length_cons]
    omega
theorem who_least (l : List UInt8) : 0 ≤ (whoS 0 l).1 ∧ (whoS 0 l).1 ≤ 7 ∧ (whoT (whoS 0 l).1).length + (whoS 0 l).2.length ≤ l.length := by
  have hl := congrArg List.length (List.takeWhile_append_dropWhile (p := isU) (l := l))
  rw [List.length_append] at hl
  rw [who_sum]
  by_cases h : has 97 (l.takeWhile isU) = true
  · rw [if_pos h]
    have h1 : 1 ≤ (l.takeWhile isU).length := List.length_pos_of_mem ((has_mem _ _).1 h)
    refine ⟨(by decide : (0 : Int) ≤ 7), (by decide : (7 : Int) ≤ 7), ?_⟩
    have : (whoT 7).length = 1 := rfl
    show (whoT 7).length + (l.dropWhile isU).length ≤ l.length
    omega
  · rw [if_neg h, sum3]
    obtain ⟨a, b, c⟩ := val3_fin (has 117 (l.takeWhile isU)) (has 103 (l.takeWhile isU)) (has 111 (l.takeWhile isU))
    have := count3 (l.takeWhile isU)
    refine ⟨a, b, ?_⟩
    show (whoT (val3 _ _ _)).length + (l.dropWhile isU).length ≤ l.length
    omega
theorem act_least (l : List UInt8) (h : (actS l).1.1 ≠ 0) : rightA ⟨(actS l).1.1, (actS l).1.2.1, (actS l).1.2.2⟩ = true ∧ (textS (actS l).1.1 (actS l).1.2.1 (actS l).1.2.2).length + (actS l).2.length ≤ l.length := by
  cases l with
  | nil => exact absurd rfl h
  | cons c l =>
    cases hs : signK c with
    | false => exact absurd (by simp [actS, hs]) h
    | true =>
      have hsI : signI (c.toNat : Int) = true := by
        have hlt := c.toNat_lt
        rw [signI_K _ (by omega) (by omega)]
        have : ((c.toNat : Int)).toNat.toUInt8 = c := by apply UInt8.toNat.inj; simp
        rw [this]; exact hs
      cases l with
      | nil =>
        have e : actS [c] = ((((c.toNat : Int), 0, 0) : Int × Int × Int), []) := by
          show (if signK c = false then _ else _) = _
          rw [if_neg (by rw [hs]; decide)]
        rw [e]
        exact ⟨by simp [rightA, hsI], by show (textS (c.toNat : Int) 0 0).length + 0 ≤ 1; unfold textS; rw [if_neg (by decide), show permT 0 permL = [] by decide +kernel]; simp⟩
      | cons d m =>
        rcases classK_rng d with hk | ⟨hk0, hk2⟩
        · have e : actS (c :: d :: m) = ((((c.toNat : Int), (permS 0 (d :: m)).1, 0) : Int × Int × Int), (permS 0 (d :: m)).2) := by
            show (if signK c = false then _ else if 0 ≤ classK d then _ else _) = _
            rw [if_neg (by rw [hs]; decide), if_neg (by omega)]
          rw [e, perm_sum, sum6]
          obtain ⟨a, b, q⟩ := val6_fin (has 120 ((d :: m).takeWhile isP)) (has 119 ((d :: m).takeWhile isP)) (has 114 ((d :: m).takeWhile isP)) (has 88 ((d :: m).takeWhile isP)) (has 115 ((d :: m).takeWhile isP)) (has 116 ((d :: m).takeWhile isP))
          have hc := count6 ((d :: m).takeWhile isP)
          have hl := congrArg List.length (List.takeWhile_append_dropWhile (p := isP) (l := d :: m))
          rw [List.length_append] at hl
          generalize val6 (has 120 ((d :: m).takeWhile isP)) (has 119 ((d :: m).takeWhile isP)) (has 114 ((d :: m).takeWhile isP)) (has 88 ((d :: m).takeWhile isP)) (has 115 ((d :: m).takeWhile isP)) (has 116 ((d :: m).takeWhile isP)) = v at a b q ⊢
          refine ⟨by simp [rightA, hsI, a, b], ?_⟩
          show (textS (c.toNat : Int) v 0).length + ((d :: m).dropWhile isP).length ≤ (c :: d :: m).length
          have e2 : (textS (c.toNat : Int) v 0).length = (permT v permL).length + 1 := by unfold textS; rw [if_neg (by decide)]; rfl
          rw [e2, List.length_cons]
          omega
        · have e : actS (c :: d :: m) = ((((c.toNat : Int), 0, classK d + 1) : Int × Int × Int), m) := by
            show (if signK c = false then _ else if 0 ≤ classK d then _ else _) = _
            rw [if_neg (by rw [hs]; decide), if_pos hk0]
          rw [e]
          refine ⟨by simp [rightA, hsI]; omega, ?_⟩
          show (textS (c.toNat : Int) 0 (classK d + 1)).length + m.length ≤ (c :: d :: m).length
          have e2 : (textS (c.toNat : Int) 0 (classK d + 1)).length = 2 := by unfold textS; rw [if_pos (by omega)]; rfl
          rw [e2]; simp; omega
theorem acts_least : ∀ (n : Nat) (l : List UInt8), (actsN n l).1.all rightA = true ∧ (actsT (actsN n l).1).length + (actsN n l).2.length ≤ l.length
  | 0, l => by simp [actsN, actsT]
  | n + 1, l => by
    simp only [actsN]
    by_cases h : (actS l).1.1 = 0
    · rw [if_pos h]; simp [actsT]
    · rw [if_neg h]
      obtain ⟨a1, a2⟩ := act_least l h
      obtain ⟨i1, i2⟩ := acts_least n (actS l).2
      refine ⟨by rw [List.all_cons, a1, i1]; rfl, ?_⟩
      show (textS (actS l).1.1 (actS l).1.2.1 (actS l).1.2.2 ++ actsT (actsN n (actS l).2).1).length + (actsN n (actS l).2).2.length ≤ l.length
      rw [List.length_append]
      omega
theorem one_least (p : List UInt8) (h : (oneS p).2.2 = true) : rightC ⟨(oneS p).1, (oneS p).2.1⟩ = true ∧ (showOne ⟨(oneS p).1, (oneS p).2.1⟩).length ≤ p.length := by
  obtain ⟨w0, w7, wl⟩ := who_least p
  obtain ⟨a1, a2⟩ := acts_least p.length (whoS 0 p).2
  unfold oneS at h
  simp only [decide_eq_true_eq] at h
  constructor
  · show (decide (0 ≤ (whoS 0 p).1) && (decide ((whoS 0 p).1 ≤ 7) && (!(actsN p.length (whoS 0 p).2).1.isEmpty && (actsN p.length (whoS 0 p).2).1.all rightA))) = true
    rw [decide_eq_true w0, decide_eq_true w7, a1]
    have := h.2
    cases hx : (actsN p.length (whoS 0 p).2).1 with
    | nil => exact absurd hx this
    | cons a b => rfl
  · show (whoT (whoS 0 p).1 ++ actsT (actsN p.length (whoS 0 p).2).1).length ≤ p.length
    rw [List.length_append]
    omega
theorem pcs_sum : ∀ (l cur : List UInt8), ((pcs cur l).map List.length).sum + (pcs cur l).length = cur.length + l.length + 1
  | [], cur => by simp [pcs]
  | c :: l, cur => by
    have i1 := pcs_sum l []
    have i2 := pcs_sum l (cur ++ [c])
    simp only [pcs]
    split
    · simp at i1 ⊢; omega
    · simp at i2 ⊢; omega
theorem parse_least : ∀ (ps : List (List UInt8)) (r : List S34), parseL ps = some r → (∀ c ∈ r, rightC c = true) ∧ ((r.map showOne).map List.length).sum ≤ (ps.map List.length).sum
  | [], r, h => by have := Option.some.inj h; subst this; simp
  | p :: ps, r, h => by
    unfold parseL at h
    split at h
    · rename_i ho
      obtain ⟨r', h1, rfl⟩ := Option.map_eq_some_iff.1 h
      obtain ⟨i1, i2⟩ := parse_least ps r' h1
      obtain ⟨o1, o2⟩ := one_least p ho
      refine ⟨fun c hc => ?_, ?_⟩
      · rcases List.mem_cons.1 hc with rfl | hc
        · exact o1
        · exact i1 c hc
      · simp only [List.map_cons, List.sum_cons]
        omega
    · exact absurd h (by simp)
theorem join_sum : ∀ (l : List (List UInt8)), l ≠ [] → (Lib.join l [44]).length + 1 = (l.map List.length).sum + l.length
  | [], h => absurd rfl h
  | x :: r, _ => by
    have tail : ∀ r : List (List UInt8), (Lib.joinTail [44] r).length = (r.map List.length).sum + r.length := by
      intro r
      induction r with
      | nil => simp [Lib.joinTail]
      | cons y r ih =>
        rw [show Lib.joinTail [44] (y :: r) = ([44] ++ y) ++ Lib.joinTail [44] r from rfl, List.length_append, List.length_append, ih]
        simp; omega
    rw [Lib.join_cons, List.length_append, tail]
    simp; omega
theorem parsed (s : List UInt8) (y : List S34) (h : parseL (pcs [] s) = some y) : rightS y = true ∧ (showS y).length ≤ s.length := by
  obtain ⟨h1, h2⟩ := parse_least _ _ h
  have hl := parseL_len _ _ h
  have hs := pcs_sum s []
  have hne : y ≠ [] := by
    intro e
    rw [e] at hl
    have : (pcs [] s).length = 0 := hl.symm
    rw [List.length_eq_zero_iff.1 this] at hs
    simp at hs
  have hj := join_sum (y.map showOne) (by simpa using hne)
  rw [List.length_map] at hj
  refine ⟨?_, ?_⟩
  · unfold rightS
    rw [Bool.and_eq_true, List.all_eq_true]
    exact ⟨h1, by cases y with | nil => exact absurd rfl hne | cons a b => rfl⟩
  · unfold showS
    simp at hs
    omega
/-! ### Parse, of longer texts -/
theorem one_eq2 (l : List UInt8) (h : l.length < 100000) (k : Nat) (hk : l.length < k) : clause_one.f k (T l) = some (oneS l) := by
  unfold clause_one.f clause_who.f
  rw [if_pos (by rw [T_size]; omega), Option.bind_some]
  have := one_loop l.length k (whoS 0 l).2 (whoS 0 l).1 [] (whoS_len l 0) hk (by simp; omega)
  rw [List.nil_append] at this
  exact this
theorem parse_loop2 (ps : List (List UInt8)) (hp : ps.length < 100000) (hs : ∀ p ∈ ps, p.length < 100000) (d : Nat) : ∀ (k i : Nat) (acc : List S34), i ≤ ps.length → ps.length - i = d → d + 100000 < k → acc.length ≤ i →
    clause_Parse.l0 k acc (ps.map T) (ps.length : Int) (i : Int) = some (match parseL (ps.drop i) with | some r => (acc ++ r, 0) | none => ([], 22)) := by
  induction d with
  | zero =>
    intro k i acc h1 hd hk ha
    obtain ⟨k, rfl⟩ : ∃ m, k = m + 1 := ⟨k - 1, by omega⟩
    simp only [clause_Parse.l0]
    rw [if_neg (by omega), List.drop_eq_nil_of_le (by omega)]
    simp [parseL]
  | succ d ih =>
    intro k i acc h1 hd hk ha
    obtain ⟨k, rfl⟩ : ∃ m, k = m + 1 := ⟨k - 1, by omega⟩
    have hlt : i < ps.length := by omega
    have hdrop : ps.drop i = ps[i] :: ps.drop (i + 1) := (List.getElem_cons_drop hlt).symm
    have hm := hs _ (List.getElem_mem hlt)
    simp only [clause_Parse.l0]
    rw [if_pos (by omega), if_pos (by omega), if_pos (by rw [List.length_map]; omega), rdOf_map ps i hlt, one_eq2 _ hm k (by omega), Option.bind_some, hdrop]
    simp only [parseL]
    by_cases ho : (oneS ps[i]).2.2 = true
    · rw [if_pos ho, if_pos ho, if_pos (by omega), wsucc i (by omega), ih k (i + 1) _ (by omega) (by omega) (by omega) (by simp; omega)]
      cases parseL (ps.drop (i + 1)) with
      | none => rfl
      | some r => simp
    · rw [if_neg ho, if_neg ho]
theorem parse_eq2 (l : List UInt8) (h : l.length < 90000) (k : Nat) (hk : 300000 < k) : clause_Parse.f k (T l) = some (parseS l) := by
  unfold clause_Parse.f
  have hl := pcs_len l []
  rw [split_eq l (by omega), Option.bind_some, List.length_map]
  have := parse_loop2 (pcs [] l) (by omega) (fun p hp => by have := pcs_sub l [] p hp; simp at this; omega) (pcs [] l).length k 0 [] (by omega) (by omega) (by omega) (by simp)
  rw [List.drop_zero] at this
  rw [show ((0 : Nat) : Int) = 0 from rfl] at this
  rw [this]
  unfold parseS
  cases parseL (pcs [] l) <;> rfl
end Go.Proofs.YtlohbepfecahdaaDoor.L
