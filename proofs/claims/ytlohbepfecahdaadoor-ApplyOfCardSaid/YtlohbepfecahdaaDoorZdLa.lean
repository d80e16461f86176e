/- Plain facts: what the functions of clauses say of a text, told by the list of its bytes. No machine in sight. -/
import Derived.Test.YtlohbepfecahdaaDoorZdS5
namespace Go.Proofs.YtlohbepfecahdaaDoor.L
open Go.RowKit Go.Proofs.YtlohbepfecahdaaDoor.S Go.Proofs.YtlohbepfecahdaaDoorW.PrintWords Go.Proofs.YtlohbepfecahdaaDoorW.PrintLast
set_option linter.unusedVariables false
set_option linter.unusedSimpArgs false
theorem w64 (n : Int) (h1 : -9223372036854775808 ≤ n) (h2 : n ≤ 9223372036854775807) : wrap64 n = n := by unfold wrap64; omega
theorem wsucc (i : Nat) (h : i < 1000000000000) : wrap64 ((i : Int) + 1) = ((i + 1 : Nat) : Int) := by rw [w64 _ (by omega) (by omega)]; rfl
/-- A text of these bytes. -/
def T (l : List UInt8) : ByteArray := ⟨⟨l⟩⟩
theorem T_size (l : List UInt8) : (T l).size = l.length := rfl
theorem T_list (l : List UInt8) : (T l).toList = l := by rw [ByteArray.toList_eq]; rfl
theorem T_of (s : ByteArray) : T s.data.toList = s := rfl
theorem T_app (a b : List UInt8) : T a ++ T b = T (a ++ b) := by
  apply ByteArray.ext; apply Array.ext'; simp [T]
theorem T_ext (l : List UInt8) (a b : Nat) : (T l).extract a b = T ((l.drop a).take (b - a)) := by
  apply ByteArray.ext; apply Array.ext'; simp [T]
theorem bt_T (l : List UInt8) (i : Nat) (h : i < l.length) : bt (T l) (i : Int) = ((l[i]'h).toNat : Int) := by
  unfold bt
  rw [dif_pos (show ((i : Int)).toNat < (T l).size from h)]
  rfl
theorem byte_is (c d : UInt8) : ((c.toNat : Int) = (d.toNat : Int)) ↔ c = d := ⟨fun h => UInt8.toNat.inj (by omega), fun h => by rw [h]⟩
/-- A text between its commas. -/
def pcs : List UInt8 → List UInt8 → List (List UInt8)
  | cur, [] => [cur]
  | cur, c :: l => if c = 44 then cur :: pcs [] l else pcs (cur ++ [c]) l
theorem pcs_none : ∀ (l cur : List UInt8), 44 ∉ l → pcs cur l = [cur ++ l]
  | [], cur, _ => by simp [pcs]
  | c :: l, cur, h => by
    simp only [List.mem_cons, not_or] at h
    simp only [pcs]
    rw [if_neg (fun e => h.1 e.symm), pcs_none l _ h.2]; simp
theorem pcs_hit : ∀ (a cur b : List UInt8), 44 ∉ a → pcs cur (a ++ 44 :: b) = (cur ++ a) :: pcs [] b
  | [], cur, b, _ => by simp [pcs]
  | c :: a, cur, b, h => by
    simp only [List.mem_cons, not_or] at h
    simp only [List.cons_append, pcs]
    rw [if_neg (fun e => h.1 e.symm), pcs_hit a _ b h.2]; simp
theorem pcs_len : ∀ (l cur : List UInt8), (pcs cur l).length ≤ l.length + 1
  | [], cur => by simp [pcs]
  | c :: l, cur => by
    have i1 := pcs_len l []
    have i2 := pcs_len l (cur ++ [c])
    simp only [pcs]
    split
    · simp; omega
    · simp; omega
theorem index_split : ∀ l : List UInt8, (Lib.indexByte l 44 = -1 ∧ 44 ∉ l) ∨ ∃ a b, l = a ++ 44 :: b ∧ 44 ∉ a ∧ Lib.indexByte l 44 = (a.length : Int)
  | [] => .inl ⟨rfl, by simp⟩
  | c :: l => by
    by_cases hc : c = 44
    · subst hc
      exact .inr ⟨[], l, rfl, by simp, by simp [Lib.indexByte]⟩
    · have hb : (c == 44) = false := beq_eq_false_iff_ne.2 hc
      rcases index_split l with ⟨h1, h2⟩ | ⟨a, b, rfl, h2, h3⟩
      · exact .inl ⟨by simp [Lib.indexByte, hb, h1], by simp [h2]; exact fun e => hc e.symm⟩
      · refine .inr ⟨c :: a, b, rfl, by simp [h2]; exact fun e => hc e.symm, ?_⟩
        have hn : ((a.length : Int) == -1) = false := beq_eq_false_iff_ne.2 (by omega)
        simp only [Lib.indexByte, hb, h3, hn, List.length_cons]
        simp
theorem split_pcs (k : Nat) : ∀ l : List UInt8, l.count 44 = k → Lib.splitB ⟨#[44]⟩ 0 k (T l) = (pcs [] l).map T := by
  induction k with
  | zero =>
    intro l hk
    rw [Lib.splitB_zero, pcs_none l [] (List.count_eq_zero.1 hk)]; rfl
  | succ k ih =>
    intro l hk
    rcases index_split l with ⟨h1, h2⟩ | ⟨a, b, rfl, h2, h3⟩
    · rw [List.count_eq_zero.2 h2] at hk; omega
    · have hi : Lib.indexB (T (a ++ 44 :: b)) ⟨#[44]⟩ = (a.length : Int) := by rw [comma_index]; exact h3
      have hsz : (⟨#[44]⟩ : ByteArray).size = 1 := rfl
      have hc : b.count 44 = k := by
        rw [List.count_append, List.count_eq_zero.2 h2, List.count_cons_self] at hk; omega
      rw [Lib.splitB_hit _ _ _ _ _ hi, hsz, T_ext, T_ext, pcs_hit a [] b h2]
      have e1 : (List.take (a.length + 0 - 0) (List.drop 0 (a ++ 44 :: b))) = a := by simp
      have e2 : (List.take ((T (a ++ 44 :: b)).size - (a.length + 1)) (List.drop (a.length + 1) (a ++ 44 :: b))) = b := by
        rw [T_size, show a.length + 1 = (a ++ [44]).length by simp, show a ++ 44 :: b = (a ++ [44]) ++ b by simp, List.drop_left, List.take_of_length_le (by simp; omega)]
      rw [e1, e2, ih b hc]; rfl
theorem split_eq (l : List UInt8) (h : l.length < 4294967281) : strings_Split.f (T l) ⟨#[44]⟩ = some ((pcs [] l).map T) := by
  unfold strings_Split.f
  rw [if_pos ⟨rfl, h⟩]
  unfold splitS
  rw [comma_count]
  exact congrArg some (split_pcs _ l rfl)
/-! ### A clause -/
def actsN : Nat → List UInt8 → List S60 × List UInt8
  | 0, l => ([], l)
  | n + 1, l => if (actS l).1.1 = 0 then ([], l) else (⟨(actS l).1.1, (actS l).1.2.1, (actS l).1.2.2⟩ :: (actsN n (actS l).2).1, (actsN n (actS l).2).2)
theorem permS_len : ∀ (l : List UInt8) (p : Int), (permS p l).2.length ≤ l.length
  | [], p => by simp [permS]
  | c :: l, p => by
    have := permS_len l
    unfold permS
    repeat' split
    all_goals first | exact Nat.le_trans (this _) (by simp) | simp
theorem actS_len (l : List UInt8) : ((actS l).1.1 = 0 ∧ (actS l).1.2.1 = 0 ∧ (actS l).1.2.2 = 0 ∧ (actS l).2 = l) ∨ ((actS l).1.1 ≠ 0 ∧ (actS l).2.length < l.length) := by
  cases l with
  | nil => exact .inl ⟨rfl, rfl, rfl, rfl⟩
  | cons c l =>
    cases hs : signK c with
    | false => refine .inl ?_; simp [actS, hs]
    | true =>
      have hc : (c.toNat : Int) ≠ 0 := by
        unfold signK at hs
        simp at hs
        rcases hs with (rfl | rfl) | rfl <;> decide
      refine .inr ?_
      cases l with
      | nil => simp [actS, hs]; omega
      | cons d m =>
        by_cases hk : 0 ≤ classK d
        · simp only [actS, hs, Bool.true_eq_false, if_false, hk, if_true]
          exact ⟨hc, by simp; omega⟩
        · simp only [actS, hs, Bool.true_eq_false, if_false, hk]
          have := permS_len (d :: m) 0
          exact ⟨hc, by simp at this ⊢; omega⟩
theorem act_f (l : List UInt8) (h : l.length < 1000000) : clause_act.f (T l) = some ((actS l).1.1, (actS l).1.2.1, (actS l).1.2.2, T (actS l).2) := by
  unfold clause_act.f
  rw [if_pos (by rw [T_size]; omega)]; rfl
theorem actsN_len : ∀ (n : Nat) (l : List UInt8), (actsN n l).1.length ≤ n
  | 0, l => by simp [actsN]
  | n + 1, l => by
    have := actsN_len n (actS l).2
    unfold actsN
    split
    · simp
    · simp; omega
theorem one_loop (n : Nat) : ∀ (k : Nat) (l : List UInt8) (w : Int) (acc : List S60), l.length ≤ n → n < k → acc.length + n < 1000000 →
    clause_one.l0 k (T l) w acc = some (w, acc ++ (actsN n l).1, decide ((actsN n l).2 = [] ∧ acc ++ (actsN n l).1 ≠ [])) := by
  induction n with
  | zero =>
    intro k l w acc hl hk ha
    obtain ⟨k, rfl⟩ : ∃ m, k = m + 1 := ⟨k - 1, by omega⟩
    have : l = [] := List.length_eq_zero_iff.1 (by omega)
    subst this
    simp only [clause_one.l0]
    rw [act_f [] (by decide), Option.bind_some]
    simp only [T_list]
    cases acc <;> simp [actsN, actS]
  | succ n ih =>
    intro k l w acc hl hk ha
    obtain ⟨k, rfl⟩ : ∃ m, k = m + 1 := ⟨k - 1, by omega⟩
    simp only [clause_one.l0]
    rw [act_f l (by omega), Option.bind_some]
    simp only [T_list]
    rcases actS_len l with ⟨h1, h2, h3, h4⟩ | ⟨h1, h2⟩
    · rw [if_pos (by rw [h1, h2, h3]; rfl)]
      simp only [actsN, h1, if_true, List.append_nil]
      by_cases h5 : l = []
      · rw [if_pos h5]; cases acc <;> simp [h5]
      · rw [if_neg h5]; simp [h5]
    · rw [if_neg (by simp [h1]), if_pos (by omega), ih k _ w _ (by omega) (by omega) (by simp; omega)]
      simp only [actsN, h1, if_false, List.append_assoc, List.singleton_append]
def oneS (l : List UInt8) : Int × List S60 × Bool :=
  ((whoS 0 l).1, (actsN l.length (whoS 0 l).2).1, decide ((actsN l.length (whoS 0 l).2).2 = [] ∧ (actsN l.length (whoS 0 l).2).1 ≠ []))
theorem whoS_len : ∀ (l : List UInt8) (n : Int), (whoS n l).2.length ≤ l.length
  | [], n => by simp [whoS]
  | c :: l, n => by
    have := whoS_len l
    unfold whoS
    repeat' split
    all_goals first | exact Nat.le_trans (this _) (by simp) | simp
theorem one_eq (l : List UInt8) (h : l.length < 10000) (k : Nat) (hk : l.length < k) : clause_one.f k (T l) = some (oneS l) := by
  unfold clause_one.f clause_who.f
  rw [if_pos (by rw [T_size]; omega), Option.bind_some]
  have := one_loop l.length k (whoS 0 l).2 (whoS 0 l).1 [] (whoS_len l 0) hk (by simp; omega)
  rw [List.nil_append] at this
  exact this
/-- The clauses of pieces. -/
def parseL : List (List UInt8) → Option (List S34)
  | [] => some []
  | p :: ps => if (oneS p).2.2 = true then (parseL ps).map (fun r => (⟨(oneS p).1, (oneS p).2.1⟩ : S34) :: r) else none
theorem parseL_len : ∀ (ps : List (List UInt8)) (r : List S34), parseL ps = some r → r.length = ps.length
  | [], r, h => by have := Option.some.inj h; subst this; rfl
  | p :: ps, r, h => by
    unfold parseL at h
    split at h
    · obtain ⟨r', h1, rfl⟩ := Option.map_eq_some_iff.1 h
      simp [parseL_len ps r' h1]
    · exact absurd h (by simp)
theorem rdOf_map (ps : List (List UInt8)) (i : Nat) (h : i < ps.length) : rdOf ByteArray.empty (ps.map T) (i : Int) = T (ps[i]'h) := by
  unfold rdOf
  rw [Int.toNat_natCast, List.getD_eq_getElem?_getD, List.getElem?_map, List.getElem?_eq_getElem h]; rfl
theorem parse_loop (ps : List (List UInt8)) (hp : ps.length < 100000) (hs : ∀ p ∈ ps, p.length < 10000) (d : Nat) : ∀ (k i : Nat) (acc : List S34), i ≤ ps.length → ps.length - i = d → d + 10000 < k → acc.length ≤ i →
    clause_Parse.l0 k acc (ps.map T) (ps.length : Int) (i : Int) = some (match parseL (ps.drop i) with | some r => (acc ++ r, 0) | none => ([], 22)) := by
  induction d with
  | zero =>
    intro k i acc h1 hd hk ha
    obtain ⟨k, rfl⟩ : ∃ m, k = m + 1 := ⟨k - 1, by omega⟩
    simp only [clause_Parse.l0]
    rw [if_neg (by omega), List.drop_eq_nil_of_le (by omega)]
    simp [parseL]
  | succ d ih =>
    intro k i acc h1 hd hk ha
    obtain ⟨k, rfl⟩ : ∃ m, k = m + 1 := ⟨k - 1, by omega⟩
    have hlt : i < ps.length := by omega
    have hdrop : ps.drop i = ps[i] :: ps.drop (i + 1) := (List.getElem_cons_drop hlt).symm
    have hm := hs _ (List.getElem_mem hlt)
    simp only [clause_Parse.l0]
    rw [if_pos (by omega), if_pos (by omega), if_pos (by rw [List.length_map]; omega), rdOf_map ps i hlt, one_eq _ hm k (by omega), Option.bind_some, hdrop]
    simp only [parseL]
    by_cases ho : (oneS ps[i]).2.2 = true
    · rw [if_pos ho, if_pos ho, if_pos (by omega), wsucc i (by omega), ih k (i + 1) _ (by omega) (by omega) (by omega) (by simp; omega)]
      cases parseL (ps.drop (i + 1)) with
      | none => rfl
      | some r => simp
    · rw [if_neg ho, if_neg ho]
def parseS (l : List UInt8) : List S34 × Int := match parseL (pcs [] l) with | some r => (r, 0) | none => ([], 22)
theorem pcs_sub : ∀ (l cur : List UInt8), ∀ p ∈ pcs cur l, p.length ≤ cur.length + l.length
  | [], cur, p, h => by simp [pcs] at h; simp [h]
  | c :: l, cur, p, h => by
    simp only [pcs] at h
    split at h
    · rcases List.mem_cons.1 h with rfl | h
      · omega
      · have := pcs_sub l [] p h
        simp at this ⊢; omega
    · have := pcs_sub l _ p h
      simp at this ⊢; omega
theorem parse_eq (l : List UInt8) (h : l.length < 9000) (k : Nat) (hk : 30000 < k) : clause_Parse.f k (T l) = some (parseS l) := by
  unfold clause_Parse.f
  have hl := pcs_len l []
  rw [split_eq l (by omega), Option.bind_some, List.length_map]
  have := parse_loop (pcs [] l) (by omega) (fun p hp => by have := pcs_sub l [] p hp; simp at this; omega) (pcs [] l).length k 0 [] (by omega) (by omega) (by omega) (by simp)
  rw [List.drop_zero] at this
  rw [show ((0 : Nat) : Int) = 0 from rfl] at this
  rw [this]
  unfold parseS
  cases parseL (pcs [] l) <;> rfl
end Go.Proofs.YtlohbepfecahdaaDoor.L
