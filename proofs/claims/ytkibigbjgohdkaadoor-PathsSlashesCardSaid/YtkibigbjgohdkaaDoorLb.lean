/- Plain facts: what the functions of paths and of the reference say of a text: fits, name, base, up, join, steps. No machine in sight. -/
import Derived.Test.YtkibigbjgohdkaaDoorLa
namespace Go.Proofs.YtkibigbjgohdkaaDoor.L
open Go.RowKit Go.Proofs.YtkibigbjgohdkaaDoor.S Go.Proofs.YtkibigbjgohdkaaDoorW.PrintWords Go.Proofs.YtkibigbjgohdkaaDoorW.PrintLast
set_option linter.unusedVariables false
set_option linter.unusedSimpArgs false

theorem has_at (l : List UInt8) (c : UInt8) (h : l.length < 1000000) (d : Nat) : ∀ (k i : Nat), i ≤ l.length → l.length - i = d → d < k → gaolerref07_Has.l0 k (T l) (c.toNat : Int) (i : Int) = some ((l.drop i).contains c) := by
  induction d with
  | zero =>
    intro k i h1 hd hk
    obtain ⟨k, rfl⟩ : ∃ m, k = m + 1 := ⟨k - 1, by omega⟩
    simp only [gaolerref07_Has.l0]
    rw [if_neg (by rw [T_size]; omega), List.drop_eq_nil_of_le (by omega)]; rfl
  | succ d ih =>
    intro k i h1 hd hk
    obtain ⟨k, rfl⟩ : ∃ m, k = m + 1 := ⟨k - 1, by omega⟩
    have hlt : i < l.length := by omega
    have hdrop : l.drop i = l[i] :: l.drop (i + 1) := (List.getElem_cons_drop hlt).symm
    simp only [gaolerref07_Has.l0]
    rw [if_pos (by rw [T_size]; omega), if_pos (by omega), bt_T l i hlt, wsucc i (by omega), ih k (i + 1) (by omega) (by omega) (by omega), hdrop]
    by_cases hc : l[i] = c
    · rw [if_pos ((byte_is _ _).2 hc)]; simp [hc]
    · rw [if_neg (fun h => hc ((byte_is _ _).1 h))]
      rw [List.contains_cons]
      have : (c == l[i]) = false := beq_eq_false_iff_ne.2 (fun h => hc h.symm)
      rw [this]; simp
theorem has_eq (l : List UInt8) (c : UInt8) (h : l.length < 1000000) (k : Nat) (hk : l.length < k) : gaolerref07_Has.f k (T l) (c.toNat : Int) = some (l.contains c) := has_at l c h l.length k 0 (by omega) (by omega) hk
theorem has0 (l : List UInt8) (h : l.length < 1000000) (k : Nat) (hk : l.length < k) : gaolerref07_Has.f k (T l) 0 = some (l.contains 0) := has_eq l 0 h k hk
theorem has47 (l : List UInt8) (h : l.length < 1000000) (k : Nat) (hk : l.length < k) : gaolerref07_Has.f k (T l) 47 = some (l.contains 47) := has_eq l 47 h k hk
def fitsL (l : List UInt8) : Bool := if l = [] then false else if l.length ≤ 64 then !(l.contains 0) else false
theorem fits_eq (l : List UInt8) : paths_Fits.f (T l) = some (fitsL l) := by
  unfold paths_Fits.f fitsL strings_IndexByte.f
  rw [T_list, T_size, T_data]
  by_cases h : l = []
  · rw [if_pos h, if_pos h]
  · rw [if_neg h, if_neg h]
    by_cases h2 : l.length ≤ 64
    · rw [if_pos (by omega), if_pos h2]
      simp only [Option.bind_some]
      have e := Lib.contains_iff_indexByte l 0
      rw [e]
      congr 1
      show decide (Lib.indexByte l 0 < 0) = _
      rw [Bool.eq_iff_iff]; simp
    · rw [if_neg (by omega), if_neg h2]
theorem fits_ref (l : List UInt8) (k : Nat) (hk : 64 < k) : gaolerref07_Fits.f k (T l) = some (fitsL l) := by
  unfold gaolerref07_Fits.f fitsL
  rw [T_list, T_size]
  by_cases h : l = []
  · rw [if_pos h, if_pos h]
  · rw [if_neg h, if_neg h]
    by_cases h2 : l.length ≤ 64
    · rw [if_pos (by omega), if_pos h2, has0 l (by omega) k (by omega)]; rfl
    · rw [if_neg (by omega), if_neg h2]
def nameL (l : List UInt8) : Bool := if l = [] then false else if l.length ≤ 12 then (if l = [46] then false else if l = [46, 46] then false else !(l.contains 47 || l.contains 0)) else false
theorem any_contains (l : List UInt8) : anyOf (T l) = (l.contains 47 || l.contains 0) := by
  unfold anyOf
  rw [T_data]
  induction l with
  | nil => rfl
  | cons b l ih =>
    rw [List.any_cons, ih, List.contains_cons, List.contains_cons, Bool.beq_comm (a := (47 : UInt8)), Bool.beq_comm (a := (0 : UInt8))]
    cases (b == 47) <;> cases (b == 0) <;> cases l.contains 47 <;> rfl
theorem name_eq (l : List UInt8) : paths_Name.f (T l) = some (nameL l) := by
  unfold paths_Name.f nameL
  rw [T_list, T_size]
  by_cases h : l = []
  · rw [if_pos h, if_pos h]
  · rw [if_neg h, if_neg h]
    by_cases h2 : l.length ≤ 12
    · have hc : strings_ContainsAny.f (T l) ⟨#[47, 0]⟩ = some (l.contains 47 || l.contains 0) := by
        unfold strings_ContainsAny.f
        rw [if_pos ⟨rfl, by rw [T_size]; omega⟩, any_contains]
      rw [if_pos (by omega), if_pos h2, hc]
      split
      · rfl
      · split <;> rfl
    · rw [if_neg (by omega), if_neg h2]
theorem name_ref (l : List UInt8) (k : Nat) (hk : 12 < k) : gaolerref07_Name.f k (T l) = some (nameL l) := by
  unfold gaolerref07_Name.f nameL
  rw [T_list, T_size]
  by_cases h : l = []
  · rw [if_pos h, if_pos h]
  · rw [if_neg h, if_neg h]
    by_cases h2 : l.length ≤ 12
    · rw [if_pos (by omega), if_pos h2, has0 l (by omega) k (by omega), has47 l (by omega) k (by omega)]
      simp only [Option.bind_some]
      split
      · rfl
      · split
        · rfl
        · cases l.contains 47 <;> rfl
    · rw [if_neg (by omega), if_neg h2]
def baseL (l : List UInt8) : List UInt8 := match (namesL [] l).getLast? with | some x => x | none => if absL l then [47] else []
theorem rd_last (xs : List (List UInt8)) (x : List UInt8) (h : xs.length < 1000000) : rdOf ByteArray.empty ((xs ++ [x]).map T) (wrap64 ((((xs ++ [x]).map T).length : Int) - 1)) = T x := by
  simp only [List.length_map, List.length_append, List.length_singleton]
  rw [w64 _ (by omega) (by omega)]
  have : (((xs.length + 1 : Nat) : Int) - 1).toNat = xs.length := by omega
  simp [rdOf, this]
theorem last_or2 (l : List (List UInt8)) : l = [] ∨ ∃ m c, l = m ++ [c] := by
  rcases List.eq_nil_or_concat l with h | ⟨m, c, h⟩
  · exact .inl h
  · exact .inr ⟨m, c, by simpa using h⟩
theorem base_eq (l : List UInt8) (h : l.length < 100000) : paths_Base.f (T l) = some (T (baseL l)) := by
  unfold paths_Base.f baseL
  rw [names_eq l (by omega), abs_eq]
  simp only [Option.bind_some]
  have hl := namesL_len l []
  rcases last_or2 (namesL [] l) with h0 | ⟨xs, x, h0⟩
  · rw [h0]
    rw [if_neg (by simp)]
    cases absL l <;> rfl
  · rw [h0] at hl ⊢
    simp only [List.length_append, List.length_singleton] at hl
    rw [rd_last xs x (by omega), if_pos (by simp)]
    have e : wrap64 ((((xs ++ [x]).map T).length : Int) - 1) = (xs.length : Int) := by
      simp only [List.length_map, List.length_append, List.length_singleton]
      rw [w64 _ (by omega) (by omega)]; omega
    rw [e, if_pos (by omega), if_pos (by simp; omega)]
    simp
theorem base_ref (l : List UInt8) (h : l.length < 100000) (k : Nat) (hk : l.length + 1 < k) : gaolerref07_Base.f k (T l) = some (T (baseL l)) := by
  have h1 := base_eq l h
  unfold paths_Base.f at h1
  rw [names_eq l (by omega), abs_eq] at h1
  unfold gaolerref07_Base.f
  rw [names_ref l h k hk, abs_ref]
  exact h1

def bareL (l : List UInt8) : List UInt8 := Lib.trimRightB l 47
def cutL (l : List UInt8) : List UInt8 := (l.reverse.dropWhile (fun c => !(c == 47))).reverse
theorem bare_snoc (m : List UInt8) (c : UInt8) : bareL (m ++ [c]) = if c = 47 then bareL m else m ++ [c] := by
  unfold bareL Lib.trimRightB
  rw [List.reverse_append, List.reverse_singleton, List.singleton_append, List.dropWhile_cons]
  by_cases h : c = 47
  · rw [if_pos (by simp [h]), if_pos h]
  · rw [if_neg (by simp [h]), if_neg h]; simp
theorem cut_snoc (m : List UInt8) (c : UInt8) : cutL (m ++ [c]) = if c = 47 then m ++ [c] else cutL m := by
  unfold cutL
  rw [List.reverse_append, List.reverse_singleton, List.singleton_append, List.dropWhile_cons]
  by_cases h : c = 47
  · rw [if_neg (by simp [h]), if_pos h]; simp
  · rw [if_pos (by simp [h]), if_neg h]
theorem bare_nil : bareL [] = [] := rfl
theorem cut_nil : cutL [] = [] := rfl
theorem bare_len : ∀ (n : Nat) (l : List UInt8), l.length = n → (bareL l).length ≤ l.length := by
  intro n
  induction n with
  | zero => intro l h; have : l = [] := List.length_eq_zero_iff.1 h; subst this; exact Nat.le_refl _
  | succ n ih =>
    intro l h
    rcases last_or l with rfl | ⟨m, c, rfl⟩
    · simp at h
    · rw [bare_snoc]
      have := ih m (by simpa using h)
      split
      · simp; omega
      · exact Nat.le_refl _
theorem cut_take : ∀ (n : Nat) (l : List UInt8), l.length = n → (cutL l).length ≤ l.length ∧ l.take (cutL l).length = cutL l := by
  intro n
  induction n with
  | zero => intro l h; have : l = [] := List.length_eq_zero_iff.1 h; subst this; exact ⟨Nat.le_refl _, rfl⟩
  | succ n ih =>
    intro l h
    rcases last_or l with rfl | ⟨m, c, rfl⟩
    · simp at h
    · rw [cut_snoc]
      obtain ⟨i1, i2⟩ := ih m (by simpa using h)
      split
      · exact ⟨Nat.le_refl _, List.take_length⟩
      · refine ⟨by simp; omega, ?_⟩
        rw [List.take_append_of_le_length i1, i2]
theorem last_cut (l : List UInt8) : ∀ n, n ≤ l.length → Lib.lastIdx (T l) 47 n + 1 = ((cutL (l.take n)).length : Int)
  | 0, _ => rfl
  | n + 1, h => by
    have ih := last_cut l n (by omega)
    have e : l.take (n + 1) = l.take n ++ [l[n]] := by rw [List.take_succ_eq_append_getElem (by omega)]
    have g : (T l).data[n]! = l[n] := by
      show (Array.mk l)[n]! = l[n]
      rw [getElem!_pos (Array.mk l) n (show n < l.length by omega)]; rfl
    rw [e, cut_snoc]
    by_cases hc : l[n] = 47
    · rw [if_pos hc, Lib.lastIdx_hit _ _ _ (by rw [g, hc]; rfl)]
      simp; omega
    · rw [if_neg hc, Lib.lastIdx_miss _ _ _ (by rw [g]; exact fun h => hc ((byte47 _).1 h))]
      exact ih
def upL (l : List UInt8) : List UInt8 := if bareL (cutL (bareL l)) = [] then (if absL l then [47] else [46]) else bareL (cutL (bareL l))
theorem up_eq (l : List UInt8) (h : l.length < 100000) : paths_Up.f (T l) = some (T (upL l)) := by
  unfold paths_Up.f strings_TrimRight.f strings_LastIndex.f
  have hb := bare_len _ l rfl
  have e1 : trimS (T l) = T (bareL l) := rfl
  obtain ⟨c1, c2⟩ := cut_take _ (bareL l) rfl
  have e2 := last_cut (bareL l) (bareL l).length (Nat.le_refl _)
  rw [List.take_length] at e2
  rw [if_pos ⟨rfl, by rw [T_size]; omega⟩]
  simp only [Option.bind_some]
  rw [e1, if_pos ⟨trivial, by rw [T_size]; omega⟩]
  simp only [Option.bind_some]
  have e3 : wrap64 (Lib.lastIndexByte (T (bareL l)) 47 + 1) = ((cutL (bareL l)).length : Int) := by
    unfold Lib.lastIndexByte
    rw [T_size, e2, w64 _ (by omega) (by omega)]
  rw [e3, if_pos (by omega), if_pos (by rw [T_size]; omega), T_ext, List.drop_zero, Int.toNat_natCast, Nat.sub_zero, c2, if_pos ⟨trivial, by rw [T_size]; omega⟩]
  simp only [Option.bind_some]
  have e4 : trimS (T (cutL (bareL l))) = T (bareL (cutL (bareL l))) := rfl
  rw [e4, T_list, abs_eq]
  simp only [Option.bind_some]
  unfold upL
  split
  · cases absL l <;> rfl
  · rfl
theorem bare_ref : ∀ (n k : Nat) (l : List UInt8), l.length = n → n < 100000 → n < k → gaolerref07_bare.l0 k (T l) = some (T (bareL l)) := by
  intro n
  induction n with
  | zero =>
    intro k l h h1 hk
    obtain ⟨k, rfl⟩ : ∃ m, k = m + 1 := ⟨k - 1, by omega⟩
    have : l = [] := List.length_eq_zero_iff.1 h
    subst this
    simp only [gaolerref07_bare.l0]
    rw [T_list, if_pos rfl, bare_nil]
  | succ n ih =>
    intro k l h h1 hk
    obtain ⟨k, rfl⟩ : ∃ m, k = m + 1 := ⟨k - 1, by omega⟩
    rcases last_or l with rfl | ⟨m, c, rfl⟩
    · simp at h
    · have hm : m.length = n := by simpa using h
      simp only [gaolerref07_bare.l0]
      have e : wrap64 (((T (m ++ [c])).size : Int) - 1) = (m.length : Int) := by
        rw [T_size, w64 _ (by first | (simp; done) | (simp; omega)) (by first | (simp; done) | (simp; omega))]; simp
      rw [T_list, if_neg (by simp), e, if_pos (by omega), if_pos (by rw [T_size]; simp; omega), bt_T _ _ (by simp), bare_snoc]
      have g : (m ++ [c])[m.length]'(by simp) = c := by simp
      rw [g]
      by_cases hc : c = 47
      · rw [if_pos ((byte47 _).2 hc), if_pos hc, if_pos (by rw [T_size]; simp; omega), T_ext, List.drop_zero, Int.toNat_natCast, Nat.sub_zero, List.take_left, ih k m hm (by omega) (by omega)]
      · rw [if_neg (fun h => hc ((byte47 _).1 h)), if_neg hc]
theorem up_cut (x0 : List UInt8) : ∀ (n k : Nat) (l : List UInt8), l.length = n → n < 100000 → n + 1 < k → n + 100002 < k → gaolerref07_Up.l0 k (T x0) (T l) =
    some (T (if bareL (cutL l) = [] then (if absL x0 then [47] else [46]) else bareL (cutL l))) := by
  have hj : ∀ (k : Nat) (y : List UInt8), y.length < 100000 → 100001 < k → gaolerref07_Up.j1 k (T x0) (T y) = some (T (if bareL y = [] then (if absL x0 then [47] else [46]) else bareL y)) := by
    intro k y hy hk
    obtain ⟨k, rfl⟩ : ∃ m, k = m + 1 := ⟨k - 1, by omega⟩
    simp only [gaolerref07_Up.j1, gaolerref07_bare.f]
    rw [bare_ref y.length k y rfl hy (by omega)]
    simp only [Option.bind_some]
    rw [T_list, abs_ref]
    simp only [Option.bind_some]
    split
    · cases absL x0 <;> rfl
    · rfl
  intro n
  induction n with
  | zero =>
    intro k l h h1 hk hk2
    obtain ⟨k, rfl⟩ : ∃ m, k = m + 1 := ⟨k - 1, by omega⟩
    have : l = [] := List.length_eq_zero_iff.1 h
    subst this
    simp only [gaolerref07_Up.l0]
    rw [T_list, if_pos rfl, cut_nil, hj k [] (by simp) (by omega)]
  | succ n ih =>
    intro k l h h1 hk hk2
    obtain ⟨k, rfl⟩ : ∃ m, k = m + 1 := ⟨k - 1, by omega⟩
    rcases last_or l with rfl | ⟨m, c, rfl⟩
    · simp at h
    · have hm : m.length = n := by simpa using h
      simp only [gaolerref07_Up.l0]
      have e : wrap64 (((T (m ++ [c])).size : Int) - 1) = (m.length : Int) := by
        rw [T_size, w64 _ (by first | (simp; done) | (simp; omega)) (by first | (simp; done) | (simp; omega))]; simp
      rw [T_list, if_neg (by simp), e, if_pos (by omega), if_pos (by rw [T_size]; simp; omega), bt_T _ _ (by simp), cut_snoc]
      have g : (m ++ [c])[m.length]'(by simp) = c := by simp
      rw [g]
      by_cases hc : c = 47
      · rw [if_pos ((byte47 _).2 hc), if_pos hc, hj k _ (by simp; omega) (by omega)]
      · rw [if_neg (fun h => hc ((byte47 _).1 h)), if_neg hc, if_pos (by rw [T_size]; simp; omega), T_ext, List.drop_zero, Int.toNat_natCast, Nat.sub_zero, List.take_left, ih k m hm (by omega) (by omega) (by omega)]
theorem up_ref (l : List UInt8) (h : l.length < 100000) (k : Nat) (hk : 300000 < k) : gaolerref07_Up.f k (T l) = some (T (upL l)) := by
  unfold gaolerref07_Up.f gaolerref07_bare.f
  rw [bare_ref _ k l rfl h (by omega)]
  simp only [Option.bind_some]
  have := bare_len _ l rfl
  rw [up_cut l _ k (bareL l) rfl (by omega) (by omega) (by omega)]
  rfl
def joinL (a b : List UInt8) : List UInt8 := if a = [] then b else if endL a then a ++ b else a ++ [47] ++ b
theorem join_eq (a b : List UInt8) (ha : a.length < 100000) (hb : b.length < 100000) : paths_Join.f (T a) (T b) = some (T (joinL a b)) := by
  unfold paths_Join.f joinL
  rw [T_slash, suf_eq a (by omega), T_list, T_app, T_app, T_app, T_size, T_size, T_size]
  simp only [Option.bind_some]
  by_cases h : a = []
  · rw [if_pos h, if_pos h, if_pos (by omega), h]; rfl
  · rw [if_neg h, if_neg h]
    cases endL a with
    | true => rw [if_pos rfl, if_pos rfl, if_pos (by omega)]
    | false =>
      simp only [Bool.false_eq_true, if_false]
      rw [if_pos (by omega), if_pos (by simp; omega)]
theorem join_ref (a b : List UInt8) (ha : a.length < 100000) (hb : b.length < 100000) : gaolerref07_Join.f (T a) (T b) = some (T (joinL a b)) := by
  unfold gaolerref07_Join.f joinL
  rw [T_slash, T_list, T_app, T_app, T_app, T_size, T_size, T_size]
  by_cases h : a = []
  · rw [if_pos h, if_pos h, if_pos (by omega), h]; rfl
  · rw [if_neg h, if_neg h]
    rcases last_or a with rfl | ⟨m, c, rfl⟩
    · exact absurd rfl h
    · have ha' : m.length + 1 < 100000 := by simpa using ha
      have e : wrap64 (((m ++ [c]).length : Int) - 1) = (m.length : Int) := by
        simp at ha
        rw [w64 _ (by first | (simp; done) | (simp; omega)) (by first | (simp; done) | (simp; omega))]; simp
      rw [e, if_pos (by omega), if_pos (by simp; omega), bt_T _ _ (by simp)]
      have g : (m ++ [c])[m.length]'(by simp) = c := by simp
      rw [g]
      simp only [endL, List.getLast?_append, List.getLast?_singleton, Option.some_or]
      by_cases hc : c = 47
      · rw [if_pos ((byte47 _).2 hc), if_pos (by omega), if_pos (by simp [hc])]
      · rw [if_neg (fun h => hc ((byte47 _).1 h)), if_pos (by simp; omega), if_pos (by simp; omega), if_neg (by simp [hc])]
end Go.Proofs.YtkibigbjgohdkaaDoor.L
