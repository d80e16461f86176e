/- Plain facts: what the functions of paths and of the reference say of a text, told by the list of its bytes. No machine in sight. -/
import Derived.Test.YtkibigbjgohdkaaDoorS1
import Derived.Test.YtkibigbjgohdkaaDoorS2
import Derived.Test.YtkibigbjgohdkaaDoorS3
import Derived.Test.YtkibigbjgohdkaaDoorS4
import Derived.Test.YtkibigbjgohdkaaDoorS5
namespace Go.Proofs.YtkibigbjgohdkaaDoor.L
open Go.RowKit Go.Proofs.YtkibigbjgohdkaaDoor.S Go.Proofs.YtkibigbjgohdkaaDoorW.PrintWords Go.Proofs.YtkibigbjgohdkaaDoorW.PrintLast
set_option linter.unusedVariables false
set_option linter.unusedSimpArgs false

theorem w64 (n : Int) (h1 : -9223372036854775808 ≤ n) (h2 : n ≤ 9223372036854775807) : wrap64 n = n := by unfold wrap64; omega
theorem wsucc (i : Nat) (h : i < 1000000000000) : wrap64 ((i : Int) + 1) = ((i + 1 : Nat) : Int) := by rw [w64 _ (by omega) (by omega)]; rfl
theorem wpred (i : Nat) (h : i < 1000000000000) (h0 : 0 < i) : wrap64 ((i : Int) - 1) = ((i - 1 : Nat) : Int) := by rw [w64 _ (by omega) (by omega)]; omega
/-- A text of these bytes. -/
def T (l : List UInt8) : ByteArray := ⟨⟨l⟩⟩
theorem T_data (l : List UInt8) : (T l).data.toList = l := rfl
theorem T_size (l : List UInt8) : (T l).size = l.length := rfl
theorem T_list (l : List UInt8) : (T l).toList = l := by rw [ByteArray.toList_eq]; rfl
theorem T_of (s : ByteArray) : T s.data.toList = s := rfl
theorem T_inj {a b : List UInt8} : T a = T b ↔ a = b := ⟨fun h => by have := congrArg (fun s : ByteArray => s.data.toList) h; exact this, fun h => by rw [h]⟩
theorem T_app (a b : List UInt8) : T a ++ T b = T (a ++ b) := by
  apply ByteArray.ext; apply Array.ext'; simp [T]
theorem T_ext (l : List UInt8) (a b : Nat) : (T l).extract a b = T ((l.drop a).take (b - a)) := by
  apply ByteArray.ext; apply Array.ext'; simp [T]
theorem T_nil : (⟨#[]⟩ : ByteArray) = T [] := rfl
theorem T_slash : (⟨#[47]⟩ : ByteArray) = T [47] := rfl
theorem T_dot : (⟨#[46]⟩ : ByteArray) = T [46] := rfl
theorem bt_T (l : List UInt8) (i : Nat) (h : i < l.length) : bt (T l) (i : Int) = ((l[i]'h).toNat : Int) := by
  unfold bt
  rw [dif_pos (show ((i : Int)).toNat < (T l).size from h)]
  rfl
theorem byte_is (c d : UInt8) : ((c.toNat : Int) = (d.toNat : Int)) ↔ c = d := ⟨fun h => UInt8.toNat.inj (by omega), fun h => by rw [h]⟩
theorem byte47 (c : UInt8) : ((c.toNat : Int) = 47) ↔ c = 47 := byte_is c 47
theorem bytes_T (l : List UInt8) : bytesArr l = T l := rfl
theorem bytesMap (l : List (List UInt8)) : l.map bytesArr = l.map T := rfl

def absL (l : List UInt8) : Bool := l.head? == some 47
def endL (l : List UInt8) : Bool := l.getLast? == some 47
theorem head_or (l : List UInt8) : l = [] ∨ ∃ c m, l = c :: m := by cases l; exact .inl rfl; exact .inr ⟨_, _, rfl⟩
theorem last_or (l : List UInt8) : l = [] ∨ ∃ m c, l = m ++ [c] := by
  rcases List.eq_nil_or_concat l with h | ⟨m, c, h⟩
  · exact .inl h
  · exact .inr ⟨m, c, by simpa using h⟩
theorem abs_eq (l : List UInt8) : paths_abs.f (T l) = some (absL l) := by
  unfold paths_abs.f strings_HasPrefix.f stringslite_HasPrefix.f
  rw [T_slash, T_size, T_size]
  rcases head_or l with rfl | ⟨c, m, rfl⟩
  · rfl
  · rw [if_pos (by simp; omega), if_pos (by simp), if_pos (by simp; omega), T_ext, T_list, T_list]
    simp [absL]
theorem suf_eq (l : List UInt8) (h : l.length < 1000000000000) : strings_HasSuffix.f (T l) (T [47]) = some (endL l) := by
  unfold strings_HasSuffix.f stringslite_HasSuffix.f
  rw [T_size, T_size]
  rcases last_or l with rfl | ⟨m, c, rfl⟩
  · rfl
  · have e : wrap64 (((m ++ [c]).length : Int) - (([47] : List UInt8).length : Int)) = (m.length : Int) := by
      simp at h ⊢; rw [w64 _ (by omega) (by omega)]
    rw [if_pos (by simp; omega), e, if_pos (by omega), if_pos (by simp; omega), T_ext, T_list, T_list]
    simp [endL]
theorem abs_ref (l : List UInt8) : gaolerref07_Abs.f (T l) = some (absL l) := by
  unfold gaolerref07_Abs.f
  rw [T_list, T_size]
  rcases head_or l with rfl | ⟨c, m, rfl⟩
  · rfl
  · rw [if_neg (by simp), if_pos (by simp)]
    have := bt_T (c :: m) 0 (by simp)
    rw [show ((0 : Nat) : Int) = 0 from rfl] at this
    rw [this]
    simp only [absL, List.head?_cons, List.getElem_cons_zero]
    congr 1
    rw [Bool.eq_iff_iff]
    simp [byte47]
theorem names_eq (l : List UInt8) (h : l.length < 1000000) : paths_names.f (T l) = some ((namesL [] l).map T) := by
  unfold paths_names.f
  rw [if_pos (by rw [T_size]; omega)]
  rfl
theorem namesL_len : ∀ (l cur : List UInt8), (namesL cur l).length ≤ l.length + 1
  | [], cur => by unfold namesL; split <;> simp
  | c :: l, cur => by
    unfold namesL
    have i1 := namesL_len l []
    have i2 := namesL_len l (cur ++ [c])
    split
    · split
      · simp; omega
      · simp; omega
    · simp; omega
/-- A walk over a text that ends in a slash. -/
def nT : List UInt8 → List UInt8 → List (List UInt8)
  | cur, [] => []
  | cur, c :: l => if c = 47 then (if cur = [] then nT [] l else cur :: nT [] l) else nT (cur ++ [c]) l
theorem nT_names : ∀ (l cur : List UInt8), nT cur (l ++ [47]) = namesL cur l
  | [], cur => by simp [nT, namesL]
  | c :: l, cur => by
    simp only [List.cons_append, nT, namesL]
    rw [nT_names l [], nT_names l (cur ++ [c])]
theorem refNames (t : List UInt8) (ht : t.length < 1000000) (d : Nat) : ∀ (k i : Nat) (x3 : List ByteArray) (cur : List UInt8), i ≤ t.length → t.length - i = d → d < k → x3.length ≤ i → cur.length ≤ i →
    gaolerref07_Names.l0 k x3 (T cur) (T t) (i : Int) = some (x3 ++ (nT cur (t.drop i)).map T) := by
  induction d with
  | zero =>
    intro k i x3 cur h1 hd hk h3 h4
    obtain ⟨k, rfl⟩ : ∃ m, k = m + 1 := ⟨k - 1, by omega⟩
    simp only [gaolerref07_Names.l0]
    rw [if_neg (by rw [T_size]; omega), List.drop_eq_nil_of_le (by omega)]
    simp [nT]
  | succ d ih =>
    intro k i x3 cur h1 hd hk h3 h4
    obtain ⟨k, rfl⟩ : ∃ m, k = m + 1 := ⟨k - 1, by omega⟩
    have hlt : i < t.length := by omega
    have hdrop : t.drop i = t[i] :: t.drop (i + 1) := (List.getElem_cons_drop hlt).symm
    simp only [gaolerref07_Names.l0]
    rw [if_pos (by rw [T_size]; omega), if_pos (by omega), bt_T t i hlt, wsucc i (by omega), hdrop, T_list]
    by_cases hc : t[i] = 47
    · rw [if_pos ((byte47 _).2 hc)]
      simp only [nT, if_pos hc]
      by_cases hn : cur = []
      · rw [if_pos hn, if_pos hn, T_nil, ih k (i + 1) x3 [] (by omega) (by omega) (by omega) (by omega) (by simp)]
      · rw [if_neg hn, if_neg hn, if_pos (by omega), T_nil, ih k (i + 1) (x3 ++ [T cur]) [] (by omega) (by omega) (by omega) (by simp; omega) (by simp)]
        simp
    · rw [if_neg (fun h => hc ((byte47 _).1 h))]
      simp only [nT, if_neg hc]
      have e : (T t).extract ((i : Int)).toNat (((i + 1 : Nat) : Int)).toNat = T [t[i]] := by
        rw [T_ext, T_inj, Int.toNat_natCast, Int.toNat_natCast, hdrop, show i + 1 - i = 1 by omega]; rfl
      rw [if_pos (by omega), if_pos (by rw [T_size]; omega), e, if_pos (by rw [T_size, T_size]; simp; omega), T_app, ih k (i + 1) x3 (cur ++ [t[i]]) (by omega) (by omega) (by omega) (by omega) (by simp; omega)]
theorem names_ref (l : List UInt8) (h : l.length < 100000) (k : Nat) (hk : l.length + 1 < k) : gaolerref07_Names.f k (T l) = some ((namesL [] l).map T) := by
  unfold gaolerref07_Names.f
  rw [if_pos (by rw [T_size]; omega), T_slash, T_app, T_nil]
  have := refNames (l ++ [47]) (by simp; omega) (l.length + 1) k 0 [] [] (by simp) (by simp) hk (by simp) (by simp)
  rw [show ((0 : Nat) : Int) = 0 from rfl, List.drop_zero, nT_names, List.nil_append] at this
  exact this
theorem namesL_ne (l : List UInt8) (h : namesL [] l ≠ []) : l ≠ [] := by rintro rfl; exact h rfl
/-- Split: is it absolute, its names, and a dot behind a slash at the end. -/
def splitL (l : List UInt8) : List (List UInt8) := if namesL [] l = [] then [] else if endL l then namesL [] l ++ [[46]] else namesL [] l
theorem map_nil {l : List (List UInt8)} : l.map T = [] ↔ l = [] := by cases l <;> simp
theorem split_eq (l : List UInt8) (h : l.length < 100000) : paths_Split.f (T l) = some (absL l, (splitL l).map T) := by
  unfold paths_Split.f
  rw [names_eq l (by omega), T_slash, suf_eq l (by omega), abs_eq]
  simp only [Option.bind_some]
  unfold splitL
  by_cases hn : namesL [] l = []
  · rw [if_pos (map_nil.2 hn), if_pos hn]; rfl
  · rw [if_neg (fun h => hn (map_nil.1 h)), if_neg hn]
    have := namesL_len l []
    by_cases he : endL l = true
    · rw [if_pos he, if_pos he, if_pos (by rw [List.length_map]; omega), List.map_append]; rfl
    · rw [if_neg he, if_neg he]
theorem split_ref (l : List UInt8) (h : l.length < 100000) (k : Nat) (hk : l.length + 1 < k) : gaolerref07_Split.f k (T l) = some (absL l, (splitL l).map T) := by
  unfold gaolerref07_Split.f
  rw [names_ref l h k hk]
  simp only [Option.bind_some]
  rw [abs_ref]
  simp only [Option.bind_some]
  unfold splitL
  by_cases hn : namesL [] l = []
  · rw [if_neg (by simp [hn]), if_pos hn, hn]
  · have hl := namesL_ne l hn
    have := namesL_len l []
    have hp : 0 < (namesL [] l).length := List.length_pos_iff.2 hn
    rw [if_pos (by rw [List.length_map]; omega), if_neg hn, T_size]
    rcases last_or l with rfl | ⟨m, c, rfl⟩
    · exact absurd rfl hl
    · simp only [List.length_append, List.length_singleton] at h ⊢
      have e : wrap64 (((m.length + 1 : Nat) : Int) - 1) = (m.length : Int) := by rw [w64 _ (by omega) (by omega)]; omega
      rw [e, if_pos (by omega), if_pos (by omega), bt_T _ _ (by simp)]
      have g : (m ++ [c])[m.length]'(by simp) = c := by simp
      rw [g]
      simp only [endL, List.getLast?_append, List.getLast?_singleton, Option.some_or]
      by_cases hc : c = 47
      · rw [if_pos ((byte47 _).2 hc), if_pos (by simp only [List.length_map, List.length_append, List.length_singleton] at *; omega), if_pos (by simp [hc]), List.map_append]; rfl
      · rw [if_neg (fun h => hc ((byte47 _).1 h)), if_neg (by simp [hc])]
theorem same_self (xs : List ByteArray) (h : xs.length < 1000000) (d : Nat) : ∀ (k i : Nat), i ≤ xs.length → xs.length - i = d → d < k → gaolerref07_Same.l0 k xs xs (i : Int) = some true := by
  induction d with
  | zero =>
    intro k i h1 hd hk
    obtain ⟨k, rfl⟩ : ∃ m, k = m + 1 := ⟨k - 1, by omega⟩
    simp only [gaolerref07_Same.l0]
    rw [if_neg (by omega)]
  | succ d ih =>
    intro k i h1 hd hk
    obtain ⟨k, rfl⟩ : ∃ m, k = m + 1 := ⟨k - 1, by omega⟩
    simp only [gaolerref07_Same.l0]
    rw [if_pos (by omega), if_pos (by omega), if_pos (by omega), if_pos trivial, wsucc i (by omega), ih k (i + 1) (by omega) (by omega) (by omega)]
theorem same_eq (xs : List ByteArray) (h : xs.length < 1000000) (k : Nat) (hk : xs.length < k) : gaolerref07_Same.f k xs xs = some true := by
  unfold gaolerref07_Same.f
  rw [if_pos rfl]
  exact same_self xs h xs.length k 0 (by omega) (by omega) hk
end Go.Proofs.YtkibigbjgohdkaaDoor.L
