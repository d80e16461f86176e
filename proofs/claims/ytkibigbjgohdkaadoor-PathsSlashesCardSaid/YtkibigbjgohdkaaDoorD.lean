/- Plain facts on texts cut at one ASCII byte (strings.FieldsFunc), and on the bytes of a rune: no program in sight. -/
import Derived.Lib.FieldsP
import Derived.Lib.SpaceUEq
import Derived.Lib.IndexAny
import Derived.Test.YtkibigbjgohdkaaDoorC
namespace Go.Proofs.YtkibigbjgohdkaaDoor.S
open Go.RowKit
set_option linter.unusedVariables false
set_option linter.unusedSimpArgs false

/-- The bytes of a rune that begins at pos and isn't ASCII: all are high. -/
theorem rune_bytes (s : ByteArray) (pos : Nat) (h : pos < s.size) : pos + (Utf8.decode s pos).2 ≤ s.size ∧ 1 ≤ (Utf8.decode s pos).2 ∧
    ((s[pos]'h).toNat < 128 → (Utf8.decode s pos).2 = 1 ∧ (Utf8.decode s pos).1 = (s[pos]'h).toNat) ∧
    (128 ≤ (s[pos]'h).toNat → 128 ≤ (Utf8.decode s pos).1 ∧ ∀ j, pos ≤ j → j < pos + (Utf8.decode s pos).2 → ∀ hj : j < s.size, 128 ≤ (s[j]'hj).toNat) := by
  have hle := Lib.decodeN_le_n' (s.size - pos) (s.get! pos).toNat (s.get! (pos + 1)).toNat (s.get! (pos + 2)).toNat (s.get! (pos + 3)).toNat (by omega)
  have hco := Lib.decodeN_conts (s.size - pos) (s.get! pos).toNat (s.get! (pos + 1)).toNat (s.get! (pos + 2)).toNat (s.get! (pos + 3)).toNat
  rw [← Lib.decode_at] at hle hco
  refine ⟨by omega, Lib.width_pos s pos, fun ha => ?_, fun ha => ⟨(decode_high s pos h ha).1, fun j h1 h2 hj => ?_⟩⟩
  · rw [decode_ascii s pos h ha]; exact ⟨rfl, rfl⟩
  · have hg : ∀ i (hi : i < s.size), s.get! i = s[i]'hi := fun i hi => by
      have := get_at s i hi; simpa using this
    obtain ⟨c1, c2, c3, c4⟩ := hco
    by_cases e0 : j = pos
    · subst e0; exact ha
    · by_cases e1 : j = pos + 1
      · subst e1; have := (c1 (by omega)).1; rw [hg _ hj] at this; omega
      · by_cases e2 : j = pos + 2
        · subst e2; have := (c2 (by omega)).1; rw [hg _ hj] at this; omega
        · have e3 : j = pos + 3 := by omega
          subst e3; have := (c3 (by omega)).1; rw [hg _ hj] at this; omega

/-- The texts between slashes. -/
def namesL : List UInt8 → List UInt8 → List (List UInt8)
  | cur, [] => if cur = [] then [] else [cur]
  | cur, c :: l => if c = 47 then (if cur = [] then namesL [] l else cur :: namesL [] l) else namesL (cur ++ [c]) l
def bytesArr (l : List UInt8) : ByteArray := ⟨l.toArray⟩
def namesOf (s : ByteArray) : List ByteArray := (namesL [] s.data.toList).map bytesArr
theorem namesL_skip : ∀ (m l cur : List UInt8), (∀ c ∈ m, c ≠ 47) → namesL cur (m ++ l) = namesL (cur ++ m) l
  | [], l, cur, _ => by simp
  | c :: m, l, cur, h => by
    have h1 : c ≠ 47 := h c (by simp)
    simp only [List.cons_append, namesL, if_neg h1]
    rw [namesL_skip m l (cur ++ [c]) (fun x hx => h x (by simp [hx]))]
    simp
def piece (s : ByteArray) (a b : Nat) : List UInt8 := (s.data.toList.take b).drop a
theorem piece_snoc (s : ByteArray) (a b c : Nat) (h1 : a ≤ b) (h2 : b ≤ c) (h3 : c ≤ s.size) : piece s a b ++ (s.data.toList.drop b).take (c - b) = piece s a c := by
  unfold piece
  have e : s.data.toList.take c = s.data.toList.take b ++ (s.data.toList.drop b).take (c - b) := by
    rw [← List.take_append_drop b (s.data.toList.take c), List.take_take, List.drop_take, Nat.min_eq_left h2]
  rw [e, List.drop_append_of_le_length]
  simp; omega
theorem piece_self (s : ByteArray) (a : Nat) : piece s a a = [] := by
  unfold piece
  apply List.drop_eq_nil_of_le
  simp; omega
theorem piece_ne (s : ByteArray) (a b : Nat) (h : a < b) (hb : b ≤ s.size) : piece s a b ≠ [] := by
  intro h0
  have := congrArg List.length h0
  unfold piece at this
  simp at this
  omega
def curOf (s : ByteArray) (st : Option Nat) (pos : Nat) : List UInt8 := match st with | some a => piece s a pos | none => []
theorem spans_names (s : ByteArray) : ∀ (f pos : Nat) (st : Option Nat) (acc : List (Nat × Nat)), s.size ≤ pos + f → pos ≤ s.size → (∀ a, st = some a → a < pos) →
    (Lib.closeSpans s (Lib.spansFromP (fun r => r == 47) s f pos st acc)).map (fun x => piece s x.1 x.2) = acc.map (fun x => piece s x.1 x.2) ++ namesL (curOf s st pos) (s.data.toList.drop pos)
  | f, pos, st, acc, h1, h2, h3 => by
    by_cases hp : pos < s.size
    · obtain ⟨f, rfl⟩ : ∃ g, f = g + 1 := ⟨f - 1, by omega⟩
      obtain ⟨b1, b2, b3, b4⟩ := rune_bytes s pos hp
      have ih := fun K st acc h1 h2 h3 => spans_names s f (pos + K) st acc h1 h2 h3
      generalize hd : Utf8.decode s pos = d at b1 b2 b3 b4
      have hcons : s.data.toList.drop pos = (s[pos]'hp) :: s.data.toList.drop (pos + 1) := by
        rw [List.drop_eq_getElem_cons (by simpa using hp)]; rfl
      simp only [Lib.spansFromP, if_pos hp, hd]
      by_cases ha : (s[pos]'hp).toNat < 128
      · obtain ⟨k1, k2⟩ := b3 ha
        rw [k1, k2]
        by_cases hs : s[pos]'hp = 47
        · have : ((s[pos]'hp).toNat == 47) = true := by rw [hs]; rfl
          simp only [this, if_true]
          cases st with
          | none =>
            simp only
            rw [ih 1 none acc (by omega) (by omega) (by simp), hcons]
            simp [curOf, namesL, hs]
          | some a =>
            have ha' := h3 a rfl
            simp only
            rw [ih 1 none (acc ++ [(a, pos)]) (by omega) (by omega) (by simp), hcons]
            simp [curOf, namesL, hs, piece_ne s a pos ha' h2]
        · have : ((s[pos]'hp).toNat == 47) = false := by
            rw [beq_eq_false_iff_ne]; intro h; exact hs (UInt8.toNat.inj (by simpa using h))
          simp only [this, Bool.false_eq_true, if_false]
          cases st with
          | none =>
            simp only
            rw [ih 1 (some pos) acc (by omega) (by omega) (by intro a h; cases h; omega), hcons]
            have e := piece_snoc s pos pos (pos + 1) (Nat.le_refl _) (by omega) (by omega)
            rw [piece_self, hcons, show pos + 1 - pos = 1 by omega] at e
            simp only [curOf, namesL, if_neg hs]
            rw [← e]; simp
          | some a =>
            have ha' := h3 a rfl
            simp only
            rw [ih 1 (some a) acc (by omega) (by omega) (by intro b h; cases h; omega), hcons]
            have e := piece_snoc s a pos (pos + 1) (by omega) (by omega) (by omega)
            rw [hcons, show pos + 1 - pos = 1 by omega] at e
            simp only [curOf, namesL, if_neg hs]
            rw [← e]; simp
      · obtain ⟨k1, k2⟩ := b4 (by omega)
        have : (d.1 == 47) = false := by rw [beq_eq_false_iff_ne]; omega
        simp only [this, Bool.false_eq_true, if_false]
        have hsplit : s.data.toList.drop pos = (s.data.toList.drop pos).take d.2 ++ s.data.toList.drop (pos + d.2) := by
          rw [← List.drop_drop, List.take_append_drop]
        have hno : ∀ c ∈ (s.data.toList.drop pos).take d.2, c ≠ 47 := by
          intro c hc
          obtain ⟨i, hi, rfl⟩ := List.mem_iff_getElem.1 hc
          simp only [List.length_take, List.length_drop, Array.length_toList, ByteArray.size_data] at hi
          have hk := k2 (pos + i) (by omega) (by omega) (by omega)
          simp only [List.getElem_take, List.getElem_drop, Array.getElem_toList]
          intro h0
          have h0' : s[pos + i] = 47 := h0
          rw [h0'] at hk
          exact absurd hk (by decide)
        cases st with
        | none =>
          simp only
          rw [ih d.2 (some pos) acc (by omega) (by omega) (by intro a h; cases h; omega)]
          have e := piece_snoc s pos pos (pos + d.2) (Nat.le_refl _) (by omega) (by omega)
          rw [piece_self, show pos + d.2 - pos = d.2 by omega] at e
          refine congrArg (fun z => acc.map (fun x => piece s x.1 x.2) ++ z) ?_
          simp only [curOf]
          rw [hsplit, namesL_skip _ _ _ hno, ← e]
        | some a =>
          have ha' := h3 a rfl
          simp only
          rw [ih d.2 (some a) acc (by omega) (by omega) (by intro b h; cases h; omega)]
          have e := piece_snoc s a pos (pos + d.2) (by omega) (by omega) (by omega)
          rw [show pos + d.2 - pos = d.2 by omega] at e
          refine congrArg (fun z => acc.map (fun x => piece s x.1 x.2) ++ z) ?_
          simp only [curOf]
          rw [hsplit, namesL_skip _ _ _ hno, ← e]
    · obtain rfl : pos = s.size := by omega
      rw [Lib.spansFromP_end _ _ _ _ _ _ hp]
      have hnil : s.data.toList.drop s.size = [] := List.drop_eq_nil_of_le (by simp)
      rw [hnil]
      cases st with
      | none => simp [Lib.closeSpans, curOf, namesL]
      | some a =>
        have ha' := h3 a rfl
        simp [Lib.closeSpans, curOf, namesL, piece_ne s a s.size ha' (Nat.le_refl _)]
theorem fields_names (s : ByteArray) : Lib.goFieldsP (fun r => r == 47) s = namesOf s := by
  have h := spans_names s s.size 0 none [] (by omega) (by omega) (by simp)
  simp only [List.map_nil, List.nil_append, curOf, List.drop_zero] at h
  unfold Lib.goFieldsP Lib.spansOfP namesOf
  rw [← h, List.map_map]
  apply List.map_congr_left
  intro x _
  simp only [Function.comp]
  apply ByteArray.ext
  apply Array.ext'
  simp [bytesArr, piece, List.drop_take]

def anyOf (s : ByteArray) : Bool := s.data.toList.any (fun b => b == 47 || b == 0)
theorem anyOf_eq (s : ByteArray) : decide (0 ≤ Lib.indexAny s.data.toList [47, 0]) = anyOf s := by
  unfold anyOf
  generalize s.data.toList = l
  induction l with
  | nil => rfl
  | cons b l ih =>
    have hg := Lib.indexAny_ge [47, 0] l
    rw [List.any_cons, ← ih]
    have hc : [(47 : UInt8), 0].contains b = (b == 47 || b == 0) := by rw [Bool.eq_iff_iff]; simp
    have hx : Lib.indexAny (b :: l) [47, 0] = if [(47 : UInt8), 0].contains b then 0 else if Lib.indexAny l [47, 0] == -1 then -1 else Lib.indexAny l [47, 0] + 1 := rfl
    rw [hx, hc]
    cases hb : (b == 47 || b == 0) with
    | true => simp
    | false =>
      simp only [Bool.false_eq_true, if_false, Bool.false_or]
      by_cases h1 : Lib.indexAny l [47, 0] = -1
      · simp [h1]
      · have : (Lib.indexAny l [47, 0] == -1) = false := beq_eq_false_iff_ne.2 h1
        rw [this]
        simp only [Bool.false_eq_true, if_false]
        exact decide_eq_decide.2 (by omega)
/-- no such byte ahead of i. -/
def NoneTo (s : ByteArray) (i : Nat) : Prop := ∀ j, j < i → ∀ hj : j < s.size, s[j]'hj ≠ 47 ∧ s[j]'hj ≠ 0
theorem NoneTo.all {s : ByteArray} (h : NoneTo s s.size) : anyOf s = false := by
  unfold anyOf
  rw [List.any_eq_false]
  intro b hb
  obtain ⟨i, hi, rfl⟩ := List.mem_iff_getElem.1 hb
  have hi' : i < s.size := by simpa using hi
  have := h i hi' hi'
  have e : s.data.toList[i] = s[i] := rfl
  rw [e]
  simp [this.1, this.2]
theorem anyOf_hit {s : ByteArray} {i : Nat} (hi : i < s.size) (h : s[i]'hi = 47 ∨ s[i]'hi = 0) : anyOf s = true := by
  unfold anyOf
  rw [List.any_eq_true]
  refine ⟨s[i]'hi, Array.mem_toList_iff.2 (Array.getElem_mem (by simpa using hi)), ?_⟩
  rcases h with h | h <;> rw [h] <;> rfl
end Go.Proofs.YtkibigbjgohdkaaDoor.S
