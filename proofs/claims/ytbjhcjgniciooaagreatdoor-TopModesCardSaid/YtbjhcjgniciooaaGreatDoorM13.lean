/- TopModes: a part of the proof, merged. -/
import Derived.Lib.FieldsP
import Derived.Lib.SpaceUEq
import Derived.Lib.IndexAny
import Derived.Lib.OthersKept
import Derived.Lib.SlBytesConst
import Derived.Laws.RangeAny
import Derived.Test.YtbjhcjgniciooaaGreatDoorM11
import Derived.Test.YtbjhcjgniciooaaGreatDoorM12
namespace Go.Proofs.YtbjhcjgniciooaaGreatDoor.G
open Go.RowKit Go.Proofs.YtbjhcjgniciooaaGreatDoorW.PrintWords Go.Proofs.YtbjhcjgniciooaaGreatDoorW.PrintLast Go.Proofs.YtbjhcjgniciooaaGreatDoorW.PrintMore
attribute [local go_sem] max2_int min2_int max_two min_two
set_option linter.unusedVariables false
set_option linter.unusedSimpArgs false
theorem iter_below (w : World) (s : ByteArray) (p : Nat) : Below w.heap.size w (w.iter s p) := (Below.refl _ _).alloc (Nat.le_refl _) _
/-- The bytes of a rune that begins at pos and isn't ASCII: all are high. -/
theorem rune_bytes (s : ByteArray) (pos : Nat) (h : pos < s.size) : pos + (Utf8.decode s pos).2 ≤ s.size ∧ 1 ≤ (Utf8.decode s pos).2 ∧
  ((s[pos]'h).toNat < 128 → (Utf8.decode s pos).2 = 1 ∧ (Utf8.decode s pos).1 = (s[pos]'h).toNat) ∧
  (128 ≤ (s[pos]'h).toNat → 128 ≤ (Utf8.decode s pos).1 ∧ ∀ j, pos ≤ j → j < pos + (Utf8.decode s pos).2 → ∀ hj : j < s.size, 128 ≤ (s[j]'hj).toNat) := by
 have hle := Lib.decodeN_le_n' (s.size - pos) (s.get! pos).toNat (s.get! (pos + 1)).toNat (s.get! (pos + 2)).toNat (s.get! (pos + 3)).toNat (by omega)
 have hco := Lib.decodeN_conts (s.size - pos) (s.get! pos).toNat (s.get! (pos + 1)).toNat (s.get! (pos + 2)).toNat (s.get! (pos + 3)).toNat
 rw [← Lib.decode_at] at hle hco
 refine ⟨by omega, Lib.width_pos s pos, fun ha => ?_, fun ha => ⟨(decode_high s pos h ha).1, fun j h1 h2 hj => ?_⟩⟩
 ·rw [decode_ascii s pos h ha]; exact ⟨rfl, rfl⟩
 ·have hg : ∀ i (hi : i < s.size), s.get! i = s[i]'hi := fun i hi => by
   have := get_at s i hi; simpa using this
  obtain ⟨c1, c2, c3, c4⟩ := hco
  by_cases e0 : j = pos
  ·subst e0; exact ha
  ·by_cases e1 : j = pos + 1
   ·subst e1; have := (c1 (by omega)).1; rw [hg _ hj] at this; omega
   ·by_cases e2 : j = pos + 2
    ·subst e2; have := (c2 (by omega)).1; rw [hg _ hj] at this; omega
    ·have e3 : j = pos + 3 := by omega
     subst e3; have := (c3 (by omega)).1; rw [hg _ hj] at this; omega
/-- The texts between slashes. -/
def namesL : List UInt8 → List UInt8 → List (List UInt8)
 | cur, [] => if cur = [] then [] else [cur]
 | cur, c :: l => if c = 47 then (if cur = [] then namesL [] l else cur :: namesL [] l) else namesL (cur ++ [c]) l
def bytesArr (l : List UInt8) : ByteArray := ⟨l.toArray⟩
def namesOf (s : ByteArray) : List ByteArray := (namesL [] s.data.toList).map bytesArr
theorem namesL_skip : ∀ (m l cur : List UInt8), (∀ c ∈ m, c ≠ 47) → namesL cur (m ++ l) = namesL (cur ++ m) l
 | [], l, cur, _ => by simp
 | c :: m, l, cur, h => by
  have h1 : c ≠ 47 := h c (by simp)
  simp only [List.cons_append, namesL, if_neg h1]
  rw [namesL_skip m l (cur ++ [c]) (fun x hx => h x (by simp [hx]))]
  simp
def piece (s : ByteArray) (a b : Nat) : List UInt8 := (s.data.toList.take b).drop a
theorem piece_snoc (s : ByteArray) (a b c : Nat) (h1 : a ≤ b) (h2 : b ≤ c) (h3 : c ≤ s.size) : piece s a b ++ (s.data.toList.drop b).take (c - b) = piece s a c := by
 unfold piece
 have e : s.data.toList.take c = s.data.toList.take b ++ (s.data.toList.drop b).take (c - b) := by
  rw [← List.take_append_drop b (s.data.toList.take c), List.take_take, List.drop_take, Nat.min_eq_left h2]
 rw [e, List.drop_append_of_le_length]
 simp; omega
theorem piece_self (s : ByteArray) (a : Nat) : piece s a a = [] := by
 unfold piece
 apply List.drop_eq_nil_of_le
 simp; omega
theorem piece_ne (s : ByteArray) (a b : Nat) (h : a < b) (hb : b ≤ s.size) : piece s a b ≠ [] := by
 intro h0
 have := congrArg List.length h0
 unfold piece at this
 simp at this
 omega
def curOf (s : ByteArray) (st : Option Nat) (pos : Nat) : List UInt8 := match st with | some a => piece s a pos | none => []
theorem spans_names (s : ByteArray) : ∀ (f pos : Nat) (st : Option Nat) (acc : List (Nat × Nat)), s.size ≤ pos + f → pos ≤ s.size → (∀ a, st = some a → a < pos) →
  (Lib.closeSpans s (Lib.spansFromP (fun r => r == 47) s f pos st acc)).map (fun x => piece s x.1 x.2) = acc.map (fun x => piece s x.1 x.2) ++ namesL (curOf s st pos) (s.data.toList.drop pos)
 | f, pos, st, acc, h1, h2, h3 => by
  by_cases hp : pos < s.size
  ·obtain ⟨f, rfl⟩ : ∃ g, f = g + 1 := ⟨f - 1, by omega⟩
   obtain ⟨b1, b2, b3, b4⟩ := rune_bytes s pos hp
   have ih := fun K st acc h1 h2 h3 => spans_names s f (pos + K) st acc h1 h2 h3
   generalize hd : Utf8.decode s pos = d at b1 b2 b3 b4
   have hcons : s.data.toList.drop pos = (s[pos]'hp) :: s.data.toList.drop (pos + 1) := by
    rw [List.drop_eq_getElem_cons (by simpa using hp)]; rfl
   simp only [Lib.spansFromP, if_pos hp, hd]
   by_cases ha : (s[pos]'hp).toNat < 128
   ·obtain ⟨k1, k2⟩ := b3 ha
    rw [k1, k2]
    by_cases hs : s[pos]'hp = 47
    ·have : ((s[pos]'hp).toNat == 47) = true := by rw [hs]; rfl
     simp only [this, if_true]
     cases st with
     | none =>
      simp only
      rw [ih 1 none acc (by omega) (by omega) (by simp), hcons]
      simp [curOf, namesL, hs]
     | some a =>
      have ha' := h3 a rfl
      simp only
      rw [ih 1 none (acc ++ [(a, pos)]) (by omega) (by omega) (by simp), hcons]
      simp [curOf, namesL, hs, piece_ne s a pos ha' h2]
    ·have : ((s[pos]'hp).toNat == 47) = false := by
      rw [beq_eq_false_iff_ne]; intro h; exact hs (UInt8.toNat.inj (by simpa using h))
     simp only [this, Bool.false_eq_true, if_false]
     cases st with
     | none =>
      simp only
      rw [ih 1 (some pos) acc (by omega) (by omega) (by intro a h; cases h; omega), hcons]
      have e := piece_snoc s pos pos (pos + 1) (Nat.le_refl _) (by omega) (by omega)
      rw [piece_self, hcons, show pos + 1 - pos = 1 by omega] at e
      simp only [curOf, namesL, if_neg hs]
      rw [← e]; simp
     | some a =>
      have ha' := h3 a rfl
      simp only
      rw [ih 1 (some a) acc (by omega) (by omega) (by intro b h; cases h; omega), hcons]
      have e := piece_snoc s a pos (pos + 1) (by omega) (by omega) (by omega)
      rw [hcons, show pos + 1 - pos = 1 by omega] at e
      simp only [curOf, namesL, if_neg hs]
      rw [← e]; simp
   ·obtain ⟨k1, k2⟩ := b4 (by omega)
    have : (d.1 == 47) = false := by rw [beq_eq_false_iff_ne]; omega
    simp only [this, Bool.false_eq_true, if_false]
    have hsplit : s.data.toList.drop pos = (s.data.toList.drop pos).take d.2 ++ s.data.toList.drop (pos + d.2) := by
     rw [← List.drop_drop, List.take_append_drop]
    have hno : ∀ c ∈ (s.data.toList.drop pos).take d.2, c ≠ 47 := by
     intro c hc
     obtain ⟨i, hi, rfl⟩ := List.mem_iff_getElem.1 hc
     simp only [List.length_take, List.length_drop, Array.length_toList, ByteArray.size_data] at hi
     have hk := k2 (pos + i) (by omega) (by omega) (by omega)
     simp only [List.getElem_take, List.getElem_drop, Array.getElem_toList]
     intro h0
     have h0' : s[pos + i] = 47 := h0
     rw [h0'] at hk
     exact absurd hk (by decide)
    cases st with
    | none =>
     simp only
     rw [ih d.2 (some pos) acc (by omega) (by omega) (by intro a h; cases h; omega)]
     have e := piece_snoc s pos pos (pos + d.2) (Nat.le_refl _) (by omega) (by omega)
     rw [piece_self, show pos + d.2 - pos = d.2 by omega] at e
     refine congrArg (fun z => acc.map (fun x => piece s x.1 x.2) ++ z) ?_
     simp only [curOf]
     rw [hsplit, namesL_skip _ _ _ hno, ← e]
    | some a =>
     have ha' := h3 a rfl
     simp only
     rw [ih d.2 (some a) acc (by omega) (by omega) (by intro b h; cases h; omega)]
     have e := piece_snoc s a pos (pos + d.2) (by omega) (by omega) (by omega)
     rw [show pos + d.2 - pos = d.2 by omega] at e
     refine congrArg (fun z => acc.map (fun x => piece s x.1 x.2) ++ z) ?_
     simp only [curOf]
     rw [hsplit, namesL_skip _ _ _ hno, ← e]
  ·obtain rfl : pos = s.size := by omega
   rw [Lib.spansFromP_end _ _ _ _ _ _ hp]
   have hnil : s.data.toList.drop s.size = [] := List.drop_eq_nil_of_le (by simp)
   rw [hnil]
   cases st with
   | none => simp [Lib.closeSpans, curOf, namesL]
   | some a =>
    have ha' := h3 a rfl
    simp [Lib.closeSpans, curOf, namesL, piece_ne s a s.size ha' (Nat.le_refl _)]
theorem fields_names (s : ByteArray) : Lib.goFieldsP (fun r => r == 47) s = namesOf s := by
 have h := spans_names s s.size 0 none [] (by omega) (by omega) (by simp)
 simp only [List.map_nil, List.nil_append, curOf, List.drop_zero] at h
 unfold Lib.goFieldsP Lib.spansOfP namesOf
 rw [← h, List.map_map]
 apply List.map_congr_left
 intro x _
 simp only [Function.comp]
 apply ByteArray.ext
 apply Array.ext'
 simp [bytesArr, piece, List.drop_take]
def anyOf (s : ByteArray) : Bool := s.data.toList.any (fun b => b == 47 || b == 0)
theorem anyOf_eq (s : ByteArray) : decide (0 ≤ Lib.indexAny s.data.toList [47, 0]) = anyOf s := by
 unfold anyOf
 generalize s.data.toList = l
 induction l with
 | nil => rfl
 | cons b l ih =>
  have hg := Lib.indexAny_ge [47, 0] l
  rw [List.any_cons, ← ih]
  have hc : [(47 : UInt8), 0].contains b = (b == 47 || b == 0) := by rw [Bool.eq_iff_iff]; simp
  have hx : Lib.indexAny (b :: l) [47, 0] = if [(47 : UInt8), 0].contains b then 0 else if Lib.indexAny l [47, 0] == -1 then -1 else Lib.indexAny l [47, 0] + 1 := rfl
  rw [hx, hc]
  cases hb : (b == 47 || b == 0) with
  | true => simp
  | false =>
   simp only [Bool.false_eq_true, if_false, Bool.false_or]
   by_cases h1 : Lib.indexAny l [47, 0] = -1
   ·simp [h1]
   ·have : (Lib.indexAny l [47, 0] == -1) = false := beq_eq_false_iff_ne.2 h1
    rw [this]
    simp only [Bool.false_eq_true, if_false]
    exact decide_eq_decide.2 (by omega)
/-- no such byte ahead of i. -/
def NoneTo (s : ByteArray) (i : Nat) : Prop := ∀ j, j < i → ∀ hj : j < s.size, s[j]'hj ≠ 47 ∧ s[j]'hj ≠ 0
theorem NoneTo.all {s : ByteArray} (h : NoneTo s s.size) : anyOf s = false := by
 unfold anyOf
 rw [List.any_eq_false]
 intro b hb
 obtain ⟨i, hi, rfl⟩ := List.mem_iff_getElem.1 hb
 have hi' : i < s.size := by simpa using hi
 have := h i hi' hi'
 have e : s.data.toList[i] = s[i] := rfl
 rw [e]
 simp [this.1, this.2]
theorem anyOf_hit {s : ByteArray} {i : Nat} (hi : i < s.size) (h : s[i]'hi = 47 ∨ s[i]'hi = 0) : anyOf s = true := by
 unfold anyOf
 rw [List.any_eq_true]
 refine ⟨s[i]'hi, Array.mem_toList_iff.2 (Array.getElem_mem (by simpa using hi)), ?_⟩
 rcases h with h | h <;> rw [h] <;> rfl
def strings_IndexByte.f (a0 : ByteArray) (a1 : Int) : Option Int := some (Lib.indexByte a0.data.toList a1.toNat.toUInt8)
theorem strings_IndexByte.calls (a0 : ByteArray) (a1 : Int) (r : Int) (w : World) (h : strings_IndexByte.f a0 a1 = some r) :
  Calls Tryz.prog 136 #[.string a0, .int .u8 a1] w fun e w' => e = .returned (.int .i64 r) ∧ Drawn0 w w' := by
 simp only [strings_IndexByte.f, Option.some.injEq] at h
 subst h
 exact (Tryz.strings_IndexByte a0 a1 w).mono fun e w' ⟨he, hw⟩ => ⟨he, hw ▸ Drawn0.refl _⟩
/-- The index of a rune in a text of ASCII bytes. -/
def idxRune (s : ByteArray) (r : Int) : Int := if r < 128 then Lib.indexByte s.data.toList r.toNat.toUInt8 else -1
def isAscii (s : ByteArray) : Bool := s.data.toList.all (fun b => decide (b.toNat < 128))
theorem ascii_at {s : ByteArray} (h : isAscii s = true) (i : Nat) (hi : i < s.size) : (s[i]'hi).toNat < 128 := by
 have h1 := List.all_eq_true.1 h (s[i]'hi) (Array.mem_toList_iff.2 (Array.getElem_mem (by simpa using hi)))
 simpa using h1
theorem indexByte_none (l : List UInt8) (c : UInt8) (h : c ∉ l) : Lib.indexByte l c = -1 := by
 induction l with
 | nil => rfl
 | cons b l ih =>
  have h1 : (b == c) = false := by
   rw [beq_eq_false_iff_ne]; rintro rfl; exact h (by simp)
  have h2 := ih (fun hc => h (List.mem_cons_of_mem _ hc))
  simp [Lib.indexByte, h1, h2]
def LastHigh (B : ByteArray) : Prop := 2 ≤ B.size ∧ B.size ≤ 4 ∧ ∀ h : B.size - 1 < B.size, 128 ≤ (B[B.size - 1]'h).toNat
theorem lastHigh2 (x y : UInt8) (h : 128 ≤ y.toNat) : LastHigh ⟨#[x, y]⟩ := ⟨Nat.le_refl 2, by show 2 ≤ 4; decide, fun _ => h⟩
theorem lastHigh3 (x y z : UInt8) (h : 128 ≤ z.toNat) : LastHigh ⟨#[x, y, z]⟩ := ⟨by show 2 ≤ 3; decide, by show 3 ≤ 4; decide, fun _ => h⟩
theorem lastHigh4 (x y z u : UInt8) (h : 128 ≤ u.toNat) : LastHigh ⟨#[x, y, z, u]⟩ := ⟨by show 2 ≤ 4; decide, Nat.le_refl 4, fun _ => h⟩
theorem high_byte (c : Nat) : 128 ≤ (UInt8.ofNat (128 + c % 64)).toNat := by
 have : c % 64 < 64 := Nat.mod_lt _ (by decide)
 simp [UInt8.toNat_ofNat']
 omega
theorem enc_high (c : Nat) (h : 128 ≤ c) : LastHigh (if c < 128 then { data := #[UInt8.ofNat c] }
 else
  if c < 2048 then { data := #[UInt8.ofNat (192 + c / 64), UInt8.ofNat (128 + c % 64)] }
  else
   if c < 65536 then { data := #[UInt8.ofNat (224 + c / 4096), UInt8.ofNat (128 + c / 64 % 64), UInt8.ofNat (128 + c % 64)] }
   else { data := #[UInt8.ofNat (240 + c / 262144), UInt8.ofNat (128 + c / 4096 % 64), UInt8.ofNat (128 + c / 64 % 64), UInt8.ofNat (128 + c % 64)] }) := by
 rw [if_neg (by omega)]
 split
 ·exact lastHigh2 _ _ (high_byte c)
 ·split
  ·exact lastHigh3 _ _ _ (high_byte c)
  ·exact lastHigh4 _ _ _ _ (high_byte c)
theorem enc_facts (r : Int) (h0 : 128 ≤ r) (h1 : r ≤ 1114111) : LastHigh (Utf8.encode r) := by
 have hc : 128 ≤ (if Utf8.valid r = true then r.toNat else Utf8.runeError) := by
  split
  ·omega
  ·decide
 exact enc_high _ hc
theorem ascii_drop (s : ByteArray) (c : UInt8) (hA : isAscii s = true) (hc : 128 ≤ c.toNat) (a b : Nat) : Lib.indexByte (s.extract a b).data.toList c = -1 := by
 apply indexByte_none
 intro hm
 have h2 : c ∈ s.data.toList := by
  have h3 : (s.extract a b).data.toList = (s.data.toList.drop a).take (b - a) := by simp
  rw [h3] at hm
  exact List.mem_of_mem_drop (List.mem_of_mem_take hm)
 have := List.all_eq_true.1 hA c h2
 simp at this
 omega
def strings_IndexRune.f (a0 : ByteArray) (a1 : Int) : Option Int := if isAscii a0 = true ∧ 0 ≤ a1 ∧ a1 ≤ 1114111 ∧ a0.size ≤ 4611686018427387904 then some (idxRune a0 a1) else none
set_option maxHeartbeats 3200000 in
set_option maxRecDepth 100000 in
theorem strings_IndexRune.err (s : ByteArray) (w : World) (hA : isAscii s = true) (hs : s.size ≤ 4611686018427387904) :
  Calls Tryz.prog 267 #[.string s, .int .i32 65533] w fun e w' => e = .returned (.int .i64 (-1)) ∧ Below w.heap.size w w' := by
 have HA := Aside0.mk hA
 clear hA
 go_enter Tryz.func267, Tryz.ntmps267
 go_wp2
 go_loopw [5, 6] (fun _ _ w' => ∃ pos : Nat, pos ≤ s.size ∧ w' = w.iter s pos) (fun _ _ w' => s.size - w'.iterPos w.heap.size)
 case atStart => exact ⟨0, Nat.zero_le _, rfl⟩
 case round =>
  obtain ⟨pos, hpos, rfl⟩ := hrel
  by_cases hp : pos < s.size
  ·have ha := ascii_at HA.out pos hp
   have hnx : ∀ ty, (Instr.next (.pointer (some ⟨w.heap.size, 0, none⟩)) true ty).run Tryz.prog (w.iter s pos) = _ := fun ty => run_next_ascii w s pos ty hp ha
   have g1 : (((s[pos]'hp).toNat : Int) == 65533) = false := beq_eq_false_iff_ne.2 (by omega)
   go_wp2
   go_roundw
   case rel => exact ⟨pos + 1, hp, rfl⟩
   case measure => simp; omega
  ·obtain rfl : pos = s.size := by omega
   have hnx := run_next_end (P := Tryz.prog) w s s.size
   go_wp2
   go_ret
   exact ⟨rfl, iter_below _ _ _⟩
set_option maxHeartbeats 3200000 in
set_option maxRecDepth 100000 in
theorem strings_IndexRune.high (s : ByteArray) (r : Int) (w : World) (hA : isAscii s = true) (h128 : 128 ≤ r) (hmax : r ≤ 1114111) (hne : r ≠ 65533) (hs : s.size ≤ 4611686018427387904) :
  Calls Tryz.prog 267 #[.string s, .int .i32 r] w fun e w' => e = .returned (.int .i64 (-1)) ∧ Below w.heap.size w w' := by
 have HA := Aside0.mk hA
 clear hA
 obtain ⟨e1, e2, e3⟩ := enc_facts r h128 hmax
 have g0 : decide (0 ≤ r) = true := decide_eq_true (by omega)
 have g1 : decide (r < 128) = false := decide_eq_false (by omega)
 have g2 : (r == 65533) = false := beq_eq_false_iff_ne.2 hne
 cases hv : Lib.validRune r with
 | false =>
  go_enter Tryz.func267, Tryz.ntmps267
  go_wp2_with fail
  refine (Tryz.utf8_ValidRune _ _).mono ?_; rintro e w' ⟨rfl, hw⟩; rw [hw, hv]
  go_wp2_with fail
  go_ret
  exact ⟨rfl, Below.refl _ _⟩
 | true =>
  go_enter Tryz.func267, Tryz.ntmps267
  go_wp2_with fail
  refine (Tryz.utf8_ValidRune _ _).mono ?_; rintro e w' ⟨rfl, hw⟩; rw [hw, hv]
  go_wp2_with fail
  (try go_step3)
  obtain ⟨E, hE⟩ : ∃ E, Utf8.encode r = E := ⟨_, rfl⟩
  rw [hE] at e1 e2 e3
  obtain ⟨q, hq⟩ : ∃ q, E.size - 1 = q := ⟨_, rfl⟩
  have hqE : q < E.size := by omega
  have e4 : 128 ≤ (E[q]'hqE).toNat := by have := e3 (by omega); simp only [hq] at this; exact this
  clear e3
  have hw1 : (IntKind.i64.wrap ((E.size : Int) - 1)) = (q : Int) := by
   rw [i64_w]; unfold wrap64; omega
  go_wp2_with fail
  go_loopw [9, 10] (fun v9 v10 w' => v9 = .int .i64 (q : Int) ∧ v10 = .int .i64 0 ∧ w' = w) (fun _ _ _ => 0)
  case atStart => exact ⟨rfl, rfl, rfl⟩
  case round =>
   obtain ⟨rfl, rfl, rfl⟩ := hrel
   by_cases hl : q < s.size
   ·have hd := ascii_at HA.out q hl
    have hne2 : ((s[q]'hl).toNat : Int) ≠ ((E[q]'hqE).toNat : Int) := by omega
    have g3 : decide ((q : Int) < (s.size : Int)) = true := decide_eq_true (by omega)
    have hw2 : (IntKind.i64.wrap ((q : Int) + 1)) = (q : Int) + 1 := by rw [i64_w]; unfold wrap64; omega
    have g5 : (0 : Int) ≤ (q : Int) + 1 := by omega
    have g6 : (q : Int) + 1 ≤ (s.size : Int) := by omega
    have g7 : ((q : Int) + 1).toNat = q + 1 := by omega
    have g8 : ¬ (s.size : Int) < (q : Int) + 1 := by omega
    have g9 : ¬ (q : Int) + 1 < 0 := by omega
    have hx : ∀ b, Lib.indexByte (s.extract (q + 1) b).data.toList (((E[q]'hqE).toNat : Int)).toNat.toUInt8 = -1 := fun b => ascii_drop s _ HA.out (by simpa using e4) _ _
    have g4 : (((s[q]'hl).toNat : Int) != ((E[q]'hqE).toNat : Int)) = true := bne_iff_ne.2 hne2
    go_wp2_with fail
    go_step3
    go_wp2_with fail
    go_quiet (fail)
    go_wp2_with fail
    have HBW : Aside0 (Below wr.heap.size wr (wr.drewN nq)) := ⟨pw_below_drewN (Below.refl _ _) nq⟩
    generalize wr.drewN nq = w2 at HBW ⊢
    go_quiet ((go_at_call 136; exact Calls.quiet_of_same (Tryz.strings_IndexByte _ _ _)))
    rw [hx]
    go_wp2_with fail
    rw [Exit.noGoto_ret]
    simp (config := {zetaDelta := true}) only [Exit.inBlock, Exit.noGoto_ret, Exit.then]
    go_ret
    exact ⟨rfl, pw_below_drewN HBW.out _⟩
   ·have g3 : decide ((q : Int) < (s.size : Int)) = false := decide_eq_false (by omega)
    go_wp2_with fail
    rw [Exit.noGoto_ret]
    go_ret
    exact ⟨rfl, Below.refl _ _⟩
theorem strings_IndexRune.calls (a0 : ByteArray) (a1 : Int) (r : Int) (w : World) (h : strings_IndexRune.f a0 a1 = some r) :
  Calls Tryz.prog 267 #[.string a0, .int .i32 a1] w fun e w' => e = .returned (.int .i64 r) ∧ Below w.heap.size w w' := by
 unfold strings_IndexRune.f at h
 split at h
 ·rename_i hc
  obtain ⟨hA, h0, h1, hs⟩ := hc
  simp only [Option.some.injEq] at h
  subst h
  unfold idxRune
  by_cases hr : a1 < 128
  ·rw [if_pos hr]
   exact (Tryz.strings_IndexRune_ascii a0 a1 w h0 hr).mono fun e w' ⟨he, hw⟩ => ⟨he, hw ▸ Below.refl _ _⟩
  ·rw [if_neg hr]
   by_cases he : a1 = 65533
   ·subst he; exact strings_IndexRune.err a0 w hA hs
   ·exact strings_IndexRune.high a0 a1 w hA (by omega) h1 he hs
 ·exact absurd h (by simp)
def strings_ContainsAny.f (a0 : ByteArray) (a1 : ByteArray) : Option Bool := if a1.data = #[47, 0] ∧ a0.size < 4294967281 then some (anyOf a0) else none
theorem idx2_at (r : Int) (h0 : 0 ≤ r) : decide (0 ≤ idxRune ⟨#[47, 0]⟩ r) = (decide (r = 47) || decide (r = 0)) := by
 unfold idxRune
 by_cases h : r < 128
 ·rw [if_pos h]
  obtain ⟨n, rfl⟩ := Int.eq_ofNat_of_zero_le h0
  have hn : n < 128 := by omega
  have : ∀ m : Fin 128, decide (0 ≤ Lib.indexByte [47, 0] ((m.val : Int)).toNat.toUInt8) = (decide ((m.val : Int) = 47) || decide ((m.val : Int) = 0)) := by decide +kernel
  exact this ⟨n, hn⟩
 ·rw [if_neg h]
  have h1 : ¬ r = 47 := by omega
  have h2 : ¬ r = 0 := by omega
  simp [h1, h2]
theorem slash_ascii : isAscii ⟨#[47, 0]⟩ = true := by decide +kernel
set_option maxHeartbeats 3200000 in
set_option maxRecDepth 100000 in
theorem strings_IndexAny.short (s : ByteArray) (w : World) (h8 : s.size ≤ 8) :
  Calls Tryz.prog 226 #[.string s, .string ⟨#[47, 0]⟩] w fun e w' => (∃ i : Int, e = .returned (.int .i64 i) ∧ decide (0 ≤ i) = anyOf s) ∧ Below w.heap.size w w' := by
 have h8z : decide ((8 : Int) < (s.size : Int)) = false := decide_eq_false (by omega)
 have h8y : ¬ (8 : Int) < (s.size : Int) := by omega
 go_enter Tryz.func226, Tryz.ntmps226
 go_wp2_with fail
 refine (Tryz.strings_shouldUseASCIISet _ _).mono ?_
 rintro e w1 ⟨rfl, hw1⟩
 rw [h8z]
 have HB0 : Aside0 (Below w.heap.size w w1) := ⟨hw1 ▸ Below.refl _ _⟩
 clear hw1
 go_wp2_with fail
 go_loopg [9, 10] s.size (fun gk _ _ wr => ∃ pos : Nat, pos ≤ s.size ∧ wr.heap[w1.heap.size]? = some (.stringIter s pos) ∧ Below w.heap.size w wr ∧ s.size ≤ pos + gk ∧ NoneTo s pos)
 case atStart => exact ⟨0, Nat.zero_le _, World.iter_heap w1 s 0, (HB0.out).alloc (HB0.out).size _, by omega, fun j hj => absurd hj (Nat.not_lt_zero _)⟩
 case round =>
  obtain ⟨pos, hpos, hit, hbw, hfu, hno⟩ := hrel
  by_cases hp : pos < s.size
  ·obtain ⟨g', rfl⟩ : ∃ g', gk = g' + 1 := ⟨gk - 1, by omega⟩
   obtain ⟨b1, b2, b3, b4⟩ := rune_bytes s pos hp
   have hrl := Lib.rune_le s pos
   have hnx : ∀ ty, (Instr.next (.pointer (some ⟨w1.heap.size, 0, none⟩)) true ty).run Tryz.prog wr = _ := fun ty => Lib.run_next_any_at wr w1.heap.size s pos ty hit hp
   obtain ⟨R, hR⟩ : ∃ R, (Utf8.decode s pos).1 = R := ⟨_, rfl⟩
   obtain ⟨K, hK⟩ : ∃ K, (Utf8.decode s pos).2 = K := ⟨_, rfl⟩
   rw [hR, hK] at hnx
   rw [hK] at b1 b2
   simp only [hR, hK] at b3 b4 hrl
   have hit2 := Lib.iterAt_heap wr w1.heap.size s pos (pos + K) hit
   have hbw2 := Lib.below_iterAt hbw (k := w1.heap.size) HB0.out.size s (pos + K)
   have hlt1 : w1.heap.size < (wr.iterAt w1.heap.size s (pos + K)).heap.size := (Array.getElem?_eq_some_iff.1 hit2).1
   obtain ⟨W, hWd⟩ : ∃ W, wr.iterAt w1.heap.size s (pos + K) = W := ⟨_, rfl⟩
   rw [hWd] at hnx hit2 hbw2 hlt1
   have hc := idx2_at (R : Int) (by omega)
   have A1 := Aside0.mk hno
   have A2 := Aside0.mk hit2
   have A3 := Aside0.mk hbw2
   have A4 := Aside0.mk b3
   have A5 := Aside0.mk b4
   have A6 := Aside0.mk hfu
   have A7 := Aside0.mk hlt1
   clear hno hit2 hbw2 b3 b4 hit hbw hWd hfu hlt1
   obtain ⟨z, hz⟩ : ∃ z, idxRune ⟨#[47, 0]⟩ (R : Int) = z := ⟨_, rfl⟩
   rw [hz] at hc
   have hcall := strings_IndexRune.calls ⟨#[47, 0]⟩ (R : Int) z W (by unfold strings_IndexRune.f; rw [if_pos ⟨slash_ascii, by omega, by omega, by decide⟩, hz])
   cases hz2 : decide (0 ≤ z) with
   | true =>
    have g1 : 0 ≤ z := of_decide_eq_true hz2
    go_wp2_with fail
    refine hcall.mono ?_
    rintro e w3 ⟨rfl, hb⟩
    go_wp2_with fail
    go_ret
    refine ⟨⟨_, rfl, ?_⟩, A3.out.trans (hb.mono A3.out.size)⟩
    rw [hz2] at hc
    have hR2 : R = 47 ∨ R = 0 := by
     rcases Bool.or_eq_true_iff.1 hc.symm with h | h
     ·have := of_decide_eq_true h; omega
     ·have := of_decide_eq_true h; omega
    have hlow : (s[pos]'hp).toNat < 128 := by
     by_cases h : (s[pos]'hp).toNat < 128
     ·exact h
     ·have := (A5.out (by omega)).1; omega
    have hR3 := (A4.out hlow).2
    have hh : anyOf s = true := anyOf_hit hp (by
     rcases hR2 with h | h
     ·exact .inl (UInt8.toNat.inj (by rw [← hR3, h]; rfl))
     ·exact .inr (UInt8.toNat.inj (by rw [← hR3, h]; rfl)))
    rw [hh]
    exact decide_eq_true (by omega)
   | false =>
    have g1 : ¬ 0 ≤ z := of_decide_eq_false hz2
    have g2 : z < 0 := by omega
    go_wp2_with fail
    refine hcall.mono ?_
    rintro e w3 ⟨rfl, hb⟩
    go_wp2_with fail
    ·exfalso; (first | omega | simp_all)
    go_roundg g'
    case measure => omega
    case rel =>
     refine ⟨pos + K, b1, (hb.block _ A7.out).trans A2.out, A3.out.trans (hb.mono A3.out.size), ?_, ?_⟩
     ·have := A6.out; omega
     ·rw [hz2] at hc
      have hR2 := Bool.or_eq_false_iff.1 hc.symm
      have n1 := of_decide_eq_false hR2.1
      have n2 := of_decide_eq_false hR2.2
      intro j hj hjs
      by_cases hjp : j < pos
      ·exact A1.out j hjp hjs
      ·by_cases hlow : (s[pos]'hp).toNat < 128
       ·obtain ⟨k1, k2⟩ := A4.out hlow
        have : j = pos := by omega
        subst this
        constructor
        ·intro h; rw [h] at k2; apply n1; rw [k2]; rfl
        ·intro h; rw [h] at k2; apply n2; rw [k2]; rfl
       ·have h9 := (A5.out (by omega)).2 j (by omega) hj hjs
        constructor
        ·intro h; rw [h] at h9; exact absurd h9 (by decide)
        ·intro h; rw [h] at h9; exact absurd h9 (by decide)
  ·obtain rfl : pos = s.size := by omega
   have hnx := fun ty => Lib.run_next_end_at (P := Tryz.prog) wr w1.heap.size s s.size ty hit hp
   have A1 := Aside0.mk hno
   have A3 := Aside0.mk hbw
   clear hno hbw hit
   go_wp2_with fail
   go_ret
   exact ⟨⟨_, rfl, by rw [A1.out.all]; rfl⟩, A3.out⟩
theorem zero316 : (Tryz.prog.info? 316).map (fun i => (i.zero, i.size)) = some (some (.agg (Array.replicate 256 (.bool false))), 256) := by kernel_rfl
set_option maxHeartbeats 3200000 in
set_option maxRecDepth 100000 in
theorem strings_ContainsAny.calls (a0 : ByteArray) (a1 : ByteArray) (r : Bool) (w : World) (h : strings_ContainsAny.f a0 a1 = some r) :
  Calls Tryz.prog 162 #[.string a0, .string a1] w fun e w' => e = .returned (.bool r) ∧ Below w.heap.size w w' := by
 unfold strings_ContainsAny.f at h
 split at h
 ·rename_i hc
  obtain ⟨hA, hs⟩ := hc
  simp only [Option.some.injEq] at h
  subst h
  have ha1 : a1 = ⟨#[47, 0]⟩ := ByteArray.ext hA
  subst ha1
  clear hA
  have hcall : Calls Tryz.prog 226 #[.string a0, .string ⟨#[47, 0]⟩] w fun e w' => (∃ i : Int, e = .returned (.int .i64 i) ∧ decide (0 ≤ i) = anyOf a0) ∧ Below w.heap.size w w' := by
   by_cases h8 : a0.size ≤ 8
   ·exact strings_IndexAny.short a0 w h8
   ·refine (Tryz.strings_IndexAny_long (zero_of_info zero316).1 a0 ⟨#[47, 0]⟩ w (by decide) (by omega) hs (by decide) ?_).mono ?_
    ·intro j b hj
     match j, hj with
     | 0, hj => cases hj; decide
     | 1, hj => cases hj; decide
     | j + 2, hj => simp at hj
    ·rintro e w' ⟨rfl, rfl⟩
     exact ⟨⟨_, rfl, anyOf_eq a0⟩, ((Below.refl _ _).alloc (Nat.le_refl _) _).alloc (by simp) _⟩
  go_enter Tryz.func162, Tryz.ntmps162
  go_wp2_with fail
  refine hcall.mono ?_
  rintro e w1 ⟨⟨i, rfl, hi⟩, hb⟩
  go_wp2_with fail
  go_ret
  exact ⟨by rw [← hi]; rfl, hb⟩
 ·exact absurd h (by simp)
def paths_names.f (a0 : ByteArray) : Option (List ByteArray) := if a0.size ≤ 4294967296 then some (namesOf a0) else none
set_option maxHeartbeats 1600000 in
set_option maxRecDepth 100000 in
theorem slash_pred (w : World) : PredAtRunes Tryz.prog 258 #[] (fun r => r == 47) w := by
 intro W x hx hb
 show Calls Tryz.prog 258 #[.int .i32 (x : Int)] W _
 have hd : ((x : Int) == 47) = (x == 47) := by rw [Bool.eq_iff_iff]; simp; omega
 go_enter Tryz.func258, Tryz.ntmps258
 go_wp2
 go_ret
 exact ⟨rfl, 0, rfl⟩
def trimS (s : ByteArray) : ByteArray := ⟨(Lib.trimRightB s.data.toList 47).toArray⟩
def strings_TrimRight.f (a0 : ByteArray) (a1 : ByteArray) : Option ByteArray := if a1.data = #[47] ∧ a0.size ≤ 9223372036854775807 then some (trimS a0) else none
theorem Room.calls (g : Nat) (ok : Nat → Prop) (T : Tab) (w : World) (h : TabAt w g ok T) : Calls Tryz.prog 10 #[.pointer (some ⟨g, 0, none⟩)] w fun e w' => e = .returned (.int .i64 T.room) ∧ Drawn0 w w' := by
 have c0 := h.cell0
 clear h
 go_enter Tryz.func10, Tryz.ntmps10
 go_wp2
 go_ret
 exact ⟨rfl, Drawn0.refl _⟩
def live (T : Tab) (i : Int) : Bool := decide (1 ≤ i) && decide (i ≤ T.room) && (T.nd (i.toNat - 1)).kind != 0
theorem at_nil (g : Nat) (ok : Nat → Prop) (T : Tab) (i : Int) (w : World) (h : TabAt w g ok T) (hl : live T i = false) : Calls Tryz.prog 23 #[.pointer (some ⟨g, 0, none⟩), .int .i64 i] w fun e w' => e = .returned (.pointer none) ∧ Drawn0 w w' := by
 have c0 := h.cell0
 have r2 := h.r2
 unfold live at hl
 by_cases h1 : i < 1
 ·clear hl
  go_enter Tryz.func23, Tryz.ntmps23
  go_wp2
  go_ret
  exact ⟨rfl, Drawn0.refl _⟩
 ·by_cases h2 : T.room < i
  ·clear hl
   go_enter Tryz.func23, Tryz.ntmps23
   go_wp2
   go_ret
   exact ⟨rfl, Drawn0.refl _⟩
  ·obtain ⟨A4, c4, A5, c5, hN, k0, _⟩ := h.at7 (i.toNat - 1) (by omega)
   have hk : (T.nd (i.toNat - 1)).kind = 0 := by simpa [show 1 ≤ i by omega, show i ≤ T.room by omega] using hl
   rw [hk] at k0
   have d1 : decide (i < 1) = false := decide_eq_false h1
   have d2 : decide (T.room < i) = false := decide_eq_false h2
   clear hl hk hN
   have h3 : 0 ≤ i - 1 := by omega
   have h4 : i - 1 < 24 := by omega
   go_enter Tryz.func23, Tryz.ntmps23
   go_wp2
   go_ret
   exact ⟨rfl, Drawn0.refl _⟩
theorem at_some (g : Nat) (ok : Nat → Prop) (T : Tab) (i : Int) (w : World) (h : TabAt w g ok T) (hl : live T i = true) : Calls Tryz.prog 23 #[.pointer (some ⟨g, 0, none⟩), .int .i64 i] w fun e w' => e = .returned (.pointer (some ⟨g, 1 + (i.toNat - 1) * 7, none⟩)) ∧ Drawn0 w w' := by
 have c0 := h.cell0
 have r2 := h.r2
 unfold live at hl
 simp only [Bool.and_eq_true, decide_eq_true_eq] at hl
 obtain ⟨⟨h1, h2⟩, hk⟩ := hl
 obtain ⟨A4, c4, A5, c5, hN, k0, _⟩ := h.at7 (i.toNat - 1) (by omega)
 have hk2 : ((T.nd (i.toNat - 1)).kind == 0) = false := by simpa using hk
 have d1 : decide (i < 1) = false := decide_eq_false (by omega)
 have d2 : decide (T.room < i) = false := decide_eq_false (by omega)
 clear hk hN
 have h3 : 0 ≤ i - 1 := by omega
 have h4 : i - 1 < 24 := by omega
 go_enter Tryz.func23, Tryz.ntmps23
 go_wp2
 go_ret
 exact ⟨rfl, Drawn0.refl _⟩
/-- What Get tells. -/
def Tab.get (T : Tab) (i : Int) : Nd := if live T i = true then T.nd (i.toNat - 1) else zN
set_option maxHeartbeats 800000 in
set_option maxRecDepth 100000 in
theorem Get.calls (g : Nat) (ok : Nat → Prop) (T : Tab) (i : Int) (w : World) (h : TabAt w g ok T) (hs : ∀ i, i < 24 → (T.nd i).data.length ≤ 1000 ∧ (T.nd i).ents.length ≤ 1000) :
  Calls Tryz.prog 11 #[.pointer (some ⟨g, 0, none⟩), .int .i64 i] w fun e w' => ∃ A4 c4 A5 c5, e = .returned (.tuple #[.agg (ndCells (T.get i) A4 c4 A5 c5), .bool (live T i)]) ∧ NdC w' (fun k => w.heap.size ≤ k) (T.get i) A4 c4 A5 c5 ∧ Below w.heap.size w w' := by
 have H := Aside0.mk (h.below (below_alloc (Below.refl _ _) (.cells #[.int .i64 0, .int .i64 0, .int .i64 0, .int .i64 0, .slice none 0 0, .slice none 0 0, .string ⟨#[]⟩] 44)))
 cases hl : live T i with
 | false =>
  have e : T.get i = zN := by unfold Tab.get; rw [hl]; rfl
  rw [e]
  have HL := Aside0.mk hl
  clear h hs hl e
  go_enter Tryz.func11, Tryz.ntmps11
  go_wp2_with fail
  refine (at_nil g ok T i _ H.out HL.out).mono ?_
  rintro e w1 ⟨rfl, ⟨nd, rfl⟩⟩
  dsimp only
  go_wp2
  refine bodyPost_ret (v := .tuple #[.agg (ndCells zN none 0 none 0), .bool false]) (by simp [results, Tryz.results11, go_sem, ndCells, zN]) rfl ⟨none, 0, none, 0, rfl, NdC.zero _ _, ?_⟩
  iterate 7 (with_reducible refine below_set ?_ (Nat.le_refl _))
  exact pw_below_drewN (below_alloc (Below.refl _ _) _) _
 | true =>
  have hr : 1 ≤ i ∧ i ≤ T.room := by unfold live at hl; simp at hl; exact ⟨hl.1.1, hl.1.2⟩
  have hi : i.toNat - 1 < 24 := by have := h.r2; omega
  have e : T.get i = T.nd (i.toNat - 1) := by unfold Tab.get; rw [hl]; rfl
  rw [e]
  have HL := Aside0.mk hl
  have HS := Aside0.mk (hs _ hi)
  obtain ⟨A4, c4, A5, c5, hN, q0, q1, q2, q3, q4, q5, q6⟩ := H.out.at7 _ hi
  have HN := Aside0.mk hN
  have G := Aside0.mk h.lt
  clear h hs hl e hr hi hN
  obtain ⟨x, hx⟩ : ∃ x, T.nd (i.toNat - 1) = x := ⟨_, rfl⟩
  rw [hx] at q0 q1 q2 q3 q4 q5 q6 HN HS ⊢
  clear hx
  go_enter Tryz.func11, Tryz.ntmps11
  go_wp2_with fail
  refine (at_some g ok T i _ H.out HL.out).mono ?_
  rintro e w1 ⟨rfl, ⟨nd, rfl⟩⟩
  dsimp only
  go_wp2_with fail
  refine (own.calls x A4 c4 A5 c5 ok _ (HN.out.below (pw_below_drewN (Below.refl _ _) nd)) HS.out.1 HS.out.2).mono ?_
  rintro e w2 ⟨B4, b4, B5, b5, rfl, hN2, hb⟩
  have b0 := blk_below (blk_drewN (blk_new w (.cells #[.int .i64 0, .int .i64 0, .int .i64 0, .int .i64 0, .slice none 0 0, .slice none 0 0, .string ⟨#[]⟩] 44)) nd) hb
  have p := blk_cell b0
  have q := blk_frozen b0
  have HB := Aside0.mk (below_step (pw_below_drewN (below_alloc (Below.refl _ _) (.cells #[.int .i64 0, .int .i64 0, .int .i64 0, .int .i64 0, .slice none 0 0, .slice none 0 0, .string ⟨#[]⟩] 44)) nd) hb)
  have HM := Aside0.mk (hN2.mono (ok' := fun k => w.heap.size < k) (fun k hk => by have := (Nat.le_trans (Nat.le_of_eq (World.size_alloc (w := w) (o := .cells #[.int .i64 0, .int .i64 0, .int .i64 0, .int .i64 0, .slice none 0 0, .slice none 0 0, .string ⟨#[]⟩] 44)).symm) hk); omega))
  clear hN2 hb b0 q0 q1 q2 q3 q4 q5 q6
  unfold ndCells
  dsimp only
  go_wp2
  refine bodyPost_ret (v := .tuple #[.agg (ndCells x B4 b4 B5 b5), .bool true]) (by simp [results, Tryz.results11, go_sem, ndCells, p]) rfl ⟨B4, b4, B5, b5, rfl, ?_, ?_⟩
  ·refine NdC.mono (ok := fun k => w.heap.size < k) ?_ (fun k hk => by omega)
   iterate 7 (with_reducible refine NdC.set ?_ _ _ _ (Nat.lt_irrefl _))
   exact HM.out
  ·iterate 7 (with_reducible refine below_set ?_ (Nat.le_refl _))
   exact HB.out
def idOk (n : Int) : Bool := decide (0 ≤ n) && decide (n ≤ 65535)
theorem id.calls (n : Int) (w : World) : Calls Tryz.prog 159 #[.int .i64 n] w fun e w' => e = .returned (.bool (idOk n)) ∧ Drawn0 w w' := by
 unfold idOk
 cases h1 : decide (0 ≤ n) with
 | false =>
  go_enter Tryz.func159, Tryz.ntmps159
  go_wp2
  go_ret
  exact ⟨rfl, Drawn0.refl _⟩
 | true =>
  go_enter Tryz.func159, Tryz.ntmps159
  go_wp2
  go_ret
  exact ⟨rfl, Drawn0.refl _⟩
theorem emp_t {s : ByteArray} (h : s.toList = []) : s.toList.isEmpty = true := by rw [h]; rfl
theorem emp_f {s : ByteArray} (h : ¬ s.toList = []) : s.toList.isEmpty = false := by cases e : s.toList with
 | nil => exact absurd e h
 | cons a l => rfl
def nameOk (s : ByteArray) : Bool := !decide (s.toList = []) && (decide (s.size ≤ 12) && (!decide (s.toList = [46]) && (!decide (s.toList = [46, 46]) && !anyOf s)))
theorem Name.calls (s : ByteArray) (w : World) : Calls Tryz.prog 151 #[.string s] w fun e w' => e = .returned (.bool (nameOk s)) ∧ Below w.heap.size w w' := by
 unfold nameOk
 by_cases h1 : s.toList = []
 ·have g1 := emp_t h1
  go_enter Tryz.func151, Tryz.ntmps151
  go_wp2
  go_ret
  exact ⟨by simp [*], Below.refl _ _⟩
 ·have g1 := emp_f h1
  by_cases h2 : s.size ≤ 12
  ·have h2' : decide ((s.size : Int) ≤ 12) = true := decide_eq_true (by omega)
   have h2d : decide (s.size ≤ 12) = true := decide_eq_true h2
   have hs : s.size < 4294967281 := by omega
   by_cases h3 : s.toList = [46]
   ·go_enter Tryz.func151, Tryz.ntmps151
    go_wp2
    go_ret
    exact ⟨by simp [*], Below.refl _ _⟩
   ·by_cases h4 : s.toList = [46, 46]
    ·go_enter Tryz.func151, Tryz.ntmps151
     go_wp2
     go_ret
     exact ⟨by simp [*], Below.refl _ _⟩
    ·have HC := Aside0.mk (show strings_ContainsAny.f s ⟨#[47, 0]⟩ = some (anyOf s) by unfold strings_ContainsAny.f; rw [if_pos ⟨rfl, hs⟩])
     have d1 : decide (s.toList = []) = false := decide_eq_false h1
     have d3 : decide (s.toList = [46]) = false := decide_eq_false h3
     have d4 : decide (s.toList = [46, 46]) = false := decide_eq_false h4
     rw [d1, h2d, d3, d4]
     clear hs h2 d1 d3 d4
     generalize anyOf s = b at HC ⊢
     go_enter Tryz.func151, Tryz.ntmps151
     go_wp2_with (go_at_call 162; refine (strings_ContainsAny.calls s _ b _ HC.out).mono ?_; rintro e w1 ⟨rfl, hb⟩)
     go_ret
     exact ⟨by simp [*], hb⟩
  ·have h2' : decide ((s.size : Int) ≤ 12) = false := decide_eq_false (by omega)
   go_enter Tryz.func151, Tryz.ntmps151
   go_wp2
   go_ret
   exact ⟨by simp [*], Below.refl _ _⟩
def fitsOk (s : ByteArray) : Bool := !decide (s.toList = []) && (decide (s.size ≤ 64) && decide (Lib.indexByte s.data.toList 0 < 0))
theorem Fits.calls (s : ByteArray) (w : World) : Calls Tryz.prog 161 #[.string s] w fun e w' => e = .returned (.bool (fitsOk s)) ∧ Drawn0 w w' := by
 unfold fitsOk
 by_cases h1 : s.toList = []
 ·have g1 := emp_t h1
  go_enter Tryz.func161, Tryz.ntmps161
  go_wp2
  go_ret
  exact ⟨by simp [*], Drawn0.refl _⟩
 ·have g1 := emp_f h1
  by_cases h2 : s.size ≤ 64
  ·have h2' : decide ((s.size : Int) ≤ 64) = true := decide_eq_true (by omega)
   have h2d : decide (s.size ≤ 64) = true := decide_eq_true h2
   have d1 : decide (s.toList = []) = false := decide_eq_false h1
   rw [d1, h2d]
   clear h2
   go_enter Tryz.func161, Tryz.ntmps161
   go_wp2_with (go_at_call 136; refine (strings_IndexByte.calls s 0 (Lib.indexByte s.data.toList 0) _ rfl).mono ?_; rintro e w1 ⟨rfl, ⟨nd, rfl⟩⟩)
   go_ret
   exact ⟨by simp [*], ⟨⟨nd, rfl⟩⟩⟩
  ·have h2' : decide ((s.size : Int) ≤ 64) = false := decide_eq_false (by omega)
   go_enter Tryz.func161, Tryz.ntmps161
   go_wp2
   go_ret
   exact ⟨by simp [*], Drawn0.refl _⟩
/-- The worlds that are as w below its own size. -/
structure Over (w : World) where
 W : World
 le : Below w.heap.size w W
instance over_some (w : World) : Nonempty (Over w) := ⟨⟨w, Below.refl _ _⟩⟩
theorem wp_region_below {P : Program} {id : Nat} {Q : Exit → Act → World → Prop} {a : Act} {w : World} {l : List Oper} (hm : P.follows .mixedOrders = true) (hB : Region.lexB .any l.toArray = true)
  (h : wpQuiet P l.toArray (fun w' => ∃ β : Over w, w' = β.W) (fun a' => ∀ w', (∃ β : Over w, w' = β.W) → Q .normal a' w') l a) : (Code.region id l.toArray true).wp P Q a w :=
 wp_region_quiet (C := fun w' => ∃ β : Over w, w' = β.W) hm hB ⟨⟨{ w with drawn := w.drawn + 1 }, ⟨rfl, rfl, rfl, Nat.le_refl _, fun _ _ => rfl⟩⟩, rfl⟩ (by simpa using h)
theorem Over.blk {w : World} {g : Nat} {t : TypeId} {cs : Array Value} (hb : w.heap[g]? = some (.cells cs t (0, 0))) : ∀ (β : Over w) (i : Nat), β.W.cell? ⟨g, i, none⟩ = cs[i]? := fun β i => blk_cell (blk_below hb β.le) i
theorem Over.cell {w : World} {p : Addr} {v : Value} (h : w.cell? p = some v) : ∀ β : Over w, β.W.cell? p = some v := fun β => (β.le.cell (World.block_lt_of_cell? w p h)).trans h
/-- A call in such a region. -/
theorem Calls.over {P : Program} {f : FuncId} {args : Array Value} {w : World} {β : Over w} {v : Value}
  (h : Calls P f args β.W fun e w' => e = .returned v ∧ Below β.W.heap.size β.W w') : Calls P f args β.W fun e w'' => e = .returned v ∧ ∃ β' : Over w, w'' = β'.W :=
 h.mono fun _ w' ⟨he, hb⟩ => ⟨he, ⟨⟨w', below_step β.le hb⟩, rfl⟩⟩
/-- Entry i of entries that may be. -/
def entOk (l : List Ent) (i : Nat) : Bool := nameOk (l.getD i zE).name && (decide (1 ≤ (l.getD i zE).node) && !(decide (0 < i) && !Op.bytesLess (l.getD (i - 1) zE).name.toList (l.getD i zE).name.toList))
theorem ret_false_of {l : List Ent} {k : Nat} {b : Bool} (h : k < l.length) (he : entOk l k = false) : Ending.returned (.bool false) = .returned (.bool ((List.range l.length).all (entOk l) && b)) := by
 have : (List.range l.length).all (entOk l) = false := List.all_eq_false.2 ⟨k, List.mem_range.2 h, by simp [he]⟩
 rw [this]; rfl
theorem run_geq_str {P : Program} (t : TypeId) (a b : ByteArray) (W : World) : (binOp .geq t (.string a) (.string b)).run P W = .ok (.bool (!Op.bytesLess a.toList b.toList)) W := rfl
theorem kE_at {w : World} {A : Option Addr} {n : Nat} {xs : List Ent} (h : kE.C w A n xs) (i : Nat) (h1 : i < n) : ∃ ad, A = some ad ∧ w.cell? (ad.add (i * 2)) = some (.string (xs.getD i zE).name) ∧ w.cell? ⟨(ad.add (i * 2)).block, (ad.add (i * 2)).off + 1, none⟩ = some (.int .i64 (xs.getD i zE).node) ∧ ad.block < w.heap.size := by
 obtain ⟨ad, c, e, _, ⟨_, _, rfl, rfl, rfl⟩, hc0⟩ := Kd.C_get h zE i (by omega) (by omega)
 have hc : ∀ j u, [Value.string (xs.getD i zE).name, Value.int .i64 (xs.getD i zE).node][j]? = some u → w.cell? (ad.add (i * 2 + j)) = some u := hc0
 have b := hc 0 _ rfl
 refine ⟨ad, e, b, by rw [← add_field _ _ 1 (by omega)]; exact hc 1 _ rfl, ?_⟩
 have := World.block_lt_of_cell? w _ b
 have e2 : (ad.add (i * 2 + 0)).block = ad.block := by unfold Addr.add; split <;> rfl
 rw [e2] at this; exact this
set_option maxHeartbeats 1600000 in
set_option maxRecDepth 100000 in
theorem rising.calls (A : Option Addr) (c : Nat) (l : List Ent) (w : World) (h : kE.C w A l.length l) (hc : l.length ≤ c) (hl : l.length ≤ 1000) :
  Calls Tryz.prog 160 #[.slice A l.length c] w fun e w' => e = .returned (.bool ((List.range l.length).all (entOk l) && decide ((l.length : Int) ≤ 8))) ∧ Below w.heap.size w w' := by
 have HC := Aside0.mk h
 clear h
 have hl2 : (l.length : Int) ≤ 1000 := by omega
 go_enter Tryz.func160, Tryz.ntmps160
 go_wp2
 go_loopg [7] l.length (fun gk i7 wr => ∃ k : Nat, k ≤ l.length ∧ i7 = .int .i64 k ∧ l.length ≤ k + gk ∧ Below w.heap.size w wr ∧ ∀ j, j < k → entOk l j = true)
 case atStart => exact ⟨0, Nat.zero_le _, rfl, by omega, Below.refl _ _, fun j hj => absurd hj (Nat.not_lt_zero _)⟩
 case round =>
  obtain ⟨k, hk, rfl, hgk, hb, hok⟩ := hrel
  by_cases hlt : k < l.length
  ·obtain ⟨g', rfl⟩ : ∃ g', gk = g' + 1 := ⟨gk - 1, by omega⟩
   obtain ⟨ad, rfl, q0, q1, hlt2⟩ := kE_at HC.out k hlt
   have eb : (ad.add (k * 2)).block = ad.block := by unfold Addr.add; split <;> rfl
   have p0 : wr.cell? (ad.add (k * 2)) = some (.string (l.getD k zE).name) := by rw [← q0]; exact hb.cell (by rw [eb]; exact hlt2)
   have p1 : wr.cell? ⟨(ad.add (k * 2)).block, (ad.add (k * 2)).off + 1, none⟩ = some (.int .i64 (l.getD k zE).node) := by rw [← q1]; exact hb.cell (by show (ad.add (k * 2)).block < _; rw [eb]; exact hlt2)
   clear q0 q1 eb
   have HO := Aside0.mk hok
   have HB := Aside0.mk hb
   have HG := Aside0.mk hgk
   clear hok hgk hb
   obtain ⟨e, he⟩ : ∃ e, l.getD k zE = e := ⟨_, rfl⟩
   have HE := Aside0.mk he
   rw [he] at p0 p1
   clear he
   obtain ⟨W1, hW1⟩ : ∃ W1, wr.alloc (.cells #[.string e.name, .int .i64 e.node] 125) = W1 := ⟨_, rfl⟩
   have b1 : W1.heap[wr.heap.size]? = some (.cells #[.string e.name, .int .i64 e.node] 125 (0, 0)) := by rw [← hW1]; exact blk_new _ _
   have HB1 := Aside0.mk (show Below w.heap.size w W1 by rw [← hW1]; exact below_alloc HB.out _)
   have HW1 := Aside0.mk hW1
   clear hW1
   have c1 := Over.blk b1
   have B1 := Aside0.mk b1
   clear b1
   have HLT := Aside0.mk hlt
   have HLT := Aside0.mk hlt
   go_wp2
   rw [HW1.out]
   cases hn : nameOk e.name with
   | false =>
    have HN := Aside0.mk hn
    clear hn
    refine wp_region_below (by kernel_rfl) (by kernel_rfl) ?_
    repeat (go_big_quiet_step ((go_at_call 151; refine Calls.over ((Name.calls e.name _).mono (fun e w' h => ⟨h.1.trans (by rw [HN.out]), h.2⟩)))))
    refine wpQuiet_nil ?_
    rintro _ ⟨⟨W2, hb2⟩, rfl⟩
    have HB2 := Aside0.mk (below_step HB1.out hb2)
    clear hb2
    go_wp2
    go_ret
    exact ⟨ret_false_of HLT.out (by unfold entOk; rw [HE.out, HN.out]; rfl), HB2.out⟩
   | true =>
    have HN := Aside0.mk hn
    clear hn
    by_cases hz : e.node < 1
    ·have d1 : decide (e.node < 1) = true := decide_eq_true hz
     have HZ := Aside0.mk hz
     clear hz
     refine wp_region_below (by kernel_rfl) (by kernel_rfl) ?_
     repeat (go_big_quiet_step ((go_at_call 151; refine Calls.over ((Name.calls e.name _).mono (fun e w' h => ⟨h.1.trans (by rw [HN.out]), h.2⟩)))))
     refine wpQuiet_nil ?_
     rintro _ ⟨⟨W2, hb2⟩, rfl⟩
     have HB2 := Aside0.mk (below_step HB1.out hb2)
     clear hb2
     go_wp2
     go_ret
     exact ⟨ret_false_of HLT.out (by unfold entOk; rw [HE.out, HN.out, decide_eq_false (show ¬ 1 ≤ e.node by have := HZ.out; omega)]; rfl), HB2.out⟩
    ·have d1 : decide (e.node < 1) = false := decide_eq_false hz
     have HZ := Aside0.mk hz
     clear hz
     by_cases hk0 : k = 0
     ·have d2 : decide (0 < k) = false := decide_eq_false (by omega)
      have d3 : decide ((0 : Int) < (k : Int)) = false := decide_eq_false (by omega)
      have HK := Aside0.mk d2
      clear hk0
      refine wp_region_below (by kernel_rfl) (by kernel_rfl) ?_
      repeat (go_big_quiet_step ((go_at_call 151; refine Calls.over ((Name.calls e.name _).mono (fun e w' h => ⟨h.1.trans (by rw [HN.out]), h.2⟩)))))
      refine wpQuiet_nil ?_
      rintro _ ⟨⟨W2, hb2⟩, rfl⟩
      have HB2 := Aside0.mk (below_step HB1.out hb2)
      clear hb2
      go_wp2
      go_roundg g'
      case measure => have := HG.out; omega
      case rel => exact ⟨k + 1, by have := HLT.out; omega, by go_num, by have := HG.out; omega, HB2.out, fun j hj => by
       by_cases hjk : j = k
       ·subst hjk; unfold entOk; rw [HE.out, HN.out, HK.out, decide_eq_true (show 1 ≤ e.node by have := HZ.out; omega)]; rfl
       ·exact HO.out j (by omega)⟩
     ·have d2 : decide (0 < k) = true := decide_eq_true (by omega)
      have d3 : decide ((0 : Int) < (k : Int)) = true := decide_eq_true (by omega)
      obtain ⟨ad2, e2, r0, _, hlt3⟩ := kE_at HC.out (k - 1) (by omega)
      obtain rfl : ad = ad2 := by injection e2
      have eb : (ad.add ((k - 1) * 2)).block = ad.block := by unfold Addr.add; split <;> rfl
      obtain ⟨f, hf⟩ : ∃ f, l.getD (k - 1) zE = f := ⟨_, rfl⟩
      have HF := Aside0.mk hf
      rw [hf] at r0
      have c2 : ∀ β : Over W1, β.W.cell? (ad.add ((k - 1) * 2)) = some (.string f.name) := fun β => by rw [← r0]; exact (below_step HB1.out β.le).cell (by rw [eb]; exact hlt3)
      have g1 : (0 : Int) ≤ (k : Int) - 1 := by omega
      have g2 : (k : Int) - 1 < (l.length : Int) := by omega
      have g3 : ((k : Int) - 1).toNat = k - 1 := by omega
      have HK := Aside0.mk d2
      clear hk0 hf e2 r0 eb hlt3
      have sg := fun W => run_geq_str (P := Tryz.prog) 9 f.name e.name W
      cases hb : Op.bytesLess f.name.toList e.name.toList with
      | false =>
       have HS := Aside0.mk hb
       rw [hb] at sg
       clear hb
       refine wp_region_below (by kernel_rfl) (by kernel_rfl) ?_
       repeat (go_big_quiet_step ((go_at_call 151; refine Calls.over ((Name.calls e.name _).mono (fun e w' h => ⟨h.1.trans (by rw [HN.out]), h.2⟩)))))
       refine wpQuiet_nil ?_
       rintro _ ⟨⟨W2, hb2⟩, rfl⟩
       have HB2 := Aside0.mk (below_step HB1.out hb2)
       clear hb2
       go_wp2
       go_ret
       exact ⟨ret_false_of HLT.out (by unfold entOk; rw [HE.out, HF.out, HN.out, HS.out, HK.out, decide_eq_true (show 1 ≤ e.node by have := HZ.out; omega)]; rfl), HB2.out⟩
      | true =>
       have HS := Aside0.mk hb
       rw [hb] at sg
       clear hb
       refine wp_region_below (by kernel_rfl) (by kernel_rfl) ?_
       repeat (go_big_quiet_step ((go_at_call 151; refine Calls.over ((Name.calls e.name _).mono (fun e w' h => ⟨h.1.trans (by rw [HN.out]), h.2⟩)))))
       refine wpQuiet_nil ?_
       rintro _ ⟨⟨W2, hb2⟩, rfl⟩
       have HB2 := Aside0.mk (below_step HB1.out hb2)
       clear hb2
       go_wp2
       go_roundg g'
       case measure => have := HG.out; omega
       case rel => exact ⟨k + 1, by have := HLT.out; omega, by go_num, by have := HG.out; omega, HB2.out, fun j hj => by
        by_cases hjk : j = k
        ·subst hjk; unfold entOk; rw [HE.out, HF.out, HN.out, HS.out, HK.out, decide_eq_true (show 1 ≤ e.node by have := HZ.out; omega)]; rfl
        ·exact HO.out j (by omega)⟩
  ·obtain rfl : k = l.length := by omega
   have HO := Aside0.mk hok
   have HB := Aside0.mk hb
   clear hok hb
   go_wp2
   go_ret
   exact ⟨by rw [show (List.range l.length).all (entOk l) = true from List.all_eq_true.2 (fun j hj => HO.out j (List.mem_range.1 hj))]; simp, HB.out⟩
def risingOk (l : List Ent) : Bool := (List.range l.length).all (entOk l) && decide ((l.length : Int) ≤ 8)
def kindOk (x : Nd) : Bool := if x.kind = 1 then decide ((x.ents.length : Int) = 0) && (decide (x.target.toList = []) && decide ((x.data.length : Int) ≤ 48))
 else if x.kind = 2 then decide ((x.data.length : Int) = 0) && (decide (x.target.toList = []) && risingOk x.ents) else if x.kind = 3 then decide (((x.data.length : Int) + x.ents.length) = 0) && (decide (x.mode = 511) && fitsOk x.target) else false
def rightN (x : Nd) : Bool := decide (0 ≤ x.mode) && (decide (x.mode ≤ 4095) && (idOk x.uid && (idOk x.gid && kindOk x)))
theorem id_is (n : Int) (b : Bool) (w : World) (h : idOk n = b) : Calls Tryz.prog 159 #[.int .i64 n] w fun e w' => e = .returned (.bool b) ∧ Drawn0 w w' := by rw [← h]; exact id.calls n w
set_option maxHeartbeats 1600000 in
set_option maxRecDepth 100000 in
theorem Right.calls (x : Nd) (A4 : Option Addr) (c4 : Nat) (A5 : Option Addr) (c5 : Nat) (ok : Nat → Prop) (w : World) (h : NdC w ok x A4 c4 A5 c5) (b4 : x.data.length ≤ 1000) (b5 : x.ents.length ≤ 1000) :
  Calls Tryz.prog 99 #[.agg (ndCells x A4 c4 A5 c5)] w fun e w' => e = .returned (.bool (rightN x)) ∧ Below w.heap.size w w' := by
 have HN := Aside0.mk h
 have b4' : (x.data.length : Int) ≤ 1000 := by omega
 have b5' : (x.ents.length : Int) ≤ 1000 := by omega
 have b6 : IntKind.i64.wrap ((x.data.length : Int) + (x.ents.length : Int)) = (x.data.length : Int) + (x.ents.length : Int) := by rw [IntKind.wrap_i64]; omega
 clear h
 by_cases m0 : 0 ≤ x.mode
 ·have d0 : decide (x.mode < 0) = false := decide_eq_false (by omega)
  by_cases m1 : x.mode ≤ 4095
  ·have d1 : decide (4095 < x.mode) = false := decide_eq_false (by omega)
   cases hu : idOk x.uid with
   | false =>
    have HU := Aside0.mk hu
    unfold ndCells
    go_enter Tryz.func99, Tryz.ntmps99
    go_wp2_with (first | (go_at_call 159; (with_reducible refine (id_is x.uid _ _ HU.out).mono ?_); rintro e w1 ⟨rfl, ⟨nd, rfl⟩⟩))
    go_ret
    exact ⟨by first | (simp [rightN, *]; done) | (unfold rightN; rw [decide_eq_false m1]; simp) | (unfold rightN; rw [decide_eq_false m0]; simp), by repeat (first | exact Below.refl _ _ | apply below_alloc | apply pw_below_drewN)⟩
   | true =>
    have HU := Aside0.mk hu
    cases hv : idOk x.gid with
    | false =>
     have HV := Aside0.mk hv
     unfold ndCells
     go_enter Tryz.func99, Tryz.ntmps99
     go_wp2_with (first | (go_at_call 159; first | ((with_reducible refine (id_is x.uid _ _ HU.out).mono ?_); rintro e w1 ⟨rfl, ⟨nd, rfl⟩⟩) | ((with_reducible refine (id_is x.gid _ _ HV.out).mono ?_); rintro e w1 ⟨rfl, ⟨nd2, rfl⟩⟩)))
     go_ret
     exact ⟨by first | (simp [rightN, *]; done) | (unfold rightN; rw [decide_eq_false m1]; simp) | (unfold rightN; rw [decide_eq_false m0]; simp), by repeat (first | exact Below.refl _ _ | apply below_alloc | apply pw_below_drewN)⟩
    | true =>
     have HV := Aside0.mk hv
     have hr : rightN x = kindOk x := by unfold rightN; rw [hu, hv, decide_eq_true m0, decide_eq_true m1]; rfl
     rw [hr]
     unfold kindOk
     clear hr hu hv m0 m1
     by_cases k1 : x.kind = 1
     ·rw [if_pos k1]
      by_cases e1 : (x.ents.length : Int) = 0
      ·by_cases t1 : x.target.toList = []
       ·have g1 := emp_t t1
        unfold ndCells
        go_enter Tryz.func99, Tryz.ntmps99
        go_wp2_with (first | (go_at_call 159; first | ((with_reducible refine (id_is x.uid _ _ HU.out).mono ?_); rintro e w1 ⟨rfl, ⟨nd, rfl⟩⟩) | ((with_reducible refine (id_is x.gid _ _ HV.out).mono ?_); rintro e w1 ⟨rfl, ⟨nd2, rfl⟩⟩)))
        go_ret
        exact ⟨by first | (simp [*]; done) | (rw [decide_eq_false e1]; rfl), by repeat (first | exact Below.refl _ _ | exact hb | apply below_alloc | apply pw_below_drewN)⟩
       ·have g1 := emp_f t1
        unfold ndCells
        go_enter Tryz.func99, Tryz.ntmps99
        go_wp2_with (first | (go_at_call 159; first | ((with_reducible refine (id_is x.uid _ _ HU.out).mono ?_); rintro e w1 ⟨rfl, ⟨nd, rfl⟩⟩) | ((with_reducible refine (id_is x.gid _ _ HV.out).mono ?_); rintro e w1 ⟨rfl, ⟨nd2, rfl⟩⟩)))
        go_ret
        exact ⟨by first | (simp [*]; done) | (rw [decide_eq_false e1]; rfl), by repeat (first | exact Below.refl _ _ | exact hb | apply below_alloc | apply pw_below_drewN)⟩
      ·have e1' : ((x.ents.length : Int) == 0) = false := beq_eq_false_iff_ne.2 e1
       unfold ndCells
       go_enter Tryz.func99, Tryz.ntmps99
       go_wp2_with (first | (go_at_call 159; first | ((with_reducible refine (id_is x.uid _ _ HU.out).mono ?_); rintro e w1 ⟨rfl, ⟨nd, rfl⟩⟩) | ((with_reducible refine (id_is x.gid _ _ HV.out).mono ?_); rintro e w1 ⟨rfl, ⟨nd2, rfl⟩⟩)))
       go_ret
       exact ⟨by first | (simp [*]; done) | (rw [decide_eq_false e1]; rfl), by repeat (first | exact Below.refl _ _ | exact hb | apply below_alloc | apply pw_below_drewN)⟩
     ·rw [if_neg k1]
      have k1' : (x.kind == 1) = false := beq_eq_false_iff_ne.2 k1
      by_cases k2 : x.kind = 2
      ·rw [if_pos k2]
       have k2' : (x.kind == 2) = true := beq_iff_eq.2 k2
       by_cases e1 : (x.data.length : Int) = 0
       ·by_cases t1 : x.target.toList = []
        ·have g1 := emp_t t1
         unfold ndCells
         go_enter Tryz.func99, Tryz.ntmps99
         go_wp2_with (first | (go_at_call 159; first | ((with_reducible refine (id_is x.uid _ _ HU.out).mono ?_); rintro e w1 ⟨rfl, ⟨nd, rfl⟩⟩) | ((with_reducible refine (id_is x.gid _ _ HV.out).mono ?_); rintro e w1 ⟨rfl, ⟨nd2, rfl⟩⟩)) | (go_at_call 160; refine (rising.calls A5 c5 x.ents _ (Kd.F_now (Kd.F_step HN.out.f5 (fun k_ _ hlt_ => Below.block (B := w.heap.size) ?_ k_ hlt_))) HN.out.l5 b5).mono ?_; (repeat (first | exact Below.refl _ _ | apply below_alloc | apply pw_below_drewN)); rintro e w3 ⟨rfl, hb⟩; have HB := Aside0.mk hb; clear hb))
         go_ret
         exact ⟨by simp [risingOk, *], below_step (by repeat (first | exact Below.refl _ _ | apply below_alloc | apply pw_below_drewN)) HB.out⟩
        ·have g1 := emp_f t1
         unfold ndCells
         go_enter Tryz.func99, Tryz.ntmps99
         go_wp2_with (first | (go_at_call 159; first | ((with_reducible refine (id_is x.uid _ _ HU.out).mono ?_); rintro e w1 ⟨rfl, ⟨nd, rfl⟩⟩) | ((with_reducible refine (id_is x.gid _ _ HV.out).mono ?_); rintro e w1 ⟨rfl, ⟨nd2, rfl⟩⟩)))
         go_ret
         exact ⟨by first | (simp [*]; done) | (rw [decide_eq_false e1]; rfl), by repeat (first | exact Below.refl _ _ | exact hb | apply below_alloc | apply pw_below_drewN)⟩
       ·have e1' : ((x.data.length : Int) == 0) = false := beq_eq_false_iff_ne.2 e1
        unfold ndCells
        go_enter Tryz.func99, Tryz.ntmps99
        go_wp2_with (first | (go_at_call 159; first | ((with_reducible refine (id_is x.uid _ _ HU.out).mono ?_); rintro e w1 ⟨rfl, ⟨nd, rfl⟩⟩) | ((with_reducible refine (id_is x.gid _ _ HV.out).mono ?_); rintro e w1 ⟨rfl, ⟨nd2, rfl⟩⟩)))
        go_ret
        exact ⟨by first | (simp [*]; done) | (rw [decide_eq_false e1]; rfl), by repeat (first | exact Below.refl _ _ | exact hb | apply below_alloc | apply pw_below_drewN)⟩
      ·rw [if_neg k2]
       have k2' : (x.kind == 2) = false := beq_eq_false_iff_ne.2 k2
       by_cases k3 : x.kind = 3
       ·rw [if_pos k3]
        have k3' : (x.kind == 3) = true := beq_iff_eq.2 k3
        by_cases e1 : (x.data.length : Int) + x.ents.length = 0
        ·have e1' : ((x.data.length : Int) + x.ents.length == 0) = true := beq_iff_eq.2 e1
         by_cases t1 : x.mode = 511
         ·have t1' : (x.mode == 511) = true := beq_iff_eq.2 t1
          unfold ndCells
          go_enter Tryz.func99, Tryz.ntmps99
          go_wp2_with (first | (go_at_call 159; first | ((with_reducible refine (id_is x.uid _ _ HU.out).mono ?_); rintro e w1 ⟨rfl, ⟨nd, rfl⟩⟩) | ((with_reducible refine (id_is x.gid _ _ HV.out).mono ?_); rintro e w1 ⟨rfl, ⟨nd2, rfl⟩⟩)) | (go_at_call 161; refine (Fits.calls x.target _).mono ?_; rintro e w3 ⟨rfl, ⟨nd3, rfl⟩⟩))
          go_ret
          exact ⟨by first | (simp [*]; done) | (rw [decide_eq_false e1]; rfl), by repeat (first | exact Below.refl _ _ | exact hb | apply below_alloc | apply pw_below_drewN)⟩
         ·have t1' : (x.mode == 511) = false := beq_eq_false_iff_ne.2 t1
          unfold ndCells
          go_enter Tryz.func99, Tryz.ntmps99
          go_wp2_with (first | (go_at_call 159; first | ((with_reducible refine (id_is x.uid _ _ HU.out).mono ?_); rintro e w1 ⟨rfl, ⟨nd, rfl⟩⟩) | ((with_reducible refine (id_is x.gid _ _ HV.out).mono ?_); rintro e w1 ⟨rfl, ⟨nd2, rfl⟩⟩)))
          go_ret
          exact ⟨by first | (simp [*]; done) | (rw [decide_eq_false e1]; rfl), by repeat (first | exact Below.refl _ _ | exact hb | apply below_alloc | apply pw_below_drewN)⟩
        ·have e1' : ((x.data.length : Int) + x.ents.length == 0) = false := beq_eq_false_iff_ne.2 e1
         unfold ndCells
         go_enter Tryz.func99, Tryz.ntmps99
         go_wp2_with (first | (go_at_call 159; first | ((with_reducible refine (id_is x.uid _ _ HU.out).mono ?_); rintro e w1 ⟨rfl, ⟨nd, rfl⟩⟩) | ((with_reducible refine (id_is x.gid _ _ HV.out).mono ?_); rintro e w1 ⟨rfl, ⟨nd2, rfl⟩⟩)))
         go_ret
         exact ⟨by first | (simp [*]; done) | (rw [decide_eq_false e1]; rfl), by repeat (first | exact Below.refl _ _ | exact hb | apply below_alloc | apply pw_below_drewN)⟩
       ·rw [if_neg k3]
        have k3' : (x.kind == 3) = false := beq_eq_false_iff_ne.2 k3
        unfold ndCells
        go_enter Tryz.func99, Tryz.ntmps99
        go_wp2_with (first | (go_at_call 159; first | ((with_reducible refine (id_is x.uid _ _ HU.out).mono ?_); rintro e w1 ⟨rfl, ⟨nd, rfl⟩⟩) | ((with_reducible refine (id_is x.gid _ _ HV.out).mono ?_); rintro e w1 ⟨rfl, ⟨nd2, rfl⟩⟩)))
        go_ret
        exact ⟨by first | (simp [*]; done) | (rw [decide_eq_false e1]; rfl), by repeat (first | exact Below.refl _ _ | exact hb | apply below_alloc | apply pw_below_drewN)⟩
  ·have d1 : decide (4095 < x.mode) = true := decide_eq_true (by omega)
   have r1 := Aside0.mk (show rightN x = false by unfold rightN; rw [decide_eq_false m1]; simp)
   unfold ndCells
   go_enter Tryz.func99, Tryz.ntmps99
   go_wp2
   go_ret
   exact ⟨by rw [r1.out]; rfl, by repeat (first | exact Below.refl _ _ | apply below_alloc | apply pw_below_drewN)⟩
 ·have d0 : decide (x.mode < 0) = true := decide_eq_true (by omega)
  have r1 := Aside0.mk (show rightN x = false by unfold rightN; rw [decide_eq_false m0]; rfl)
  unfold ndCells
  go_enter Tryz.func99, Tryz.ntmps99
  go_wp2
  go_ret
  exact ⟨by rw [r1.out]; rfl, by repeat (first | exact Below.refl _ _ | apply below_alloc | apply pw_below_drewN)⟩
def okx (ok : Nat → Prop) (w : World) : Nat → Prop := fun k => ok k ∨ w.heap.size ≤ k
theorem TabAt.okx {W : World} {g : Nat} {ok : Nat → Prop} {T : Tab} (h : TabAt W g ok T) (w : World) (hg : g < w.heap.size) : TabAt W g (okx ok w) T :=
 h.mono (fun _ hk => .inl hk) (fun k hk he => by
  rcases hk with hk | hk
  ·exact h.out k hk he
  ·omega)
def putE (T : Tab) (i : Int) (x : Nd) : Int := if live T i = true then (if rightN x = true then 0 else 22) else 2
def Tab.put (T : Tab) (i : Int) (x : Nd) : Tab := if live T i = true then (if rightN x = true then T.setN (i.toNat - 1) x else T) else T
theorem live_lt {T : Tab} {i : Int} (h : live T i = true) : 1 ≤ i ∧ i ≤ T.room := by unfold live at h; simp at h; exact ⟨h.1.1, h.1.2⟩
theorem Fr.set7 {S : Nat → Prop} {w W : World} (h : Fr S w W) {g : Nat} (hg : S g) (a b c d e f i : Nat) (va vb vc vd ve vf vi : Value) : Fr S w (((((((W.setCell ⟨g, a, none⟩ va).setCell ⟨g, b, none⟩ vb).setCell ⟨g, c, none⟩ vc).setCell ⟨g, d, none⟩ vd).setCell ⟨g, e, none⟩ ve).setCell ⟨g, f, none⟩ vf).setCell ⟨g, i, none⟩ vi) :=
 ((((((h.set (.inl hg) _ _).set (.inl hg) _ _).set (.inl hg) _ _).set (.inl hg) _ _).set (.inl hg) _ _).set (.inl hg) _ _).set (.inl hg) _ _
theorem boxed {w : World} {ok : Nat → Prop} {x : Nd} {A4 : Option Addr} {c4 : Nat} {A5 : Option Addr} {c5 : Nat} (h : NdC w ok x A4 c4 A5 c5) : Aside0 (NdC (w.alloc (.cells (ndCells x A4 c4 A5 c5) 44)) ok x A4 c4 A5 c5) := ⟨h.below (below_alloc (Below.refl _ _) _)⟩
set_option maxHeartbeats 1600000 in
set_option maxRecDepth 100000 in
theorem Put.calls (g : Nat) (ok okn : Nat → Prop) (T : Tab) (i : Int) (x : Nd) (A4 : Option Addr) (c4 : Nat) (A5 : Option Addr) (c5 : Nat) (w : World) (h : TabAt w g ok T) (hx : NdC w okn x A4 c4 A5 c5) (b4 : x.data.length ≤ 1000) (b5 : x.ents.length ≤ 1000) :
  Calls Tryz.prog 102 #[.pointer (some ⟨g, 0, none⟩), .int .i64 i, .agg (ndCells x A4 c4 A5 c5)] w fun e w' => e = .returned (.int .i64 (putE T i x)) ∧ TabAt w' g (okx ok w) (T.put i x) ∧ Fr (· = g) w w' := by
 have HX := boxed hx
 have HT := Aside0.mk (h.below (below_alloc (Below.refl _ _) (.cells (ndCells x A4 c4 A5 c5) 44)))
 have HG := Aside0.mk h.lt
 have HB := Aside0.mk (below_alloc (Below.refl w.heap.size w) (.cells (ndCells x A4 c4 A5 c5) 44))
 have B4 := Aside0.mk b4
 have B5 := Aside0.mk b5
 cases hl : live T i with
 | false =>
  have HL := Aside0.mk hl
  unfold putE Tab.put
  rw [hl]
  clear h hx hl b4 b5
  unfold ndCells at *
  go_enter Tryz.func102, Tryz.ntmps102
  go_wp2_with fail
  refine (at_nil g ok T i _ HT.out HL.out).mono ?_
  rintro e w1 ⟨rfl, ⟨nd, rfl⟩⟩
  dsimp only
  go_wp2
  go_ret
  exact ⟨rfl, (HT.out.drewN nd).okx _ HG.out, Fr.of_below _ (pw_below_drewN HB.out nd)⟩
 | true =>
  have HL := Aside0.mk hl
  have HI := Aside0.mk (show i.toNat - 1 < 24 by have := (live_lt hl).2; have := h.r2; omega)
  cases hr : rightN x with
  | false =>
   unfold putE Tab.put
   rw [hl, hr]
   have HR := Aside0.mk hr
   clear h hx hl hr b4 b5
   unfold ndCells at *
   go_enter Tryz.func102, Tryz.ntmps102
   go_wp2_with fail
   refine (at_some g ok T i _ HT.out HL.out).mono ?_
   rintro e w1 ⟨rfl, ⟨nd, rfl⟩⟩
   dsimp only
   go_wp2_with fail
   refine (Right.calls x A4 c4 A5 c5 okn _ (HX.out.below (pw_below_drewN (Below.refl _ _) nd)) B4.out B5.out).mono ?_
   rw [HR.out]
   rintro e w2 ⟨rfl, hb⟩
   have HB2 := Aside0.mk hb
   clear hb
   dsimp only
   go_wp2
   go_ret
   exact ⟨rfl, ((HT.out.drewN nd).below HB2.out).okx _ HG.out, Fr.of_below _ (below_step (pw_below_drewN HB.out nd) HB2.out)⟩
  | true =>
   unfold putE Tab.put
   rw [hl, hr]
   have HR := Aside0.mk hr
   clear h hx hl hr b4 b5
   unfold ndCells at *
   go_enter Tryz.func102, Tryz.ntmps102
   go_wp2_with fail
   refine (at_some g ok T i _ HT.out HL.out).mono ?_
   rintro e w1 ⟨rfl, ⟨nd, rfl⟩⟩
   dsimp only
   go_wp2_with fail
   refine (Right.calls x A4 c4 A5 c5 okn _ (HX.out.below (pw_below_drewN (Below.refl _ _) nd)) B4.out B5.out).mono ?_
   rw [HR.out]
   rintro e w2 ⟨rfl, hb⟩
   have HB2 := Aside0.mk hb
   clear hb
   have b0 := blk_below (blk_drewN (blk_new w (.cells (ndCells x A4 c4 A5 c5) 44)) nd) HB2.out
   unfold ndCells at b0
   have p := blk_cell b0
   clear b0
   dsimp only
   go_wp2_with fail
   refine (own.calls x A4 c4 A5 c5 okn _ ((HX.out.below (pw_below_drewN (Below.refl _ _) nd)).below HB2.out) B4.out B5.out).mono ?_
   rintro e w3 ⟨C4, d4, C5, d5, rfl, hn, hb⟩
   have HN := Aside0.mk hn
   have HB3 := Aside0.mk hb
   have HT3 := Aside0.mk (((HT.out.drewN nd).below HB2.out).below hb)
   clear hn hb p
   unfold ndCells
   obtain ⟨E4, f4, E5, f5, _, q0, q1, q2, q3, q4, q5, q6⟩ := HT3.out.at7 _ HI.out
   have q7 := HT3.out.frz
   dsimp only
   go_wp2
   go_ret
   have hz := below_size (below_step (pw_below_drewN HB.out nd) HB2.out)
   exact ⟨rfl, TabAt.set7 (HT3.out.okx w HG.out) _ HI.out x (HN.out.mono (fun k hk => .inr (Nat.le_trans hz hk))), Fr.set7 (S := (· = g)) (g := g) (Fr.of_below _ (below_step (below_step (pw_below_drewN HB.out nd) HB2.out) HB3.out)) rfl _ _ _ _ _ _ _ _ _ _ _ _ _ _⟩
end Go.Proofs.YtbjhcjgniciooaaGreatDoor.G
