-- Written by wip/tools/myprint.py, a session's own driver of the kit's printer.
import Derived.ArgAppend
import Derived.Below
import Derived.BigQuiet
import Derived.Deep.AppendLies
import Derived.Deep.CutBlock
import Derived.Deep.DeepCutAuto
import Derived.Deep.Draws
import Derived.Deep.LoopGhost
import Derived.Deep.OwnRows
import Derived.Deep.QuietTactic
import Derived.Deep.RegionHeld3
import Derived.Handy
import Derived.KernelRfl
import Derived.Laws.BitsAllLaws
import Derived.Laws.BitsLemmas
import Derived.Laws.BytesArg
import Derived.Laws.IdiomCopy
import Derived.Laws.MakeOwn
import Derived.Laws.OwnMore
import Derived.Laws.RangeAny
import Derived.Laws.Rows
import Derived.Laws.Slices
import Derived.Laws.StructEq
import Derived.Lib.AppendStr
import Derived.Lib.ConvBytes
import Derived.Lib.FieldsP
import Derived.Lib.Hide
import Derived.Lib.IndexAny
import Derived.Lib.OthersKept
import Derived.Lib.SlBytesConst
import Derived.Lib.SpaceUEq
import Derived.Maps.AppendAt
import Derived.OneCell
import Derived.OrdersHeld
import Derived.OwnWalk
import Derived.RowKit
import Derived.RowKit3
import Derived.Shelf.LaysM
import Derived.Shelf.Small.Strs
import Derived.Shelf.Small.Utf8
import Derived.Shelf.Strings.Builder1
import Derived.Shelf.Strings.Builder2
import Derived.Shelf.Strings.BuilderF
import Derived.Shelf.Strings.BuilderK
import Derived.Shelf.Strings.Count
import Derived.Shelf.Strings.OnBuilder
import Derived.Shelf.Strings.Runes
import Derived.Shelf.Strings.Search1
import Derived.Shelf.Strings.Search2
import Derived.Shelf.Strings.Search3
import Derived.Shelf.Strings.Shaped
import Derived.Shelf.Strings.Split
import Derived.Shelf.Strings.SplitShaped
import Derived.Shelf.Unicode.DecodeSlow
import Derived.Tactics
import Derived.Test.YtlohbepfecahdaaDoorProg
import Derived.WalkKit
import Derived.WideLaws
import Derived.Test.YtlohbepfecahdaaDoorZfWWords
import Derived.Test.YtlohbepfecahdaaDoorZfWLast
import Derived.Test.YtlohbepfecahdaaDoorZfWApart
import Derived.Test.YtlohbepfecahdaaDoorZfWFoot
import Derived.Test.YtlohbepfecahdaaDoorZfWShare
import Derived.Test.YtlohbepfecahdaaDoorZfWN
import Derived.Test.YtlohbepfecahdaaDoorZfWNEv
import Derived.Test.YtlohbepfecahdaaDoorZfWMore
import Derived.Test.YtlohbepfecahdaaDoorZfB
import Derived.Test.YtlohbepfecahdaaDoorZfC
import Derived.Test.YtlohbepfecahdaaDoorZfShelf
import Derived.Test.YtlohbepfecahdaaDoorZfD
import Derived.Test.YtlohbepfecahdaaDoorZfWTab
import Derived.Test.YtlohbepfecahdaaDoorZfWEqStruct
import Derived.Test.YtlohbepfecahdaaDoorZfWRepsOne
import Derived.Test.YtlohbepfecahdaaDoorZfWGuard
import Derived.Test.YtlohbepfecahdaaDoorZfS0
namespace Go.Proofs.YtlohbepfecahdaaDoor.S
open Go.RowKit Go.Proofs.YtlohbepfecahdaaDoorW.PrintWords Go.Proofs.YtlohbepfecahdaaDoorW.PrintLast Go.Proofs.YtlohbepfecahdaaDoorW.PrintMore
set_option linter.unusedVariables false
set_option linter.unusedSimpArgs false
-- NOT PRINTED: function 78 (utf8_RuneCountInString)
-- NOT PRINTED: function 85 (utf8_decodeRuneInStringSlow)
-- NOT PRINTED: function 79 (utf8_DecodeRuneInString)
-- NOT PRINTED: function 67 (strings_explode)
-- NOT PRINTED: function 82 (bytealg_IndexByteString)
-- NOT PRINTED: function 70 (stringslite_IndexByte)
-- NOT PRINTED: function 72 (bytealg_Cutover)
-- NOT PRINTED: function 73 (bytealg_IndexString)
-- NOT PRINTED: function 87 (bytealg_hashStr_string)
-- NOT PRINTED: function 86 (bytealg_IndexRabinKarp_string)
-- NOT PRINTED: function 81 (stringslite_Index)
-- NOT PRINTED: function 69 (strings_Index)
-- NOT PRINTED: function 80 (bytealg_CountString)
-- NOT PRINTED: function 68 (strings_Count)
-- NOT PRINTED: function 50 (strings_genSplit)
/-! ### strings_Split: function 34 -/
/-- A text between its commas. -/
def splitS (s : ByteArray) : List ByteArray := Lib.splitB ⟨#[44]⟩ 0 (Lib.countB s ⟨#[44]⟩) s
def strings_Split.f (a0 : ByteArray) (a1 : ByteArray) : Option (List ByteArray) := if a1.data = #[44] ∧ a0.size < 4294967281 then some (splitS a0) else none
theorem comma_index (x : ByteArray) : Lib.indexB x ⟨#[44]⟩ = Lib.indexByte x.data.toList 44 := Lib.index_one _ _
theorem comma_count (x : ByteArray) : Lib.countB x ⟨#[44]⟩ = Lib.countByte x.data.toList 44 := Lib.count_one _ _
set_option maxHeartbeats 1600000 in
set_option maxRecDepth 100000 in
theorem strings_Split.calls (a0 : ByteArray) (a1 : ByteArray) (r : List ByteArray) (w : World) (h : strings_Split.f a0 a1 = some r) :
    Calls Tryd.prog 34 #[.string a0, .string a1] w fun e w' => ∃ v0_ : Value, e = .returned (v0_) ∧ Kd.R Kd.string 9 w' w.heap.size (fun _ => True) v0_ r ∧ Below w.heap.size w w' := by
  unfold strings_Split.f at h
  split at h
  · rename_i hc
    obtain ⟨hA, hs⟩ := hc
    simp only [Option.some.injEq] at h
    have ha1 : a1 = ⟨#[44]⟩ := ByteArray.ext hA
    subst ha1
    subst h
    have hlen := Lib.splitB_all ⟨#[44]⟩ (by decide) 0 _ a0 rfl
    have hle := Lib.countB_le ⟨#[44]⟩ (by decide) a0.size a0 (Nat.le_refl _)
    have hcall : Calls Tryd.prog 50 #[.string a0, .string ⟨#[44]⟩, .int .i64 (0 : Nat), .int .i64 (-1)] w fun e w' =>
        e = .returned (.slice (some ⟨w.heap.size, 0, none⟩) (splitS a0).length (Lib.countB a0 ⟨#[44]⟩ + 1)) ∧ w' = w.alloc (.cells ((splitS a0).map Value.string).toArray 9) := by
      have c := Any.strings_genSplit_core Tryd.lays221 (by kernel_rfl) a0 ⟨#[44]⟩ 0 (-1) (Lib.countB a0 ⟨#[44]⟩ + 1) w hs (by decide) (Nat.zero_le _)
        (fun x c _ => by rw [comma_index]; exact Tryd.strings_Index_one x 44 _)
        (by rw [comma_count]; exact Tryd.strings_Count_one a0 44 w) (by decide) (by decide) (by rw [if_pos (by decide)]; omega)
      rw [Nat.add_sub_cancel] at c
      have e2 : Lib.cellsOf (Lib.splitB ⟨#[44]⟩ 0 (Lib.countB a0 ⟨#[44]⟩) a0) (Lib.countB a0 ⟨#[44]⟩ + 1) = ((Lib.splitB ⟨#[44]⟩ 0 (Lib.countB a0 ⟨#[44]⟩) a0).map Value.string).toArray := by rw [← hlen]; exact Lib.cellsOf_full _
      rw [e2] at c
      exact c
    have hl2 : (splitS a0).length = Lib.countB a0 ⟨#[44]⟩ + 1 := hlen
    have hn : Lib.countB a0 ⟨#[44]⟩ ≤ a0.size := by omega
    rw [← hl2] at hcall
    have hmax : (splitS a0).length ≤ maxLen := by rw [hl2]; unfold maxLen; omega
    clear hlen hle hl2 hn
    generalize splitS a0 = r at hcall hmax ⊢
    go_enter Tryd.func34, Tryd.ntmps34
    go_wp2_with fail
    refine hcall.mono ?_
    rintro e w1 ⟨rfl, rfl⟩
    go_wp2_with fail
    go_ret
    have ho := World.ownsRow_lit (base := w.heap.size) (e := 9) (size := 1) w (r.map Value.string).toArray r.length (Nat.le_refl _) hmax (by simp)
    exact ⟨_, rfl, ⟨fun _ _ => trivial, _, ho, Kd.reps_scalar r⟩, (Below.refl _ _).alloc (Nat.le_refl _) _⟩
  · exact absurd h (by simp)
/-! ### strings_IndexByte: function 54 -/
def strings_IndexByte.f (a0 : ByteArray) (a1 : Int) : Option Int := some (Lib.indexByte a0.data.toList a1.toNat.toUInt8)
theorem strings_IndexByte.calls (a0 : ByteArray) (a1 : Int) (r : Int) (w : World) (h : strings_IndexByte.f a0 a1 = some r) :
    Calls Tryd.prog 54 #[.string a0, .int .u8 a1] w fun e w' => e = .returned (.int .i64 r) ∧ Drawn0 w w' := by
  simp only [strings_IndexByte.f, Option.some.injEq] at h
  subst h
  exact (Tryd.strings_IndexByte a0 a1 w).mono fun e w' ⟨he, hw⟩ => ⟨he, hw ▸ Drawn0.refl _⟩
-- NOT PRINTED: function 71 (utf8_ValidRune)
/-! ### strings_IndexRune: function 55 -/
/-- The index of a rune in a text of ASCII bytes. -/
def idxRune (s : ByteArray) (r : Int) : Int := if r < 128 then Lib.indexByte s.data.toList r.toNat.toUInt8 else -1
def isAscii (s : ByteArray) : Bool := s.data.toList.all (fun b => decide (b.toNat < 128))
theorem ascii_at {s : ByteArray} (h : isAscii s = true) (i : Nat) (hi : i < s.size) : (s[i]'hi).toNat < 128 := by
  have h1 := List.all_eq_true.1 h (s[i]'hi) (Array.mem_toList_iff.2 (Array.getElem_mem (by simpa using hi)))
  simpa using h1
theorem indexByte_none (l : List UInt8) (c : UInt8) (h : c ∉ l) : Lib.indexByte l c = -1 := by
  induction l with
  | nil => rfl
  | cons b l ih =>
    have h1 : (b == c) = false := by
      rw [beq_eq_false_iff_ne]; rintro rfl; exact h (by simp)
    have h2 := ih (fun hc => h (List.mem_cons_of_mem _ hc))
    simp [Lib.indexByte, h1, h2]
def LastHigh (B : ByteArray) : Prop := 2 ≤ B.size ∧ B.size ≤ 4 ∧ ∀ h : B.size - 1 < B.size, 128 ≤ (B[B.size - 1]'h).toNat
theorem lastHigh2 (x y : UInt8) (h : 128 ≤ y.toNat) : LastHigh ⟨#[x, y]⟩ := ⟨Nat.le_refl 2, by show 2 ≤ 4; decide, fun _ => h⟩
theorem lastHigh3 (x y z : UInt8) (h : 128 ≤ z.toNat) : LastHigh ⟨#[x, y, z]⟩ := ⟨by show 2 ≤ 3; decide, by show 3 ≤ 4; decide, fun _ => h⟩
theorem lastHigh4 (x y z u : UInt8) (h : 128 ≤ u.toNat) : LastHigh ⟨#[x, y, z, u]⟩ := ⟨by show 2 ≤ 4; decide, Nat.le_refl 4, fun _ => h⟩
theorem high_byte (c : Nat) : 128 ≤ (UInt8.ofNat (128 + c % 64)).toNat := by
  have : c % 64 < 64 := Nat.mod_lt _ (by decide)
  simp [UInt8.toNat_ofNat']
  omega
theorem enc_high (c : Nat) (h : 128 ≤ c) : LastHigh (if c < 128 then { data := #[UInt8.ofNat c] }
  else
    if c < 2048 then { data := #[UInt8.ofNat (192 + c / 64), UInt8.ofNat (128 + c % 64)] }
    else
      if c < 65536 then { data := #[UInt8.ofNat (224 + c / 4096), UInt8.ofNat (128 + c / 64 % 64), UInt8.ofNat (128 + c % 64)] }
      else { data := #[UInt8.ofNat (240 + c / 262144), UInt8.ofNat (128 + c / 4096 % 64), UInt8.ofNat (128 + c / 64 % 64), UInt8.ofNat (128 + c % 64)] }) := by
  rw [if_neg (by omega)]
  split
  · exact lastHigh2 _ _ (high_byte c)
  · split
    · exact lastHigh3 _ _ _ (high_byte c)
    · exact lastHigh4 _ _ _ _ (high_byte c)
theorem enc_facts (r : Int) (h0 : 128 ≤ r) (h1 : r ≤ 1114111) : LastHigh (Utf8.encode r) := by
  have hc : 128 ≤ (if Utf8.valid r = true then r.toNat else Utf8.runeError) := by
    split
    · omega
    · decide
  exact enc_high _ hc
theorem ascii_drop (s : ByteArray) (c : UInt8) (hA : isAscii s = true) (hc : 128 ≤ c.toNat) (a b : Nat) : Lib.indexByte (s.extract a b).data.toList c = -1 := by
  apply indexByte_none
  intro hm
  have h2 : c ∈ s.data.toList := by
    have h3 : (s.extract a b).data.toList = (s.data.toList.drop a).take (b - a) := by simp
    rw [h3] at hm
    exact List.mem_of_mem_drop (List.mem_of_mem_take hm)
  have := List.all_eq_true.1 hA c h2
  simp at this
  omega
def strings_IndexRune.f (a0 : ByteArray) (a1 : Int) : Option Int := if isAscii a0 = true ∧ 0 ≤ a1 ∧ a1 ≤ 1114111 ∧ a0.size ≤ 4611686018427387904 then some (idxRune a0 a1) else none
set_option maxHeartbeats 3200000 in
set_option maxRecDepth 100000 in
theorem strings_IndexRune.err (s : ByteArray) (w : World) (hA : isAscii s = true) (hs : s.size ≤ 4611686018427387904) :
    Calls Tryd.prog 55 #[.string s, .int .i32 65533] w fun e w' => e = .returned (.int .i64 (-1)) ∧ Below w.heap.size w w' := by
  have HA := Aside0.mk hA
  clear hA
  go_enter Tryd.func55, Tryd.ntmps55
  go_wp2
  go_loopw [5, 6] (fun _ _ w' => ∃ pos : Nat, pos ≤ s.size ∧ w' = w.iter s pos) (fun _ _ w' => s.size - w'.iterPos w.heap.size)
  case atStart => exact ⟨0, Nat.zero_le _, rfl⟩
  case round =>
    obtain ⟨pos, hpos, rfl⟩ := hrel
    by_cases hp : pos < s.size
    · have ha := ascii_at HA.out pos hp
      have hnx : ∀ ty, (Instr.next (.pointer (some ⟨w.heap.size, 0, none⟩)) true ty).run Tryd.prog (w.iter s pos) = _ := fun ty => run_next_ascii w s pos ty hp ha
      have g1 : (((s[pos]'hp).toNat : Int) == 65533) = false := beq_eq_false_iff_ne.2 (by omega)
      go_wp2
      go_roundw
      case rel => exact ⟨pos + 1, hp, rfl⟩
      case measure => simp; omega
    · obtain rfl : pos = s.size := by omega
      have hnx := run_next_end (P := Tryd.prog) w s s.size
      go_wp2
      go_ret
      exact ⟨rfl, iter_below _ _ _⟩
set_option maxHeartbeats 3200000 in
set_option maxRecDepth 100000 in
theorem strings_IndexRune.high (s : ByteArray) (r : Int) (w : World) (hA : isAscii s = true) (h128 : 128 ≤ r) (hmax : r ≤ 1114111) (hne : r ≠ 65533) (hs : s.size ≤ 4611686018427387904) :
    Calls Tryd.prog 55 #[.string s, .int .i32 r] w fun e w' => e = .returned (.int .i64 (-1)) ∧ Below w.heap.size w w' := by
  have HA := Aside0.mk hA
  clear hA
  obtain ⟨e1, e2, e3⟩ := enc_facts r h128 hmax
  have g0 : decide (0 ≤ r) = true := decide_eq_true (by omega)
  have g1 : decide (r < 128) = false := decide_eq_false (by omega)
  have g2 : (r == 65533) = false := beq_eq_false_iff_ne.2 hne
  cases hv : Lib.validRune r with
  | false =>
    go_enter Tryd.func55, Tryd.ntmps55
    go_wp2_with fail
    refine (Tryd.utf8_ValidRune _ _).mono ?_; rintro e w' ⟨rfl, hw⟩; rw [hw, hv]
    go_wp2_with fail
    go_ret
    exact ⟨rfl, Below.refl _ _⟩
  | true =>
    go_enter Tryd.func55, Tryd.ntmps55
    go_wp2_with fail
    refine (Tryd.utf8_ValidRune _ _).mono ?_; rintro e w' ⟨rfl, hw⟩; rw [hw, hv]
    go_wp2_with fail
    (try go_step3)
    obtain ⟨E, hE⟩ : ∃ E, Utf8.encode r = E := ⟨_, rfl⟩
    rw [hE] at e1 e2 e3
    obtain ⟨q, hq⟩ : ∃ q, E.size - 1 = q := ⟨_, rfl⟩
    have hqE : q < E.size := by omega
    have e4 : 128 ≤ (E[q]'hqE).toNat := by have := e3 (by omega); simp only [hq] at this; exact this
    clear e3
    have hw1 : (IntKind.i64.wrap ((E.size : Int) - 1)) = (q : Int) := by
      rw [i64_w]; unfold wrap64; omega
    go_wp2_with fail
    go_loopw [9, 10] (fun v9 v10 w' => v9 = .int .i64 (q : Int) ∧ v10 = .int .i64 0 ∧ w' = w) (fun _ _ _ => 0)
    case atStart => exact ⟨rfl, rfl, rfl⟩
    case round =>
      obtain ⟨rfl, rfl, rfl⟩ := hrel
      by_cases hl : q < s.size
      · have hd := ascii_at HA.out q hl
        have hne2 : ((s[q]'hl).toNat : Int) ≠ ((E[q]'hqE).toNat : Int) := by omega
        have g3 : decide ((q : Int) < (s.size : Int)) = true := decide_eq_true (by omega)
        have hw2 : (IntKind.i64.wrap ((q : Int) + 1)) = (q : Int) + 1 := by rw [i64_w]; unfold wrap64; omega
        have g5 : (0 : Int) ≤ (q : Int) + 1 := by omega
        have g6 : (q : Int) + 1 ≤ (s.size : Int) := by omega
        have g7 : ((q : Int) + 1).toNat = q + 1 := by omega
        have g8 : ¬ (s.size : Int) < (q : Int) + 1 := by omega
        have g9 : ¬ (q : Int) + 1 < 0 := by omega
        have hx : ∀ b, Lib.indexByte (s.extract (q + 1) b).data.toList (((E[q]'hqE).toNat : Int)).toNat.toUInt8 = -1 := fun b => ascii_drop s _ HA.out (by simpa using e4) _ _
        have g4 : (((s[q]'hl).toNat : Int) != ((E[q]'hqE).toNat : Int)) = true := bne_iff_ne.2 hne2
        go_wp2_with fail
        go_step3
        go_wp2_with fail
        go_quiet (fail)
        go_wp2_with fail
        have HBW : Aside0 (Below wr.heap.size wr (wr.drewN nq)) := ⟨pw_below_drewN (Below.refl _ _) nq⟩
        generalize wr.drewN nq = w2 at HBW ⊢
        go_quiet ((go_at_call 54; exact Calls.quiet_of_same (Tryd.strings_IndexByte _ _ _)))
        rw [hx]
        go_wp2_with fail
        rw [Exit.noGoto_ret]
        simp (config := {zetaDelta := true}) only [Exit.inBlock, Exit.noGoto_ret, Exit.then]
        go_ret
        exact ⟨rfl, pw_below_drewN HBW.out _⟩
      · have g3 : decide ((q : Int) < (s.size : Int)) = false := decide_eq_false (by omega)
        go_wp2_with fail
        rw [Exit.noGoto_ret]
        go_ret
        exact ⟨rfl, Below.refl _ _⟩
theorem strings_IndexRune.calls (a0 : ByteArray) (a1 : Int) (r : Int) (w : World) (h : strings_IndexRune.f a0 a1 = some r) :
    Calls Tryd.prog 55 #[.string a0, .int .i32 a1] w fun e w' => e = .returned (.int .i64 r) ∧ Below w.heap.size w w' := by
  unfold strings_IndexRune.f at h
  split at h
  · rename_i hc
    obtain ⟨hA, h0, h1, hs⟩ := hc
    simp only [Option.some.injEq] at h
    subst h
    unfold idxRune
    by_cases hr : a1 < 128
    · rw [if_pos hr]
      exact (Tryd.strings_IndexRune_ascii a0 a1 w h0 hr).mono fun e w' ⟨he, hw⟩ => ⟨he, hw ▸ Below.refl _ _⟩
    · rw [if_neg hr]
      by_cases he : a1 = 65533
      · subst he; exact strings_IndexRune.err a0 w hA hs
      · exact strings_IndexRune.high a0 a1 w hA (by omega) h1 he hs
  · exact absurd h (by simp)
/-! ### clause_who: function 51 -/
def clause_who.f (a0 : ByteArray) : Option (Int × ByteArray) := if a0.size < 4294967281 then some ((whoS 0 a0.data.toList).1, ⟨⟨(whoS 0 a0.data.toList).2⟩⟩) else none
theorem ugo_ascii : isAscii ⟨#[117, 103, 111]⟩ = true := by decide +kernel
theorem ugo_rune (R : Int) (h0 : 0 ≤ R) : idxRune ⟨#[117, 103, 111]⟩ R = if R = 117 then 0 else if R = 103 then 1 else if R = 111 then 2 else -1 := by
  unfold idxRune
  by_cases h : R < 128
  · rw [if_pos h]
    obtain ⟨n, rfl⟩ := Int.eq_ofNat_of_zero_le h0
    have hn : n < 128 := by omega
    have : ∀ m : Fin 128, Lib.indexByte [117, 103, 111] ((m.val : Int)).toNat.toUInt8 = if (m.val : Int) = 117 then 0 else if (m.val : Int) = 103 then 1 else if (m.val : Int) = 111 then 2 else -1 := by decide +kernel
    exact this ⟨n, hn⟩
  · rw [if_neg h, if_neg (by omega), if_neg (by omega), if_neg (by omega)]
theorem whoS_hit (n : Int) (l : List UInt8) : whoS n (97 :: l) = whoS 7 l ∧ whoS n (117 :: l) = whoS (orI n 1) l ∧ whoS n (103 :: l) = whoS (orI n 2) l ∧ whoS n (111 :: l) = whoS (orI n 4) l := by
  refine ⟨rfl, rfl, rfl, rfl⟩
theorem whoS_miss (n : Int) (c : UInt8) (l : List UInt8) (h1 : c ≠ 97) (h2 : c ≠ 117) (h3 : c ≠ 103) (h4 : c ≠ 111) : whoS n (c :: l) = (n, c :: l) := by
  simp [whoS, h1, h2, h3, h4]
set_option maxHeartbeats 3200000 in
set_option maxRecDepth 100000 in
theorem clause_who.calls (a0 : ByteArray) (r1 : Int) (r2 : ByteArray) (w : World) (h : clause_who.f a0 = some (r1, r2)) :
    Calls Tryd.prog 51 #[.string a0] w fun e w' => e = .returned (.tuple #[.int .i64 r1, .string r2]) ∧ Below w.heap.size w w' := by
  unfold clause_who.f at h
  split at h
  · rename_i hsz
    simp only [Option.some.injEq, Prod.mk.injEq] at h
    have HR := Aside0.mk h
    clear h
    go_enter Tryd.func51, Tryd.ntmps51
    go_wp2_with fail
    go_loopg [4, 5, 6, 7] a0.size (fun gk v4 _ _ _ wr => ∃ (pos : Nat) (n : Int), v4 = .int .i64 n ∧ pos ≤ a0.size ∧ wr.heap[w.heap.size]? = some (.stringIter a0 pos) ∧ Below w.heap.size w wr ∧ a0.size ≤ pos + gk ∧ whoS n (a0.data.toList.drop pos) = whoS 0 a0.data.toList)
    case atStart => exact ⟨0, 0, rfl, Nat.zero_le _, World.iter_heap w a0 0, (Below.refl _ _).alloc (Nat.le_refl _) _, by omega, by rw [List.drop_zero]⟩
    case round =>
      obtain ⟨pos, n, rfl, hpos, hit, hbw, hfu, hsp⟩ := hrel
      by_cases hp : pos < a0.size
      · obtain ⟨g', rfl⟩ : ∃ g', gk = g' + 1 := ⟨gk - 1, by omega⟩
        obtain ⟨b1, b2, hrl, b3, b4⟩ := rune_facts a0 pos hp
        rw [drop_cons a0 pos hp] at hsp
        have hnx : ∀ ty, (Instr.next (.pointer (some ⟨w.heap.size, 0, none⟩)) true ty).run Tryd.prog wr = _ := fun ty => Lib.run_next_any_at wr w.heap.size a0 pos ty hit hp
        obtain ⟨R, hR⟩ : ∃ R, (Utf8.decode a0 pos).1 = R := ⟨_, rfl⟩
        obtain ⟨K, hK⟩ : ∃ K, (Utf8.decode a0 pos).2 = K := ⟨_, rfl⟩
        obtain ⟨c, hc⟩ : ∃ c, a0[pos]'hp = c := ⟨_, rfl⟩
        rw [hR, hK] at hnx
        rw [hK] at b1 b2
        simp only [hR, hK, hc] at b3 b4 hrl hsp
        have hit2 := Lib.iterAt_heap wr w.heap.size a0 pos (pos + K) hit
        have hbw2 := Lib.below_iterAt hbw (k := w.heap.size) (Nat.le_refl _) a0 (pos + K)
        have hlt1 : w.heap.size < (wr.iterAt w.heap.size a0 (pos + K)).heap.size := (Array.getElem?_eq_some_iff.1 hit2).1
        obtain ⟨W, hWd⟩ : ∃ W, wr.iterAt w.heap.size a0 (pos + K) = W := ⟨_, rfl⟩
        rw [hWd] at hnx hit2 hbw2 hlt1
        have A2 := Aside0.mk hit2
        have A3 := Aside0.mk hbw2
        have A4 := Aside0.mk b3
        have A6 := Aside0.mk hfu
        have A7 := Aside0.mk hlt1
        have A8 := Aside0.mk hsp
        have hu := ugo_rune (R : Int) (by omega)
        have hhigh : ¬ c.toNat < 128 → 128 ≤ R := fun h => b4 (by omega)
        have A9 := Aside0.mk hhigh
        clear hit2 hbw2 b3 b4 hit hbw hWd hfu hlt1 hsp hhigh
        obtain ⟨z, hz⟩ : ∃ z, idxRune ⟨#[117, 103, 111]⟩ (R : Int) = z := ⟨_, rfl⟩
        rw [hz] at hu
        have hcall := strings_IndexRune.calls ⟨#[117, 103, 111]⟩ (R : Int) z W (by unfold strings_IndexRune.f; rw [if_pos ⟨ugo_ascii, by omega, by omega, by decide⟩, hz])
        have low : ∀ v : Nat, v < 128 → R = v → c.toNat = v ∧ K = 1 := fun v hv hRv => by
          have hl : c.toNat < 128 := by
            by_cases hl : c.toNat < 128
            · exact hl
            · have := A9.out hl; omega
          have := A4.out hl
          omega
        have LW := Aside0.mk low
        clear low
        by_cases k0 : R = 97
        · obtain ⟨l1, l2⟩ := LW.out 97 (by decide) k0
          have hc97 : c = 97 := UInt8.toNat.inj l1
          subst k0
          have g0 : ((97 : Nat) : Int) == 97 := rfl
          go_wp2_with fail
          refine hcall.mono ?_
          rintro e w3 ⟨rfl, hb⟩
          go_wp2_with fail
          go_roundg g'
          case measure => omega
          case rel =>
            refine ⟨pos + K, 7, rfl, b1, (hb.block _ A7.out).trans A2.out, A3.out.trans (hb.mono A3.out.size), by have := A6.out; omega, ?_⟩
            have h8 := A8.out
            rw [hc97, (whoS_hit n _).1] at h8
            rw [l2]; exact h8
        · have g0 : ((R : Int) == 97) = false := beq_eq_false_iff_ne.2 (by omega)
          by_cases k1 : R = 117
          · obtain ⟨l1, l2⟩ := LW.out 117 (by decide) k1
            have hcv : c = 117 := UInt8.toNat.inj l1
            subst k1
            have hz1 : z = 0 := hu.trans (by decide)
            clear hu
            have HZ := Aside0.mk hz1
            clear hz1
            go_wp2_with fail
            refine hcall.mono ?_
            rintro e w3 ⟨rfl, hb⟩
            rw [HZ.out]
            go_wp2_with fail
            go_roundg g'
            case measure => omega
            case rel =>
              refine ⟨pos + K, orI n 1, rfl, b1, (hb.block _ A7.out).trans A2.out, A3.out.trans (hb.mono A3.out.size), by have := A6.out; omega, ?_⟩
              have h8 := A8.out
              rw [hcv, (whoS_hit n _).2.1] at h8
              rw [l2]; exact h8
          · by_cases k2 : R = 103
            · obtain ⟨l1, l2⟩ := LW.out 103 (by decide) k2
              have hcv : c = 103 := UInt8.toNat.inj l1
              subst k2
              have hz1 : z = 1 := hu.trans (by decide)
              clear hu
              have HZ := Aside0.mk hz1
              clear hz1
              go_wp2_with fail
              refine hcall.mono ?_
              rintro e w3 ⟨rfl, hb⟩
              rw [HZ.out]
              go_wp2_with fail
              go_roundg g'
              case measure => omega
              case rel =>
                refine ⟨pos + K, orI n 2, rfl, b1, (hb.block _ A7.out).trans A2.out, A3.out.trans (hb.mono A3.out.size), by have := A6.out; omega, ?_⟩
                have h8 := A8.out
                rw [hcv, (whoS_hit n _).2.2.1] at h8
                rw [l2]; exact h8
            · by_cases k3 : R = 111
              · obtain ⟨l1, l2⟩ := LW.out 111 (by decide) k3
                have hcv : c = 111 := UInt8.toNat.inj l1
                subst k3
                have hz1 : z = 2 := hu.trans (by decide)
                clear hu
                have HZ := Aside0.mk hz1
                clear hz1
                go_wp2_with fail
                refine hcall.mono ?_
                rintro e w3 ⟨rfl, hb⟩
                rw [HZ.out]
                go_wp2_with fail
                go_roundg g'
                case measure => omega
                case rel =>
                  refine ⟨pos + K, orI n 4, rfl, b1, (hb.block _ A7.out).trans A2.out, A3.out.trans (hb.mono A3.out.size), by have := A6.out; omega, ?_⟩
                  have h8 := A8.out
                  rw [hcv, (whoS_hit n _).2.2.2] at h8
                  rw [l2]; exact h8
              · have hz1 : z = -1 := by rw [hu, if_neg (by omega), if_neg (by omega), if_neg (by omega)]
                have hcm : c ≠ 97 ∧ c ≠ 117 ∧ c ≠ 103 ∧ c ≠ 111 := by
                  have q : ∀ v : UInt8, v.toNat < 128 → R ≠ v.toNat → c ≠ v := fun v hv hne he => by
                    subst he
                    have := (A4.out hv).2
                    exact hne this
                  exact ⟨q 97 (by decide) k0, q 117 (by decide) k1, q 103 (by decide) k2, q 111 (by decide) k3⟩
                have HC := Aside0.mk hcm
                clear hcm hu
                have HZ := Aside0.mk hz1
                clear hz1
                have gp1 : (pos : Int) ≤ (a0.size : Int) := by omega
                have gp2 : (0 : Int) ≤ (pos : Int) := by omega
                go_wp2_with fail
                refine hcall.mono ?_
                rintro e w3 ⟨rfl, hb⟩
                rw [HZ.out]
                go_wp2_with fail
                go_quiet (fail)
                go_wp2_with fail
                go_ret2
                have h8 := A8.out
                obtain ⟨m1, m2, m3, m4⟩ := HC.out
                rw [whoS_miss n c _ m1 m2 m3 m4] at h8
                obtain ⟨rfl, rfl⟩ := HR.out
                rw [← h8, drop_text, drop_cons a0 pos hp, hc]
                exact ⟨rfl, pw_below_drewN (A3.out.trans (hb.mono A3.out.size)) _⟩
      · obtain rfl : pos = a0.size := by omega
        have hnx := fun ty => Lib.run_next_end_at (P := Tryd.prog) wr w.heap.size a0 a0.size ty hit hp
        have A3 := Aside0.mk hbw
        have A8 := Aside0.mk hsp
        clear hbw hit hsp
        go_wp2_with fail
        go_ret2
        have h8 := A8.out
        rw [List.drop_eq_nil_of_le (by simp)] at h8
        obtain ⟨rfl, rfl⟩ := HR.out
        rw [← h8]
        exact ⟨rfl, A3.out⟩
  · exact absurd h (by simp)
end Go.Proofs.YtlohbepfecahdaaDoor.S
