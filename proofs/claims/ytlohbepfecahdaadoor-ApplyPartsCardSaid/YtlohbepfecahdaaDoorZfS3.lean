-- Written by wip/tools/myprint.py, a session's own driver of the kit's printer.
import Derived.ArgAppend
import Derived.Below
import Derived.BigQuiet
import Derived.Deep.AppendLies
import Derived.Deep.CutBlock
import Derived.Deep.DeepCutAuto
import Derived.Deep.Draws
import Derived.Deep.LoopGhost
import Derived.Deep.OwnRows
import Derived.Deep.QuietTactic
import Derived.Deep.RegionHeld3
import Derived.Handy
import Derived.KernelRfl
import Derived.Laws.BitsAllLaws
import Derived.Laws.BitsLemmas
import Derived.Laws.BytesArg
import Derived.Laws.IdiomCopy
import Derived.Laws.MakeOwn
import Derived.Laws.OwnMore
import Derived.Laws.RangeAny
import Derived.Laws.Rows
import Derived.Laws.Slices
import Derived.Laws.StructEq
import Derived.Lib.AppendStr
import Derived.Lib.ConvBytes
import Derived.Lib.FieldsP
import Derived.Lib.Hide
import Derived.Lib.IndexAny
import Derived.Lib.OthersKept
import Derived.Lib.SlBytesConst
import Derived.Lib.SpaceUEq
import Derived.Maps.AppendAt
import Derived.OneCell
import Derived.OrdersHeld
import Derived.OwnWalk
import Derived.RowKit
import Derived.RowKit3
import Derived.Shelf.LaysM
import Derived.Shelf.Small.Strs
import Derived.Shelf.Small.Utf8
import Derived.Shelf.Strings.Builder1
import Derived.Shelf.Strings.Builder2
import Derived.Shelf.Strings.BuilderF
import Derived.Shelf.Strings.BuilderK
import Derived.Shelf.Strings.Count
import Derived.Shelf.Strings.OnBuilder
import Derived.Shelf.Strings.Runes
import Derived.Shelf.Strings.Search1
import Derived.Shelf.Strings.Search2
import Derived.Shelf.Strings.Search3
import Derived.Shelf.Strings.Shaped
import Derived.Shelf.Strings.Split
import Derived.Shelf.Strings.SplitShaped
import Derived.Shelf.Unicode.DecodeSlow
import Derived.Tactics
import Derived.Test.YtlohbepfecahdaaDoorProg
import Derived.WalkKit
import Derived.WideLaws
import Derived.Test.YtlohbepfecahdaaDoorZfWWords
import Derived.Test.YtlohbepfecahdaaDoorZfWLast
import Derived.Test.YtlohbepfecahdaaDoorZfWApart
import Derived.Test.YtlohbepfecahdaaDoorZfWFoot
import Derived.Test.YtlohbepfecahdaaDoorZfWShare
import Derived.Test.YtlohbepfecahdaaDoorZfWN
import Derived.Test.YtlohbepfecahdaaDoorZfWNEv
import Derived.Test.YtlohbepfecahdaaDoorZfWMore
import Derived.Test.YtlohbepfecahdaaDoorZfB
import Derived.Test.YtlohbepfecahdaaDoorZfC
import Derived.Test.YtlohbepfecahdaaDoorZfShelf
import Derived.Test.YtlohbepfecahdaaDoorZfD
import Derived.Test.YtlohbepfecahdaaDoorZfWTab
import Derived.Test.YtlohbepfecahdaaDoorZfWEqStruct
import Derived.Test.YtlohbepfecahdaaDoorZfWRepsOne
import Derived.Test.YtlohbepfecahdaaDoorZfWGuard
import Derived.Test.YtlohbepfecahdaaDoorZfS0
import Derived.Test.YtlohbepfecahdaaDoorZfS2
namespace Go.Proofs.YtlohbepfecahdaaDoor.S
open Go.RowKit Go.Proofs.YtlohbepfecahdaaDoorW.PrintWords Go.Proofs.YtlohbepfecahdaaDoorW.PrintLast Go.Proofs.YtlohbepfecahdaaDoorW.PrintMore
set_option linter.unusedVariables false
set_option linter.unusedSimpArgs false
/-! ### clause_act: function 52 -/
def clause_act.f (a0 : ByteArray) : Option (Int × Int × Int × ByteArray) := if a0.size < 4294967281 then some ((actS a0.data.toList).1.1, (actS a0.data.toList).1.2.1, (actS a0.data.toList).1.2.2, ⟨⟨(actS a0.data.toList).2⟩⟩) else none
theorem act_sign (s : ByteArray) (h : 0 < s.size) : Lib.indexByte [43, 45, 61] (s[0]'h) < 0 ↔ signK (s[0]'h) = false := by
  have := sign_at (s[0]'h)
  constructor
  · intro h2; rw [decide_eq_true h2] at this; simpa using this.symm
  · intro h2; rw [h2] at this; exact of_decide_eq_true (by rw [this]; rfl)
set_option maxHeartbeats 3200000 in
set_option maxRecDepth 100000 in
/-- No act: the text is empty, or begins with no sign. -/
theorem clause_act.miss (a0 : ByteArray) (w : World) (h : a0.size = 0 ∨ ∃ h : 0 < a0.size, signK (a0[0]'h) = false) :
    Calls Tryd.prog 52 #[.string a0] w fun e w' => e = .returned (.tuple #[.agg #[.int .u8 0, .int .i64 0, .int .i64 0], .string a0]) ∧ Below w.heap.size w w' := by
  rcases h with h | ⟨h0, hs⟩
  · have he : a0.toList.isEmpty = true := by
      rw [ByteArray.toList_eq]
      cases hl : a0.data.toList with
      | nil => rfl
      | cons c l => have := congrArg List.length hl; simp at this; omega
    go_enter Tryd.func52, Tryd.ntmps52
    go_wp2_with fail
    refine bodyPost_ret (v := .tuple #[.agg #[.int .u8 0, .int .i64 0, .int .i64 0], .string a0]) ?_ rfl ⟨rfl, ?_⟩
    · simp [results, Tryd.results52, go_sem]
    · exact (Below.refl _ _).alloc (Nat.le_refl _) _
  · have he := toList_emp a0 (by omega)
    have hz : (0 : Int) < (a0.size : Int) := by omega
    go_enter Tryd.func52, Tryd.ntmps52
    go_wp2_with fail
    refine (Tryd.strings_IndexByte _ _ _).mono ?_
    rintro e w1 ⟨rfl, hw1⟩
    rw [hw1]
    clear hw1
    have hx : Lib.indexByte [43, 45, 61] (((a0[0]'h0).toNat : Int)).toNat.toUInt8 < 0 := by
      have := (act_sign a0 h0).2 hs
      simpa using this
    have hx2 : decide (Lib.indexByte [43, 45, 61] (((a0[0]'h0).toNat : Int)).toNat.toUInt8 < 0) = true := decide_eq_true hx
    generalize Lib.indexByte [43, 45, 61] (((a0[0]'h0).toNat : Int)).toNat.toUInt8 = z at hx hx2
    have hx3 : Aside0 (z < 0) := ⟨hx⟩
    go_wp2_with fail
    refine bodyPost_ret (v := .tuple #[.agg #[.int .u8 0, .int .i64 0, .int .i64 0], .string a0]) ?_ rfl ⟨rfl, ?_⟩
    · simp [results, Tryd.results52, go_sem]
    · exact (Below.refl _ _).alloc (Nat.le_refl _) _
theorem class_ge (s : ByteArray) (h : 0 < s.size) : Lib.indexByte [117, 103, 111] (((s[0]'h).toNat : Int)).toNat.toUInt8 = classK (s[0]'h) := by
  have := class_at (s[0]'h)
  simpa using this
set_option maxHeartbeats 3200000 in
set_option maxRecDepth 100000 in
/-- A sign, and a class that is copied. -/
theorem clause_act.copy (a0 : ByteArray) (w : World) (h2 : 1 < a0.size) (hs : signK (a0[0]'(by omega)) = true) (z : Int) (hz0 : 0 ≤ z) (hz2 : z ≤ 2) (hk : classK (a0[1]'h2) = z) :
    Calls Tryd.prog 52 #[.string a0] w fun e w' => e = .returned (.tuple #[.agg #[.int .u8 ((a0[0]'(by omega)).toNat : Int), .int .i64 0, .int .i64 (z + 1)], .string (a0.extract 2 a0.size)]) ∧ Below w.heap.size w w' := by
  have he := toList_emp a0 (by omega)
  have hz : (0 : Int) < (a0.size : Int) := by omega
  have hx : ¬ Lib.indexByte [43, 45, 61] (((a0[0]'(by omega)).toNat : Int)).toNat.toUInt8 < 0 := by
    intro hlt
    have := (act_sign a0 (by omega)).1 (by simpa using hlt)
    rw [hs] at this; cases this
  obtain ⟨t, ht⟩ : ∃ t, a0.extract 1 a0.size = t := ⟨_, rfl⟩
  have hts : t.size = a0.size - 1 := by rw [← ht]; simp
  have ht0 : t[0]'(by omega) = a0[1]'h2 := by subst ht; simp [ByteArray.getElem_extract]
  have hte := toList_emp t (by omega)
  have htz : (0 : Int) < (t.size : Int) := by omega
  have h1z : (1 : Int) ≤ (a0.size : Int) := by omega
  have h1t : (1 : Int) ≤ (t.size : Int) := by omega
  have hcl := class_ge t (by omega)
  rw [ht0, hk] at hcl
  go_enter Tryd.func52, Tryd.ntmps52
  go_wp2_with fail
  refine (Tryd.strings_IndexByte _ _ _).mono ?_
  rintro e w1 ⟨rfl, hw1⟩
  rw [hw1]
  clear hw1
  obtain ⟨y, hy⟩ : ∃ y, Lib.indexByte ({ data := #[43, 45, 61] } : ByteArray).data.toList (((a0[0]'(by omega)).toNat : Int)).toNat.toUInt8 = y := ⟨_, rfl⟩
  rw [hy]
  have hy0 : ¬ y < 0 := by rw [← hy]; exact Int.not_lt.2 hx
  clear hx hy
  go_wp2_with fail
  refine (Tryd.strings_IndexByte _ _ _).mono ?_
  rintro e w1 ⟨rfl, hw1⟩
  rw [hw1]
  clear hw1
  have hcl2 : Lib.indexByte ({ data := #[117, 103, 111] } : ByteArray).data.toList (((a0[1]'h2).toNat : Int)).toNat.toUInt8 = z := by rw [← ht0] at hk ⊢; rw [← hk, ← class_ge t (by omega)]
  rw [hcl2]
  clear hcl hcl2
  have hzw : (IntKind.i64.wrap (z + 1)) = z + 1 := by rw [i64_w]; unfold wrap64; omega
  have hz3 : ¬ z < 0 := by omega
  go_wp2_with fail
  have hex : t.extract 1 (a0.size - 1) = a0.extract 2 a0.size := by
    rw [← hts, drop_text t 1, drop_text a0 2]
    have : t.data.toList = a0.data.toList.drop 1 := by rw [← ht, drop_text a0 1]
    rw [this, List.drop_drop]
  have HE := Aside0.mk hex
  clear hex
  go_region
  go_wp2_with fail
  refine bodyPost_ret (v := .tuple #[.agg #[.int .u8 ((a0[0]'(by omega)).toNat : Int), .int .i64 0, .int .i64 (z + 1)], .string (a0.extract 2 a0.size)]) ?_ rfl ⟨rfl, ?_⟩
  · rw [← HE.out]
    simp [results, Tryd.results52, go_sem]
  · repeat (first | exact Below.refl _ _ | apply below_drew1 | apply below_alloc)
def powP (z : Int) : Int := if z = 0 then 1 else if z = 1 then 2 else if z = 2 then 4 else if z = 3 then 8 else if z = 4 then 16 else 32
theorem permK_cases (c : UInt8) : permK c = -1 ∨ permK c = 0 ∨ permK c = 1 ∨ permK c = 2 ∨ permK c = 3 ∨ permK c = 4 ∨ permK c = 5 := by
  unfold permK
  repeat' split
  all_goals simp
theorem permK_low (c : UInt8) (h : ¬ permK c = -1) : c.toNat < 128 := by
  have : ∀ x : Fin 256, permK (UInt8.ofNat x.val) = -1 ∨ (UInt8.ofNat x.val).toNat < 128 := by decide +kernel
  have h2 := this ⟨c.toNat, c.toNat_lt⟩
  simp at h2
  rcases h2 with h2 | h2
  · exact absurd h2 h
  · exact h2
theorem permS_step (p : Int) (c : UInt8) (l : List UInt8) : permS p (c :: l) = if permK c = -1 then (p, c :: l) else permS (orI p (powP (permK c))) l := by
  by_cases h1 : c = 120
  · subst h1; rfl
  · by_cases h2 : c = 119
    · subst h2; rfl
    · by_cases h3 : c = 114
      · subst h3; rfl
      · by_cases h4 : c = 88
        · subst h4; rfl
        · by_cases h5 : c = 115
          · subst h5; rfl
          · by_cases h6 : c = 116
            · subst h6; rfl
            · have : permK c = -1 := by simp [permK, h1, h2, h3, h4, h5, h6]
              rw [if_pos this]
              simp [permS, h1, h2, h3, h4, h5, h6]
theorem perm_ascii : isAscii ⟨#[120, 119, 114, 88, 115, 116]⟩ = true := by decide +kernel
theorem perm_rune (c : UInt8) (R : Nat) (h1 : c.toNat < 128 → R = c.toNat) (h2 : ¬ c.toNat < 128 → 128 ≤ R) : idxRune ⟨#[120, 119, 114, 88, 115, 116]⟩ (R : Int) = permK c := by
  unfold idxRune
  by_cases h : c.toNat < 128
  · rw [if_pos (by have := h1 h; omega), h1 h]
    have := perm_at c
    rw [← this]
    simp
  · rw [if_neg (by have := h2 h; omega)]
    by_cases hk : permK c = -1
    · exact hk.symm
    · exact absurd (permK_low c hk) h
theorem or_small (p : Int) (h : 0 ≤ p ∧ p ≤ 63) (z : Int) (hz : 0 ≤ z ∧ z ≤ 5) : 0 ≤ orI p (powP z) ∧ orI p (powP z) ≤ 63 := by
  obtain ⟨m, rfl⟩ := Int.eq_ofNat_of_zero_le h.1
  obtain ⟨n, rfl⟩ := Int.eq_ofNat_of_zero_le hz.1
  have f : ∀ x : Fin 64, ∀ y : Fin 6, 0 ≤ orI (x.val : Int) (powP (y.val : Int)) ∧ orI (x.val : Int) (powP (y.val : Int)) ≤ 63 := by decide +kernel
  exact f ⟨m, by omega⟩ ⟨n, by omega⟩
set_option maxHeartbeats 6400000 in
set_option maxRecDepth 100000 in
theorem clause_act.bare (a0 : ByteArray) (w : World) (hsz : a0.size < 4294967281) (h0 : 0 < a0.size) (hs : signK (a0[0]'h0) = true) (h1 : a0.size = 1) :
    Calls Tryd.prog 52 #[.string a0] w fun e w' => e = .returned (.tuple #[.agg #[.int .u8 ((a0[0]'h0).toNat : Int), .int .i64 (permS 0 (a0.data.toList.drop 1)).1, .int .i64 0], .string ⟨⟨(permS 0 (a0.data.toList.drop 1)).2⟩⟩]) ∧ Below w.heap.size w w' := by
  have he := toList_emp a0 (by omega)
  have hz : (0 : Int) < (a0.size : Int) := by omega
  have hx : ¬ Lib.indexByte [43, 45, 61] (((a0[0]'h0).toNat : Int)).toNat.toUInt8 < 0 := by
    intro hlt
    have := (act_sign a0 h0).1 (by simpa using hlt)
    rw [hs] at this; cases this
  obtain ⟨t, ht⟩ : ∃ t, a0.extract 1 a0.size = t := ⟨_, rfl⟩
  have hts : t.size = a0.size - 1 := by rw [← ht]; simp
  have htl : t.data.toList = a0.data.toList.drop 1 := by rw [← ht, drop_text a0 1]
  obtain rfl : ByteArray.empty = t := by
    apply ByteArray.ext; apply Array.ext'
    have hl0 : t.data.toList = [] := List.length_eq_zero_iff.1 (by simpa using (show t.size = 0 by omega))
    rw [hl0]; rfl
  have h1z : (1 : Int) ≤ (a0.size : Int) := by omega
  rw [← htl]
  go_enter Tryd.func52, Tryd.ntmps52
  go_wp2_with fail
  refine (Tryd.strings_IndexByte _ _ _).mono ?_
  rintro e w1 ⟨rfl, hw1⟩
  rw [hw1]
  clear hw1
  obtain ⟨y, hy⟩ : ∃ y, Lib.indexByte ({ data := #[43, 45, 61] } : ByteArray).data.toList (((a0[0]'h0).toNat : Int)).toNat.toUInt8 = y := ⟨_, rfl⟩
  rw [hy]
  have hy0 : ¬ y < 0 := by rw [← hy]; exact Int.not_lt.2 hx
  clear hx hy
  go_wp2_with fail
  clear hy0
  have HT := Aside0.mk htl
  go_loopg [6, 7, 8] ByteArray.empty.size (fun gk _ _ _ wr => ∃ (pos : Nat) (p : Int), pos ≤ ByteArray.empty.size ∧ 0 ≤ p ∧ p ≤ 63 ∧ wr.heap[w.heap.size]? = some (.cells #[.int .u8 0, .int .i64 0, .int .i64 0] 60 (0, 0)) ∧ wr.heap[w.heap.size + 1]? = some (.cells #[.int .u8 ((a0[0]'h0).toNat : Int), .int .i64 p, .int .i64 0] 60 (0, 0)) ∧ wr.heap[w.heap.size + 2]? = some (.stringIter ByteArray.empty pos) ∧ Below w.heap.size w wr ∧ ByteArray.empty.size ≤ pos + gk ∧ permS p (ByteArray.empty.data.toList.drop pos) = permS 0 ByteArray.empty.data.toList)
  case atStart =>
    refine ⟨0, 0, Nat.zero_le _, Int.le_refl _, by decide, ?_, ?_, ?_, ?_, by omega, by rw [List.drop_zero]⟩
    · show (((w.heap.push _).push _).push _)[w.heap.size]? = _
      rw [Array.getElem?_push, if_neg (by simp; omega), Array.getElem?_push, if_neg (by simp), Array.getElem?_push, if_pos rfl]
    · show (((w.heap.push _).push _).push _)[w.heap.size + 1]? = _
      rw [Array.getElem?_push, if_neg (by simp), Array.getElem?_push, if_pos (by simp)]
    · show (((w.heap.push _).push _).push _)[w.heap.size + 2]? = _
      rw [Array.getElem?_push, if_pos (by simp)]
    · repeat (first | exact Below.refl _ _ | apply below_alloc)
  case round =>
    obtain ⟨pos, p, hpos, hp0, hp63, b0, b1, b2, hbw, hfu, hsp⟩ := hrel
    have hn1 : w.heap.size ≠ w.heap.size + 1 := by omega
    obtain ⟨g1, hg1⟩ : ∃ g1, w.heap.size + 1 = g1 := ⟨_, rfl⟩
    have b2' : wr.heap[g1 + 1]? = some (.stringIter ByteArray.empty pos) := by rw [← hg1]; exact b2
    rw [hg1] at b1 hn1
    rw [show w.heap.size + 1 + 1 = g1 + 1 by rw [hg1], hg1]
    clear b2 hg1
    by_cases hp : pos < ByteArray.empty.size
    · exact absurd hp (by show ¬ pos < 0; omega)
    · obtain rfl : pos = ByteArray.empty.size := by omega
      have hnx := fun ty => Lib.run_next_end_at (P := Tryd.prog) wr (g1 + 1) ByteArray.empty ByteArray.empty.size ty b2' hp
      have r0 := fun j => cell_of_row wr g1 j _ 60 (0, 0) b1
      have c0 : wr.cell? ⟨g1, 0, none⟩ = some (.int .u8 ((a0[0]'h0).toNat : Int)) := r0 0
      have c1 : wr.cell? ⟨g1, 1, none⟩ = some (.int .i64 p) := r0 1
      have c2 : wr.cell? ⟨g1, 2, none⟩ = some (.int .i64 0) := r0 2
      have z0 : wr.cell? ⟨w.heap.size, 0, none⟩ = some (.int .u8 0) := cell_of_row wr w.heap.size 0 _ 60 (0, 0) b0
      have z1 : wr.cell? ⟨w.heap.size, 1, none⟩ = some (.int .i64 0) := cell_of_row wr w.heap.size 1 _ 60 (0, 0) b0
      have z2 : wr.cell? ⟨w.heap.size, 2, none⟩ = some (.int .i64 0) := cell_of_row wr w.heap.size 2 _ 60 (0, 0) b0
      have f0 : wr.frozen? ⟨w.heap.size, 0, none⟩ = false := frozen_of_row wr w.heap.size 0 _ 60 b0
      have f1 : wr.frozen? ⟨w.heap.size, 1, none⟩ = false := frozen_of_row wr w.heap.size 1 _ 60 b0
      have f2 : wr.frozen? ⟨w.heap.size, 2, none⟩ = false := frozen_of_row wr w.heap.size 2 _ 60 b0
      have B0 := Aside0.mk b0
      have BW := Aside0.mk hbw
      have SP := Aside0.mk hsp
      clear b0 b1 b2' hbw hsp r0
      go_wp2_with fail
      refine bodyPost_ret (v := .tuple #[.agg #[.int .u8 ((a0[0]'h0).toNat : Int), .int .i64 p, .int .i64 0], .string ⟨#[]⟩]) ?_ rfl ⟨?_, ?_⟩
      · have e0 := (cell_of_row wr w.heap.size 0 _ 60 (0, 0) B0.out)
        simp [results, Tryd.results52, go_sem, World.cell?_setCell_same, z0, z1, z2]
      · have h8 := SP.out
        rw [List.drop_eq_nil_of_le (by simp)] at h8
        rw [← h8]; rfl
      · exact below_set (below_set (below_set BW.out (Nat.le_refl _)) (Nat.le_refl _)) (Nat.le_refl _)
theorem blk_far0 {w : World} {g : Nat} {o : Obj} (h : w.heap[g]? = some o) {p : Addr} (hp : g ≠ p.block) (u : Value) : (w.setCell p u).heap[g]? = some o := (Below.heap_setCell w p u g hp).trans h
set_option maxHeartbeats 6400000 in
set_option maxRecDepth 100000 in
theorem clause_act.perm (a0 : ByteArray) (w : World) (hsz : a0.size < 4294967281) (h0 : 0 < a0.size) (hs : signK (a0[0]'h0) = true) (h2 : 1 < a0.size) (hk1 : classK (a0[1]'h2) = -1) :
    Calls Tryd.prog 52 #[.string a0] w fun e w' => e = .returned (.tuple #[.agg #[.int .u8 ((a0[0]'h0).toNat : Int), .int .i64 (permS 0 (a0.data.toList.drop 1)).1, .int .i64 0], .string ⟨⟨(permS 0 (a0.data.toList.drop 1)).2⟩⟩]) ∧ Below w.heap.size w w' := by
  have he := toList_emp a0 (by omega)
  have hz : (0 : Int) < (a0.size : Int) := by omega
  have hx : ¬ Lib.indexByte [43, 45, 61] (((a0[0]'h0).toNat : Int)).toNat.toUInt8 < 0 := by
    intro hlt
    have := (act_sign a0 h0).1 (by simpa using hlt)
    rw [hs] at this; cases this
  obtain ⟨t, ht⟩ : ∃ t, a0.extract 1 a0.size = t := ⟨_, rfl⟩
  have hts : t.size = a0.size - 1 := by rw [← ht]; simp
  have htl : t.data.toList = a0.data.toList.drop 1 := by rw [← ht, drop_text a0 1]
  have hte := toList_emp t (by omega)
  have htz : (0 : Int) < (t.size : Int) := by omega
  have ht0 : t[0]'(by omega) = a0[1]'h2 := by subst ht; simp [ByteArray.getElem_extract]
  have hcl := class_ge t (by omega)
  rw [ht0, hk1] at hcl
  have hcl2 : Lib.indexByte ({ data := #[117, 103, 111] } : ByteArray).data.toList (((a0[1]'h2).toNat : Int)).toNat.toUInt8 = -1 := by rw [← ht0] at hk1 ⊢; rw [← hk1, ← class_ge t (by omega)]
  clear hcl
  have h1z : (1 : Int) ≤ (a0.size : Int) := by omega
  rw [← htl]
  go_enter Tryd.func52, Tryd.ntmps52
  go_wp2_with fail
  refine (Tryd.strings_IndexByte _ _ _).mono ?_
  rintro e w1 ⟨rfl, hw1⟩
  rw [hw1]
  clear hw1
  obtain ⟨y, hy⟩ : ∃ y, Lib.indexByte ({ data := #[43, 45, 61] } : ByteArray).data.toList (((a0[0]'h0).toNat : Int)).toNat.toUInt8 = y := ⟨_, rfl⟩
  rw [hy]
  have hy0 : ¬ y < 0 := by rw [← hy]; exact Int.not_lt.2 hx
  clear hx hy
  go_wp2_with fail
  refine (Tryd.strings_IndexByte _ _ _).mono ?_
  rintro e w1 ⟨rfl, hw1⟩
  rw [hw1]
  clear hw1
  rw [hcl2]
  clear hcl2
  go_wp2_with fail
  clear hy0
  have HT := Aside0.mk htl
  go_loopg [6, 7, 8] t.size (fun gk _ _ _ wr => ∃ (pos : Nat) (p : Int), pos ≤ t.size ∧ 0 ≤ p ∧ p ≤ 63 ∧ wr.heap[w.heap.size]? = some (.cells #[.int .u8 0, .int .i64 0, .int .i64 0] 60 (0, 0)) ∧ wr.heap[w.heap.size + 1]? = some (.cells #[.int .u8 ((a0[0]'h0).toNat : Int), .int .i64 p, .int .i64 0] 60 (0, 0)) ∧ wr.heap[w.heap.size + 2]? = some (.stringIter t pos) ∧ Below w.heap.size w wr ∧ t.size ≤ pos + gk ∧ permS p (t.data.toList.drop pos) = permS 0 t.data.toList)
  case atStart =>
    refine ⟨0, 0, Nat.zero_le _, Int.le_refl _, by decide, ?_, ?_, ?_, ?_, by omega, by rw [List.drop_zero]⟩
    · show (((w.heap.push _).push _).push _)[w.heap.size]? = _
      rw [Array.getElem?_push, if_neg (by simp; omega), Array.getElem?_push, if_neg (by simp), Array.getElem?_push, if_pos rfl]
    · show (((w.heap.push _).push _).push _)[w.heap.size + 1]? = _
      rw [Array.getElem?_push, if_neg (by simp), Array.getElem?_push, if_pos (by simp)]
    · show (((w.heap.push _).push _).push _)[w.heap.size + 2]? = _
      rw [Array.getElem?_push, if_pos (by simp)]
    · repeat (first | exact Below.refl _ _ | apply below_alloc)
  case round =>
    obtain ⟨pos, p, hpos, hp0, hp63, b0, b1, b2, hbw, hfu, hsp⟩ := hrel
    have hn1 : w.heap.size ≠ w.heap.size + 1 := by omega
    have hgl0 : w.heap.size < w.heap.size + 1 := by omega
    obtain ⟨g1, hg1⟩ : ∃ g1, w.heap.size + 1 = g1 := ⟨_, rfl⟩
    have b2' : wr.heap[g1 + 1]? = some (.stringIter t pos) := by rw [← hg1]; exact b2
    rw [hg1] at b1 hn1 hgl0
    have HG2 := Aside0.mk hg1
    rw [show w.heap.size + 1 + 1 = g1 + 1 by rw [hg1], hg1]
    clear b2 hg1
    by_cases hp : pos < t.size
    · obtain ⟨g', rfl⟩ : ∃ g', gk = g' + 1 := ⟨gk - 1, by omega⟩
      have hgl : w.heap.size < g1 := hgl0
      obtain ⟨b3, b4, hrl, b5, b6⟩ := rune_facts t pos hp
      rw [drop_cons t pos hp] at hsp
      have hnx : ∀ ty, (Instr.next (.pointer (some ⟨g1 + 1, 0, none⟩)) true ty).run Tryd.prog wr = _ := fun ty => Lib.run_next_any_at wr (g1 + 1) t pos ty b2' hp
      obtain ⟨R, hR⟩ : ∃ R, (Utf8.decode t pos).1 = R := ⟨_, rfl⟩
      obtain ⟨K, hK⟩ : ∃ K, (Utf8.decode t pos).2 = K := ⟨_, rfl⟩
      obtain ⟨c, hc⟩ : ∃ c, t[pos]'hp = c := ⟨_, rfl⟩
      rw [hR, hK] at hnx
      rw [hK] at b3 b4
      simp only [hR, hK, hc] at b5 b6 hrl hsp
      have hit2 := Lib.iterAt_heap wr (g1 + 1) t pos (pos + K) b2'
      have b0w := (Lib.iterAt_other wr (g1 + 1) w.heap.size t (pos + K) (by omega)).trans b0
      have b1w := (Lib.iterAt_other wr (g1 + 1) g1 t (pos + K) (by omega)).trans b1
      have hbw2 := Lib.below_iterAt hbw (k := g1 + 1) (by omega) t (pos + K)
      have hlt1 : g1 + 1 < (wr.iterAt (g1 + 1) t (pos + K)).heap.size := (Array.getElem?_eq_some_iff.1 hit2).1
      obtain ⟨W, hWd⟩ : ∃ W, wr.iterAt (g1 + 1) t (pos + K) = W := ⟨_, rfl⟩
      rw [hWd] at hnx hit2 hbw2 hlt1 b0w b1w
      have B0 := Aside0.mk b0w
      have B1 := Aside0.mk b1w
      have B2 := Aside0.mk hit2
      have BW := Aside0.mk hbw2
      have SP := Aside0.mk hsp
      have FU := Aside0.mk hfu
      have LT := Aside0.mk hlt1
      have GL := Aside0.mk hgl
      have B5 := Aside0.mk b5
      obtain ⟨z, hz⟩ : ∃ z, idxRune ⟨#[120, 119, 114, 88, 115, 116]⟩ (R : Int) = z := ⟨_, rfl⟩
      have hzk : z = permK c := by rw [← hz]; exact perm_rune c R (fun h => (b5 h).2) (fun h => b6 (by omega))
      have hcall := strings_IndexRune.calls ⟨#[120, 119, 114, 88, 115, 116]⟩ (R : Int) z W (by unfold strings_IndexRune.f; rw [if_pos ⟨perm_ascii, by omega, by omega, by decide⟩, hz])
      clear b0 b1 b2' hbw hsp b0w b1w hit2 hbw2 hlt1 hfu hgl hgl0 b5 b6 hz hWd
      have CELLS : ∀ w3, Below W.heap.size W w3 → Aside0 (w3.heap[w.heap.size]? = some (.cells #[.int .u8 0, .int .i64 0, .int .i64 0] 60 (0, 0)) ∧ w3.heap[g1]? = some (.cells #[.int .u8 ((a0[0]'h0).toNat : Int), .int .i64 p, .int .i64 0] 60 (0, 0)) ∧ w3.heap[g1 + 1]? = some (.stringIter t (pos + K)) ∧ Below w.heap.size w w3) := fun w3 hb => by
        have h1 := GL.out
        have h2 := LT.out
        exact ⟨⟨(hb.block _ (by omega)).trans B0.out, (hb.block _ (by omega)).trans B1.out, (hb.block _ (by omega)).trans B2.out, BW.out.trans (hb.mono BW.out.size)⟩⟩
      clear B0 B1 B2 BW
      rcases permK_cases c with hk | hk | hk | hk | hk | hk | hk
      · have hv : permK c = -1 := hk
        rw [hv] at hzk
        subst hzk
        have HV := Aside0.mk hv
        clear hv hk
        go_wp2_with fail
        refine hcall.mono ?_
        rintro e w3 ⟨rfl, hb⟩
        obtain CS := CELLS w3 hb
        clear hb
        have c0 : w3.cell? ⟨g1, 0, none⟩ = some (.int .u8 ((a0[0]'h0).toNat : Int)) := cell_of_row w3 g1 0 _ 60 (0, 0) CS.out.2.1
        have c1 : w3.cell? ⟨g1, 1, none⟩ = some (.int .i64 p) := cell_of_row w3 g1 1 _ 60 (0, 0) CS.out.2.1
        have c2 : w3.cell? ⟨g1, 2, none⟩ = some (.int .i64 0) := cell_of_row w3 g1 2 _ 60 (0, 0) CS.out.2.1
        have y1 : w3.frozen? ⟨g1, 1, none⟩ = false := frozen_of_row w3 g1 1 _ 60 CS.out.2.1
        have z0 : w3.cell? ⟨w.heap.size, 0, none⟩ = some (.int .u8 0) := cell_of_row w3 w.heap.size 0 _ 60 (0, 0) CS.out.1
        have z1 : w3.cell? ⟨w.heap.size, 1, none⟩ = some (.int .i64 0) := cell_of_row w3 w.heap.size 1 _ 60 (0, 0) CS.out.1
        have z2 : w3.cell? ⟨w.heap.size, 2, none⟩ = some (.int .i64 0) := cell_of_row w3 w.heap.size 2 _ 60 (0, 0) CS.out.1
        have f0 : w3.frozen? ⟨w.heap.size, 0, none⟩ = false := frozen_of_row w3 w.heap.size 0 _ 60 CS.out.1
        have f1 : w3.frozen? ⟨w.heap.size, 1, none⟩ = false := frozen_of_row w3 w.heap.size 1 _ 60 CS.out.1
        have f2 : w3.frozen? ⟨w.heap.size, 2, none⟩ = false := frozen_of_row w3 w.heap.size 2 _ 60 CS.out.1
        have gp1 : (pos : Int) ≤ (t.size : Int) := by omega
        have gp2 : (0 : Int) ≤ (pos : Int) := by omega
        go_wp2_with fail
        go_region
        go_wp2_with fail
        refine bodyPost_ret (v := .tuple #[.agg #[.int .u8 ((a0[0]'h0).toNat : Int), .int .i64 p, .int .i64 0], .string (t.extract pos (a0.size - 1))]) ?_ rfl ⟨?_, ?_⟩
        · simp [results, Tryd.results52, go_sem, World.cell?_setCell_same, z0, z1, z2]
        · have h8 := SP.out
          rw [permS_step, if_pos HV.out] at h8
          rw [← h8, ← hts, drop_text, drop_cons t pos hp, hc]
        · exact below_drew1 (below_set (below_set (below_set CS.out.2.2.2 (Nat.le_refl _)) (Nat.le_refl _)) (Nat.le_refl _))
      · have hv : permK c = 0 := hk
        rw [hv] at hzk
        subst hzk
        have HV := Aside0.mk hv
        clear hv hk
        go_wp2_with fail
        refine hcall.mono ?_
        rintro e w3 ⟨rfl, hb⟩
        obtain CS := CELLS w3 hb
        clear hb
        have c0 : w3.cell? ⟨g1, 0, none⟩ = some (.int .u8 ((a0[0]'h0).toNat : Int)) := cell_of_row w3 g1 0 _ 60 (0, 0) CS.out.2.1
        have c1 : w3.cell? ⟨g1, 1, none⟩ = some (.int .i64 p) := cell_of_row w3 g1 1 _ 60 (0, 0) CS.out.2.1
        have c2 : w3.cell? ⟨g1, 2, none⟩ = some (.int .i64 0) := cell_of_row w3 g1 2 _ 60 (0, 0) CS.out.2.1
        have y1 : w3.frozen? ⟨g1, 1, none⟩ = false := frozen_of_row w3 g1 1 _ 60 CS.out.2.1
        have z0 : w3.cell? ⟨w.heap.size, 0, none⟩ = some (.int .u8 0) := cell_of_row w3 w.heap.size 0 _ 60 (0, 0) CS.out.1
        have z1 : w3.cell? ⟨w.heap.size, 1, none⟩ = some (.int .i64 0) := cell_of_row w3 w.heap.size 1 _ 60 (0, 0) CS.out.1
        have z2 : w3.cell? ⟨w.heap.size, 2, none⟩ = some (.int .i64 0) := cell_of_row w3 w.heap.size 2 _ 60 (0, 0) CS.out.1
        have f0 : w3.frozen? ⟨w.heap.size, 0, none⟩ = false := frozen_of_row w3 w.heap.size 0 _ 60 CS.out.1
        have f1 : w3.frozen? ⟨w.heap.size, 1, none⟩ = false := frozen_of_row w3 w.heap.size 1 _ 60 CS.out.1
        have f2 : w3.frozen? ⟨w.heap.size, 2, none⟩ = false := frozen_of_row w3 w.heap.size 2 _ 60 CS.out.1
        go_wp2_with fail
        go_region
        go_wp2_with fail
        have hlow := permK_low c (by rw [HV.out]; decide)
        have hKK := (B5.out hlow).1
        have hh := HG2.out
        subst hh
        go_roundg g'
        case measure => omega
        case rel =>
          have hs1 := SP.out
          rw [permS_step, if_neg (by rw [HV.out]; decide), HV.out] at hs1
          have ho := or_small p ⟨hp0, hp63⟩ 0 (by decide)
          refine ⟨pos + K, orI p (powP 0), b3, ho.1, ho.2, ?_, ?_, ?_, ?_, ?_, ?_⟩
          · exact blk_far CS.out.1 (by have := GL.out; show w.heap.size ≠ w.heap.size + 1; omega) _
          · exact blk_put CS.out.2.1 1 _ rfl
          · exact blk_far0 CS.out.2.2.1 (by show w.heap.size + 1 + 1 ≠ w.heap.size + 1; omega) _
          · exact below_drew1 (below_set CS.out.2.2.2 (by have := GL.out; omega))
          · have := FU.out; omega
          · rw [hKK]; exact hs1
      · have hv : permK c = 1 := hk
        rw [hv] at hzk
        subst hzk
        have HV := Aside0.mk hv
        clear hv hk
        go_wp2_with fail
        refine hcall.mono ?_
        rintro e w3 ⟨rfl, hb⟩
        obtain CS := CELLS w3 hb
        clear hb
        have c0 : w3.cell? ⟨g1, 0, none⟩ = some (.int .u8 ((a0[0]'h0).toNat : Int)) := cell_of_row w3 g1 0 _ 60 (0, 0) CS.out.2.1
        have c1 : w3.cell? ⟨g1, 1, none⟩ = some (.int .i64 p) := cell_of_row w3 g1 1 _ 60 (0, 0) CS.out.2.1
        have c2 : w3.cell? ⟨g1, 2, none⟩ = some (.int .i64 0) := cell_of_row w3 g1 2 _ 60 (0, 0) CS.out.2.1
        have y1 : w3.frozen? ⟨g1, 1, none⟩ = false := frozen_of_row w3 g1 1 _ 60 CS.out.2.1
        have z0 : w3.cell? ⟨w.heap.size, 0, none⟩ = some (.int .u8 0) := cell_of_row w3 w.heap.size 0 _ 60 (0, 0) CS.out.1
        have z1 : w3.cell? ⟨w.heap.size, 1, none⟩ = some (.int .i64 0) := cell_of_row w3 w.heap.size 1 _ 60 (0, 0) CS.out.1
        have z2 : w3.cell? ⟨w.heap.size, 2, none⟩ = some (.int .i64 0) := cell_of_row w3 w.heap.size 2 _ 60 (0, 0) CS.out.1
        have f0 : w3.frozen? ⟨w.heap.size, 0, none⟩ = false := frozen_of_row w3 w.heap.size 0 _ 60 CS.out.1
        have f1 : w3.frozen? ⟨w.heap.size, 1, none⟩ = false := frozen_of_row w3 w.heap.size 1 _ 60 CS.out.1
        have f2 : w3.frozen? ⟨w.heap.size, 2, none⟩ = false := frozen_of_row w3 w.heap.size 2 _ 60 CS.out.1
        go_wp2_with fail
        go_region
        go_wp2_with fail
        have hlow := permK_low c (by rw [HV.out]; decide)
        have hKK := (B5.out hlow).1
        have hh := HG2.out
        subst hh
        go_roundg g'
        case measure => omega
        case rel =>
          have hs1 := SP.out
          rw [permS_step, if_neg (by rw [HV.out]; decide), HV.out] at hs1
          have ho := or_small p ⟨hp0, hp63⟩ 1 (by decide)
          refine ⟨pos + K, orI p (powP 1), b3, ho.1, ho.2, ?_, ?_, ?_, ?_, ?_, ?_⟩
          · exact blk_far CS.out.1 (by have := GL.out; show w.heap.size ≠ w.heap.size + 1; omega) _
          · exact blk_put CS.out.2.1 1 _ rfl
          · exact blk_far0 CS.out.2.2.1 (by show w.heap.size + 1 + 1 ≠ w.heap.size + 1; omega) _
          · exact below_drew1 (below_set CS.out.2.2.2 (by have := GL.out; omega))
          · have := FU.out; omega
          · rw [hKK]; exact hs1
      · have hv : permK c = 2 := hk
        rw [hv] at hzk
        subst hzk
        have HV := Aside0.mk hv
        clear hv hk
        go_wp2_with fail
        refine hcall.mono ?_
        rintro e w3 ⟨rfl, hb⟩
        obtain CS := CELLS w3 hb
        clear hb
        have c0 : w3.cell? ⟨g1, 0, none⟩ = some (.int .u8 ((a0[0]'h0).toNat : Int)) := cell_of_row w3 g1 0 _ 60 (0, 0) CS.out.2.1
        have c1 : w3.cell? ⟨g1, 1, none⟩ = some (.int .i64 p) := cell_of_row w3 g1 1 _ 60 (0, 0) CS.out.2.1
        have c2 : w3.cell? ⟨g1, 2, none⟩ = some (.int .i64 0) := cell_of_row w3 g1 2 _ 60 (0, 0) CS.out.2.1
        have y1 : w3.frozen? ⟨g1, 1, none⟩ = false := frozen_of_row w3 g1 1 _ 60 CS.out.2.1
        have z0 : w3.cell? ⟨w.heap.size, 0, none⟩ = some (.int .u8 0) := cell_of_row w3 w.heap.size 0 _ 60 (0, 0) CS.out.1
        have z1 : w3.cell? ⟨w.heap.size, 1, none⟩ = some (.int .i64 0) := cell_of_row w3 w.heap.size 1 _ 60 (0, 0) CS.out.1
        have z2 : w3.cell? ⟨w.heap.size, 2, none⟩ = some (.int .i64 0) := cell_of_row w3 w.heap.size 2 _ 60 (0, 0) CS.out.1
        have f0 : w3.frozen? ⟨w.heap.size, 0, none⟩ = false := frozen_of_row w3 w.heap.size 0 _ 60 CS.out.1
        have f1 : w3.frozen? ⟨w.heap.size, 1, none⟩ = false := frozen_of_row w3 w.heap.size 1 _ 60 CS.out.1
        have f2 : w3.frozen? ⟨w.heap.size, 2, none⟩ = false := frozen_of_row w3 w.heap.size 2 _ 60 CS.out.1
        go_wp2_with fail
        go_region
        go_wp2_with fail
        have hlow := permK_low c (by rw [HV.out]; decide)
        have hKK := (B5.out hlow).1
        have hh := HG2.out
        subst hh
        go_roundg g'
        case measure => omega
        case rel =>
          have hs1 := SP.out
          rw [permS_step, if_neg (by rw [HV.out]; decide), HV.out] at hs1
          have ho := or_small p ⟨hp0, hp63⟩ 2 (by decide)
          refine ⟨pos + K, orI p (powP 2), b3, ho.1, ho.2, ?_, ?_, ?_, ?_, ?_, ?_⟩
          · exact blk_far CS.out.1 (by have := GL.out; show w.heap.size ≠ w.heap.size + 1; omega) _
          · exact blk_put CS.out.2.1 1 _ rfl
          · exact blk_far0 CS.out.2.2.1 (by show w.heap.size + 1 + 1 ≠ w.heap.size + 1; omega) _
          · exact below_drew1 (below_set CS.out.2.2.2 (by have := GL.out; omega))
          · have := FU.out; omega
          · rw [hKK]; exact hs1
      · have hv : permK c = 3 := hk
        rw [hv] at hzk
        subst hzk
        have HV := Aside0.mk hv
        clear hv hk
        go_wp2_with fail
        refine hcall.mono ?_
        rintro e w3 ⟨rfl, hb⟩
        obtain CS := CELLS w3 hb
        clear hb
        have c0 : w3.cell? ⟨g1, 0, none⟩ = some (.int .u8 ((a0[0]'h0).toNat : Int)) := cell_of_row w3 g1 0 _ 60 (0, 0) CS.out.2.1
        have c1 : w3.cell? ⟨g1, 1, none⟩ = some (.int .i64 p) := cell_of_row w3 g1 1 _ 60 (0, 0) CS.out.2.1
        have c2 : w3.cell? ⟨g1, 2, none⟩ = some (.int .i64 0) := cell_of_row w3 g1 2 _ 60 (0, 0) CS.out.2.1
        have y1 : w3.frozen? ⟨g1, 1, none⟩ = false := frozen_of_row w3 g1 1 _ 60 CS.out.2.1
        have z0 : w3.cell? ⟨w.heap.size, 0, none⟩ = some (.int .u8 0) := cell_of_row w3 w.heap.size 0 _ 60 (0, 0) CS.out.1
        have z1 : w3.cell? ⟨w.heap.size, 1, none⟩ = some (.int .i64 0) := cell_of_row w3 w.heap.size 1 _ 60 (0, 0) CS.out.1
        have z2 : w3.cell? ⟨w.heap.size, 2, none⟩ = some (.int .i64 0) := cell_of_row w3 w.heap.size 2 _ 60 (0, 0) CS.out.1
        have f0 : w3.frozen? ⟨w.heap.size, 0, none⟩ = false := frozen_of_row w3 w.heap.size 0 _ 60 CS.out.1
        have f1 : w3.frozen? ⟨w.heap.size, 1, none⟩ = false := frozen_of_row w3 w.heap.size 1 _ 60 CS.out.1
        have f2 : w3.frozen? ⟨w.heap.size, 2, none⟩ = false := frozen_of_row w3 w.heap.size 2 _ 60 CS.out.1
        go_wp2_with fail
        go_region
        go_wp2_with fail
        have hlow := permK_low c (by rw [HV.out]; decide)
        have hKK := (B5.out hlow).1
        have hh := HG2.out
        subst hh
        go_roundg g'
        case measure => omega
        case rel =>
          have hs1 := SP.out
          rw [permS_step, if_neg (by rw [HV.out]; decide), HV.out] at hs1
          have ho := or_small p ⟨hp0, hp63⟩ 3 (by decide)
          refine ⟨pos + K, orI p (powP 3), b3, ho.1, ho.2, ?_, ?_, ?_, ?_, ?_, ?_⟩
          · exact blk_far CS.out.1 (by have := GL.out; show w.heap.size ≠ w.heap.size + 1; omega) _
          · exact blk_put CS.out.2.1 1 _ rfl
          · exact blk_far0 CS.out.2.2.1 (by show w.heap.size + 1 + 1 ≠ w.heap.size + 1; omega) _
          · exact below_drew1 (below_set CS.out.2.2.2 (by have := GL.out; omega))
          · have := FU.out; omega
          · rw [hKK]; exact hs1
      · have hv : permK c = 4 := hk
        rw [hv] at hzk
        subst hzk
        have HV := Aside0.mk hv
        clear hv hk
        go_wp2_with fail
        refine hcall.mono ?_
        rintro e w3 ⟨rfl, hb⟩
        obtain CS := CELLS w3 hb
        clear hb
        have c0 : w3.cell? ⟨g1, 0, none⟩ = some (.int .u8 ((a0[0]'h0).toNat : Int)) := cell_of_row w3 g1 0 _ 60 (0, 0) CS.out.2.1
        have c1 : w3.cell? ⟨g1, 1, none⟩ = some (.int .i64 p) := cell_of_row w3 g1 1 _ 60 (0, 0) CS.out.2.1
        have c2 : w3.cell? ⟨g1, 2, none⟩ = some (.int .i64 0) := cell_of_row w3 g1 2 _ 60 (0, 0) CS.out.2.1
        have y1 : w3.frozen? ⟨g1, 1, none⟩ = false := frozen_of_row w3 g1 1 _ 60 CS.out.2.1
        have z0 : w3.cell? ⟨w.heap.size, 0, none⟩ = some (.int .u8 0) := cell_of_row w3 w.heap.size 0 _ 60 (0, 0) CS.out.1
        have z1 : w3.cell? ⟨w.heap.size, 1, none⟩ = some (.int .i64 0) := cell_of_row w3 w.heap.size 1 _ 60 (0, 0) CS.out.1
        have z2 : w3.cell? ⟨w.heap.size, 2, none⟩ = some (.int .i64 0) := cell_of_row w3 w.heap.size 2 _ 60 (0, 0) CS.out.1
        have f0 : w3.frozen? ⟨w.heap.size, 0, none⟩ = false := frozen_of_row w3 w.heap.size 0 _ 60 CS.out.1
        have f1 : w3.frozen? ⟨w.heap.size, 1, none⟩ = false := frozen_of_row w3 w.heap.size 1 _ 60 CS.out.1
        have f2 : w3.frozen? ⟨w.heap.size, 2, none⟩ = false := frozen_of_row w3 w.heap.size 2 _ 60 CS.out.1
        go_wp2_with fail
        go_region
        go_wp2_with fail
        have hlow := permK_low c (by rw [HV.out]; decide)
        have hKK := (B5.out hlow).1
        have hh := HG2.out
        subst hh
        go_roundg g'
        case measure => omega
        case rel =>
          have hs1 := SP.out
          rw [permS_step, if_neg (by rw [HV.out]; decide), HV.out] at hs1
          have ho := or_small p ⟨hp0, hp63⟩ 4 (by decide)
          refine ⟨pos + K, orI p (powP 4), b3, ho.1, ho.2, ?_, ?_, ?_, ?_, ?_, ?_⟩
          · exact blk_far CS.out.1 (by have := GL.out; show w.heap.size ≠ w.heap.size + 1; omega) _
          · exact blk_put CS.out.2.1 1 _ rfl
          · exact blk_far0 CS.out.2.2.1 (by show w.heap.size + 1 + 1 ≠ w.heap.size + 1; omega) _
          · exact below_drew1 (below_set CS.out.2.2.2 (by have := GL.out; omega))
          · have := FU.out; omega
          · rw [hKK]; exact hs1
      · have hv : permK c = 5 := hk
        rw [hv] at hzk
        subst hzk
        have HV := Aside0.mk hv
        clear hv hk
        go_wp2_with fail
        refine hcall.mono ?_
        rintro e w3 ⟨rfl, hb⟩
        obtain CS := CELLS w3 hb
        clear hb
        have c0 : w3.cell? ⟨g1, 0, none⟩ = some (.int .u8 ((a0[0]'h0).toNat : Int)) := cell_of_row w3 g1 0 _ 60 (0, 0) CS.out.2.1
        have c1 : w3.cell? ⟨g1, 1, none⟩ = some (.int .i64 p) := cell_of_row w3 g1 1 _ 60 (0, 0) CS.out.2.1
        have c2 : w3.cell? ⟨g1, 2, none⟩ = some (.int .i64 0) := cell_of_row w3 g1 2 _ 60 (0, 0) CS.out.2.1
        have y1 : w3.frozen? ⟨g1, 1, none⟩ = false := frozen_of_row w3 g1 1 _ 60 CS.out.2.1
        have z0 : w3.cell? ⟨w.heap.size, 0, none⟩ = some (.int .u8 0) := cell_of_row w3 w.heap.size 0 _ 60 (0, 0) CS.out.1
        have z1 : w3.cell? ⟨w.heap.size, 1, none⟩ = some (.int .i64 0) := cell_of_row w3 w.heap.size 1 _ 60 (0, 0) CS.out.1
        have z2 : w3.cell? ⟨w.heap.size, 2, none⟩ = some (.int .i64 0) := cell_of_row w3 w.heap.size 2 _ 60 (0, 0) CS.out.1
        have f0 : w3.frozen? ⟨w.heap.size, 0, none⟩ = false := frozen_of_row w3 w.heap.size 0 _ 60 CS.out.1
        have f1 : w3.frozen? ⟨w.heap.size, 1, none⟩ = false := frozen_of_row w3 w.heap.size 1 _ 60 CS.out.1
        have f2 : w3.frozen? ⟨w.heap.size, 2, none⟩ = false := frozen_of_row w3 w.heap.size 2 _ 60 CS.out.1
        go_wp2_with fail
        go_region
        go_wp2_with fail
        have hlow := permK_low c (by rw [HV.out]; decide)
        have hKK := (B5.out hlow).1
        have hh := HG2.out
        subst hh
        go_roundg g'
        case measure => omega
        case rel =>
          have hs1 := SP.out
          rw [permS_step, if_neg (by rw [HV.out]; decide), HV.out] at hs1
          have ho := or_small p ⟨hp0, hp63⟩ 5 (by decide)
          refine ⟨pos + K, orI p (powP 5), b3, ho.1, ho.2, ?_, ?_, ?_, ?_, ?_, ?_⟩
          · exact blk_far CS.out.1 (by have := GL.out; show w.heap.size ≠ w.heap.size + 1; omega) _
          · exact blk_put CS.out.2.1 1 _ rfl
          · exact blk_far0 CS.out.2.2.1 (by show w.heap.size + 1 + 1 ≠ w.heap.size + 1; omega) _
          · exact below_drew1 (below_set CS.out.2.2.2 (by have := GL.out; omega))
          · have := FU.out; omega
          · rw [hKK]; exact hs1
    · obtain rfl : pos = t.size := by omega
      clear hgl0
      have hnx := fun ty => Lib.run_next_end_at (P := Tryd.prog) wr (g1 + 1) t t.size ty b2' hp
      have r0 := fun j => cell_of_row wr g1 j _ 60 (0, 0) b1
      have c0 : wr.cell? ⟨g1, 0, none⟩ = some (.int .u8 ((a0[0]'h0).toNat : Int)) := r0 0
      have c1 : wr.cell? ⟨g1, 1, none⟩ = some (.int .i64 p) := r0 1
      have c2 : wr.cell? ⟨g1, 2, none⟩ = some (.int .i64 0) := r0 2
      have z0 : wr.cell? ⟨w.heap.size, 0, none⟩ = some (.int .u8 0) := cell_of_row wr w.heap.size 0 _ 60 (0, 0) b0
      have z1 : wr.cell? ⟨w.heap.size, 1, none⟩ = some (.int .i64 0) := cell_of_row wr w.heap.size 1 _ 60 (0, 0) b0
      have z2 : wr.cell? ⟨w.heap.size, 2, none⟩ = some (.int .i64 0) := cell_of_row wr w.heap.size 2 _ 60 (0, 0) b0
      have f0 : wr.frozen? ⟨w.heap.size, 0, none⟩ = false := frozen_of_row wr w.heap.size 0 _ 60 b0
      have f1 : wr.frozen? ⟨w.heap.size, 1, none⟩ = false := frozen_of_row wr w.heap.size 1 _ 60 b0
      have f2 : wr.frozen? ⟨w.heap.size, 2, none⟩ = false := frozen_of_row wr w.heap.size 2 _ 60 b0
      have B0 := Aside0.mk b0
      have BW := Aside0.mk hbw
      have SP := Aside0.mk hsp
      clear b0 b1 b2' hbw hsp r0
      go_wp2_with fail
      refine bodyPost_ret (v := .tuple #[.agg #[.int .u8 ((a0[0]'h0).toNat : Int), .int .i64 p, .int .i64 0], .string ⟨#[]⟩]) ?_ rfl ⟨?_, ?_⟩
      · have e0 := (cell_of_row wr w.heap.size 0 _ 60 (0, 0) B0.out)
        simp [results, Tryd.results52, go_sem, World.cell?_setCell_same, z0, z1, z2]
      · have h8 := SP.out
        rw [List.drop_eq_nil_of_le (by simp)] at h8
        rw [← h8]; rfl
      · exact below_set (below_set (below_set BW.out (Nat.le_refl _)) (Nat.le_refl _)) (Nat.le_refl _)
theorem actS_miss (a0 : ByteArray) (h : a0.size = 0 ∨ ∃ h : 0 < a0.size, signK (a0[0]'h) = false) : actS a0.data.toList = ((0, 0, 0), a0.data.toList) := by
  rcases h with h | ⟨h, hs⟩
  · have : a0.data.toList = [] := List.length_eq_zero_iff.1 (by simpa using h)
    rw [this]; rfl
  · have e : a0.data.toList = (a0[0]'h) :: a0.data.toList.drop 1 := by have := drop_cons a0 0 h; simpa using this
    rw [e]
    show (if signK (a0[0]'h) = false then _ else _) = _
    rw [if_pos hs]
theorem actS_bare (a0 : ByteArray) (h : 0 < a0.size) (hs : signK (a0[0]'h) = true) (h1 : a0.size = 1) : actS a0.data.toList = (((((a0[0]'h).toNat : Int)), (permS 0 (a0.data.toList.drop 1)).1, 0), (permS 0 (a0.data.toList.drop 1)).2) := by
  have e : a0.data.toList = (a0[0]'h) :: a0.data.toList.drop 1 := by have := drop_cons a0 0 h; simpa using this
  have e1 : a0.data.toList.drop 1 = [] := List.drop_eq_nil_of_le (by have : a0.data.toList.length = a0.size := by simp
                                                                     omega)
  rw [e1] at e ⊢
  rw [e]
  show (if signK (a0[0]'h) = false then _ else _) = _
  rw [if_neg (by rw [hs]; decide)]
  rfl
theorem actS_copy (a0 : ByteArray) (h : 1 < a0.size) (hs : signK (a0[0]'(by omega)) = true) (hk : 0 ≤ classK (a0[1]'h)) : actS a0.data.toList = ((((((a0[0]'(by omega)).toNat : Int)), 0, classK (a0[1]'h) + 1) : Int × Int × Int), a0.data.toList.drop 2) := by
  have e : a0.data.toList = (a0[0]'(by omega)) :: (a0[1]'h) :: a0.data.toList.drop 2 := by
    have h1 := drop_cons a0 0 (by omega)
    have h2 := drop_cons a0 1 h
    rw [h2] at h1; simpa using h1
  conv => lhs; rw [e]
  show (if signK (a0[0]'(by omega)) = false then _ else if 0 ≤ classK (a0[1]'h) then _ else _) = _
  rw [if_neg (by rw [hs]; decide), if_pos hk]
theorem actS_perm (a0 : ByteArray) (h : 1 < a0.size) (hs : signK (a0[0]'(by omega)) = true) (hk : ¬ 0 ≤ classK (a0[1]'h)) : actS a0.data.toList = (((((a0[0]'(by omega)).toNat : Int)), (permS 0 (a0.data.toList.drop 1)).1, 0), (permS 0 (a0.data.toList.drop 1)).2) := by
  have h2 := drop_cons a0 1 h
  have e : a0.data.toList = (a0[0]'(by omega)) :: (a0[1]'h) :: a0.data.toList.drop 2 := by
    have h1 := drop_cons a0 0 (by omega)
    rw [h2] at h1; simpa using h1
  conv => lhs; rw [e]
  show (if signK (a0[0]'(by omega)) = false then _ else if 0 ≤ classK (a0[1]'h) then _ else _) = _
  rw [if_neg (by rw [hs]; decide), if_neg hk, h2]
theorem classK_rng (c : UInt8) : classK c = -1 ∨ (0 ≤ classK c ∧ classK c ≤ 2) := by
  unfold classK
  repeat' split
  all_goals simp
theorem clause_act.calls (a0 : ByteArray) (r1 r2 r3 : Int) (r4 : ByteArray) (w : World) (h : clause_act.f a0 = some (r1, r2, r3, r4)) :
    Calls Tryd.prog 52 #[.string a0] w fun e w' => e = .returned (.tuple #[.agg #[.int .u8 r1, .int .i64 r2, .int .i64 r3], .string r4]) ∧ Below w.heap.size w w' := by
  unfold clause_act.f at h
  split at h
  · rename_i hsz
    simp only [Option.some.injEq, Prod.mk.injEq] at h
    obtain ⟨rfl, rfl, rfl, rfl⟩ := h
    by_cases h0 : 0 < a0.size
    · cases hs : signK (a0[0]'h0) with
      | false =>
        have hm : a0.size = 0 ∨ ∃ h : 0 < a0.size, signK (a0[0]'h) = false := .inr ⟨h0, hs⟩
        rw [actS_miss a0 hm]
        exact clause_act.miss a0 w hm
      | true =>
        by_cases h1 : 1 < a0.size
        · rcases classK_rng (a0[1]'h1) with hk | ⟨hk0, hk2⟩
          · rw [actS_perm a0 h1 hs (by omega)]
            exact clause_act.perm a0 w hsz h0 hs h1 hk
          · rw [actS_copy a0 h1 hs hk0]
            have := clause_act.copy a0 w h1 hs _ hk0 hk2 rfl
            rw [drop_text] at this
            exact this
        · rw [actS_bare a0 h0 hs (by omega)]
          exact clause_act.bare a0 w hsz h0 hs (by omega)
    · have hm : a0.size = 0 ∨ ∃ h : 0 < a0.size, signK (a0[0]'h) = false := .inl (by omega)
      rw [actS_miss a0 hm]
      exact clause_act.miss a0 w hm
  · exact absurd h (by simp)
end Go.Proofs.YtlohbepfecahdaaDoor.S
