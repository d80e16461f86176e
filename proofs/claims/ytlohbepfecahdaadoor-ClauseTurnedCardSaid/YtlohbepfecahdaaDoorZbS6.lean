-- Written by wip/tools/myprint.py, a session's own driver of the kit's printer.
import Derived.ArgAppend
import Derived.Below
import Derived.BigQuiet
import Derived.Deep.AppendLies
import Derived.Deep.CutBlock
import Derived.Deep.DeepCutAuto
import Derived.Deep.Draws
import Derived.Deep.LoopGhost
import Derived.Deep.OwnRows
import Derived.Deep.QuietTactic
import Derived.Deep.RegionHeld3
import Derived.Handy
import Derived.KernelRfl
import Derived.Laws.BitsAllLaws
import Derived.Laws.BitsLemmas
import Derived.Laws.BytesArg
import Derived.Laws.IdiomCopy
import Derived.Laws.MakeOwn
import Derived.Laws.OwnMore
import Derived.Laws.RangeAny
import Derived.Laws.Rows
import Derived.Laws.Slices
import Derived.Laws.StructEq
import Derived.Lib.AppendStr
import Derived.Lib.ConvBytes
import Derived.Lib.FieldsP
import Derived.Lib.Hide
import Derived.Lib.IndexAny
import Derived.Lib.OthersKept
import Derived.Lib.SlBytesConst
import Derived.Lib.SpaceUEq
import Derived.Maps.AppendAt
import Derived.OneCell
import Derived.OrdersHeld
import Derived.OwnWalk
import Derived.RowKit
import Derived.RowKit3
import Derived.Shelf.LaysM
import Derived.Shelf.Small.Strs
import Derived.Shelf.Small.Utf8
import Derived.Shelf.Strings.Builder1
import Derived.Shelf.Strings.Builder2
import Derived.Shelf.Strings.BuilderF
import Derived.Shelf.Strings.BuilderK
import Derived.Shelf.Strings.Count
import Derived.Shelf.Strings.OnBuilder
import Derived.Shelf.Strings.Runes
import Derived.Shelf.Strings.Search1
import Derived.Shelf.Strings.Search2
import Derived.Shelf.Strings.Search3
import Derived.Shelf.Strings.Shaped
import Derived.Shelf.Strings.Split
import Derived.Shelf.Strings.SplitShaped
import Derived.Shelf.Unicode.DecodeSlow
import Derived.Tactics
import Derived.Test.YtlohbepfecahdaaDoorProg
import Derived.WalkKit
import Derived.WideLaws
import Derived.Test.YtlohbepfecahdaaDoorZbWWords
import Derived.Test.YtlohbepfecahdaaDoorZbWLast
import Derived.Test.YtlohbepfecahdaaDoorZbWApart
import Derived.Test.YtlohbepfecahdaaDoorZbWShare
import Derived.Test.YtlohbepfecahdaaDoorZbWN
import Derived.Test.YtlohbepfecahdaaDoorZbWNEv
import Derived.Test.YtlohbepfecahdaaDoorZbWMore
import Derived.Test.YtlohbepfecahdaaDoorZbB
import Derived.Test.YtlohbepfecahdaaDoorZbC
import Derived.Test.YtlohbepfecahdaaDoorZbShelf
import Derived.Test.YtlohbepfecahdaaDoorZbD
import Derived.Test.YtlohbepfecahdaaDoorZbWTab
import Derived.Test.YtlohbepfecahdaaDoorZbWEqStruct
import Derived.Test.YtlohbepfecahdaaDoorZbWRepsOne
import Derived.Test.YtlohbepfecahdaaDoorZbWGuard
import Derived.Test.YtlohbepfecahdaaDoorZbS0
import Derived.Test.YtlohbepfecahdaaDoorZbS1
import Derived.Test.YtlohbepfecahdaaDoorZbS4
import Derived.Test.YtlohbepfecahdaaDoorZbS5
namespace Go.Proofs.YtlohbepfecahdaaDoor.S
open Go.RowKit Go.Proofs.YtlohbepfecahdaaDoorW.PrintWords Go.Proofs.YtlohbepfecahdaaDoorW.PrintLast Go.Proofs.YtlohbepfecahdaaDoorW.PrintMore
set_option linter.unusedVariables false
set_option linter.unusedSimpArgs false
attribute [local go_sem high] eqA60
/-! ### clause_Show: function 21 -/
def whoL : List (UInt8 × Nat) := [(117, 0), (103, 1), (111, 2)]
def whoT (n : Int) : List UInt8 := if n = 7 then [97] else permT n whoL
def actsT (l : List S60) : List UInt8 := (l.map (fun a => textS a.f0 a.f1 a.f2)).flatten
def showOne (c : S34) : List UInt8 := whoT c.f0 ++ actsT c.f1
def showS (l : List S34) : List UInt8 := Lib.join (l.map showOne) [44]
def okA (a : S60) : Bool := decide ((0 ≤ a.f0 ∧ a.f0 < 128) ∧ (0 ≤ a.f1 ∧ a.f1 ≤ 63) ∧ (0 ≤ a.f2 ∧ a.f2 ≤ 3))
def okC (c : S34) : Bool := decide ((0 ≤ c.f0 ∧ c.f0 ≤ 7) ∧ c.f1.length ≤ 4096) && c.f1.all okA
def okL (l : List S34) : Bool := decide (l.length ≤ 4096) && l.all okC
def clause_Show.f (k : Nat) (l0 : List (S34)) : Option ByteArray := (clause_Right.f k l0).bind fun b => if b = true then (if okL l0 = true then some ⟨⟨showS l0⟩⟩ else none) else some ⟨#[]⟩
theorem textS_len (o p c : Int) : (textS o p c).length ≤ 7 := by
  unfold textS
  split
  · simp
  · have := permT_len p permL
    have h6 : permL.length = 6 := rfl
    rw [List.length_cons]; omega
theorem whoT_len (n : Int) : (whoT n).length ≤ 3 := by
  unfold whoT
  split
  · simp
  · have := permT_len n whoL
    have h6 : whoL.length = 3 := rfl
    omega
theorem actsT_len (l : List S60) : (actsT l).length ≤ 7 * l.length := by
  induction l with
  | nil => simp [actsT]
  | cons a l ih =>
    have h1 := textS_len a.f0 a.f1 a.f2
    have : actsT (a :: l) = textS a.f0 a.f1 a.f2 ++ actsT l := rfl
    rw [this, List.length_append, List.length_cons]
    omega
theorem actsT_snoc (l : List S60) (a : S60) : actsT (l ++ [a]) = actsT l ++ textS a.f0 a.f1 a.f2 := by
  simp [actsT]
theorem showOne_len (c : S34) (h : okC c = true) : (showOne c).length ≤ 32768 := by
  unfold okC at h
  rw [Bool.and_eq_true, decide_eq_true_eq] at h
  have h1 := whoT_len c.f0
  have h2 := actsT_len c.f1
  unfold showOne
  rw [List.length_append]
  omega
theorem join_len (B : Nat) (xs : List (List UInt8)) (sep : List UInt8) (h : ∀ x ∈ xs, x.length ≤ B) : (Lib.join xs sep).length ≤ xs.length * (B + sep.length) := by
  cases xs with
  | nil => simp [Lib.join_nil]
  | cons x r =>
    rw [Lib.join_cons, List.length_append]
    have hx := h x (by simp)
    have : ∀ r : List (List UInt8), (∀ x ∈ r, x.length ≤ B) → (Lib.joinTail sep r).length ≤ r.length * (B + sep.length) := by
      intro r
      induction r with
      | nil => intro _; simp [Lib.joinTail]
      | cons y r ih =>
        intro hr
        have e : Lib.joinTail sep (y :: r) = (sep ++ y) ++ Lib.joinTail sep r := rfl
        have h1 := hr y (by simp)
        have h2 := ih (fun z hz => hr z (by simp [hz]))
        rw [e, List.length_append, List.length_append, List.length_cons, Nat.add_mul]
        omega
    have h2 := this r (fun z hz => h z (by simp [hz]))
    rw [List.length_cons, Nat.add_mul]
    omega
theorem showS_len (l : List S34) (h : okL l = true) : (showS l).length ≤ 140737488355328 := by
  unfold okL at h
  rw [Bool.and_eq_true, decide_eq_true_eq, List.all_eq_true] at h
  have := join_len 32768 (l.map showOne) [44] (fun x hx => by
    obtain ⟨c, hc, rfl⟩ := List.mem_map.1 hx
    exact showOne_len c (h.2 c hc))
  unfold showS
  rw [List.length_map] at this
  have h3 : l.length * (32768 + [44].length) ≤ 4096 * 32769 := Nat.mul_le_mul_right _ h.1
  omega
theorem show_info9 : (Tryd.prog.info? 9).map (fun i => (i.zero, i.size, i.bytes)) = some (some (.string ⟨#[]⟩), 1, 16) := by kernel_rfl
def showB (l : List S34) : List ByteArray := l.map (fun c => ⟨⟨showOne c⟩⟩)
theorem showB_data (l : List S34) : (showB l).map (·.data.toList) = l.map showOne := by
  unfold showB; rw [List.map_map]; rfl
set_option maxHeartbeats 6400000 in
set_option maxRecDepth 100000 in
theorem clause_Show.blank (k : Nat) (A0 : Option Addr) (c0 : Nat) (l0 : List (S34)) (w : World) (hr0 : Kd.C k34 w A0 l0.length l0) (hc0 : l0.length ≤ c0) (h : clause_Right.f k l0 = some false) :
    Calls Tryd.prog 21 #[.slice A0 l0.length c0] w fun e w' => e = .returned (.string ⟨#[]⟩) ∧ Below w.heap.size w w' := by
  go_enter Tryd.func21, Tryd.ntmps21
  go_wp2_with (go_at_call 19; refine (clause_Right.calls k A0 c0 l0 false _ hr0 hc0 h).mono ?_; rintro e w1 ⟨rfl, hb⟩)
  go_ret
  exact ⟨rfl, hb⟩
set_option maxHeartbeats 6400000 in
set_option maxRecDepth 100000 in
theorem clause_Show.shown (k : Nat) (A0 : Option Addr) (c0 : Nat) (l0 : List (S34)) (w : World) (hr0 : Kd.C k34 w A0 l0.length l0) (hc0 : l0.length ≤ c0) (h : clause_Right.f k l0 = some true) (hok : okL l0 = true) :
    Calls Tryd.prog 21 #[.slice A0 l0.length c0] w fun e w' => e = .returned (.string ⟨⟨showS l0⟩⟩) ∧ Below w.heap.size w w' := by
  have hl0 : l0.length ≤ 4096 := by
    unfold okL at hok; rw [Bool.and_eq_true, decide_eq_true_eq] at hok; exact hok.1
  have HR0 := Aside0.mk hr0
  have HOK := Aside0.mk hok
  go_enter Tryd.func21, Tryd.ntmps21
  go_wp2_with (go_at_call 19; refine (clause_Right.calls k A0 c0 l0 true _ hr0 hc0 h).mono ?_; rintro e w1 ⟨rfl, hb⟩)
  have HB1 := Aside0.mk hb
  clear hb hr0 h hok
  go_loopg [3, 16] l0.length (fun gk v3 v16 wr => ∃ (i : Nat), v16 = .int .i64 (i : Int) ∧ i ≤ l0.length ∧ Aside0 (Kd.R Kd.string 9 wr w.heap.size (fun _ => True) v3 (showB (l0.take i))) ∧ Aside0 (Below w.heap.size w wr) ∧ l0.length ≤ i + gk)
  case atStart => exact ⟨0, rfl, Nat.zero_le _, ⟨by show Kd.R _ _ _ _ _ _ []; exact Kd.R_nil _ _ _ _ _⟩, ⟨HB1.out⟩, by omega⟩
  case round =>
    rename World => wo
    obtain ⟨i, rfl, hi, HO, HB, hfu⟩ := hrel
    by_cases hlt : i < l0.length
    · obtain ⟨g', rfl⟩ : ∃ g', gk = g' + 1 := ⟨gk - 1, by omega⟩
      have q1 : (i : Int) < (l0.length : Int) := by omega
      have q0 : (0 : Int) ≤ (i : Int) := by omega
      obtain ⟨ad, A1, c1, e1, hx0, hx1, hl1, hi1⟩ := at_T34 HR0.out (i : Int) q0 q1
      cases e1
      replace hx0 := (HB.out.cell (World.block_lt_of_cell? w _ hx0)).trans hx0
      replace hx1 := (HB.out.cell (World.block_lt_of_cell? w _ hx1)).trans hx1
      have HR1 := Aside0.mk hi1
      have HC1 := Aside0.mk hl1
      clear hi1 hl1
      obtain ⟨C, hC⟩ : ∃ C, rd_T34 l0 (i : Int) = C := ⟨_, rfl⟩
      rw [hC] at hx0 hx1 HR1 HC1
      obtain ⟨n, hn⟩ : ∃ n, C.f0 = n := ⟨_, rfl⟩
      obtain ⟨L, hL⟩ : ∃ L, C.f1 = L := ⟨_, rfl⟩
      rw [hn] at hx0
      rw [hL] at hx1 HR1 HC1
      simp only [Int.toNat_natCast] at hx0 hx1
      go_wp2_with (first
        | ((with_reducible refine gate_dst (N := 5) rfl ?_); refine box_event ?hg (N := 5) ?hd (cs := #[.int .i64 0, .slice none 0 0]) (t := 34) ?hr ?_; (case hd => rfl); (case hg => rfl); (case hr => first | (go_simp; done) | (go_simp; rfl)); intro gb hg w4 hbox hb; have HG := Aside0.mk hg; have BX := Aside0.mk hbox; have BB := Aside0.mk hb; have hf0 := blk_frozen hbox 0; have hf1 := blk_frozen hbox 1; have hz0 : w4.cell? ⟨gb, 0, none⟩ = some (.int .i64 0) := blk_cell hbox 0; have hz1 : w4.cell? ⟨gb, 1, none⟩ = some (.slice none 0 0) := blk_cell hbox 1; clear hg hbox hb)
        | ((with_reducible refine gate_store (t := 34) (p := 5) rfl ?_); refine store_event (t := 34) (p := 5) (v := ?vo_w15) (w1 := ((w4.setCell ⟨gb, 0, none⟩ (.int .i64 n)).setCell ⟨gb, 1, none⟩ (.slice A1 L.length c1))) ?hg ?ho ?hn ?hr ?_; (case ho => rfl); (case hg => rfl); (case hn => rfl); (case hr => first | (go_simp; done) | (go_simp; rfl)); intro w5 hw; have HW := Aside0.mk hw; clear hw))
      have HCN := Aside0.mk (And.intro hC (And.intro hn hL))
      have BB5 : Aside0 (Below wo.heap.size wo w5) := ⟨by rw [HW.out]; exact below_set (below_set BB.out (by have := HG.out; omega)) (by have := HG.out; omega)⟩
      have BX5 : Aside0 (w5.heap[gb]? = some (.cells #[.int .i64 n, .slice A1 L.length c1] 34 (0, 0))) := ⟨by rw [HW.out]; exact blk_put (blk_put BX.out 0 _ rfl) 1 _ rfl⟩
      have GL : Aside0 (gb < w5.heap.size) := ⟨blk_lt BX5.out⟩
      have HLT := Aside0.mk hlt
      have HFU := Aside0.mk hfu
      clear hx0 hx1 hf0 hf1 hz0 hz1 hC hn hL BX BB HW HG hi q0 q1 hlt hfu
      go_loopg [6] 3 (fun gk2 v6 wr2 => ∃ (pos : Nat), v6 = .string ⟨⟨permT n (whoL.take pos)⟩⟩ ∧ pos ≤ 3 ∧ Aside0 (wr2.heap[w5.heap.size]? = some (.stringIter ⟨#[117, 103, 111]⟩ pos)) ∧ Aside0 (Below w5.heap.size w5 wr2) ∧ 3 ≤ pos + gk2)
      case atStart => exact ⟨0, rfl, by omega, ⟨World.iter_heap w5 _ 0⟩, ⟨(Below.refl _ _).alloc (Nat.le_refl _) _⟩, by omega⟩
      case round =>
        obtain ⟨pos, rfl, hpos, IT, B5, hfu2⟩ := hrel
        obtain ⟨T, hT⟩ : ∃ T : ByteArray, (⟨⟨permT n (whoL.take pos)⟩⟩ : ByteArray) = T := ⟨_, rfl⟩
        rw [hT]
        have hTs : T.size ≤ 3 := by
          rw [← hT]
          show (permT n (whoL.take pos)).length ≤ 3
          have h1 := permT_len n (whoL.take pos)
          have h2 : (whoL.take pos).length ≤ 3 := by rw [List.length_take]; show min pos 3 ≤ 3; omega
          omega
        have HT := Aside0.mk hT
        clear hT
        obtain ⟨s, hs⟩ : ∃ s : ByteArray, s = ⟨#[117, 103, 111]⟩ := ⟨_, rfl⟩
        have hsz : s.size = 3 := by rw [hs]; rfl
        rw [← hs] at IT
        by_cases hp : pos < 3
        · obtain ⟨g2, rfl⟩ : ∃ g2, gk = g2 + 1 := ⟨gk - 1, by omega⟩
          have hcase : pos = 0 ∨ pos = 1 ∨ pos = 2 := by omega
          rcases hcase with rfl | rfl | rfl
          · have hnx : ∀ ty, (Instr.next (.pointer (some ⟨w5.heap.size, 0, none⟩)) true ty).run Tryd.prog wr = _ := fun ty => Lib.run_next_any_at wr w5.heap.size s 0 ty IT.out (by omega)
            have hdec : Utf8.decode s 0 = (117, 1) := by rw [hs]; decide +kernel
            rw [hdec] at hnx
            have hit2 := Lib.iterAt_heap wr w5.heap.size s 0 (0 + 1) IT.out
            have hbw2 := Lib.below_iterAt B5.out (k := w5.heap.size) (Nat.le_refl _) s (0 + 1)
            obtain ⟨W, hWd⟩ : ∃ W, wr.iterAt w5.heap.size s (0 + 1) = W := ⟨_, rfl⟩
            simp only [hWd] at hnx hit2 hbw2
            have c0' : W.cell? ⟨gb, 0, none⟩ = some (.int .i64 n) := (hbw2.cell (p := ⟨gb, 0, none⟩) GL.out).trans (blk_cell BX5.out 0)
            have B2 := Aside0.mk hit2
            have BW := Aside0.mk hbw2
            have HS := Aside0.mk hs
            have FU := Aside0.mk hfu2
            clear IT B5 hit2 hbw2 hs hfu2 hWd hsz
            have hq := B.and_1 (n)
            have e1 : (9223372036854775807 < T.size + (Utf8.encode 117).size) = False := eq_false (by rw [show (Utf8.encode 117).size = 1 by decide +kernel]; omega)
            have e2 : (9223372036854775807 < T.size + 1) = False := eq_false (by omega)
            by_cases hm : n % 2 = 1
            · have hbit : (Go.bits .and .i64 (n) 1 == 1) = true := by rw [hq, hm]; rfl
              have HM := Aside0.mk hm
              clear hm hq
              go_wp2_with fail
              go_roundg g2
              case measure => omega
              case rel =>
                refine ⟨0 + 1, ?_, by omega, ⟨by have h := B2.out; rw [HS.out] at h; exact h⟩, BW, by have := FU.out; omega⟩
                have hp1 : whoL.take (0 + 1) = whoL.take 0 ++ [(117, 0)] := rfl
                have hm2 := HM.out
                rw [hp1, permT_snoc, ← HT.out]
                rw [if_pos (by simpa using hm2), show Utf8.encode 117 = ⟨⟨[117]⟩⟩ by decide +kernel]
                rfl
            · have hbit : (Go.bits .and .i64 (n) 1 == 1) = false := by rw [hq]; exact beq_eq_false_iff_ne.2 hm
              have HM := Aside0.mk hm
              clear hm hq
              go_wp2_with fail
              go_roundg g2
              case measure => omega
              case rel =>
                refine ⟨0 + 1, ?_, by omega, ⟨by have h := B2.out; rw [HS.out] at h; exact h⟩, BW, by have := FU.out; omega⟩
                have hp1 : whoL.take (0 + 1) = whoL.take 0 ++ [(117, 0)] := rfl
                have hm2 := HM.out
                rw [hp1, permT_snoc, ← HT.out]
                rw [if_neg (by simpa using hm2), List.append_nil]
          · have hnx : ∀ ty, (Instr.next (.pointer (some ⟨w5.heap.size, 0, none⟩)) true ty).run Tryd.prog wr = _ := fun ty => Lib.run_next_any_at wr w5.heap.size s 1 ty IT.out (by omega)
            have hdec : Utf8.decode s 1 = (103, 1) := by rw [hs]; decide +kernel
            rw [hdec] at hnx
            have hit2 := Lib.iterAt_heap wr w5.heap.size s 1 (1 + 1) IT.out
            have hbw2 := Lib.below_iterAt B5.out (k := w5.heap.size) (Nat.le_refl _) s (1 + 1)
            obtain ⟨W, hWd⟩ : ∃ W, wr.iterAt w5.heap.size s (1 + 1) = W := ⟨_, rfl⟩
            simp only [hWd] at hnx hit2 hbw2
            have c0' : W.cell? ⟨gb, 0, none⟩ = some (.int .i64 n) := (hbw2.cell (p := ⟨gb, 0, none⟩) GL.out).trans (blk_cell BX5.out 0)
            have B2 := Aside0.mk hit2
            have BW := Aside0.mk hbw2
            have HS := Aside0.mk hs
            have FU := Aside0.mk hfu2
            clear IT B5 hit2 hbw2 hs hfu2 hWd hsz
            have hq := B.and_1 (n / 2)
            have e1 : (9223372036854775807 < T.size + (Utf8.encode 103).size) = False := eq_false (by rw [show (Utf8.encode 103).size = 1 by decide +kernel]; omega)
            have e2 : (9223372036854775807 < T.size + 1) = False := eq_false (by omega)
            by_cases hm : n / 2 % 2 = 1
            · have hbit : (Go.bits .and .i64 (n / 2) 1 == 1) = true := by rw [hq, hm]; rfl
              have HM := Aside0.mk hm
              clear hm hq
              go_wp2_with fail
              go_roundg g2
              case measure => omega
              case rel =>
                refine ⟨1 + 1, ?_, by omega, ⟨by have h := B2.out; rw [HS.out] at h; exact h⟩, BW, by have := FU.out; omega⟩
                have hp1 : whoL.take (1 + 1) = whoL.take 1 ++ [(103, 1)] := rfl
                have hm2 := HM.out
                rw [hp1, permT_snoc, ← HT.out]
                rw [if_pos (by simpa using hm2), show Utf8.encode 103 = ⟨⟨[103]⟩⟩ by decide +kernel]
                rfl
            · have hbit : (Go.bits .and .i64 (n / 2) 1 == 1) = false := by rw [hq]; exact beq_eq_false_iff_ne.2 hm
              have HM := Aside0.mk hm
              clear hm hq
              go_wp2_with fail
              go_roundg g2
              case measure => omega
              case rel =>
                refine ⟨1 + 1, ?_, by omega, ⟨by have h := B2.out; rw [HS.out] at h; exact h⟩, BW, by have := FU.out; omega⟩
                have hp1 : whoL.take (1 + 1) = whoL.take 1 ++ [(103, 1)] := rfl
                have hm2 := HM.out
                rw [hp1, permT_snoc, ← HT.out]
                rw [if_neg (by simpa using hm2), List.append_nil]
          · have hnx : ∀ ty, (Instr.next (.pointer (some ⟨w5.heap.size, 0, none⟩)) true ty).run Tryd.prog wr = _ := fun ty => Lib.run_next_any_at wr w5.heap.size s 2 ty IT.out (by omega)
            have hdec : Utf8.decode s 2 = (111, 1) := by rw [hs]; decide +kernel
            rw [hdec] at hnx
            have hit2 := Lib.iterAt_heap wr w5.heap.size s 2 (2 + 1) IT.out
            have hbw2 := Lib.below_iterAt B5.out (k := w5.heap.size) (Nat.le_refl _) s (2 + 1)
            obtain ⟨W, hWd⟩ : ∃ W, wr.iterAt w5.heap.size s (2 + 1) = W := ⟨_, rfl⟩
            simp only [hWd] at hnx hit2 hbw2
            have c0' : W.cell? ⟨gb, 0, none⟩ = some (.int .i64 n) := (hbw2.cell (p := ⟨gb, 0, none⟩) GL.out).trans (blk_cell BX5.out 0)
            have B2 := Aside0.mk hit2
            have BW := Aside0.mk hbw2
            have HS := Aside0.mk hs
            have FU := Aside0.mk hfu2
            clear IT B5 hit2 hbw2 hs hfu2 hWd hsz
            have hq := B.and_1 (n / 4)
            have e1 : (9223372036854775807 < T.size + (Utf8.encode 111).size) = False := eq_false (by rw [show (Utf8.encode 111).size = 1 by decide +kernel]; omega)
            have e2 : (9223372036854775807 < T.size + 1) = False := eq_false (by omega)
            by_cases hm : n / 4 % 2 = 1
            · have hbit : (Go.bits .and .i64 (n / 4) 1 == 1) = true := by rw [hq, hm]; rfl
              have HM := Aside0.mk hm
              clear hm hq
              go_wp2_with fail
              go_roundg g2
              case measure => omega
              case rel =>
                refine ⟨2 + 1, ?_, by omega, ⟨by have h := B2.out; rw [HS.out] at h; exact h⟩, BW, by have := FU.out; omega⟩
                have hp1 : whoL.take (2 + 1) = whoL.take 2 ++ [(111, 2)] := rfl
                have hm2 := HM.out
                rw [hp1, permT_snoc, ← HT.out]
                rw [if_pos (by simpa using hm2), show Utf8.encode 111 = ⟨⟨[111]⟩⟩ by decide +kernel]
                rfl
            · have hbit : (Go.bits .and .i64 (n / 4) 1 == 1) = false := by rw [hq]; exact beq_eq_false_iff_ne.2 hm
              have HM := Aside0.mk hm
              clear hm hq
              go_wp2_with fail
              go_roundg g2
              case measure => omega
              case rel =>
                refine ⟨2 + 1, ?_, by omega, ⟨by have h := B2.out; rw [HS.out] at h; exact h⟩, BW, by have := FU.out; omega⟩
                have hp1 : whoL.take (2 + 1) = whoL.take 2 ++ [(111, 2)] := rfl
                have hm2 := HM.out
                rw [hp1, permT_snoc, ← HT.out]
                rw [if_neg (by simpa using hm2), List.append_nil]
        · obtain rfl : pos = 3 := by omega
          have hnx := fun ty => Lib.run_next_end_at (P := Tryd.prog) wr w5.heap.size s 3 ty IT.out (by omega)
          have c0' : wr.cell? ⟨gb, 0, none⟩ = some (.int .i64 n) := (B5.out.cell (p := ⟨gb, 0, none⟩) GL.out).trans (blk_cell BX5.out 0)
          have c1' : wr.cell? ⟨gb, 1, none⟩ = some (.slice A1 L.length c1) := (B5.out.cell (p := ⟨gb, 1, none⟩) GL.out).trans (blk_cell BX5.out 1)
          clear IT hs hsz hfu2
          rename World => wa
          obtain ⟨hC, hn, hL⟩ := HCN.out
          have hCmem : C ∈ l0 := by
            rw [← hC]; unfold rd_T34; rw [Int.toNat_natCast, List.getD_eq_getElem?_getD, List.getElem?_eq_getElem HLT.out]; exact List.getElem_mem HLT.out
          have hokC : okC C = true := by
            have h1 := HOK.out
            unfold okL at h1
            rw [Bool.and_eq_true, List.all_eq_true] at h1
            exact h1.2 C hCmem
          have HLL : Aside0 (L.length ≤ 4096) := ⟨by
            unfold okC at hokC
            rw [Bool.and_eq_true, decide_eq_true_eq, hL] at hokC
            exact hokC.1.2⟩
          have HOA : Aside0 (∀ a, a ∈ L → okA a = true) := ⟨by
            unfold okC at hokC
            rw [Bool.and_eq_true, List.all_eq_true, hL] at hokC
            exact hokC.2⟩
          clear hC hn hL hCmem hokC
          by_cases h7 : n = 7
          · have g7 : (n == 7) = true := beq_iff_eq.mpr h7
            have HWT : Aside0 ((⟨⟨whoT n⟩⟩ : ByteArray) = ⟨#[97]⟩) := ⟨by rw [h7]; rfl⟩
            clear h7 hTs hpos hp HT
            go_wp2_with fail
            go_loopg [6, 41] L.length (fun gk3 v6 v41 wr3 => ∃ (j : Nat), v6 = .string ⟨⟨whoT n ++ actsT (L.take j)⟩⟩ ∧ v41 = .int .i64 (j : Int) ∧ j ≤ L.length ∧ Aside0 (Below wa.heap.size wa wr3) ∧ L.length ≤ j + gk3)
            case atStart => exact ⟨0, by have h := HWT.out; rw [← h]; simp [actsT], rfl, Nat.zero_le _, ⟨Below.refl _ _⟩, by omega⟩
            case round =>
              rename World => wb
              obtain ⟨j, rfl, rfl, hj, BA, hfu3⟩ := hrel
              obtain ⟨T2, hT2⟩ : ∃ T2 : ByteArray, (⟨⟨whoT n ++ actsT (L.take j)⟩⟩ : ByteArray) = T2 := ⟨_, rfl⟩
              rw [hT2]
              have hT2s : T2.size ≤ 30000 := by
                rw [← hT2]
                show (whoT n ++ actsT (L.take j)).length ≤ 30000
                have h1 := whoT_len n
                have h2 := actsT_len (L.take j)
                have h3 := HLL.out
                rw [List.length_take] at h2
                rw [List.length_append]
                omega
              have HT2 := Aside0.mk hT2
              clear hT2
              have hbAll : Below w.heap.size w wb := below_step (below_step (below_step HB.out BB5.out) B5.out) BA.out
              by_cases hjl : j < L.length
              · obtain ⟨g3, rfl⟩ : ∃ g3, gk = g3 + 1 := ⟨gk - 1, by omega⟩
                have q1 : (j : Int) < (L.length : Int) := by omega
                have q0 : (0 : Int) ≤ (j : Int) := by omega
                obtain ⟨ad2, e2, y0, y1, y2⟩ := at_T60 HR1.out (j : Int) q0 q1
                cases e2
                replace y0 := (hbAll.cell (World.block_lt_of_cell? w _ y0)).trans y0
                replace y1 := (hbAll.cell (World.block_lt_of_cell? w _ y1)).trans y1
                replace y2 := (hbAll.cell (World.block_lt_of_cell? w _ y2)).trans y2
                obtain ⟨E, hE⟩ : ∃ E, rd_T60 L (j : Int) = E := ⟨_, rfl⟩
                have hEL : L[j]'hjl = E := by
                  rw [← hE]; unfold rd_T60; rw [Int.toNat_natCast, List.getD_eq_getElem?_getD, List.getElem?_eq_getElem hjl]; rfl
                rw [hE] at y0 y1 y2
                simp only [Int.toNat_natCast] at y0 y1 y2
                have hEo := HOA.out E (by rw [← hEL]; exact List.getElem_mem hjl)
                obtain ⟨f0, hf0⟩ : ∃ f0, E.f0 = f0 := ⟨_, rfl⟩
                obtain ⟨f1, hf1⟩ : ∃ f1, E.f1 = f1 := ⟨_, rfl⟩
                obtain ⟨f2, hf2⟩ : ∃ f2, E.f2 = f2 := ⟨_, rfl⟩
                rw [hf0] at y0
                rw [hf1] at y1
                rw [hf2] at y2
                obtain ⟨X, hX⟩ : ∃ X : ByteArray, (⟨⟨textS f0 f1 f2⟩⟩ : ByteArray) = X := ⟨_, rfl⟩
                have hcall : clause_Act_text.f f0 f1 f2 = some X := by
                  unfold okA at hEo
                  rw [hf0, hf1, hf2] at hEo
                  unfold clause_Act_text.f
                  rw [if_pos (of_decide_eq_true hEo), hX]
                have hXs : X.size ≤ 7 := by rw [← hX]; exact textS_len f0 f1 f2
                have e9 : (9223372036854775807 < T2.size + X.size) = False := eq_false (by omega)
                have hwj : (IntKind.i64.wrap ((j : Int) + 1)) = ((j + 1 : Nat) : Int) := by rw [i64_w]; unfold wrap64; have := HLL.out; omega
                have HEE := Aside0.mk (And.intro hEL (And.intro hf0 (And.intro hf1 (And.intro hf2 hX))))
                have FU3 := Aside0.mk hfu3
                have HJL := Aside0.mk hjl
                clear hE hEL hf0 hf1 hf2 hX hEo hbAll hfu3 hT2s hXs hj q0
                go_wp2_with (first
                  | ((with_reducible refine gate_dst (N := 10) rfl ?_); refine box_event ?hg (N := 10) ?hd (cs := #[.int .u8 0, .int .i64 0, .int .i64 0]) (t := 60) ?hr ?_; (case hd => rfl); (case hg => rfl); (case hr => first | (go_simp; done) | (go_simp; rfl)); intro gc hg w6 hbox hb; have HG2 := Aside0.mk hg; have BX2 := Aside0.mk hbox; have BB2 := Aside0.mk hb; have k0 := blk_frozen hbox 0; have k1 := blk_frozen hbox 1; have k2 := blk_frozen hbox 2; have z0 : w6.cell? ⟨gc, 0, none⟩ = some (.int .u8 0) := blk_cell hbox 0; have z1 : w6.cell? ⟨gc, 1, none⟩ = some (.int .i64 0) := blk_cell hbox 1; have z2 : w6.cell? ⟨gc, 2, none⟩ = some (.int .i64 0) := blk_cell hbox 2; clear hg hbox hb)
                  | (go_at_call 39; refine (clause_Act_text.calls f0 f1 f2 X _ hcall).mono ?_; rintro e w8 ⟨rfl, hb8⟩; have HB8 := Aside0.mk hb8; clear hb8))
                go_roundg g3
                case measure => omega
                case rel =>
                  obtain ⟨hEL, hf0, hf1, hf2, hX⟩ := HEE.out
                  refine ⟨j + 1, ?_, rfl, HJL.out, ⟨?_⟩, by have := FU3.out; omega⟩
                  · rw [← HT2.out, ← hX, List.take_succ_eq_append_getElem HJL.out, hEL, actsT_snoc, hf0, hf1, hf2]
                    apply congrArg
                    apply ByteArray.ext; apply Array.ext'
                    simp
                  · refine below_step BA.out (below_step ?_ HB8.out)
                    have := HG2.out
                    exact below_set (below_set (below_set BB2.out (by omega)) (by omega)) (by omega)
              · obtain rfl : j = L.length := by omega
                have HOb := Aside0.mk (Kd.R_below HO.out (below_step (below_step BB5.out B5.out) BA.out))
                have HBb := Aside0.mk hbAll
                have hwi : (IntKind.i64.wrap ((i : Int) + 1)) = ((i + 1 : Nat) : Int) := by rw [i64_w]; unfold wrap64; have := HLT.out; omega
                clear hbAll hT2s hfu3 hj hjl
                go_wp2_with ((with_reducible refine gate_builtin (b := .append) (xs := #[.tmp 50, .tmp 52]) rfl ?_); at_builtin; refine Kd.R_append Kd.string (w0 := w) w.heap.size rfl (.tmp 50) (.tmp 52) 66 9 (.string ⟨#[]⟩) 16 rfl Tryd.underlying66 show_info9 rfl (by decide) (by omega) u3 (showB (l0.take i)) T2 [.string T2] (fun _ => True) (fun _ => False) rfl rfl ?aP (fun _ hk => hk.elim) ?aF ?aO ?aB ?aS ?aL ?_; (case aP => exact rfl); (case aB => exact HBb.out); (case aF => exact (fun _ _ => trivial)); (case aO => exact HOb.out); (case aS => exact HBb.out.size); (case aL => unfold showB; rw [List.length_map, List.length_take]; omega); intro v9 w9 ho hb hg hat; have HO9 := Aside0.mk ho; have HB9 := Aside0.mk hb; clear ho hb hg hat)
                go_roundg g'
                case measure => omega
                case rel =>
                  refine ⟨i + 1, rfl, HLT.out, ⟨?_⟩, HB9, by have := HFU.out; omega⟩
                  have h1 : showB (l0.take (i + 1)) = showB (l0.take i) ++ [T2] := by
                    obtain ⟨hC, hn, hL⟩ := HCN.out
                    rw [List.take_succ_eq_append_getElem HLT.out]
                    have hCl : l0[i]'HLT.out = C := by
                      rw [← hC]; unfold rd_T34; rw [Int.toNat_natCast, List.getD_eq_getElem?_getD, List.getElem?_eq_getElem HLT.out]; rfl
                    unfold showB
                    rw [List.map_append, hCl, ← HT2.out, List.take_of_length_le (Nat.le_refl _)]
                    show _ = _ ++ [_]
                    rw [← hn, ← hL]; rfl
                  rw [h1]
                  exact HO9.out
          · have g7 : (n == 7) = false := beq_eq_false_iff_ne.mpr h7
            have HWT : Aside0 ((⟨⟨whoT n⟩⟩ : ByteArray) = T) := ⟨by rw [← HT.out]; unfold whoT; rw [if_neg h7]; rfl⟩
            clear h7 hTs hpos hp HT
            go_wp2_with fail
            go_loopg [6, 41] L.length (fun gk3 v6 v41 wr3 => ∃ (j : Nat), v6 = .string ⟨⟨whoT n ++ actsT (L.take j)⟩⟩ ∧ v41 = .int .i64 (j : Int) ∧ j ≤ L.length ∧ Aside0 (Below wa.heap.size wa wr3) ∧ L.length ≤ j + gk3)
            case atStart => exact ⟨0, by have h := HWT.out; rw [← h]; simp [actsT], rfl, Nat.zero_le _, ⟨Below.refl _ _⟩, by omega⟩
            case round =>
              rename World => wb
              obtain ⟨j, rfl, rfl, hj, BA, hfu3⟩ := hrel
              obtain ⟨T2, hT2⟩ : ∃ T2 : ByteArray, (⟨⟨whoT n ++ actsT (L.take j)⟩⟩ : ByteArray) = T2 := ⟨_, rfl⟩
              rw [hT2]
              have hT2s : T2.size ≤ 30000 := by
                rw [← hT2]
                show (whoT n ++ actsT (L.take j)).length ≤ 30000
                have h1 := whoT_len n
                have h2 := actsT_len (L.take j)
                have h3 := HLL.out
                rw [List.length_take] at h2
                rw [List.length_append]
                omega
              have HT2 := Aside0.mk hT2
              clear hT2
              have hbAll : Below w.heap.size w wb := below_step (below_step (below_step HB.out BB5.out) B5.out) BA.out
              by_cases hjl : j < L.length
              · obtain ⟨g3, rfl⟩ : ∃ g3, gk = g3 + 1 := ⟨gk - 1, by omega⟩
                have q1 : (j : Int) < (L.length : Int) := by omega
                have q0 : (0 : Int) ≤ (j : Int) := by omega
                obtain ⟨ad2, e2, y0, y1, y2⟩ := at_T60 HR1.out (j : Int) q0 q1
                cases e2
                replace y0 := (hbAll.cell (World.block_lt_of_cell? w _ y0)).trans y0
                replace y1 := (hbAll.cell (World.block_lt_of_cell? w _ y1)).trans y1
                replace y2 := (hbAll.cell (World.block_lt_of_cell? w _ y2)).trans y2
                obtain ⟨E, hE⟩ : ∃ E, rd_T60 L (j : Int) = E := ⟨_, rfl⟩
                have hEL : L[j]'hjl = E := by
                  rw [← hE]; unfold rd_T60; rw [Int.toNat_natCast, List.getD_eq_getElem?_getD, List.getElem?_eq_getElem hjl]; rfl
                rw [hE] at y0 y1 y2
                simp only [Int.toNat_natCast] at y0 y1 y2
                have hEo := HOA.out E (by rw [← hEL]; exact List.getElem_mem hjl)
                obtain ⟨f0, hf0⟩ : ∃ f0, E.f0 = f0 := ⟨_, rfl⟩
                obtain ⟨f1, hf1⟩ : ∃ f1, E.f1 = f1 := ⟨_, rfl⟩
                obtain ⟨f2, hf2⟩ : ∃ f2, E.f2 = f2 := ⟨_, rfl⟩
                rw [hf0] at y0
                rw [hf1] at y1
                rw [hf2] at y2
                obtain ⟨X, hX⟩ : ∃ X : ByteArray, (⟨⟨textS f0 f1 f2⟩⟩ : ByteArray) = X := ⟨_, rfl⟩
                have hcall : clause_Act_text.f f0 f1 f2 = some X := by
                  unfold okA at hEo
                  rw [hf0, hf1, hf2] at hEo
                  unfold clause_Act_text.f
                  rw [if_pos (of_decide_eq_true hEo), hX]
                have hXs : X.size ≤ 7 := by rw [← hX]; exact textS_len f0 f1 f2
                have e9 : (9223372036854775807 < T2.size + X.size) = False := eq_false (by omega)
                have hwj : (IntKind.i64.wrap ((j : Int) + 1)) = ((j + 1 : Nat) : Int) := by rw [i64_w]; unfold wrap64; have := HLL.out; omega
                have HEE := Aside0.mk (And.intro hEL (And.intro hf0 (And.intro hf1 (And.intro hf2 hX))))
                have FU3 := Aside0.mk hfu3
                have HJL := Aside0.mk hjl
                clear hE hEL hf0 hf1 hf2 hX hEo hbAll hfu3 hT2s hXs hj q0
                go_wp2_with (first
                  | ((with_reducible refine gate_dst (N := 10) rfl ?_); refine box_event ?hg (N := 10) ?hd (cs := #[.int .u8 0, .int .i64 0, .int .i64 0]) (t := 60) ?hr ?_; (case hd => rfl); (case hg => rfl); (case hr => first | (go_simp; done) | (go_simp; rfl)); intro gc hg w6 hbox hb; have HG2 := Aside0.mk hg; have BX2 := Aside0.mk hbox; have BB2 := Aside0.mk hb; have k0 := blk_frozen hbox 0; have k1 := blk_frozen hbox 1; have k2 := blk_frozen hbox 2; have z0 : w6.cell? ⟨gc, 0, none⟩ = some (.int .u8 0) := blk_cell hbox 0; have z1 : w6.cell? ⟨gc, 1, none⟩ = some (.int .i64 0) := blk_cell hbox 1; have z2 : w6.cell? ⟨gc, 2, none⟩ = some (.int .i64 0) := blk_cell hbox 2; clear hg hbox hb)
                  | (go_at_call 39; refine (clause_Act_text.calls f0 f1 f2 X _ hcall).mono ?_; rintro e w8 ⟨rfl, hb8⟩; have HB8 := Aside0.mk hb8; clear hb8))
                go_roundg g3
                case measure => omega
                case rel =>
                  obtain ⟨hEL, hf0, hf1, hf2, hX⟩ := HEE.out
                  refine ⟨j + 1, ?_, rfl, HJL.out, ⟨?_⟩, by have := FU3.out; omega⟩
                  · rw [← HT2.out, ← hX, List.take_succ_eq_append_getElem HJL.out, hEL, actsT_snoc, hf0, hf1, hf2]
                    apply congrArg
                    apply ByteArray.ext; apply Array.ext'
                    simp
                  · refine below_step BA.out (below_step ?_ HB8.out)
                    have := HG2.out
                    exact below_set (below_set (below_set BB2.out (by omega)) (by omega)) (by omega)
              · obtain rfl : j = L.length := by omega
                have HOb := Aside0.mk (Kd.R_below HO.out (below_step (below_step BB5.out B5.out) BA.out))
                have HBb := Aside0.mk hbAll
                have hwi : (IntKind.i64.wrap ((i : Int) + 1)) = ((i + 1 : Nat) : Int) := by rw [i64_w]; unfold wrap64; have := HLT.out; omega
                clear hbAll hT2s hfu3 hj hjl
                go_wp2_with ((with_reducible refine gate_builtin (b := .append) (xs := #[.tmp 50, .tmp 52]) rfl ?_); at_builtin; refine Kd.R_append Kd.string (w0 := w) w.heap.size rfl (.tmp 50) (.tmp 52) 66 9 (.string ⟨#[]⟩) 16 rfl Tryd.underlying66 show_info9 rfl (by decide) (by omega) u3 (showB (l0.take i)) T2 [.string T2] (fun _ => True) (fun _ => False) rfl rfl ?aP (fun _ hk => hk.elim) ?aF ?aO ?aB ?aS ?aL ?_; (case aP => exact rfl); (case aB => exact HBb.out); (case aF => exact (fun _ _ => trivial)); (case aO => exact HOb.out); (case aS => exact HBb.out.size); (case aL => unfold showB; rw [List.length_map, List.length_take]; omega); intro v9 w9 ho hb hg hat; have HO9 := Aside0.mk ho; have HB9 := Aside0.mk hb; clear ho hb hg hat)
                go_roundg g'
                case measure => omega
                case rel =>
                  refine ⟨i + 1, rfl, HLT.out, ⟨?_⟩, HB9, by have := HFU.out; omega⟩
                  have h1 : showB (l0.take (i + 1)) = showB (l0.take i) ++ [T2] := by
                    obtain ⟨hC, hn, hL⟩ := HCN.out
                    rw [List.take_succ_eq_append_getElem HLT.out]
                    have hCl : l0[i]'HLT.out = C := by
                      rw [← hC]; unfold rd_T34; rw [Int.toNat_natCast, List.getD_eq_getElem?_getD, List.getElem?_eq_getElem HLT.out]; rfl
                    unfold showB
                    rw [List.map_append, hCl, ← HT2.out, List.take_of_length_le (Nat.le_refl _)]
                    show _ = _ ++ [_]
                    rw [← hn, ← hL]; rfl
                  rw [h1]
                  exact HO9.out
    · obtain rfl : i = l0.length := by omega
      rw [List.take_of_length_le (Nat.le_refl _)] at HO
      obtain ⟨A2, c2, e2, hl2, hC2⟩ := Kd.R_reads HO.out
      subst e2
      have hlen : (showB l0).length = l0.length := by unfold showB; rw [List.length_map]
      have hjoin : (Lib.join ((showB l0).map (·.data.toList)) ({ data := #[44] } : ByteArray).data.toList) = showS l0 := by rw [showB_data]; rfl
      have hsl := showS_len l0 HOK.out
      by_cases h0 : l0.length = 0
      · have hcall := Tryd.strings_Join_none A2 c2 ⟨#[44]⟩ wo
        have hl : (showB l0).length = 0 := by omega
        have hS : (⟨⟨showS l0⟩⟩ : ByteArray) = ⟨#[]⟩ := by
          have : l0 = [] := List.length_eq_zero_iff.1 h0
          rw [this]; rfl
        have HS := Aside0.mk hS
        have hHB := HB
        rw [hl]
        clear hfu hi hC2 hjoin hsl hS hlen
        go_wp2_with (go_at_call 40; refine hcall.mono ?_; rintro e w9 ⟨rfl, hw⟩; rw [hw]; clear hw)
        go_ret
        exact ⟨by rw [HS.out]; rfl, HB.out⟩
      · have hpos : 0 < (showB l0).length := by omega
        obtain ⟨g, cap, e3, hg1, hg2, _⟩ := Kd.R_form HO.out hpos
        injection e3 with e3 _ e4
        subst e3 e4
        have hcells : ∀ (j : Nat) x, (showB l0)[j]? = some x → wo.cell? ⟨g, 0 + j, none⟩ = some (.string x) := by
          intro j x hx
          have hj : j < (showB l0).length := (List.getElem?_eq_some_iff.1 hx).1
          obtain ⟨ad, c, ea, hcl, hK, hc⟩ := Kd.C_get hC2 ByteArray.empty (j : Int) (by omega) (by omega)
          obtain rfl := Option.some.inj ea
          rw [Int.toNat_natCast, List.getD_eq_getElem?_getD, hx] at hK
          have hK2 : c = [.string x] := hK
          have := hc 0 (.string x) (by rw [hK2]; rfl)
          rw [Int.toNat_natCast] at this
          rw [Nat.zero_add]
          have e5 : (Addr.add ⟨g, 0, none⟩ (j * 1 + 0)) = ⟨g, j, none⟩ := by simp [Addr.add]; intro h; exact h.symm
          rw [← e5]; exact this
        have hcall := Tryd.strings_Join g 0 c2 (showB l0) ⟨#[44]⟩ wo hcells hg2 (by omega) hl2 (by rw [hjoin]; exact hsl)
        rw [hjoin] at hcall
        have HG1 := Aside0.mk hg1
        clear hfu hi hC2 hjoin hsl hlen hcells
        obtain ⟨J, hJ⟩ : ∃ J : ByteArray, (⟨(showS l0).toArray⟩ : ByteArray) = J := ⟨_, rfl⟩
        rw [hJ] at hcall
        have HJ := Aside0.mk hJ
        clear hJ
        go_wp2_with (go_at_call 40; refine hcall.mono ?_; rintro e w9 ⟨rfl, hb⟩; have HB9 := Aside0.mk hb; clear hb)
        go_ret
        exact ⟨by rw [← HJ.out]; rfl, below_step HB.out HB9.out⟩
theorem clause_Show.calls (k : Nat) (A0 : Option Addr) (c0 : Nat) (l0 : List (S34)) (r : ByteArray) (w : World) (hr0 : Kd.C k34 w A0 l0.length l0) (hc0 : l0.length ≤ c0) (h : clause_Show.f k l0 = some r) :
    Calls Tryd.prog 21 #[.slice A0 l0.length c0] w fun e w' => e = .returned (.string r) ∧ Below w.heap.size w w' := by
  unfold clause_Show.f at h
  obtain ⟨b, hb, h⟩ := Option.bind_eq_some_iff.mp h
  cases b with
  | false =>
    have hr : (⟨#[]⟩ : ByteArray) = r := Option.some.inj h
    subst hr
    exact clause_Show.blank k A0 c0 l0 w hr0 hc0 hb
  | true =>
    replace h : (if okL l0 = true then some (⟨⟨showS l0⟩⟩ : ByteArray) else none) = some r := h
    split at h
    · rename_i hok
      have hr := Option.some.inj h
      subst hr
      exact clause_Show.shown k A0 c0 l0 w hr0 hc0 hb hok
    · exact absurd h (by simp)
/-! ### gaolerlaw02_awake: function 14 -/
def gaolerlaw02_awake.f (k : Nat)  : Option (Bool) := (clause_Parse.f k (⟨#[117, 103, 43, 114, 88, 44, 111, 61]⟩ : ByteArray)).bind fun bt133 => ((clause_Parse.f k (⟨#[117, 61, 103, 45, 120]⟩ : ByteArray)).bind fun bt137 => ((clause_Parse.f k (⟨#[43, 114, 103]⟩ : ByteArray)).bind fun bt141 => (if bt133.2 = 0 then (if bt137.2 = 0 then (if bt141.2 = 22 then (if (bt133.1.length : Int) = 2 then (if 0 < (bt133.1.length : Int) then (if ((rd_T34 bt133.1 0).f0) = 3 then (if 0 < (((rd_T34 bt133.1 0).f1).length : Int) then (if (((rd_T60 ((rd_T34 bt133.1 0).f1) 0).f0) == 43 && (((rd_T60 ((rd_T34 bt133.1 0).f1) 0).f1) == 12 && (((rd_T60 ((rd_T34 bt133.1 0).f1) 0).f2) == 0))) = true then (if 1 < (bt133.1.length : Int) then (if ((rd_T34 bt133.1 1).f0) = 4 then (if (bt137.1.length : Int) = 1 then (if 0 < (bt137.1.length : Int) then (if 0 < (((rd_T34 bt137.1 0).f1).length : Int) then (if (((rd_T60 ((rd_T34 bt137.1 0).f1) 0).f0) == 61 && (((rd_T60 ((rd_T34 bt137.1 0).f1) 0).f1) == 0 && (((rd_T60 ((rd_T34 bt137.1 0).f1) 0).f2) == 2))) = true then ((clause_Show.f k bt133.1).bind fun t151 => (some (t151.toList == ([117, 103, 43, 114, 88, 44, 111, 61] : List UInt8)))) else (some false)) else (none)) else (none)) else (some false)) else (some false)) else (none)) else (some false)) else (none)) else (some false)) else (none)) else (some false)) else (some false)) else (some false)) else (some false))))
set_option maxHeartbeats 8000000 in
set_option maxRecDepth 100000 in
theorem gaolerlaw02_awake.calls (k : Nat)  (r : Bool) (w : World) (h : gaolerlaw02_awake.f k  = some r) :
    Calls Tryd.prog 14 #[] w fun e w' => e = .returned (.bool r) ∧ Below w.heap.size w w' := by
  have hu60 := Tryd.underlying60
  have HB := Aside0.mk (Below.refl w.heap.size w)
  have H : ((clause_Parse.f k (⟨#[117, 103, 43, 114, 88, 44, 111, 61]⟩ : ByteArray)).bind fun bt133 => ((clause_Parse.f k (⟨#[117, 61, 103, 45, 120]⟩ : ByteArray)).bind fun bt137 => ((clause_Parse.f k (⟨#[43, 114, 103]⟩ : ByteArray)).bind fun bt141 => (if bt133.2 = 0 then (if bt137.2 = 0 then (if bt141.2 = 22 then (if (bt133.1.length : Int) = 2 then (if 0 < (bt133.1.length : Int) then (if ((rd_T34 bt133.1 0).f0) = 3 then (if 0 < (((rd_T34 bt133.1 0).f1).length : Int) then (if (((rd_T60 ((rd_T34 bt133.1 0).f1) 0).f0) == 43 && (((rd_T60 ((rd_T34 bt133.1 0).f1) 0).f1) == 12 && (((rd_T60 ((rd_T34 bt133.1 0).f1) 0).f2) == 0))) = true then (if 1 < (bt133.1.length : Int) then (if ((rd_T34 bt133.1 1).f0) = 4 then (if (bt137.1.length : Int) = 1 then (if 0 < (bt137.1.length : Int) then (if 0 < (((rd_T34 bt137.1 0).f1).length : Int) then (if (((rd_T60 ((rd_T34 bt137.1 0).f1) 0).f0) == 61 && (((rd_T60 ((rd_T34 bt137.1 0).f1) 0).f1) == 0 && (((rd_T60 ((rd_T34 bt137.1 0).f1) 0).f2) == 2))) = true then ((clause_Show.f k bt133.1).bind fun t151 => (some (t151.toList == ([117, 103, 43, 114, 88, 44, 111, 61] : List UInt8)))) else (some false)) else (none)) else (none)) else (some false)) else (some false)) else (none)) else (some false)) else (none)) else (some false)) else (none)) else (some false)) else (some false)) else (some false)) else (some false))))) = some r := h
  clear h
  replace H := Option.bind_eq_some_iff.mp H
  obtain ⟨⟨t133, t134⟩, A10, H⟩ := H
  replace H : ((clause_Parse.f k (⟨#[117, 61, 103, 45, 120]⟩ : ByteArray)).bind fun bt137 => ((clause_Parse.f k (⟨#[43, 114, 103]⟩ : ByteArray)).bind fun bt141 => (if t134 = 0 then (if bt137.2 = 0 then (if bt141.2 = 22 then (if (t133.length : Int) = 2 then (if 0 < (t133.length : Int) then (if ((rd_T34 t133 0).f0) = 3 then (if 0 < (((rd_T34 t133 0).f1).length : Int) then (if (((rd_T60 ((rd_T34 t133 0).f1) 0).f0) == 43 && (((rd_T60 ((rd_T34 t133 0).f1) 0).f1) == 12 && (((rd_T60 ((rd_T34 t133 0).f1) 0).f2) == 0))) = true then (if 1 < (t133.length : Int) then (if ((rd_T34 t133 1).f0) = 4 then (if (bt137.1.length : Int) = 1 then (if 0 < (bt137.1.length : Int) then (if 0 < (((rd_T34 bt137.1 0).f1).length : Int) then (if (((rd_T60 ((rd_T34 bt137.1 0).f1) 0).f0) == 61 && (((rd_T60 ((rd_T34 bt137.1 0).f1) 0).f1) == 0 && (((rd_T60 ((rd_T34 bt137.1 0).f1) 0).f2) == 2))) = true then ((clause_Show.f k t133).bind fun t151 => (some (t151.toList == ([117, 103, 43, 114, 88, 44, 111, 61] : List UInt8)))) else (some false)) else (none)) else (none)) else (some false)) else (some false)) else (none)) else (some false)) else (none)) else (some false)) else (none)) else (some false)) else (some false)) else (some false)) else (some false)))) = some r := H
  have A1 := Aside0.mk A10
  clear A10
  replace H := Option.bind_eq_some_iff.mp H
  obtain ⟨⟨t137, t138⟩, A20, H⟩ := H
  replace H : ((clause_Parse.f k (⟨#[43, 114, 103]⟩ : ByteArray)).bind fun bt141 => (if t134 = 0 then (if t138 = 0 then (if bt141.2 = 22 then (if (t133.length : Int) = 2 then (if 0 < (t133.length : Int) then (if ((rd_T34 t133 0).f0) = 3 then (if 0 < (((rd_T34 t133 0).f1).length : Int) then (if (((rd_T60 ((rd_T34 t133 0).f1) 0).f0) == 43 && (((rd_T60 ((rd_T34 t133 0).f1) 0).f1) == 12 && (((rd_T60 ((rd_T34 t133 0).f1) 0).f2) == 0))) = true then (if 1 < (t133.length : Int) then (if ((rd_T34 t133 1).f0) = 4 then (if (t137.length : Int) = 1 then (if 0 < (t137.length : Int) then (if 0 < (((rd_T34 t137 0).f1).length : Int) then (if (((rd_T60 ((rd_T34 t137 0).f1) 0).f0) == 61 && (((rd_T60 ((rd_T34 t137 0).f1) 0).f1) == 0 && (((rd_T60 ((rd_T34 t137 0).f1) 0).f2) == 2))) = true then ((clause_Show.f k t133).bind fun t151 => (some (t151.toList == ([117, 103, 43, 114, 88, 44, 111, 61] : List UInt8)))) else (some false)) else (none)) else (none)) else (some false)) else (some false)) else (none)) else (some false)) else (none)) else (some false)) else (none)) else (some false)) else (some false)) else (some false)) else (some false))) = some r := H
  have A2 := Aside0.mk A20
  clear A20
  replace H := Option.bind_eq_some_iff.mp H
  obtain ⟨⟨t141, t142⟩, A30, H⟩ := H
  replace H : (if t134 = 0 then (if t138 = 0 then (if t142 = 22 then (if (t133.length : Int) = 2 then (if 0 < (t133.length : Int) then (if ((rd_T34 t133 0).f0) = 3 then (if 0 < (((rd_T34 t133 0).f1).length : Int) then (if (((rd_T60 ((rd_T34 t133 0).f1) 0).f0) == 43 && (((rd_T60 ((rd_T34 t133 0).f1) 0).f1) == 12 && (((rd_T60 ((rd_T34 t133 0).f1) 0).f2) == 0))) = true then (if 1 < (t133.length : Int) then (if ((rd_T34 t133 1).f0) = 4 then (if (t137.length : Int) = 1 then (if 0 < (t137.length : Int) then (if 0 < (((rd_T34 t137 0).f1).length : Int) then (if (((rd_T60 ((rd_T34 t137 0).f1) 0).f0) == 61 && (((rd_T60 ((rd_T34 t137 0).f1) 0).f1) == 0 && (((rd_T60 ((rd_T34 t137 0).f1) 0).f2) == 2))) = true then ((clause_Show.f k t133).bind fun t151 => (some (t151.toList == ([117, 103, 43, 114, 88, 44, 111, 61] : List UInt8)))) else (some false)) else (none)) else (none)) else (some false)) else (some false)) else (none)) else (some false)) else (none)) else (some false)) else (none)) else (some false)) else (some false)) else (some false)) else (some false)) = some r := H
  have A3 := Aside0.mk A30
  clear A30
  by_cases c4 : t134 = 0
  · rw [if_pos c4] at H
    have c4b0 : (t134 == 0) = true := beq_iff_eq.mpr c4
    have c4b1 : (t134 != 0) = false := bne_eq_false_iff_eq.mpr c4
    clear c4
    by_cases c5 : t138 = 0
    · rw [if_pos c5] at H
      have c5b0 : (t138 == 0) = true := beq_iff_eq.mpr c5
      have c5b1 : (t138 != 0) = false := bne_eq_false_iff_eq.mpr c5
      clear c5
      by_cases c6 : t142 = 22
      · rw [if_pos c6] at H
        have c6b0 : (t142 == 22) = true := beq_iff_eq.mpr c6
        have c6b1 : (t142 != 22) = false := bne_eq_false_iff_eq.mpr c6
        clear c6
        by_cases c7 : (t133.length : Int) = 2
        · rw [if_pos c7] at H
          have c7b0 : ((t133.length : Int) == 2) = true := beq_iff_eq.mpr c7
          have c7b1 : ((t133.length : Int) != 2) = false := bne_eq_false_iff_eq.mpr c7
          clear c7
          by_cases c8 : 0 < (t133.length : Int)
          · rw [if_pos c8] at H
            have c8b0 : decide (0 < (t133.length : Int)) = true := decide_eq_true c8
            have c8b1 : decide (0 < t133.length) = true := decide_eq_true (by omega)
            clear c8
            by_cases c9 : ((rd_T34 t133 0).f0) = 3
            · rw [if_pos c9] at H
              have c9b0 : (((rd_T34 t133 0).f0) == 3) = true := beq_iff_eq.mpr c9
              have c9b1 : (((rd_T34 t133 0).f0) != 3) = false := bne_eq_false_iff_eq.mpr c9
              clear c9
              by_cases c10 : 0 < (((rd_T34 t133 0).f1).length : Int)
              · rw [if_pos c10] at H
                have c10b0 : decide (0 < (((rd_T34 t133 0).f1).length : Int)) = true := decide_eq_true c10
                have c10b1 : decide (0 < ((rd_T34 t133 0).f1).length) = true := decide_eq_true (by omega)
                clear c10
                by_cases c11 : (((rd_T60 ((rd_T34 t133 0).f1) 0).f0) == 43 && (((rd_T60 ((rd_T34 t133 0).f1) 0).f1) == 12 && (((rd_T60 ((rd_T34 t133 0).f1) 0).f2) == 0))) = true
                · rw [if_pos c11] at H
                  have c11b0 : (((rd_T60 ((rd_T34 t133 0).f1) 0).f0) == 43 && (((rd_T60 ((rd_T34 t133 0).f1) 0).f1) == 12 && (((rd_T60 ((rd_T34 t133 0).f1) 0).f2) == 0))) = true := c11
                  (try (have c11b1 : decide (((rd_T60 ((rd_T34 t133 0).f1) 0).f0) = 43 && (((rd_T60 ((rd_T34 t133 0).f1) 0).f1) == 12 && (((rd_T60 ((rd_T34 t133 0).f1) 0).f2) == 0))) = true := by simpa using c11))
                  (try (have c11b2 : (((rd_T60 ((rd_T34 t133 0).f1) 0).f0) == 43 && (((rd_T60 ((rd_T34 t133 0).f1) 0).f1) == 12 && (((rd_T60 ((rd_T34 t133 0).f1) 0).f2) == 0))) = true := by simpa using c11))
                  clear c11
                  by_cases c12 : 1 < (t133.length : Int)
                  · rw [if_pos c12] at H
                    have c12b0 : decide (1 < (t133.length : Int)) = true := decide_eq_true c12
                    have c12b1 : decide (1 < t133.length) = true := decide_eq_true (by omega)
                    clear c12
                    by_cases c13 : ((rd_T34 t133 1).f0) = 4
                    · rw [if_pos c13] at H
                      have c13b0 : (((rd_T34 t133 1).f0) == 4) = true := beq_iff_eq.mpr c13
                      have c13b1 : (((rd_T34 t133 1).f0) != 4) = false := bne_eq_false_iff_eq.mpr c13
                      clear c13
                      by_cases c14 : (t137.length : Int) = 1
                      · rw [if_pos c14] at H
                        have c14b0 : ((t137.length : Int) == 1) = true := beq_iff_eq.mpr c14
                        have c14b1 : ((t137.length : Int) != 1) = false := bne_eq_false_iff_eq.mpr c14
                        clear c14
                        by_cases c15 : 0 < (t137.length : Int)
                        · rw [if_pos c15] at H
                          have c15b0 : decide (0 < (t137.length : Int)) = true := decide_eq_true c15
                          have c15b1 : decide (0 < t137.length) = true := decide_eq_true (by omega)
                          clear c15
                          by_cases c16 : 0 < (((rd_T34 t137 0).f1).length : Int)
                          · rw [if_pos c16] at H
                            have c16b0 : decide (0 < (((rd_T34 t137 0).f1).length : Int)) = true := decide_eq_true c16
                            have c16b1 : decide (0 < ((rd_T34 t137 0).f1).length) = true := decide_eq_true (by omega)
                            clear c16
                            by_cases c17 : (((rd_T60 ((rd_T34 t137 0).f1) 0).f0) == 61 && (((rd_T60 ((rd_T34 t137 0).f1) 0).f1) == 0 && (((rd_T60 ((rd_T34 t137 0).f1) 0).f2) == 2))) = true
                            · rw [if_pos c17] at H
                              have c17b0 : (((rd_T60 ((rd_T34 t137 0).f1) 0).f0) == 61 && (((rd_T60 ((rd_T34 t137 0).f1) 0).f1) == 0 && (((rd_T60 ((rd_T34 t137 0).f1) 0).f2) == 2))) = true := c17
                              (try (have c17b1 : decide (((rd_T60 ((rd_T34 t137 0).f1) 0).f0) = 61 && (((rd_T60 ((rd_T34 t137 0).f1) 0).f1) == 0 && (((rd_T60 ((rd_T34 t137 0).f1) 0).f2) == 2))) = true := by simpa using c17))
                              (try (have c17b2 : (((rd_T60 ((rd_T34 t137 0).f1) 0).f0) == 61 && (((rd_T60 ((rd_T34 t137 0).f1) 0).f1) == 0 && (((rd_T60 ((rd_T34 t137 0).f1) 0).f2) == 2))) = true := by simpa using c17))
                              clear c17
                              replace H := Option.bind_eq_some_iff.mp H
                              obtain ⟨t151, A180, H⟩ := H
                              replace H : (some (t151.toList == ([117, 103, 43, 114, 88, 44, 111, 61] : List UInt8))) = some r := H
                              have A18 := Aside0.mk A180
                              clear A180
                              obtain rfl := Option.some.inj H
                              go_enter Tryd.func14, Tryd.ntmps14
                              go_wp2_with (first | ((with_reducible refine gate_callee (f := 15) rfl ?_); refine goesL_ (some 8) rfl rfl Tryd.func15 (by kernel_rfl) rfl #[.string (⟨#[117, 103, 43, 114, 88, 44, 111, 61]⟩ : ByteArray)] rfl (by (try simp only [List.map_toArray, List.map_cons, List.map_nil]); first | done | rfl | (simp only [List.length_drop, List.length_take]; rfl)) ?_; (with_reducible refine (clause_Parse.calls k (⟨#[117, 103, 43, 114, 88, 44, 111, 61]⟩ : ByteArray) t133 t134 _ A1.out).mono ?_); rintro e w19 ⟨v135, rfl, ho0, hb⟩; refine ⟨_, rfl, ?_⟩; have n0_ := Aside0.mk (Kd.S_lower ho0 (below_size (by repeat (first | (with_reducible first | exact HB.out | apply below_alloc | apply pw_below_drewN | apply below_drew1) | exact HB.out)))); have n1_ := Aside0.mk (below_step (by repeat (first | (with_reducible first | exact HB.out | apply below_alloc | apply pw_below_drewN | apply below_drew1) | exact HB.out)) hb); clear HB; have HO136 := n0_; have HB := n1_; clear n0_ n1_; (try clear hb); (try clear hb2); (try clear hk); (try clear hi); (try clear ho0)) | ((with_reducible refine gate_callee (f := 15) rfl ?_); refine goesL_ (some 12) rfl rfl Tryd.func15 (by kernel_rfl) rfl #[.string (⟨#[117, 61, 103, 45, 120]⟩ : ByteArray)] rfl (by (try simp only [List.map_toArray, List.map_cons, List.map_nil]); first | done | rfl | (simp only [List.length_drop, List.length_take]; rfl)) ?_; (with_reducible refine (clause_Parse.calls k (⟨#[117, 61, 103, 45, 120]⟩ : ByteArray) t137 t138 _ A2.out).mono ?_); rintro e w20 ⟨v139, rfl, ho0, hb⟩; refine ⟨_, rfl, ?_⟩; have n0_ := Aside0.mk (Kd.S_elder' (by (with_reducible repeat (first | apply Kd.S_alloc | apply Kd.S_drewN | apply Kd.S_drew)); exact HO136.out) (Kd.S_base ho0) hb); have n1_ := Aside0.mk (Kd.S_lower (Kd.S_new' ho0 (Kd.S_lt (by (with_reducible repeat (first | apply Kd.S_alloc | apply Kd.S_drewN | apply Kd.S_drew)); exact HO136.out))) (below_size (by repeat (first | (with_reducible first | exact HB.out | apply below_alloc | apply pw_below_drewN | apply below_drew1) | exact HB.out)))); have n2_ := Aside0.mk (below_step (by repeat (first | (with_reducible first | exact HB.out | apply below_alloc | apply pw_below_drewN | apply below_drew1) | exact HB.out)) hb); clear HO136; clear HB; have HO136 := n0_; have HO140 := n1_; have HB := n2_; clear n0_ n1_ n2_; (try clear hb); (try clear hb2); (try clear hk); (try clear hi); (try clear ho0)) | ((with_reducible refine gate_callee (f := 15) rfl ?_); refine goesL_ (some 16) rfl rfl Tryd.func15 (by kernel_rfl) rfl #[.string (⟨#[43, 114, 103]⟩ : ByteArray)] rfl (by (try simp only [List.map_toArray, List.map_cons, List.map_nil]); first | done | rfl | (simp only [List.length_drop, List.length_take]; rfl)) ?_; (with_reducible refine (clause_Parse.calls k (⟨#[43, 114, 103]⟩ : ByteArray) t141 t142 _ A3.out).mono ?_); rintro e w21 ⟨v143, rfl, ho0, hb⟩; refine ⟨_, rfl, ?_⟩; have n0_ := Aside0.mk (Kd.S_elder' (by (with_reducible repeat (first | apply Kd.S_alloc | apply Kd.S_drewN | apply Kd.S_drew)); exact HO136.out) (Kd.S_base ho0) hb); have n1_ := Aside0.mk (Kd.S_elder' (by (with_reducible repeat (first | apply Kd.S_alloc | apply Kd.S_drewN | apply Kd.S_drew)); exact HO140.out) (Kd.S_base ho0) hb); have n2_ := Aside0.mk (Kd.S_lower (Kd.S_new' (Kd.S_new' ho0 (Kd.S_lt (by (with_reducible repeat (first | apply Kd.S_alloc | apply Kd.S_drewN | apply Kd.S_drew)); exact HO136.out))) (Kd.S_lt (by (with_reducible repeat (first | apply Kd.S_alloc | apply Kd.S_drewN | apply Kd.S_drew)); exact HO140.out))) (below_size (by repeat (first | (with_reducible first | exact HB.out | apply below_alloc | apply pw_below_drewN | apply below_drew1) | exact HB.out)))); have n3_ := Aside0.mk (below_step (by repeat (first | (with_reducible first | exact HB.out | apply below_alloc | apply pw_below_drewN | apply below_drew1) | exact HB.out)) hb); clear HO136; clear HO140; clear HB; have HO136 := n0_; have HO140 := n1_; have HO144 := n2_; have HB := n3_; clear n0_ n1_ n2_ n3_; (try clear hb); (try clear hb2); (try clear hk); (try clear hi); (try clear ho0); obtain ⟨Ao22, co22, eo22⟩ := Kd.S_slice HO136.out; subst eo22; have p145 : 0 ≤ (0 : Int) := (by omega); have q145 : 0 < (t133.length : Int) := of_decide_eq_true (by first | (with_reducible assumption) | assumption); obtain ⟨ad145, A145_1, c145_1, e145, hx145_0, hx145_1, hl145_1, hi145_1⟩ := at_T34 (Kd.S_reads' HO136.out).2.2 0 p145 q145; cases e145; obtain ⟨ce145, hce145, hMe145, hcc145⟩ := Kd.S_get HO136.out z34 0 p145 (by first | exact q145 | exact of_decide_eq_true (by first | (with_reducible assumption) | assumption) | (have e_ := (Kd.S_reads' HO136.out).1; omega)); obtain ⟨ve145_1, rfl, ge145_1⟩ := k34_openM hMe145; have hv145_1 := hcc145 1 _ rfl; rw [add_field _ _ 1 (by omega)] at hv145_1; replace hv145_1 := Option.some.inj (hv145_1.symm.trans hx145_1); rw [hv145_1] at ge145_1; have HL145_1 := Aside0.mk (show Kd.R k60 60 _ _ _ _ ((rd_T34 t133 0).f1) from ge145_1); clear hv145_1 ge145_1; clear hcc145 hce145; have qi145 : (0 < t133.length) = True := eq_true (by omega); (try rw [show ((0 : Int)).toNat = 0 from rfl] at hx145_0); (try rw [show 0 * 2 = 0 from rfl] at hx145_0); (try rw [Addr.add_zero'] at hx145_0); (try rw [show ((0 : Int)).toNat = 0 from rfl] at hx145_1); (try rw [show 0 * 2 = 0 from rfl] at hx145_1); (try rw [Addr.add_zero'] at hx145_1); have HR145_1 := Aside0.mk hi145_1; have HC145_1 := Aside0.mk hl145_1; clear hi145_1 hl145_1; replace p145 := eq_true p145; replace q145 := eq_true q145; have p146 : 0 ≤ (0 : Int) := (by omega); have q146 : 0 < (t133.length : Int) := of_decide_eq_true (by first | (with_reducible assumption) | assumption); obtain ⟨ad146, A146_1, c146_1, e146, hx146_0, hx146_1, hl146_1, hi146_1⟩ := at_T34 (Kd.S_reads' HO136.out).2.2 0 p146 q146; obtain rfl : ad145 = ad146 := (by injection e146); obtain ⟨ce146, hce146, hMe146, hcc146⟩ := Kd.S_get HO136.out z34 0 p146 (by first | exact q146 | exact of_decide_eq_true (by first | (with_reducible assumption) | assumption) | (have e_ := (Kd.S_reads' HO136.out).1; omega)); obtain ⟨ve146_1, rfl, ge146_1⟩ := k34_openM hMe146; have hv146_1 := hcc146 1 _ rfl; rw [add_field _ _ 1 (by omega)] at hv146_1; replace hv146_1 := Option.some.inj (hv146_1.symm.trans hx146_1); rw [hv146_1] at ge146_1; have HL146_1 := Aside0.mk (show Kd.R k60 60 _ _ _ _ ((rd_T34 t133 0).f1) from ge146_1); clear hv146_1 ge146_1; clear hcc146 hce146; have qi146 : (0 < t133.length) = True := eq_true (by omega); (try rw [show ((0 : Int)).toNat = 0 from rfl] at hx146_0); (try rw [show 0 * 2 = 0 from rfl] at hx146_0); (try rw [Addr.add_zero'] at hx146_0); (try rw [show ((0 : Int)).toNat = 0 from rfl] at hx146_1); (try rw [show 0 * 2 = 0 from rfl] at hx146_1); (try rw [Addr.add_zero'] at hx146_1); have HR146_1 := Aside0.mk hi146_1; have HC146_1 := Aside0.mk hl146_1; clear hi146_1 hl146_1; replace p146 := eq_true p146; replace q146 := eq_true q146; have ea_ := Option.some.inj (hx145_1.symm.trans hx146_1); injection ea_ with ea_ en_ ec_; subst ea_; subst ec_; clear en_; have p147 : 0 ≤ (0 : Int) := (by omega); have q147 : 0 < (((rd_T34 t133 0).f1).length : Int) := of_decide_eq_true (by first | (with_reducible assumption) | assumption); obtain ⟨ad147, e147, hx147_0, hx147_1, hx147_2⟩ := at_T60 (by repeat (first | (with_reducible exact HR146_1.out) | (with_reducible refine Kd.C_alloc ?_ _) | (with_reducible refine Kd.C_drewN ?_ _) | (with_reducible refine Kd.C_drew ?_) | exact HR146_1.out)) 0 p147 q147; cases e147; have qi147 : (0 < ((rd_T34 t133 0).f1).length) = True := eq_true (by omega); (try rw [show ((0 : Int)).toNat = 0 from rfl] at hx147_0); (try rw [show 0 * 3 = 0 from rfl] at hx147_0); (try rw [Addr.add_zero'] at hx147_0); (try rw [show ((0 : Int)).toNat = 0 from rfl] at hx147_1); (try rw [show 0 * 3 = 0 from rfl] at hx147_1); (try rw [Addr.add_zero'] at hx147_1); (try rw [show ((0 : Int)).toNat = 0 from rfl] at hx147_2); (try rw [show 0 * 3 = 0 from rfl] at hx147_2); (try rw [Addr.add_zero'] at hx147_2); replace p147 := eq_true p147; replace q147 := eq_true q147; have p148 : 0 ≤ (1 : Int) := (by omega); have q148 : 1 < (t133.length : Int) := of_decide_eq_true (by first | (with_reducible assumption) | assumption); obtain ⟨ad148, A148_1, c148_1, e148, hx148_0, hx148_1, hl148_1, hi148_1⟩ := at_T34 (Kd.S_reads' HO136.out).2.2 1 p148 q148; obtain rfl : ad145 = ad148 := (by injection e148); obtain ⟨ce148, hce148, hMe148, hcc148⟩ := Kd.S_get HO136.out z34 1 p148 (by first | exact q148 | exact of_decide_eq_true (by first | (with_reducible assumption) | assumption) | (have e_ := (Kd.S_reads' HO136.out).1; omega)); obtain ⟨ve148_1, rfl, ge148_1⟩ := k34_openM hMe148; have hv148_1 := hcc148 1 _ rfl; rw [add_field _ _ 1 (by omega)] at hv148_1; replace hv148_1 := Option.some.inj (hv148_1.symm.trans hx148_1); rw [hv148_1] at ge148_1; have HL148_1 := Aside0.mk (show Kd.R k60 60 _ _ _ _ ((rd_T34 t133 1).f1) from ge148_1); clear hv148_1 ge148_1; clear hcc148 hce148; (try simp only [show (1 : Int).toNat = 1 from rfl, Nat.reduceMul, Nat.reduceEqDiff, Go.Addr.add, ↓reduceIte] at hx148_0); (try simp only [show (1 : Int).toNat = 1 from rfl, Nat.reduceMul, Nat.reduceEqDiff, Go.Addr.add, ↓reduceIte] at hx148_1); have qi148 : (1 < t133.length) = True := eq_true (by omega); (try rw [show ((1 : Int)).toNat = 1 from rfl] at hx148_0); (try rw [show 1 * 2 = 2 from rfl] at hx148_0); (try rw [show ((1 : Int)).toNat = 1 from rfl] at hx148_1); (try rw [show 1 * 2 = 2 from rfl] at hx148_1); have HR148_1 := Aside0.mk hi148_1; have HC148_1 := Aside0.mk hl148_1; clear hi148_1 hl148_1; replace p148 := eq_true p148; replace q148 := eq_true q148; obtain ⟨Ao23, co23, eo23⟩ := Kd.S_slice HO140.out; subst eo23; have p149 : 0 ≤ (0 : Int) := (by omega); have q149 : 0 < (t137.length : Int) := of_decide_eq_true (by first | (with_reducible assumption) | assumption); obtain ⟨ad149, A149_1, c149_1, e149, hx149_0, hx149_1, hl149_1, hi149_1⟩ := at_T34 (Kd.S_reads' HO140.out).2.2 0 p149 q149; cases e149; obtain ⟨ce149, hce149, hMe149, hcc149⟩ := Kd.S_get HO140.out z34 0 p149 (by first | exact q149 | exact of_decide_eq_true (by first | (with_reducible assumption) | assumption) | (have e_ := (Kd.S_reads' HO140.out).1; omega)); obtain ⟨ve149_1, rfl, ge149_1⟩ := k34_openM hMe149; have hv149_1 := hcc149 1 _ rfl; rw [add_field _ _ 1 (by omega)] at hv149_1; replace hv149_1 := Option.some.inj (hv149_1.symm.trans hx149_1); rw [hv149_1] at ge149_1; have HL149_1 := Aside0.mk (show Kd.R k60 60 _ _ _ _ ((rd_T34 t137 0).f1) from ge149_1); clear hv149_1 ge149_1; clear hcc149 hce149; have qi149 : (0 < t137.length) = True := eq_true (by omega); (try rw [show ((0 : Int)).toNat = 0 from rfl] at hx149_0); (try rw [show 0 * 2 = 0 from rfl] at hx149_0); (try rw [Addr.add_zero'] at hx149_0); (try rw [show ((0 : Int)).toNat = 0 from rfl] at hx149_1); (try rw [show 0 * 2 = 0 from rfl] at hx149_1); (try rw [Addr.add_zero'] at hx149_1); have HR149_1 := Aside0.mk hi149_1; have HC149_1 := Aside0.mk hl149_1; clear hi149_1 hl149_1; replace p149 := eq_true p149; replace q149 := eq_true q149; have p150 : 0 ≤ (0 : Int) := (by omega); have q150 : 0 < (((rd_T34 t137 0).f1).length : Int) := of_decide_eq_true (by first | (with_reducible assumption) | assumption); obtain ⟨ad150, e150, hx150_0, hx150_1, hx150_2⟩ := at_T60 (by repeat (first | (with_reducible exact HR149_1.out) | (with_reducible refine Kd.C_alloc ?_ _) | (with_reducible refine Kd.C_drewN ?_ _) | (with_reducible refine Kd.C_drew ?_) | exact HR149_1.out)) 0 p150 q150; cases e150; have qi150 : (0 < ((rd_T34 t137 0).f1).length) = True := eq_true (by omega); (try rw [show ((0 : Int)).toNat = 0 from rfl] at hx150_0); (try rw [show 0 * 3 = 0 from rfl] at hx150_0); (try rw [Addr.add_zero'] at hx150_0); (try rw [show ((0 : Int)).toNat = 0 from rfl] at hx150_1); (try rw [show 0 * 3 = 0 from rfl] at hx150_1); (try rw [Addr.add_zero'] at hx150_1); (try rw [show ((0 : Int)).toNat = 0 from rfl] at hx150_2); (try rw [show 0 * 3 = 0 from rfl] at hx150_2); (try rw [Addr.add_zero'] at hx150_2); replace p150 := eq_true p150; replace q150 := eq_true q150) | (go_at_call 21; (with_reducible refine (clause_Show.calls k _ _ t133 t151 _ ?side1 ?side2 A18.out).mono ?_); (case side1 => repeat (first | exact (Kd.S_reads' HO136.out).2.2 | (with_reducible refine Kd.C_alloc ?_ _) | (with_reducible refine Kd.C_drewN ?_ _) | (with_reducible refine Kd.C_drew ?_))); (case side2 => exact (Kd.S_reads' HO136.out).2.1); rintro e w24 ⟨rfl, hb⟩; have n0_ := Aside0.mk (Kd.S_below (by (with_reducible repeat (first | apply Kd.S_alloc | apply Kd.S_drewN | apply Kd.S_drew)); exact HO136.out) hb); have n1_ := Aside0.mk (Kd.S_below (by (with_reducible repeat (first | apply Kd.S_alloc | apply Kd.S_drewN | apply Kd.S_drew)); exact HO140.out) hb); have n2_ := Aside0.mk (Kd.S_below (by (with_reducible repeat (first | apply Kd.S_alloc | apply Kd.S_drewN | apply Kd.S_drew)); exact HO144.out) hb); have n3_ := Aside0.mk (Kd.R_below (by (with_reducible repeat (first | apply Kd.R_alloc | apply Kd.R_drewN | apply Kd.R_drew)); exact HL145_1.out) hb); have n4_ := Aside0.mk (Kd.R_below (by (with_reducible repeat (first | apply Kd.R_alloc | apply Kd.R_drewN | apply Kd.R_drew)); exact HL146_1.out) hb); have n5_ := Aside0.mk (Kd.R_below (by (with_reducible repeat (first | apply Kd.R_alloc | apply Kd.R_drewN | apply Kd.R_drew)); exact HL148_1.out) hb); have n6_ := Aside0.mk (Kd.R_below (by (with_reducible repeat (first | apply Kd.R_alloc | apply Kd.R_drewN | apply Kd.R_drew)); exact HL149_1.out) hb); have n7_ := Aside0.mk (Kd.C_below (by repeat (first | (with_reducible exact HR145_1.out) | (with_reducible refine Kd.C_alloc ?_ _) | (with_reducible refine Kd.C_drewN ?_ _) | (with_reducible refine Kd.C_drew ?_) | exact HR145_1.out)) hb); have n8_ := Aside0.mk (Kd.C_below (by repeat (first | (with_reducible exact HR146_1.out) | (with_reducible refine Kd.C_alloc ?_ _) | (with_reducible refine Kd.C_drewN ?_ _) | (with_reducible refine Kd.C_drew ?_) | exact HR146_1.out)) hb); have n9_ := Aside0.mk (Kd.C_below (by repeat (first | (with_reducible exact HR148_1.out) | (with_reducible refine Kd.C_alloc ?_ _) | (with_reducible refine Kd.C_drewN ?_ _) | (with_reducible refine Kd.C_drew ?_) | exact HR148_1.out)) hb); have n10_ := Aside0.mk (Kd.C_below (by repeat (first | (with_reducible exact HR149_1.out) | (with_reducible refine Kd.C_alloc ?_ _) | (with_reducible refine Kd.C_drewN ?_ _) | (with_reducible refine Kd.C_drew ?_) | exact HR149_1.out)) hb); have n11_ := Aside0.mk (below_step (by repeat (first | (with_reducible first | exact HB.out | apply below_alloc | apply pw_below_drewN | apply below_drew1) | exact HB.out)) hb); clear HO136; clear HO140; clear HO144; clear HL145_1; clear HL146_1; clear HL148_1; clear HL149_1; clear HR145_1; clear HR146_1; clear HR148_1; clear HR149_1; clear HB; have HO136 := n0_; have HO140 := n1_; have HO144 := n2_; have HL145_1 := n3_; have HL146_1 := n4_; have HL148_1 := n5_; have HL149_1 := n6_; have HR145_1 := n7_; have HR146_1 := n8_; have HR148_1 := n9_; have HR149_1 := n10_; have HB := n11_; clear n0_ n1_ n2_ n3_ n4_ n5_ n6_ n7_ n8_ n9_ n10_ n11_; (try clear hb); (try clear hb2); (try clear hk); (try clear hi)))
                              go_ret
                              exact ⟨by first | rfl | (simp [errW_none, errW_some] <;> rfl) | (simp [*, errW_none, errW_some] <;> rfl), by repeat (first | (with_reducible first | exact HB.out | apply below_alloc | apply pw_below_drewN | apply below_drew1) | exact HB.out)⟩
                            · rw [if_neg c17] at H
                              have c17b0 : (((rd_T60 ((rd_T34 t137 0).f1) 0).f0) == 61 && (((rd_T60 ((rd_T34 t137 0).f1) 0).f1) == 0 && (((rd_T60 ((rd_T34 t137 0).f1) 0).f2) == 2))) = false := by simpa using c17
                              (try (have c17b1 : decide (((rd_T60 ((rd_T34 t137 0).f1) 0).f0) = 61 && (((rd_T60 ((rd_T34 t137 0).f1) 0).f1) == 0 && (((rd_T60 ((rd_T34 t137 0).f1) 0).f2) == 2))) = false := by simpa using c17))
                              (try (have c17b2 : (((rd_T60 ((rd_T34 t137 0).f1) 0).f0) == 61 && (((rd_T60 ((rd_T34 t137 0).f1) 0).f1) == 0 && (((rd_T60 ((rd_T34 t137 0).f1) 0).f2) == 2))) = false := by simpa using c17))
                              (try (have c17b3 : ¬ (((rd_T60 ((rd_T34 t137 0).f1) 0).f0) = 61 && (((rd_T60 ((rd_T34 t137 0).f1) 0).f1) == 0 && (((rd_T60 ((rd_T34 t137 0).f1) 0).f2) == 2))) := by simpa using c17))
                              clear c17
                              obtain rfl := Option.some.inj H
                              go_enter Tryd.func14, Tryd.ntmps14
                              go_wp2_with (first | ((with_reducible refine gate_callee (f := 15) rfl ?_); refine goesL_ (some 8) rfl rfl Tryd.func15 (by kernel_rfl) rfl #[.string (⟨#[117, 103, 43, 114, 88, 44, 111, 61]⟩ : ByteArray)] rfl (by (try simp only [List.map_toArray, List.map_cons, List.map_nil]); first | done | rfl | (simp only [List.length_drop, List.length_take]; rfl)) ?_; (with_reducible refine (clause_Parse.calls k (⟨#[117, 103, 43, 114, 88, 44, 111, 61]⟩ : ByteArray) t133 t134 _ A1.out).mono ?_); rintro e w25 ⟨v135, rfl, ho0, hb⟩; refine ⟨_, rfl, ?_⟩; have n0_ := Aside0.mk (Kd.S_lower ho0 (below_size (by repeat (first | (with_reducible first | exact HB.out | apply below_alloc | apply pw_below_drewN | apply below_drew1) | exact HB.out)))); have n1_ := Aside0.mk (below_step (by repeat (first | (with_reducible first | exact HB.out | apply below_alloc | apply pw_below_drewN | apply below_drew1) | exact HB.out)) hb); clear HB; have HO136 := n0_; have HB := n1_; clear n0_ n1_; (try clear hb); (try clear hb2); (try clear hk); (try clear hi); (try clear ho0)) | ((with_reducible refine gate_callee (f := 15) rfl ?_); refine goesL_ (some 12) rfl rfl Tryd.func15 (by kernel_rfl) rfl #[.string (⟨#[117, 61, 103, 45, 120]⟩ : ByteArray)] rfl (by (try simp only [List.map_toArray, List.map_cons, List.map_nil]); first | done | rfl | (simp only [List.length_drop, List.length_take]; rfl)) ?_; (with_reducible refine (clause_Parse.calls k (⟨#[117, 61, 103, 45, 120]⟩ : ByteArray) t137 t138 _ A2.out).mono ?_); rintro e w26 ⟨v139, rfl, ho0, hb⟩; refine ⟨_, rfl, ?_⟩; have n0_ := Aside0.mk (Kd.S_elder' (by (with_reducible repeat (first | apply Kd.S_alloc | apply Kd.S_drewN | apply Kd.S_drew)); exact HO136.out) (Kd.S_base ho0) hb); have n1_ := Aside0.mk (Kd.S_lower (Kd.S_new' ho0 (Kd.S_lt (by (with_reducible repeat (first | apply Kd.S_alloc | apply Kd.S_drewN | apply Kd.S_drew)); exact HO136.out))) (below_size (by repeat (first | (with_reducible first | exact HB.out | apply below_alloc | apply pw_below_drewN | apply below_drew1) | exact HB.out)))); have n2_ := Aside0.mk (below_step (by repeat (first | (with_reducible first | exact HB.out | apply below_alloc | apply pw_below_drewN | apply below_drew1) | exact HB.out)) hb); clear HO136; clear HB; have HO136 := n0_; have HO140 := n1_; have HB := n2_; clear n0_ n1_ n2_; (try clear hb); (try clear hb2); (try clear hk); (try clear hi); (try clear ho0)) | ((with_reducible refine gate_callee (f := 15) rfl ?_); refine goesL_ (some 16) rfl rfl Tryd.func15 (by kernel_rfl) rfl #[.string (⟨#[43, 114, 103]⟩ : ByteArray)] rfl (by (try simp only [List.map_toArray, List.map_cons, List.map_nil]); first | done | rfl | (simp only [List.length_drop, List.length_take]; rfl)) ?_; (with_reducible refine (clause_Parse.calls k (⟨#[43, 114, 103]⟩ : ByteArray) t141 t142 _ A3.out).mono ?_); rintro e w27 ⟨v143, rfl, ho0, hb⟩; refine ⟨_, rfl, ?_⟩; have n0_ := Aside0.mk (Kd.S_elder' (by (with_reducible repeat (first | apply Kd.S_alloc | apply Kd.S_drewN | apply Kd.S_drew)); exact HO136.out) (Kd.S_base ho0) hb); have n1_ := Aside0.mk (Kd.S_elder' (by (with_reducible repeat (first | apply Kd.S_alloc | apply Kd.S_drewN | apply Kd.S_drew)); exact HO140.out) (Kd.S_base ho0) hb); have n2_ := Aside0.mk (Kd.S_lower (Kd.S_new' (Kd.S_new' ho0 (Kd.S_lt (by (with_reducible repeat (first | apply Kd.S_alloc | apply Kd.S_drewN | apply Kd.S_drew)); exact HO136.out))) (Kd.S_lt (by (with_reducible repeat (first | apply Kd.S_alloc | apply Kd.S_drewN | apply Kd.S_drew)); exact HO140.out))) (below_size (by repeat (first | (with_reducible first | exact HB.out | apply below_alloc | apply pw_below_drewN | apply below_drew1) | exact HB.out)))); have n3_ := Aside0.mk (below_step (by repeat (first | (with_reducible first | exact HB.out | apply below_alloc | apply pw_below_drewN | apply below_drew1) | exact HB.out)) hb); clear HO136; clear HO140; clear HB; have HO136 := n0_; have HO140 := n1_; have HO144 := n2_; have HB := n3_; clear n0_ n1_ n2_ n3_; (try clear hb); (try clear hb2); (try clear hk); (try clear hi); (try clear ho0); obtain ⟨Ao28, co28, eo28⟩ := Kd.S_slice HO136.out; subst eo28; have p145 : 0 ≤ (0 : Int) := (by omega); have q145 : 0 < (t133.length : Int) := of_decide_eq_true (by first | (with_reducible assumption) | assumption); obtain ⟨ad145, A145_1, c145_1, e145, hx145_0, hx145_1, hl145_1, hi145_1⟩ := at_T34 (Kd.S_reads' HO136.out).2.2 0 p145 q145; cases e145; obtain ⟨ce145, hce145, hMe145, hcc145⟩ := Kd.S_get HO136.out z34 0 p145 (by first | exact q145 | exact of_decide_eq_true (by first | (with_reducible assumption) | assumption) | (have e_ := (Kd.S_reads' HO136.out).1; omega)); obtain ⟨ve145_1, rfl, ge145_1⟩ := k34_openM hMe145; have hv145_1 := hcc145 1 _ rfl; rw [add_field _ _ 1 (by omega)] at hv145_1; replace hv145_1 := Option.some.inj (hv145_1.symm.trans hx145_1); rw [hv145_1] at ge145_1; have HL145_1 := Aside0.mk (show Kd.R k60 60 _ _ _ _ ((rd_T34 t133 0).f1) from ge145_1); clear hv145_1 ge145_1; clear hcc145 hce145; have qi145 : (0 < t133.length) = True := eq_true (by omega); (try rw [show ((0 : Int)).toNat = 0 from rfl] at hx145_0); (try rw [show 0 * 2 = 0 from rfl] at hx145_0); (try rw [Addr.add_zero'] at hx145_0); (try rw [show ((0 : Int)).toNat = 0 from rfl] at hx145_1); (try rw [show 0 * 2 = 0 from rfl] at hx145_1); (try rw [Addr.add_zero'] at hx145_1); have HR145_1 := Aside0.mk hi145_1; have HC145_1 := Aside0.mk hl145_1; clear hi145_1 hl145_1; replace p145 := eq_true p145; replace q145 := eq_true q145; have p146 : 0 ≤ (0 : Int) := (by omega); have q146 : 0 < (t133.length : Int) := of_decide_eq_true (by first | (with_reducible assumption) | assumption); obtain ⟨ad146, A146_1, c146_1, e146, hx146_0, hx146_1, hl146_1, hi146_1⟩ := at_T34 (Kd.S_reads' HO136.out).2.2 0 p146 q146; obtain rfl : ad145 = ad146 := (by injection e146); obtain ⟨ce146, hce146, hMe146, hcc146⟩ := Kd.S_get HO136.out z34 0 p146 (by first | exact q146 | exact of_decide_eq_true (by first | (with_reducible assumption) | assumption) | (have e_ := (Kd.S_reads' HO136.out).1; omega)); obtain ⟨ve146_1, rfl, ge146_1⟩ := k34_openM hMe146; have hv146_1 := hcc146 1 _ rfl; rw [add_field _ _ 1 (by omega)] at hv146_1; replace hv146_1 := Option.some.inj (hv146_1.symm.trans hx146_1); rw [hv146_1] at ge146_1; have HL146_1 := Aside0.mk (show Kd.R k60 60 _ _ _ _ ((rd_T34 t133 0).f1) from ge146_1); clear hv146_1 ge146_1; clear hcc146 hce146; have qi146 : (0 < t133.length) = True := eq_true (by omega); (try rw [show ((0 : Int)).toNat = 0 from rfl] at hx146_0); (try rw [show 0 * 2 = 0 from rfl] at hx146_0); (try rw [Addr.add_zero'] at hx146_0); (try rw [show ((0 : Int)).toNat = 0 from rfl] at hx146_1); (try rw [show 0 * 2 = 0 from rfl] at hx146_1); (try rw [Addr.add_zero'] at hx146_1); have HR146_1 := Aside0.mk hi146_1; have HC146_1 := Aside0.mk hl146_1; clear hi146_1 hl146_1; replace p146 := eq_true p146; replace q146 := eq_true q146; have ea_ := Option.some.inj (hx145_1.symm.trans hx146_1); injection ea_ with ea_ en_ ec_; subst ea_; subst ec_; clear en_; have p147 : 0 ≤ (0 : Int) := (by omega); have q147 : 0 < (((rd_T34 t133 0).f1).length : Int) := of_decide_eq_true (by first | (with_reducible assumption) | assumption); obtain ⟨ad147, e147, hx147_0, hx147_1, hx147_2⟩ := at_T60 (by repeat (first | (with_reducible exact HR146_1.out) | (with_reducible refine Kd.C_alloc ?_ _) | (with_reducible refine Kd.C_drewN ?_ _) | (with_reducible refine Kd.C_drew ?_) | exact HR146_1.out)) 0 p147 q147; cases e147; have qi147 : (0 < ((rd_T34 t133 0).f1).length) = True := eq_true (by omega); (try rw [show ((0 : Int)).toNat = 0 from rfl] at hx147_0); (try rw [show 0 * 3 = 0 from rfl] at hx147_0); (try rw [Addr.add_zero'] at hx147_0); (try rw [show ((0 : Int)).toNat = 0 from rfl] at hx147_1); (try rw [show 0 * 3 = 0 from rfl] at hx147_1); (try rw [Addr.add_zero'] at hx147_1); (try rw [show ((0 : Int)).toNat = 0 from rfl] at hx147_2); (try rw [show 0 * 3 = 0 from rfl] at hx147_2); (try rw [Addr.add_zero'] at hx147_2); replace p147 := eq_true p147; replace q147 := eq_true q147; have p148 : 0 ≤ (1 : Int) := (by omega); have q148 : 1 < (t133.length : Int) := of_decide_eq_true (by first | (with_reducible assumption) | assumption); obtain ⟨ad148, A148_1, c148_1, e148, hx148_0, hx148_1, hl148_1, hi148_1⟩ := at_T34 (Kd.S_reads' HO136.out).2.2 1 p148 q148; obtain rfl : ad145 = ad148 := (by injection e148); obtain ⟨ce148, hce148, hMe148, hcc148⟩ := Kd.S_get HO136.out z34 1 p148 (by first | exact q148 | exact of_decide_eq_true (by first | (with_reducible assumption) | assumption) | (have e_ := (Kd.S_reads' HO136.out).1; omega)); obtain ⟨ve148_1, rfl, ge148_1⟩ := k34_openM hMe148; have hv148_1 := hcc148 1 _ rfl; rw [add_field _ _ 1 (by omega)] at hv148_1; replace hv148_1 := Option.some.inj (hv148_1.symm.trans hx148_1); rw [hv148_1] at ge148_1; have HL148_1 := Aside0.mk (show Kd.R k60 60 _ _ _ _ ((rd_T34 t133 1).f1) from ge148_1); clear hv148_1 ge148_1; clear hcc148 hce148; (try simp only [show (1 : Int).toNat = 1 from rfl, Nat.reduceMul, Nat.reduceEqDiff, Go.Addr.add, ↓reduceIte] at hx148_0); (try simp only [show (1 : Int).toNat = 1 from rfl, Nat.reduceMul, Nat.reduceEqDiff, Go.Addr.add, ↓reduceIte] at hx148_1); have qi148 : (1 < t133.length) = True := eq_true (by omega); (try rw [show ((1 : Int)).toNat = 1 from rfl] at hx148_0); (try rw [show 1 * 2 = 2 from rfl] at hx148_0); (try rw [show ((1 : Int)).toNat = 1 from rfl] at hx148_1); (try rw [show 1 * 2 = 2 from rfl] at hx148_1); have HR148_1 := Aside0.mk hi148_1; have HC148_1 := Aside0.mk hl148_1; clear hi148_1 hl148_1; replace p148 := eq_true p148; replace q148 := eq_true q148; obtain ⟨Ao29, co29, eo29⟩ := Kd.S_slice HO140.out; subst eo29; have p149 : 0 ≤ (0 : Int) := (by omega); have q149 : 0 < (t137.length : Int) := of_decide_eq_true (by first | (with_reducible assumption) | assumption); obtain ⟨ad149, A149_1, c149_1, e149, hx149_0, hx149_1, hl149_1, hi149_1⟩ := at_T34 (Kd.S_reads' HO140.out).2.2 0 p149 q149; cases e149; obtain ⟨ce149, hce149, hMe149, hcc149⟩ := Kd.S_get HO140.out z34 0 p149 (by first | exact q149 | exact of_decide_eq_true (by first | (with_reducible assumption) | assumption) | (have e_ := (Kd.S_reads' HO140.out).1; omega)); obtain ⟨ve149_1, rfl, ge149_1⟩ := k34_openM hMe149; have hv149_1 := hcc149 1 _ rfl; rw [add_field _ _ 1 (by omega)] at hv149_1; replace hv149_1 := Option.some.inj (hv149_1.symm.trans hx149_1); rw [hv149_1] at ge149_1; have HL149_1 := Aside0.mk (show Kd.R k60 60 _ _ _ _ ((rd_T34 t137 0).f1) from ge149_1); clear hv149_1 ge149_1; clear hcc149 hce149; have qi149 : (0 < t137.length) = True := eq_true (by omega); (try rw [show ((0 : Int)).toNat = 0 from rfl] at hx149_0); (try rw [show 0 * 2 = 0 from rfl] at hx149_0); (try rw [Addr.add_zero'] at hx149_0); (try rw [show ((0 : Int)).toNat = 0 from rfl] at hx149_1); (try rw [show 0 * 2 = 0 from rfl] at hx149_1); (try rw [Addr.add_zero'] at hx149_1); have HR149_1 := Aside0.mk hi149_1; have HC149_1 := Aside0.mk hl149_1; clear hi149_1 hl149_1; replace p149 := eq_true p149; replace q149 := eq_true q149; have p150 : 0 ≤ (0 : Int) := (by omega); have q150 : 0 < (((rd_T34 t137 0).f1).length : Int) := of_decide_eq_true (by first | (with_reducible assumption) | assumption); obtain ⟨ad150, e150, hx150_0, hx150_1, hx150_2⟩ := at_T60 (by repeat (first | (with_reducible exact HR149_1.out) | (with_reducible refine Kd.C_alloc ?_ _) | (with_reducible refine Kd.C_drewN ?_ _) | (with_reducible refine Kd.C_drew ?_) | exact HR149_1.out)) 0 p150 q150; cases e150; have qi150 : (0 < ((rd_T34 t137 0).f1).length) = True := eq_true (by omega); (try rw [show ((0 : Int)).toNat = 0 from rfl] at hx150_0); (try rw [show 0 * 3 = 0 from rfl] at hx150_0); (try rw [Addr.add_zero'] at hx150_0); (try rw [show ((0 : Int)).toNat = 0 from rfl] at hx150_1); (try rw [show 0 * 3 = 0 from rfl] at hx150_1); (try rw [Addr.add_zero'] at hx150_1); (try rw [show ((0 : Int)).toNat = 0 from rfl] at hx150_2); (try rw [show 0 * 3 = 0 from rfl] at hx150_2); (try rw [Addr.add_zero'] at hx150_2); replace p150 := eq_true p150; replace q150 := eq_true q150))
                              go_ret
                              exact ⟨by first | rfl | (simp [errW_none, errW_some] <;> rfl) | (simp [*, errW_none, errW_some] <;> rfl), by repeat (first | (with_reducible first | exact HB.out | apply below_alloc | apply pw_below_drewN | apply below_drew1) | exact HB.out)⟩
                          · rw [if_neg c16] at H
                            exact absurd H (by simp)
                        · rw [if_neg c15] at H
                          exact absurd H (by simp)
                      · rw [if_neg c14] at H
                        have c14b0 : ((t137.length : Int) == 1) = false := beq_eq_false_iff_ne.mpr c14
                        have c14b1 : ((t137.length : Int) != 1) = true := bne_iff_ne.mpr c14
                        obtain rfl := Option.some.inj H
                        go_enter Tryd.func14, Tryd.ntmps14
                        go_wp2_with (first | ((with_reducible refine gate_callee (f := 15) rfl ?_); refine goesL_ (some 8) rfl rfl Tryd.func15 (by kernel_rfl) rfl #[.string (⟨#[117, 103, 43, 114, 88, 44, 111, 61]⟩ : ByteArray)] rfl (by (try simp only [List.map_toArray, List.map_cons, List.map_nil]); first | done | rfl | (simp only [List.length_drop, List.length_take]; rfl)) ?_; (with_reducible refine (clause_Parse.calls k (⟨#[117, 103, 43, 114, 88, 44, 111, 61]⟩ : ByteArray) t133 t134 _ A1.out).mono ?_); rintro e w30 ⟨v135, rfl, ho0, hb⟩; refine ⟨_, rfl, ?_⟩; have n0_ := Aside0.mk (Kd.S_lower ho0 (below_size (by repeat (first | (with_reducible first | exact HB.out | apply below_alloc | apply pw_below_drewN | apply below_drew1) | exact HB.out)))); have n1_ := Aside0.mk (below_step (by repeat (first | (with_reducible first | exact HB.out | apply below_alloc | apply pw_below_drewN | apply below_drew1) | exact HB.out)) hb); clear HB; have HO136 := n0_; have HB := n1_; clear n0_ n1_; (try clear hb); (try clear hb2); (try clear hk); (try clear hi); (try clear ho0)) | ((with_reducible refine gate_callee (f := 15) rfl ?_); refine goesL_ (some 12) rfl rfl Tryd.func15 (by kernel_rfl) rfl #[.string (⟨#[117, 61, 103, 45, 120]⟩ : ByteArray)] rfl (by (try simp only [List.map_toArray, List.map_cons, List.map_nil]); first | done | rfl | (simp only [List.length_drop, List.length_take]; rfl)) ?_; (with_reducible refine (clause_Parse.calls k (⟨#[117, 61, 103, 45, 120]⟩ : ByteArray) t137 t138 _ A2.out).mono ?_); rintro e w31 ⟨v139, rfl, ho0, hb⟩; refine ⟨_, rfl, ?_⟩; have n0_ := Aside0.mk (Kd.S_elder' (by (with_reducible repeat (first | apply Kd.S_alloc | apply Kd.S_drewN | apply Kd.S_drew)); exact HO136.out) (Kd.S_base ho0) hb); have n1_ := Aside0.mk (Kd.S_lower (Kd.S_new' ho0 (Kd.S_lt (by (with_reducible repeat (first | apply Kd.S_alloc | apply Kd.S_drewN | apply Kd.S_drew)); exact HO136.out))) (below_size (by repeat (first | (with_reducible first | exact HB.out | apply below_alloc | apply pw_below_drewN | apply below_drew1) | exact HB.out)))); have n2_ := Aside0.mk (below_step (by repeat (first | (with_reducible first | exact HB.out | apply below_alloc | apply pw_below_drewN | apply below_drew1) | exact HB.out)) hb); clear HO136; clear HB; have HO136 := n0_; have HO140 := n1_; have HB := n2_; clear n0_ n1_ n2_; (try clear hb); (try clear hb2); (try clear hk); (try clear hi); (try clear ho0)) | ((with_reducible refine gate_callee (f := 15) rfl ?_); refine goesL_ (some 16) rfl rfl Tryd.func15 (by kernel_rfl) rfl #[.string (⟨#[43, 114, 103]⟩ : ByteArray)] rfl (by (try simp only [List.map_toArray, List.map_cons, List.map_nil]); first | done | rfl | (simp only [List.length_drop, List.length_take]; rfl)) ?_; (with_reducible refine (clause_Parse.calls k (⟨#[43, 114, 103]⟩ : ByteArray) t141 t142 _ A3.out).mono ?_); rintro e w32 ⟨v143, rfl, ho0, hb⟩; refine ⟨_, rfl, ?_⟩; have n0_ := Aside0.mk (Kd.S_elder' (by (with_reducible repeat (first | apply Kd.S_alloc | apply Kd.S_drewN | apply Kd.S_drew)); exact HO136.out) (Kd.S_base ho0) hb); have n1_ := Aside0.mk (Kd.S_elder' (by (with_reducible repeat (first | apply Kd.S_alloc | apply Kd.S_drewN | apply Kd.S_drew)); exact HO140.out) (Kd.S_base ho0) hb); have n2_ := Aside0.mk (Kd.S_lower (Kd.S_new' (Kd.S_new' ho0 (Kd.S_lt (by (with_reducible repeat (first | apply Kd.S_alloc | apply Kd.S_drewN | apply Kd.S_drew)); exact HO136.out))) (Kd.S_lt (by (with_reducible repeat (first | apply Kd.S_alloc | apply Kd.S_drewN | apply Kd.S_drew)); exact HO140.out))) (below_size (by repeat (first | (with_reducible first | exact HB.out | apply below_alloc | apply pw_below_drewN | apply below_drew1) | exact HB.out)))); have n3_ := Aside0.mk (below_step (by repeat (first | (with_reducible first | exact HB.out | apply below_alloc | apply pw_below_drewN | apply below_drew1) | exact HB.out)) hb); clear HO136; clear HO140; clear HB; have HO136 := n0_; have HO140 := n1_; have HO144 := n2_; have HB := n3_; clear n0_ n1_ n2_ n3_; (try clear hb); (try clear hb2); (try clear hk); (try clear hi); (try clear ho0); obtain ⟨Ao33, co33, eo33⟩ := Kd.S_slice HO136.out; subst eo33; have p145 : 0 ≤ (0 : Int) := (by omega); have q145 : 0 < (t133.length : Int) := of_decide_eq_true (by first | (with_reducible assumption) | assumption); obtain ⟨ad145, A145_1, c145_1, e145, hx145_0, hx145_1, hl145_1, hi145_1⟩ := at_T34 (Kd.S_reads' HO136.out).2.2 0 p145 q145; cases e145; obtain ⟨ce145, hce145, hMe145, hcc145⟩ := Kd.S_get HO136.out z34 0 p145 (by first | exact q145 | exact of_decide_eq_true (by first | (with_reducible assumption) | assumption) | (have e_ := (Kd.S_reads' HO136.out).1; omega)); obtain ⟨ve145_1, rfl, ge145_1⟩ := k34_openM hMe145; have hv145_1 := hcc145 1 _ rfl; rw [add_field _ _ 1 (by omega)] at hv145_1; replace hv145_1 := Option.some.inj (hv145_1.symm.trans hx145_1); rw [hv145_1] at ge145_1; have HL145_1 := Aside0.mk (show Kd.R k60 60 _ _ _ _ ((rd_T34 t133 0).f1) from ge145_1); clear hv145_1 ge145_1; clear hcc145 hce145; have qi145 : (0 < t133.length) = True := eq_true (by omega); (try rw [show ((0 : Int)).toNat = 0 from rfl] at hx145_0); (try rw [show 0 * 2 = 0 from rfl] at hx145_0); (try rw [Addr.add_zero'] at hx145_0); (try rw [show ((0 : Int)).toNat = 0 from rfl] at hx145_1); (try rw [show 0 * 2 = 0 from rfl] at hx145_1); (try rw [Addr.add_zero'] at hx145_1); have HR145_1 := Aside0.mk hi145_1; have HC145_1 := Aside0.mk hl145_1; clear hi145_1 hl145_1; replace p145 := eq_true p145; replace q145 := eq_true q145; have p146 : 0 ≤ (0 : Int) := (by omega); have q146 : 0 < (t133.length : Int) := of_decide_eq_true (by first | (with_reducible assumption) | assumption); obtain ⟨ad146, A146_1, c146_1, e146, hx146_0, hx146_1, hl146_1, hi146_1⟩ := at_T34 (Kd.S_reads' HO136.out).2.2 0 p146 q146; obtain rfl : ad145 = ad146 := (by injection e146); obtain ⟨ce146, hce146, hMe146, hcc146⟩ := Kd.S_get HO136.out z34 0 p146 (by first | exact q146 | exact of_decide_eq_true (by first | (with_reducible assumption) | assumption) | (have e_ := (Kd.S_reads' HO136.out).1; omega)); obtain ⟨ve146_1, rfl, ge146_1⟩ := k34_openM hMe146; have hv146_1 := hcc146 1 _ rfl; rw [add_field _ _ 1 (by omega)] at hv146_1; replace hv146_1 := Option.some.inj (hv146_1.symm.trans hx146_1); rw [hv146_1] at ge146_1; have HL146_1 := Aside0.mk (show Kd.R k60 60 _ _ _ _ ((rd_T34 t133 0).f1) from ge146_1); clear hv146_1 ge146_1; clear hcc146 hce146; have qi146 : (0 < t133.length) = True := eq_true (by omega); (try rw [show ((0 : Int)).toNat = 0 from rfl] at hx146_0); (try rw [show 0 * 2 = 0 from rfl] at hx146_0); (try rw [Addr.add_zero'] at hx146_0); (try rw [show ((0 : Int)).toNat = 0 from rfl] at hx146_1); (try rw [show 0 * 2 = 0 from rfl] at hx146_1); (try rw [Addr.add_zero'] at hx146_1); have HR146_1 := Aside0.mk hi146_1; have HC146_1 := Aside0.mk hl146_1; clear hi146_1 hl146_1; replace p146 := eq_true p146; replace q146 := eq_true q146; have ea_ := Option.some.inj (hx145_1.symm.trans hx146_1); injection ea_ with ea_ en_ ec_; subst ea_; subst ec_; clear en_; have p147 : 0 ≤ (0 : Int) := (by omega); have q147 : 0 < (((rd_T34 t133 0).f1).length : Int) := of_decide_eq_true (by first | (with_reducible assumption) | assumption); obtain ⟨ad147, e147, hx147_0, hx147_1, hx147_2⟩ := at_T60 (by repeat (first | (with_reducible exact HR146_1.out) | (with_reducible refine Kd.C_alloc ?_ _) | (with_reducible refine Kd.C_drewN ?_ _) | (with_reducible refine Kd.C_drew ?_) | exact HR146_1.out)) 0 p147 q147; cases e147; have qi147 : (0 < ((rd_T34 t133 0).f1).length) = True := eq_true (by omega); (try rw [show ((0 : Int)).toNat = 0 from rfl] at hx147_0); (try rw [show 0 * 3 = 0 from rfl] at hx147_0); (try rw [Addr.add_zero'] at hx147_0); (try rw [show ((0 : Int)).toNat = 0 from rfl] at hx147_1); (try rw [show 0 * 3 = 0 from rfl] at hx147_1); (try rw [Addr.add_zero'] at hx147_1); (try rw [show ((0 : Int)).toNat = 0 from rfl] at hx147_2); (try rw [show 0 * 3 = 0 from rfl] at hx147_2); (try rw [Addr.add_zero'] at hx147_2); replace p147 := eq_true p147; replace q147 := eq_true q147; have p148 : 0 ≤ (1 : Int) := (by omega); have q148 : 1 < (t133.length : Int) := of_decide_eq_true (by first | (with_reducible assumption) | assumption); obtain ⟨ad148, A148_1, c148_1, e148, hx148_0, hx148_1, hl148_1, hi148_1⟩ := at_T34 (Kd.S_reads' HO136.out).2.2 1 p148 q148; obtain rfl : ad145 = ad148 := (by injection e148); obtain ⟨ce148, hce148, hMe148, hcc148⟩ := Kd.S_get HO136.out z34 1 p148 (by first | exact q148 | exact of_decide_eq_true (by first | (with_reducible assumption) | assumption) | (have e_ := (Kd.S_reads' HO136.out).1; omega)); obtain ⟨ve148_1, rfl, ge148_1⟩ := k34_openM hMe148; have hv148_1 := hcc148 1 _ rfl; rw [add_field _ _ 1 (by omega)] at hv148_1; replace hv148_1 := Option.some.inj (hv148_1.symm.trans hx148_1); rw [hv148_1] at ge148_1; have HL148_1 := Aside0.mk (show Kd.R k60 60 _ _ _ _ ((rd_T34 t133 1).f1) from ge148_1); clear hv148_1 ge148_1; clear hcc148 hce148; (try simp only [show (1 : Int).toNat = 1 from rfl, Nat.reduceMul, Nat.reduceEqDiff, Go.Addr.add, ↓reduceIte] at hx148_0); (try simp only [show (1 : Int).toNat = 1 from rfl, Nat.reduceMul, Nat.reduceEqDiff, Go.Addr.add, ↓reduceIte] at hx148_1); have qi148 : (1 < t133.length) = True := eq_true (by omega); (try rw [show ((1 : Int)).toNat = 1 from rfl] at hx148_0); (try rw [show 1 * 2 = 2 from rfl] at hx148_0); (try rw [show ((1 : Int)).toNat = 1 from rfl] at hx148_1); (try rw [show 1 * 2 = 2 from rfl] at hx148_1); have HR148_1 := Aside0.mk hi148_1; have HC148_1 := Aside0.mk hl148_1; clear hi148_1 hl148_1; replace p148 := eq_true p148; replace q148 := eq_true q148; obtain ⟨Ao34, co34, eo34⟩ := Kd.S_slice HO140.out; subst eo34))
                        go_ret
                        exact ⟨by first | rfl | (simp [errW_none, errW_some] <;> rfl) | (simp [*, errW_none, errW_some] <;> rfl), by repeat (first | (with_reducible first | exact HB.out | apply below_alloc | apply pw_below_drewN | apply below_drew1) | exact HB.out)⟩
                    · rw [if_neg c13] at H
                      have c13b0 : (((rd_T34 t133 1).f0) == 4) = false := beq_eq_false_iff_ne.mpr c13
                      have c13b1 : (((rd_T34 t133 1).f0) != 4) = true := bne_iff_ne.mpr c13
                      obtain rfl := Option.some.inj H
                      go_enter Tryd.func14, Tryd.ntmps14
                      go_wp2_with (first | ((with_reducible refine gate_callee (f := 15) rfl ?_); refine goesL_ (some 8) rfl rfl Tryd.func15 (by kernel_rfl) rfl #[.string (⟨#[117, 103, 43, 114, 88, 44, 111, 61]⟩ : ByteArray)] rfl (by (try simp only [List.map_toArray, List.map_cons, List.map_nil]); first | done | rfl | (simp only [List.length_drop, List.length_take]; rfl)) ?_; (with_reducible refine (clause_Parse.calls k (⟨#[117, 103, 43, 114, 88, 44, 111, 61]⟩ : ByteArray) t133 t134 _ A1.out).mono ?_); rintro e w35 ⟨v135, rfl, ho0, hb⟩; refine ⟨_, rfl, ?_⟩; have n0_ := Aside0.mk (Kd.S_lower ho0 (below_size (by repeat (first | (with_reducible first | exact HB.out | apply below_alloc | apply pw_below_drewN | apply below_drew1) | exact HB.out)))); have n1_ := Aside0.mk (below_step (by repeat (first | (with_reducible first | exact HB.out | apply below_alloc | apply pw_below_drewN | apply below_drew1) | exact HB.out)) hb); clear HB; have HO136 := n0_; have HB := n1_; clear n0_ n1_; (try clear hb); (try clear hb2); (try clear hk); (try clear hi); (try clear ho0)) | ((with_reducible refine gate_callee (f := 15) rfl ?_); refine goesL_ (some 12) rfl rfl Tryd.func15 (by kernel_rfl) rfl #[.string (⟨#[117, 61, 103, 45, 120]⟩ : ByteArray)] rfl (by (try simp only [List.map_toArray, List.map_cons, List.map_nil]); first | done | rfl | (simp only [List.length_drop, List.length_take]; rfl)) ?_; (with_reducible refine (clause_Parse.calls k (⟨#[117, 61, 103, 45, 120]⟩ : ByteArray) t137 t138 _ A2.out).mono ?_); rintro e w36 ⟨v139, rfl, ho0, hb⟩; refine ⟨_, rfl, ?_⟩; have n0_ := Aside0.mk (Kd.S_elder' (by (with_reducible repeat (first | apply Kd.S_alloc | apply Kd.S_drewN | apply Kd.S_drew)); exact HO136.out) (Kd.S_base ho0) hb); have n1_ := Aside0.mk (Kd.S_lower (Kd.S_new' ho0 (Kd.S_lt (by (with_reducible repeat (first | apply Kd.S_alloc | apply Kd.S_drewN | apply Kd.S_drew)); exact HO136.out))) (below_size (by repeat (first | (with_reducible first | exact HB.out | apply below_alloc | apply pw_below_drewN | apply below_drew1) | exact HB.out)))); have n2_ := Aside0.mk (below_step (by repeat (first | (with_reducible first | exact HB.out | apply below_alloc | apply pw_below_drewN | apply below_drew1) | exact HB.out)) hb); clear HO136; clear HB; have HO136 := n0_; have HO140 := n1_; have HB := n2_; clear n0_ n1_ n2_; (try clear hb); (try clear hb2); (try clear hk); (try clear hi); (try clear ho0)) | ((with_reducible refine gate_callee (f := 15) rfl ?_); refine goesL_ (some 16) rfl rfl Tryd.func15 (by kernel_rfl) rfl #[.string (⟨#[43, 114, 103]⟩ : ByteArray)] rfl (by (try simp only [List.map_toArray, List.map_cons, List.map_nil]); first | done | rfl | (simp only [List.length_drop, List.length_take]; rfl)) ?_; (with_reducible refine (clause_Parse.calls k (⟨#[43, 114, 103]⟩ : ByteArray) t141 t142 _ A3.out).mono ?_); rintro e w37 ⟨v143, rfl, ho0, hb⟩; refine ⟨_, rfl, ?_⟩; have n0_ := Aside0.mk (Kd.S_elder' (by (with_reducible repeat (first | apply Kd.S_alloc | apply Kd.S_drewN | apply Kd.S_drew)); exact HO136.out) (Kd.S_base ho0) hb); have n1_ := Aside0.mk (Kd.S_elder' (by (with_reducible repeat (first | apply Kd.S_alloc | apply Kd.S_drewN | apply Kd.S_drew)); exact HO140.out) (Kd.S_base ho0) hb); have n2_ := Aside0.mk (Kd.S_lower (Kd.S_new' (Kd.S_new' ho0 (Kd.S_lt (by (with_reducible repeat (first | apply Kd.S_alloc | apply Kd.S_drewN | apply Kd.S_drew)); exact HO136.out))) (Kd.S_lt (by (with_reducible repeat (first | apply Kd.S_alloc | apply Kd.S_drewN | apply Kd.S_drew)); exact HO140.out))) (below_size (by repeat (first | (with_reducible first | exact HB.out | apply below_alloc | apply pw_below_drewN | apply below_drew1) | exact HB.out)))); have n3_ := Aside0.mk (below_step (by repeat (first | (with_reducible first | exact HB.out | apply below_alloc | apply pw_below_drewN | apply below_drew1) | exact HB.out)) hb); clear HO136; clear HO140; clear HB; have HO136 := n0_; have HO140 := n1_; have HO144 := n2_; have HB := n3_; clear n0_ n1_ n2_ n3_; (try clear hb); (try clear hb2); (try clear hk); (try clear hi); (try clear ho0); obtain ⟨Ao38, co38, eo38⟩ := Kd.S_slice HO136.out; subst eo38; have p145 : 0 ≤ (0 : Int) := (by omega); have q145 : 0 < (t133.length : Int) := of_decide_eq_true (by first | (with_reducible assumption) | assumption); obtain ⟨ad145, A145_1, c145_1, e145, hx145_0, hx145_1, hl145_1, hi145_1⟩ := at_T34 (Kd.S_reads' HO136.out).2.2 0 p145 q145; cases e145; obtain ⟨ce145, hce145, hMe145, hcc145⟩ := Kd.S_get HO136.out z34 0 p145 (by first | exact q145 | exact of_decide_eq_true (by first | (with_reducible assumption) | assumption) | (have e_ := (Kd.S_reads' HO136.out).1; omega)); obtain ⟨ve145_1, rfl, ge145_1⟩ := k34_openM hMe145; have hv145_1 := hcc145 1 _ rfl; rw [add_field _ _ 1 (by omega)] at hv145_1; replace hv145_1 := Option.some.inj (hv145_1.symm.trans hx145_1); rw [hv145_1] at ge145_1; have HL145_1 := Aside0.mk (show Kd.R k60 60 _ _ _ _ ((rd_T34 t133 0).f1) from ge145_1); clear hv145_1 ge145_1; clear hcc145 hce145; have qi145 : (0 < t133.length) = True := eq_true (by omega); (try rw [show ((0 : Int)).toNat = 0 from rfl] at hx145_0); (try rw [show 0 * 2 = 0 from rfl] at hx145_0); (try rw [Addr.add_zero'] at hx145_0); (try rw [show ((0 : Int)).toNat = 0 from rfl] at hx145_1); (try rw [show 0 * 2 = 0 from rfl] at hx145_1); (try rw [Addr.add_zero'] at hx145_1); have HR145_1 := Aside0.mk hi145_1; have HC145_1 := Aside0.mk hl145_1; clear hi145_1 hl145_1; replace p145 := eq_true p145; replace q145 := eq_true q145; have p146 : 0 ≤ (0 : Int) := (by omega); have q146 : 0 < (t133.length : Int) := of_decide_eq_true (by first | (with_reducible assumption) | assumption); obtain ⟨ad146, A146_1, c146_1, e146, hx146_0, hx146_1, hl146_1, hi146_1⟩ := at_T34 (Kd.S_reads' HO136.out).2.2 0 p146 q146; obtain rfl : ad145 = ad146 := (by injection e146); obtain ⟨ce146, hce146, hMe146, hcc146⟩ := Kd.S_get HO136.out z34 0 p146 (by first | exact q146 | exact of_decide_eq_true (by first | (with_reducible assumption) | assumption) | (have e_ := (Kd.S_reads' HO136.out).1; omega)); obtain ⟨ve146_1, rfl, ge146_1⟩ := k34_openM hMe146; have hv146_1 := hcc146 1 _ rfl; rw [add_field _ _ 1 (by omega)] at hv146_1; replace hv146_1 := Option.some.inj (hv146_1.symm.trans hx146_1); rw [hv146_1] at ge146_1; have HL146_1 := Aside0.mk (show Kd.R k60 60 _ _ _ _ ((rd_T34 t133 0).f1) from ge146_1); clear hv146_1 ge146_1; clear hcc146 hce146; have qi146 : (0 < t133.length) = True := eq_true (by omega); (try rw [show ((0 : Int)).toNat = 0 from rfl] at hx146_0); (try rw [show 0 * 2 = 0 from rfl] at hx146_0); (try rw [Addr.add_zero'] at hx146_0); (try rw [show ((0 : Int)).toNat = 0 from rfl] at hx146_1); (try rw [show 0 * 2 = 0 from rfl] at hx146_1); (try rw [Addr.add_zero'] at hx146_1); have HR146_1 := Aside0.mk hi146_1; have HC146_1 := Aside0.mk hl146_1; clear hi146_1 hl146_1; replace p146 := eq_true p146; replace q146 := eq_true q146; have ea_ := Option.some.inj (hx145_1.symm.trans hx146_1); injection ea_ with ea_ en_ ec_; subst ea_; subst ec_; clear en_; have p147 : 0 ≤ (0 : Int) := (by omega); have q147 : 0 < (((rd_T34 t133 0).f1).length : Int) := of_decide_eq_true (by first | (with_reducible assumption) | assumption); obtain ⟨ad147, e147, hx147_0, hx147_1, hx147_2⟩ := at_T60 (by repeat (first | (with_reducible exact HR146_1.out) | (with_reducible refine Kd.C_alloc ?_ _) | (with_reducible refine Kd.C_drewN ?_ _) | (with_reducible refine Kd.C_drew ?_) | exact HR146_1.out)) 0 p147 q147; cases e147; have qi147 : (0 < ((rd_T34 t133 0).f1).length) = True := eq_true (by omega); (try rw [show ((0 : Int)).toNat = 0 from rfl] at hx147_0); (try rw [show 0 * 3 = 0 from rfl] at hx147_0); (try rw [Addr.add_zero'] at hx147_0); (try rw [show ((0 : Int)).toNat = 0 from rfl] at hx147_1); (try rw [show 0 * 3 = 0 from rfl] at hx147_1); (try rw [Addr.add_zero'] at hx147_1); (try rw [show ((0 : Int)).toNat = 0 from rfl] at hx147_2); (try rw [show 0 * 3 = 0 from rfl] at hx147_2); (try rw [Addr.add_zero'] at hx147_2); replace p147 := eq_true p147; replace q147 := eq_true q147; have p148 : 0 ≤ (1 : Int) := (by omega); have q148 : 1 < (t133.length : Int) := of_decide_eq_true (by first | (with_reducible assumption) | assumption); obtain ⟨ad148, A148_1, c148_1, e148, hx148_0, hx148_1, hl148_1, hi148_1⟩ := at_T34 (Kd.S_reads' HO136.out).2.2 1 p148 q148; obtain rfl : ad145 = ad148 := (by injection e148); obtain ⟨ce148, hce148, hMe148, hcc148⟩ := Kd.S_get HO136.out z34 1 p148 (by first | exact q148 | exact of_decide_eq_true (by first | (with_reducible assumption) | assumption) | (have e_ := (Kd.S_reads' HO136.out).1; omega)); obtain ⟨ve148_1, rfl, ge148_1⟩ := k34_openM hMe148; have hv148_1 := hcc148 1 _ rfl; rw [add_field _ _ 1 (by omega)] at hv148_1; replace hv148_1 := Option.some.inj (hv148_1.symm.trans hx148_1); rw [hv148_1] at ge148_1; have HL148_1 := Aside0.mk (show Kd.R k60 60 _ _ _ _ ((rd_T34 t133 1).f1) from ge148_1); clear hv148_1 ge148_1; clear hcc148 hce148; (try simp only [show (1 : Int).toNat = 1 from rfl, Nat.reduceMul, Nat.reduceEqDiff, Go.Addr.add, ↓reduceIte] at hx148_0); (try simp only [show (1 : Int).toNat = 1 from rfl, Nat.reduceMul, Nat.reduceEqDiff, Go.Addr.add, ↓reduceIte] at hx148_1); have qi148 : (1 < t133.length) = True := eq_true (by omega); (try rw [show ((1 : Int)).toNat = 1 from rfl] at hx148_0); (try rw [show 1 * 2 = 2 from rfl] at hx148_0); (try rw [show ((1 : Int)).toNat = 1 from rfl] at hx148_1); (try rw [show 1 * 2 = 2 from rfl] at hx148_1); have HR148_1 := Aside0.mk hi148_1; have HC148_1 := Aside0.mk hl148_1; clear hi148_1 hl148_1; replace p148 := eq_true p148; replace q148 := eq_true q148))
                      go_ret
                      exact ⟨by first | rfl | (simp [errW_none, errW_some] <;> rfl) | (simp [*, errW_none, errW_some] <;> rfl), by repeat (first | (with_reducible first | exact HB.out | apply below_alloc | apply pw_below_drewN | apply below_drew1) | exact HB.out)⟩
                  · rw [if_neg c12] at H
                    exact absurd H (by simp)
                · rw [if_neg c11] at H
                  have c11b0 : (((rd_T60 ((rd_T34 t133 0).f1) 0).f0) == 43 && (((rd_T60 ((rd_T34 t133 0).f1) 0).f1) == 12 && (((rd_T60 ((rd_T34 t133 0).f1) 0).f2) == 0))) = false := by simpa using c11
                  (try (have c11b1 : decide (((rd_T60 ((rd_T34 t133 0).f1) 0).f0) = 43 && (((rd_T60 ((rd_T34 t133 0).f1) 0).f1) == 12 && (((rd_T60 ((rd_T34 t133 0).f1) 0).f2) == 0))) = false := by simpa using c11))
                  (try (have c11b2 : (((rd_T60 ((rd_T34 t133 0).f1) 0).f0) == 43 && (((rd_T60 ((rd_T34 t133 0).f1) 0).f1) == 12 && (((rd_T60 ((rd_T34 t133 0).f1) 0).f2) == 0))) = false := by simpa using c11))
                  (try (have c11b3 : ¬ (((rd_T60 ((rd_T34 t133 0).f1) 0).f0) = 43 && (((rd_T60 ((rd_T34 t133 0).f1) 0).f1) == 12 && (((rd_T60 ((rd_T34 t133 0).f1) 0).f2) == 0))) := by simpa using c11))
                  clear c11
                  obtain rfl := Option.some.inj H
                  go_enter Tryd.func14, Tryd.ntmps14
                  go_wp2_with (first | ((with_reducible refine gate_callee (f := 15) rfl ?_); refine goesL_ (some 8) rfl rfl Tryd.func15 (by kernel_rfl) rfl #[.string (⟨#[117, 103, 43, 114, 88, 44, 111, 61]⟩ : ByteArray)] rfl (by (try simp only [List.map_toArray, List.map_cons, List.map_nil]); first | done | rfl | (simp only [List.length_drop, List.length_take]; rfl)) ?_; (with_reducible refine (clause_Parse.calls k (⟨#[117, 103, 43, 114, 88, 44, 111, 61]⟩ : ByteArray) t133 t134 _ A1.out).mono ?_); rintro e w39 ⟨v135, rfl, ho0, hb⟩; refine ⟨_, rfl, ?_⟩; have n0_ := Aside0.mk (Kd.S_lower ho0 (below_size (by repeat (first | (with_reducible first | exact HB.out | apply below_alloc | apply pw_below_drewN | apply below_drew1) | exact HB.out)))); have n1_ := Aside0.mk (below_step (by repeat (first | (with_reducible first | exact HB.out | apply below_alloc | apply pw_below_drewN | apply below_drew1) | exact HB.out)) hb); clear HB; have HO136 := n0_; have HB := n1_; clear n0_ n1_; (try clear hb); (try clear hb2); (try clear hk); (try clear hi); (try clear ho0)) | ((with_reducible refine gate_callee (f := 15) rfl ?_); refine goesL_ (some 12) rfl rfl Tryd.func15 (by kernel_rfl) rfl #[.string (⟨#[117, 61, 103, 45, 120]⟩ : ByteArray)] rfl (by (try simp only [List.map_toArray, List.map_cons, List.map_nil]); first | done | rfl | (simp only [List.length_drop, List.length_take]; rfl)) ?_; (with_reducible refine (clause_Parse.calls k (⟨#[117, 61, 103, 45, 120]⟩ : ByteArray) t137 t138 _ A2.out).mono ?_); rintro e w40 ⟨v139, rfl, ho0, hb⟩; refine ⟨_, rfl, ?_⟩; have n0_ := Aside0.mk (Kd.S_elder' (by (with_reducible repeat (first | apply Kd.S_alloc | apply Kd.S_drewN | apply Kd.S_drew)); exact HO136.out) (Kd.S_base ho0) hb); have n1_ := Aside0.mk (Kd.S_lower (Kd.S_new' ho0 (Kd.S_lt (by (with_reducible repeat (first | apply Kd.S_alloc | apply Kd.S_drewN | apply Kd.S_drew)); exact HO136.out))) (below_size (by repeat (first | (with_reducible first | exact HB.out | apply below_alloc | apply pw_below_drewN | apply below_drew1) | exact HB.out)))); have n2_ := Aside0.mk (below_step (by repeat (first | (with_reducible first | exact HB.out | apply below_alloc | apply pw_below_drewN | apply below_drew1) | exact HB.out)) hb); clear HO136; clear HB; have HO136 := n0_; have HO140 := n1_; have HB := n2_; clear n0_ n1_ n2_; (try clear hb); (try clear hb2); (try clear hk); (try clear hi); (try clear ho0)) | ((with_reducible refine gate_callee (f := 15) rfl ?_); refine goesL_ (some 16) rfl rfl Tryd.func15 (by kernel_rfl) rfl #[.string (⟨#[43, 114, 103]⟩ : ByteArray)] rfl (by (try simp only [List.map_toArray, List.map_cons, List.map_nil]); first | done | rfl | (simp only [List.length_drop, List.length_take]; rfl)) ?_; (with_reducible refine (clause_Parse.calls k (⟨#[43, 114, 103]⟩ : ByteArray) t141 t142 _ A3.out).mono ?_); rintro e w41 ⟨v143, rfl, ho0, hb⟩; refine ⟨_, rfl, ?_⟩; have n0_ := Aside0.mk (Kd.S_elder' (by (with_reducible repeat (first | apply Kd.S_alloc | apply Kd.S_drewN | apply Kd.S_drew)); exact HO136.out) (Kd.S_base ho0) hb); have n1_ := Aside0.mk (Kd.S_elder' (by (with_reducible repeat (first | apply Kd.S_alloc | apply Kd.S_drewN | apply Kd.S_drew)); exact HO140.out) (Kd.S_base ho0) hb); have n2_ := Aside0.mk (Kd.S_lower (Kd.S_new' (Kd.S_new' ho0 (Kd.S_lt (by (with_reducible repeat (first | apply Kd.S_alloc | apply Kd.S_drewN | apply Kd.S_drew)); exact HO136.out))) (Kd.S_lt (by (with_reducible repeat (first | apply Kd.S_alloc | apply Kd.S_drewN | apply Kd.S_drew)); exact HO140.out))) (below_size (by repeat (first | (with_reducible first | exact HB.out | apply below_alloc | apply pw_below_drewN | apply below_drew1) | exact HB.out)))); have n3_ := Aside0.mk (below_step (by repeat (first | (with_reducible first | exact HB.out | apply below_alloc | apply pw_below_drewN | apply below_drew1) | exact HB.out)) hb); clear HO136; clear HO140; clear HB; have HO136 := n0_; have HO140 := n1_; have HO144 := n2_; have HB := n3_; clear n0_ n1_ n2_ n3_; (try clear hb); (try clear hb2); (try clear hk); (try clear hi); (try clear ho0); obtain ⟨Ao42, co42, eo42⟩ := Kd.S_slice HO136.out; subst eo42; have p145 : 0 ≤ (0 : Int) := (by omega); have q145 : 0 < (t133.length : Int) := of_decide_eq_true (by first | (with_reducible assumption) | assumption); obtain ⟨ad145, A145_1, c145_1, e145, hx145_0, hx145_1, hl145_1, hi145_1⟩ := at_T34 (Kd.S_reads' HO136.out).2.2 0 p145 q145; cases e145; obtain ⟨ce145, hce145, hMe145, hcc145⟩ := Kd.S_get HO136.out z34 0 p145 (by first | exact q145 | exact of_decide_eq_true (by first | (with_reducible assumption) | assumption) | (have e_ := (Kd.S_reads' HO136.out).1; omega)); obtain ⟨ve145_1, rfl, ge145_1⟩ := k34_openM hMe145; have hv145_1 := hcc145 1 _ rfl; rw [add_field _ _ 1 (by omega)] at hv145_1; replace hv145_1 := Option.some.inj (hv145_1.symm.trans hx145_1); rw [hv145_1] at ge145_1; have HL145_1 := Aside0.mk (show Kd.R k60 60 _ _ _ _ ((rd_T34 t133 0).f1) from ge145_1); clear hv145_1 ge145_1; clear hcc145 hce145; have qi145 : (0 < t133.length) = True := eq_true (by omega); (try rw [show ((0 : Int)).toNat = 0 from rfl] at hx145_0); (try rw [show 0 * 2 = 0 from rfl] at hx145_0); (try rw [Addr.add_zero'] at hx145_0); (try rw [show ((0 : Int)).toNat = 0 from rfl] at hx145_1); (try rw [show 0 * 2 = 0 from rfl] at hx145_1); (try rw [Addr.add_zero'] at hx145_1); have HR145_1 := Aside0.mk hi145_1; have HC145_1 := Aside0.mk hl145_1; clear hi145_1 hl145_1; replace p145 := eq_true p145; replace q145 := eq_true q145; have p146 : 0 ≤ (0 : Int) := (by omega); have q146 : 0 < (t133.length : Int) := of_decide_eq_true (by first | (with_reducible assumption) | assumption); obtain ⟨ad146, A146_1, c146_1, e146, hx146_0, hx146_1, hl146_1, hi146_1⟩ := at_T34 (Kd.S_reads' HO136.out).2.2 0 p146 q146; obtain rfl : ad145 = ad146 := (by injection e146); obtain ⟨ce146, hce146, hMe146, hcc146⟩ := Kd.S_get HO136.out z34 0 p146 (by first | exact q146 | exact of_decide_eq_true (by first | (with_reducible assumption) | assumption) | (have e_ := (Kd.S_reads' HO136.out).1; omega)); obtain ⟨ve146_1, rfl, ge146_1⟩ := k34_openM hMe146; have hv146_1 := hcc146 1 _ rfl; rw [add_field _ _ 1 (by omega)] at hv146_1; replace hv146_1 := Option.some.inj (hv146_1.symm.trans hx146_1); rw [hv146_1] at ge146_1; have HL146_1 := Aside0.mk (show Kd.R k60 60 _ _ _ _ ((rd_T34 t133 0).f1) from ge146_1); clear hv146_1 ge146_1; clear hcc146 hce146; have qi146 : (0 < t133.length) = True := eq_true (by omega); (try rw [show ((0 : Int)).toNat = 0 from rfl] at hx146_0); (try rw [show 0 * 2 = 0 from rfl] at hx146_0); (try rw [Addr.add_zero'] at hx146_0); (try rw [show ((0 : Int)).toNat = 0 from rfl] at hx146_1); (try rw [show 0 * 2 = 0 from rfl] at hx146_1); (try rw [Addr.add_zero'] at hx146_1); have HR146_1 := Aside0.mk hi146_1; have HC146_1 := Aside0.mk hl146_1; clear hi146_1 hl146_1; replace p146 := eq_true p146; replace q146 := eq_true q146; have ea_ := Option.some.inj (hx145_1.symm.trans hx146_1); injection ea_ with ea_ en_ ec_; subst ea_; subst ec_; clear en_; have p147 : 0 ≤ (0 : Int) := (by omega); have q147 : 0 < (((rd_T34 t133 0).f1).length : Int) := of_decide_eq_true (by first | (with_reducible assumption) | assumption); obtain ⟨ad147, e147, hx147_0, hx147_1, hx147_2⟩ := at_T60 (by repeat (first | (with_reducible exact HR146_1.out) | (with_reducible refine Kd.C_alloc ?_ _) | (with_reducible refine Kd.C_drewN ?_ _) | (with_reducible refine Kd.C_drew ?_) | exact HR146_1.out)) 0 p147 q147; cases e147; have qi147 : (0 < ((rd_T34 t133 0).f1).length) = True := eq_true (by omega); (try rw [show ((0 : Int)).toNat = 0 from rfl] at hx147_0); (try rw [show 0 * 3 = 0 from rfl] at hx147_0); (try rw [Addr.add_zero'] at hx147_0); (try rw [show ((0 : Int)).toNat = 0 from rfl] at hx147_1); (try rw [show 0 * 3 = 0 from rfl] at hx147_1); (try rw [Addr.add_zero'] at hx147_1); (try rw [show ((0 : Int)).toNat = 0 from rfl] at hx147_2); (try rw [show 0 * 3 = 0 from rfl] at hx147_2); (try rw [Addr.add_zero'] at hx147_2); replace p147 := eq_true p147; replace q147 := eq_true q147))
                  go_ret
                  exact ⟨by first | rfl | (simp [errW_none, errW_some] <;> rfl) | (simp [*, errW_none, errW_some] <;> rfl), by repeat (first | (with_reducible first | exact HB.out | apply below_alloc | apply pw_below_drewN | apply below_drew1) | exact HB.out)⟩
              · rw [if_neg c10] at H
                exact absurd H (by simp)
            · rw [if_neg c9] at H
              have c9b0 : (((rd_T34 t133 0).f0) == 3) = false := beq_eq_false_iff_ne.mpr c9
              have c9b1 : (((rd_T34 t133 0).f0) != 3) = true := bne_iff_ne.mpr c9
              obtain rfl := Option.some.inj H
              go_enter Tryd.func14, Tryd.ntmps14
              go_wp2_with (first | ((with_reducible refine gate_callee (f := 15) rfl ?_); refine goesL_ (some 8) rfl rfl Tryd.func15 (by kernel_rfl) rfl #[.string (⟨#[117, 103, 43, 114, 88, 44, 111, 61]⟩ : ByteArray)] rfl (by (try simp only [List.map_toArray, List.map_cons, List.map_nil]); first | done | rfl | (simp only [List.length_drop, List.length_take]; rfl)) ?_; (with_reducible refine (clause_Parse.calls k (⟨#[117, 103, 43, 114, 88, 44, 111, 61]⟩ : ByteArray) t133 t134 _ A1.out).mono ?_); rintro e w43 ⟨v135, rfl, ho0, hb⟩; refine ⟨_, rfl, ?_⟩; have n0_ := Aside0.mk (Kd.S_lower ho0 (below_size (by repeat (first | (with_reducible first | exact HB.out | apply below_alloc | apply pw_below_drewN | apply below_drew1) | exact HB.out)))); have n1_ := Aside0.mk (below_step (by repeat (first | (with_reducible first | exact HB.out | apply below_alloc | apply pw_below_drewN | apply below_drew1) | exact HB.out)) hb); clear HB; have HO136 := n0_; have HB := n1_; clear n0_ n1_; (try clear hb); (try clear hb2); (try clear hk); (try clear hi); (try clear ho0)) | ((with_reducible refine gate_callee (f := 15) rfl ?_); refine goesL_ (some 12) rfl rfl Tryd.func15 (by kernel_rfl) rfl #[.string (⟨#[117, 61, 103, 45, 120]⟩ : ByteArray)] rfl (by (try simp only [List.map_toArray, List.map_cons, List.map_nil]); first | done | rfl | (simp only [List.length_drop, List.length_take]; rfl)) ?_; (with_reducible refine (clause_Parse.calls k (⟨#[117, 61, 103, 45, 120]⟩ : ByteArray) t137 t138 _ A2.out).mono ?_); rintro e w44 ⟨v139, rfl, ho0, hb⟩; refine ⟨_, rfl, ?_⟩; have n0_ := Aside0.mk (Kd.S_elder' (by (with_reducible repeat (first | apply Kd.S_alloc | apply Kd.S_drewN | apply Kd.S_drew)); exact HO136.out) (Kd.S_base ho0) hb); have n1_ := Aside0.mk (Kd.S_lower (Kd.S_new' ho0 (Kd.S_lt (by (with_reducible repeat (first | apply Kd.S_alloc | apply Kd.S_drewN | apply Kd.S_drew)); exact HO136.out))) (below_size (by repeat (first | (with_reducible first | exact HB.out | apply below_alloc | apply pw_below_drewN | apply below_drew1) | exact HB.out)))); have n2_ := Aside0.mk (below_step (by repeat (first | (with_reducible first | exact HB.out | apply below_alloc | apply pw_below_drewN | apply below_drew1) | exact HB.out)) hb); clear HO136; clear HB; have HO136 := n0_; have HO140 := n1_; have HB := n2_; clear n0_ n1_ n2_; (try clear hb); (try clear hb2); (try clear hk); (try clear hi); (try clear ho0)) | ((with_reducible refine gate_callee (f := 15) rfl ?_); refine goesL_ (some 16) rfl rfl Tryd.func15 (by kernel_rfl) rfl #[.string (⟨#[43, 114, 103]⟩ : ByteArray)] rfl (by (try simp only [List.map_toArray, List.map_cons, List.map_nil]); first | done | rfl | (simp only [List.length_drop, List.length_take]; rfl)) ?_; (with_reducible refine (clause_Parse.calls k (⟨#[43, 114, 103]⟩ : ByteArray) t141 t142 _ A3.out).mono ?_); rintro e w45 ⟨v143, rfl, ho0, hb⟩; refine ⟨_, rfl, ?_⟩; have n0_ := Aside0.mk (Kd.S_elder' (by (with_reducible repeat (first | apply Kd.S_alloc | apply Kd.S_drewN | apply Kd.S_drew)); exact HO136.out) (Kd.S_base ho0) hb); have n1_ := Aside0.mk (Kd.S_elder' (by (with_reducible repeat (first | apply Kd.S_alloc | apply Kd.S_drewN | apply Kd.S_drew)); exact HO140.out) (Kd.S_base ho0) hb); have n2_ := Aside0.mk (Kd.S_lower (Kd.S_new' (Kd.S_new' ho0 (Kd.S_lt (by (with_reducible repeat (first | apply Kd.S_alloc | apply Kd.S_drewN | apply Kd.S_drew)); exact HO136.out))) (Kd.S_lt (by (with_reducible repeat (first | apply Kd.S_alloc | apply Kd.S_drewN | apply Kd.S_drew)); exact HO140.out))) (below_size (by repeat (first | (with_reducible first | exact HB.out | apply below_alloc | apply pw_below_drewN | apply below_drew1) | exact HB.out)))); have n3_ := Aside0.mk (below_step (by repeat (first | (with_reducible first | exact HB.out | apply below_alloc | apply pw_below_drewN | apply below_drew1) | exact HB.out)) hb); clear HO136; clear HO140; clear HB; have HO136 := n0_; have HO140 := n1_; have HO144 := n2_; have HB := n3_; clear n0_ n1_ n2_ n3_; (try clear hb); (try clear hb2); (try clear hk); (try clear hi); (try clear ho0); obtain ⟨Ao46, co46, eo46⟩ := Kd.S_slice HO136.out; subst eo46; have p145 : 0 ≤ (0 : Int) := (by omega); have q145 : 0 < (t133.length : Int) := of_decide_eq_true (by first | (with_reducible assumption) | assumption); obtain ⟨ad145, A145_1, c145_1, e145, hx145_0, hx145_1, hl145_1, hi145_1⟩ := at_T34 (Kd.S_reads' HO136.out).2.2 0 p145 q145; cases e145; obtain ⟨ce145, hce145, hMe145, hcc145⟩ := Kd.S_get HO136.out z34 0 p145 (by first | exact q145 | exact of_decide_eq_true (by first | (with_reducible assumption) | assumption) | (have e_ := (Kd.S_reads' HO136.out).1; omega)); obtain ⟨ve145_1, rfl, ge145_1⟩ := k34_openM hMe145; have hv145_1 := hcc145 1 _ rfl; rw [add_field _ _ 1 (by omega)] at hv145_1; replace hv145_1 := Option.some.inj (hv145_1.symm.trans hx145_1); rw [hv145_1] at ge145_1; have HL145_1 := Aside0.mk (show Kd.R k60 60 _ _ _ _ ((rd_T34 t133 0).f1) from ge145_1); clear hv145_1 ge145_1; clear hcc145 hce145; have qi145 : (0 < t133.length) = True := eq_true (by omega); (try rw [show ((0 : Int)).toNat = 0 from rfl] at hx145_0); (try rw [show 0 * 2 = 0 from rfl] at hx145_0); (try rw [Addr.add_zero'] at hx145_0); (try rw [show ((0 : Int)).toNat = 0 from rfl] at hx145_1); (try rw [show 0 * 2 = 0 from rfl] at hx145_1); (try rw [Addr.add_zero'] at hx145_1); have HR145_1 := Aside0.mk hi145_1; have HC145_1 := Aside0.mk hl145_1; clear hi145_1 hl145_1; replace p145 := eq_true p145; replace q145 := eq_true q145))
              go_ret
              exact ⟨by first | rfl | (simp [errW_none, errW_some] <;> rfl) | (simp [*, errW_none, errW_some] <;> rfl), by repeat (first | (with_reducible first | exact HB.out | apply below_alloc | apply pw_below_drewN | apply below_drew1) | exact HB.out)⟩
          · rw [if_neg c8] at H
            exact absurd H (by simp)
        · rw [if_neg c7] at H
          have c7b0 : ((t133.length : Int) == 2) = false := beq_eq_false_iff_ne.mpr c7
          have c7b1 : ((t133.length : Int) != 2) = true := bne_iff_ne.mpr c7
          obtain rfl := Option.some.inj H
          go_enter Tryd.func14, Tryd.ntmps14
          go_wp2_with (first | ((with_reducible refine gate_callee (f := 15) rfl ?_); refine goesL_ (some 8) rfl rfl Tryd.func15 (by kernel_rfl) rfl #[.string (⟨#[117, 103, 43, 114, 88, 44, 111, 61]⟩ : ByteArray)] rfl (by (try simp only [List.map_toArray, List.map_cons, List.map_nil]); first | done | rfl | (simp only [List.length_drop, List.length_take]; rfl)) ?_; (with_reducible refine (clause_Parse.calls k (⟨#[117, 103, 43, 114, 88, 44, 111, 61]⟩ : ByteArray) t133 t134 _ A1.out).mono ?_); rintro e w47 ⟨v135, rfl, ho0, hb⟩; refine ⟨_, rfl, ?_⟩; have n0_ := Aside0.mk (Kd.S_lower ho0 (below_size (by repeat (first | (with_reducible first | exact HB.out | apply below_alloc | apply pw_below_drewN | apply below_drew1) | exact HB.out)))); have n1_ := Aside0.mk (below_step (by repeat (first | (with_reducible first | exact HB.out | apply below_alloc | apply pw_below_drewN | apply below_drew1) | exact HB.out)) hb); clear HB; have HO136 := n0_; have HB := n1_; clear n0_ n1_; (try clear hb); (try clear hb2); (try clear hk); (try clear hi); (try clear ho0)) | ((with_reducible refine gate_callee (f := 15) rfl ?_); refine goesL_ (some 12) rfl rfl Tryd.func15 (by kernel_rfl) rfl #[.string (⟨#[117, 61, 103, 45, 120]⟩ : ByteArray)] rfl (by (try simp only [List.map_toArray, List.map_cons, List.map_nil]); first | done | rfl | (simp only [List.length_drop, List.length_take]; rfl)) ?_; (with_reducible refine (clause_Parse.calls k (⟨#[117, 61, 103, 45, 120]⟩ : ByteArray) t137 t138 _ A2.out).mono ?_); rintro e w48 ⟨v139, rfl, ho0, hb⟩; refine ⟨_, rfl, ?_⟩; have n0_ := Aside0.mk (Kd.S_elder' (by (with_reducible repeat (first | apply Kd.S_alloc | apply Kd.S_drewN | apply Kd.S_drew)); exact HO136.out) (Kd.S_base ho0) hb); have n1_ := Aside0.mk (Kd.S_lower (Kd.S_new' ho0 (Kd.S_lt (by (with_reducible repeat (first | apply Kd.S_alloc | apply Kd.S_drewN | apply Kd.S_drew)); exact HO136.out))) (below_size (by repeat (first | (with_reducible first | exact HB.out | apply below_alloc | apply pw_below_drewN | apply below_drew1) | exact HB.out)))); have n2_ := Aside0.mk (below_step (by repeat (first | (with_reducible first | exact HB.out | apply below_alloc | apply pw_below_drewN | apply below_drew1) | exact HB.out)) hb); clear HO136; clear HB; have HO136 := n0_; have HO140 := n1_; have HB := n2_; clear n0_ n1_ n2_; (try clear hb); (try clear hb2); (try clear hk); (try clear hi); (try clear ho0)) | ((with_reducible refine gate_callee (f := 15) rfl ?_); refine goesL_ (some 16) rfl rfl Tryd.func15 (by kernel_rfl) rfl #[.string (⟨#[43, 114, 103]⟩ : ByteArray)] rfl (by (try simp only [List.map_toArray, List.map_cons, List.map_nil]); first | done | rfl | (simp only [List.length_drop, List.length_take]; rfl)) ?_; (with_reducible refine (clause_Parse.calls k (⟨#[43, 114, 103]⟩ : ByteArray) t141 t142 _ A3.out).mono ?_); rintro e w49 ⟨v143, rfl, ho0, hb⟩; refine ⟨_, rfl, ?_⟩; have n0_ := Aside0.mk (Kd.S_elder' (by (with_reducible repeat (first | apply Kd.S_alloc | apply Kd.S_drewN | apply Kd.S_drew)); exact HO136.out) (Kd.S_base ho0) hb); have n1_ := Aside0.mk (Kd.S_elder' (by (with_reducible repeat (first | apply Kd.S_alloc | apply Kd.S_drewN | apply Kd.S_drew)); exact HO140.out) (Kd.S_base ho0) hb); have n2_ := Aside0.mk (Kd.S_lower (Kd.S_new' (Kd.S_new' ho0 (Kd.S_lt (by (with_reducible repeat (first | apply Kd.S_alloc | apply Kd.S_drewN | apply Kd.S_drew)); exact HO136.out))) (Kd.S_lt (by (with_reducible repeat (first | apply Kd.S_alloc | apply Kd.S_drewN | apply Kd.S_drew)); exact HO140.out))) (below_size (by repeat (first | (with_reducible first | exact HB.out | apply below_alloc | apply pw_below_drewN | apply below_drew1) | exact HB.out)))); have n3_ := Aside0.mk (below_step (by repeat (first | (with_reducible first | exact HB.out | apply below_alloc | apply pw_below_drewN | apply below_drew1) | exact HB.out)) hb); clear HO136; clear HO140; clear HB; have HO136 := n0_; have HO140 := n1_; have HO144 := n2_; have HB := n3_; clear n0_ n1_ n2_ n3_; (try clear hb); (try clear hb2); (try clear hk); (try clear hi); (try clear ho0); obtain ⟨Ao50, co50, eo50⟩ := Kd.S_slice HO136.out; subst eo50))
          go_ret
          exact ⟨by first | rfl | (simp [errW_none, errW_some] <;> rfl) | (simp [*, errW_none, errW_some] <;> rfl), by repeat (first | (with_reducible first | exact HB.out | apply below_alloc | apply pw_below_drewN | apply below_drew1) | exact HB.out)⟩
      · rw [if_neg c6] at H
        have c6b0 : (t142 == 22) = false := beq_eq_false_iff_ne.mpr c6
        have c6b1 : (t142 != 22) = true := bne_iff_ne.mpr c6
        obtain rfl := Option.some.inj H
        go_enter Tryd.func14, Tryd.ntmps14
        go_wp2_with (first | ((with_reducible refine gate_callee (f := 15) rfl ?_); refine goesL_ (some 8) rfl rfl Tryd.func15 (by kernel_rfl) rfl #[.string (⟨#[117, 103, 43, 114, 88, 44, 111, 61]⟩ : ByteArray)] rfl (by (try simp only [List.map_toArray, List.map_cons, List.map_nil]); first | done | rfl | (simp only [List.length_drop, List.length_take]; rfl)) ?_; (with_reducible refine (clause_Parse.calls k (⟨#[117, 103, 43, 114, 88, 44, 111, 61]⟩ : ByteArray) t133 t134 _ A1.out).mono ?_); rintro e w51 ⟨v135, rfl, ho0, hb⟩; refine ⟨_, rfl, ?_⟩; have n0_ := Aside0.mk (Kd.S_lower ho0 (below_size (by repeat (first | (with_reducible first | exact HB.out | apply below_alloc | apply pw_below_drewN | apply below_drew1) | exact HB.out)))); have n1_ := Aside0.mk (below_step (by repeat (first | (with_reducible first | exact HB.out | apply below_alloc | apply pw_below_drewN | apply below_drew1) | exact HB.out)) hb); clear HB; have HO136 := n0_; have HB := n1_; clear n0_ n1_; (try clear hb); (try clear hb2); (try clear hk); (try clear hi); (try clear ho0)) | ((with_reducible refine gate_callee (f := 15) rfl ?_); refine goesL_ (some 12) rfl rfl Tryd.func15 (by kernel_rfl) rfl #[.string (⟨#[117, 61, 103, 45, 120]⟩ : ByteArray)] rfl (by (try simp only [List.map_toArray, List.map_cons, List.map_nil]); first | done | rfl | (simp only [List.length_drop, List.length_take]; rfl)) ?_; (with_reducible refine (clause_Parse.calls k (⟨#[117, 61, 103, 45, 120]⟩ : ByteArray) t137 t138 _ A2.out).mono ?_); rintro e w52 ⟨v139, rfl, ho0, hb⟩; refine ⟨_, rfl, ?_⟩; have n0_ := Aside0.mk (Kd.S_elder' (by (with_reducible repeat (first | apply Kd.S_alloc | apply Kd.S_drewN | apply Kd.S_drew)); exact HO136.out) (Kd.S_base ho0) hb); have n1_ := Aside0.mk (Kd.S_lower (Kd.S_new' ho0 (Kd.S_lt (by (with_reducible repeat (first | apply Kd.S_alloc | apply Kd.S_drewN | apply Kd.S_drew)); exact HO136.out))) (below_size (by repeat (first | (with_reducible first | exact HB.out | apply below_alloc | apply pw_below_drewN | apply below_drew1) | exact HB.out)))); have n2_ := Aside0.mk (below_step (by repeat (first | (with_reducible first | exact HB.out | apply below_alloc | apply pw_below_drewN | apply below_drew1) | exact HB.out)) hb); clear HO136; clear HB; have HO136 := n0_; have HO140 := n1_; have HB := n2_; clear n0_ n1_ n2_; (try clear hb); (try clear hb2); (try clear hk); (try clear hi); (try clear ho0)) | ((with_reducible refine gate_callee (f := 15) rfl ?_); refine goesL_ (some 16) rfl rfl Tryd.func15 (by kernel_rfl) rfl #[.string (⟨#[43, 114, 103]⟩ : ByteArray)] rfl (by (try simp only [List.map_toArray, List.map_cons, List.map_nil]); first | done | rfl | (simp only [List.length_drop, List.length_take]; rfl)) ?_; (with_reducible refine (clause_Parse.calls k (⟨#[43, 114, 103]⟩ : ByteArray) t141 t142 _ A3.out).mono ?_); rintro e w53 ⟨v143, rfl, ho0, hb⟩; refine ⟨_, rfl, ?_⟩; have n0_ := Aside0.mk (Kd.S_elder' (by (with_reducible repeat (first | apply Kd.S_alloc | apply Kd.S_drewN | apply Kd.S_drew)); exact HO136.out) (Kd.S_base ho0) hb); have n1_ := Aside0.mk (Kd.S_elder' (by (with_reducible repeat (first | apply Kd.S_alloc | apply Kd.S_drewN | apply Kd.S_drew)); exact HO140.out) (Kd.S_base ho0) hb); have n2_ := Aside0.mk (Kd.S_lower (Kd.S_new' (Kd.S_new' ho0 (Kd.S_lt (by (with_reducible repeat (first | apply Kd.S_alloc | apply Kd.S_drewN | apply Kd.S_drew)); exact HO136.out))) (Kd.S_lt (by (with_reducible repeat (first | apply Kd.S_alloc | apply Kd.S_drewN | apply Kd.S_drew)); exact HO140.out))) (below_size (by repeat (first | (with_reducible first | exact HB.out | apply below_alloc | apply pw_below_drewN | apply below_drew1) | exact HB.out)))); have n3_ := Aside0.mk (below_step (by repeat (first | (with_reducible first | exact HB.out | apply below_alloc | apply pw_below_drewN | apply below_drew1) | exact HB.out)) hb); clear HO136; clear HO140; clear HB; have HO136 := n0_; have HO140 := n1_; have HO144 := n2_; have HB := n3_; clear n0_ n1_ n2_ n3_; (try clear hb); (try clear hb2); (try clear hk); (try clear hi); (try clear ho0)))
        go_ret
        exact ⟨by first | rfl | (simp [errW_none, errW_some] <;> rfl) | (simp [*, errW_none, errW_some] <;> rfl), by repeat (first | (with_reducible first | exact HB.out | apply below_alloc | apply pw_below_drewN | apply below_drew1) | exact HB.out)⟩
    · rw [if_neg c5] at H
      have c5b0 : (t138 == 0) = false := beq_eq_false_iff_ne.mpr c5
      have c5b1 : (t138 != 0) = true := bne_iff_ne.mpr c5
      obtain rfl := Option.some.inj H
      go_enter Tryd.func14, Tryd.ntmps14
      go_wp2_with (first | ((with_reducible refine gate_callee (f := 15) rfl ?_); refine goesL_ (some 8) rfl rfl Tryd.func15 (by kernel_rfl) rfl #[.string (⟨#[117, 103, 43, 114, 88, 44, 111, 61]⟩ : ByteArray)] rfl (by (try simp only [List.map_toArray, List.map_cons, List.map_nil]); first | done | rfl | (simp only [List.length_drop, List.length_take]; rfl)) ?_; (with_reducible refine (clause_Parse.calls k (⟨#[117, 103, 43, 114, 88, 44, 111, 61]⟩ : ByteArray) t133 t134 _ A1.out).mono ?_); rintro e w54 ⟨v135, rfl, ho0, hb⟩; refine ⟨_, rfl, ?_⟩; have n0_ := Aside0.mk (Kd.S_lower ho0 (below_size (by repeat (first | (with_reducible first | exact HB.out | apply below_alloc | apply pw_below_drewN | apply below_drew1) | exact HB.out)))); have n1_ := Aside0.mk (below_step (by repeat (first | (with_reducible first | exact HB.out | apply below_alloc | apply pw_below_drewN | apply below_drew1) | exact HB.out)) hb); clear HB; have HO136 := n0_; have HB := n1_; clear n0_ n1_; (try clear hb); (try clear hb2); (try clear hk); (try clear hi); (try clear ho0)) | ((with_reducible refine gate_callee (f := 15) rfl ?_); refine goesL_ (some 12) rfl rfl Tryd.func15 (by kernel_rfl) rfl #[.string (⟨#[117, 61, 103, 45, 120]⟩ : ByteArray)] rfl (by (try simp only [List.map_toArray, List.map_cons, List.map_nil]); first | done | rfl | (simp only [List.length_drop, List.length_take]; rfl)) ?_; (with_reducible refine (clause_Parse.calls k (⟨#[117, 61, 103, 45, 120]⟩ : ByteArray) t137 t138 _ A2.out).mono ?_); rintro e w55 ⟨v139, rfl, ho0, hb⟩; refine ⟨_, rfl, ?_⟩; have n0_ := Aside0.mk (Kd.S_elder' (by (with_reducible repeat (first | apply Kd.S_alloc | apply Kd.S_drewN | apply Kd.S_drew)); exact HO136.out) (Kd.S_base ho0) hb); have n1_ := Aside0.mk (Kd.S_lower (Kd.S_new' ho0 (Kd.S_lt (by (with_reducible repeat (first | apply Kd.S_alloc | apply Kd.S_drewN | apply Kd.S_drew)); exact HO136.out))) (below_size (by repeat (first | (with_reducible first | exact HB.out | apply below_alloc | apply pw_below_drewN | apply below_drew1) | exact HB.out)))); have n2_ := Aside0.mk (below_step (by repeat (first | (with_reducible first | exact HB.out | apply below_alloc | apply pw_below_drewN | apply below_drew1) | exact HB.out)) hb); clear HO136; clear HB; have HO136 := n0_; have HO140 := n1_; have HB := n2_; clear n0_ n1_ n2_; (try clear hb); (try clear hb2); (try clear hk); (try clear hi); (try clear ho0)) | ((with_reducible refine gate_callee (f := 15) rfl ?_); refine goesL_ (some 16) rfl rfl Tryd.func15 (by kernel_rfl) rfl #[.string (⟨#[43, 114, 103]⟩ : ByteArray)] rfl (by (try simp only [List.map_toArray, List.map_cons, List.map_nil]); first | done | rfl | (simp only [List.length_drop, List.length_take]; rfl)) ?_; (with_reducible refine (clause_Parse.calls k (⟨#[43, 114, 103]⟩ : ByteArray) t141 t142 _ A3.out).mono ?_); rintro e w56 ⟨v143, rfl, ho0, hb⟩; refine ⟨_, rfl, ?_⟩; have n0_ := Aside0.mk (Kd.S_elder' (by (with_reducible repeat (first | apply Kd.S_alloc | apply Kd.S_drewN | apply Kd.S_drew)); exact HO136.out) (Kd.S_base ho0) hb); have n1_ := Aside0.mk (Kd.S_elder' (by (with_reducible repeat (first | apply Kd.S_alloc | apply Kd.S_drewN | apply Kd.S_drew)); exact HO140.out) (Kd.S_base ho0) hb); have n2_ := Aside0.mk (Kd.S_lower (Kd.S_new' (Kd.S_new' ho0 (Kd.S_lt (by (with_reducible repeat (first | apply Kd.S_alloc | apply Kd.S_drewN | apply Kd.S_drew)); exact HO136.out))) (Kd.S_lt (by (with_reducible repeat (first | apply Kd.S_alloc | apply Kd.S_drewN | apply Kd.S_drew)); exact HO140.out))) (below_size (by repeat (first | (with_reducible first | exact HB.out | apply below_alloc | apply pw_below_drewN | apply below_drew1) | exact HB.out)))); have n3_ := Aside0.mk (below_step (by repeat (first | (with_reducible first | exact HB.out | apply below_alloc | apply pw_below_drewN | apply below_drew1) | exact HB.out)) hb); clear HO136; clear HO140; clear HB; have HO136 := n0_; have HO140 := n1_; have HO144 := n2_; have HB := n3_; clear n0_ n1_ n2_ n3_; (try clear hb); (try clear hb2); (try clear hk); (try clear hi); (try clear ho0)))
      go_ret
      exact ⟨by first | rfl | (simp [errW_none, errW_some] <;> rfl) | (simp [*, errW_none, errW_some] <;> rfl), by repeat (first | (with_reducible first | exact HB.out | apply below_alloc | apply pw_below_drewN | apply below_drew1) | exact HB.out)⟩
  · rw [if_neg c4] at H
    have c4b0 : (t134 == 0) = false := beq_eq_false_iff_ne.mpr c4
    have c4b1 : (t134 != 0) = true := bne_iff_ne.mpr c4
    obtain rfl := Option.some.inj H
    go_enter Tryd.func14, Tryd.ntmps14
    go_wp2_with (first | ((with_reducible refine gate_callee (f := 15) rfl ?_); refine goesL_ (some 8) rfl rfl Tryd.func15 (by kernel_rfl) rfl #[.string (⟨#[117, 103, 43, 114, 88, 44, 111, 61]⟩ : ByteArray)] rfl (by (try simp only [List.map_toArray, List.map_cons, List.map_nil]); first | done | rfl | (simp only [List.length_drop, List.length_take]; rfl)) ?_; (with_reducible refine (clause_Parse.calls k (⟨#[117, 103, 43, 114, 88, 44, 111, 61]⟩ : ByteArray) t133 t134 _ A1.out).mono ?_); rintro e w57 ⟨v135, rfl, ho0, hb⟩; refine ⟨_, rfl, ?_⟩; have n0_ := Aside0.mk (Kd.S_lower ho0 (below_size (by repeat (first | (with_reducible first | exact HB.out | apply below_alloc | apply pw_below_drewN | apply below_drew1) | exact HB.out)))); have n1_ := Aside0.mk (below_step (by repeat (first | (with_reducible first | exact HB.out | apply below_alloc | apply pw_below_drewN | apply below_drew1) | exact HB.out)) hb); clear HB; have HO136 := n0_; have HB := n1_; clear n0_ n1_; (try clear hb); (try clear hb2); (try clear hk); (try clear hi); (try clear ho0)) | ((with_reducible refine gate_callee (f := 15) rfl ?_); refine goesL_ (some 12) rfl rfl Tryd.func15 (by kernel_rfl) rfl #[.string (⟨#[117, 61, 103, 45, 120]⟩ : ByteArray)] rfl (by (try simp only [List.map_toArray, List.map_cons, List.map_nil]); first | done | rfl | (simp only [List.length_drop, List.length_take]; rfl)) ?_; (with_reducible refine (clause_Parse.calls k (⟨#[117, 61, 103, 45, 120]⟩ : ByteArray) t137 t138 _ A2.out).mono ?_); rintro e w58 ⟨v139, rfl, ho0, hb⟩; refine ⟨_, rfl, ?_⟩; have n0_ := Aside0.mk (Kd.S_elder' (by (with_reducible repeat (first | apply Kd.S_alloc | apply Kd.S_drewN | apply Kd.S_drew)); exact HO136.out) (Kd.S_base ho0) hb); have n1_ := Aside0.mk (Kd.S_lower (Kd.S_new' ho0 (Kd.S_lt (by (with_reducible repeat (first | apply Kd.S_alloc | apply Kd.S_drewN | apply Kd.S_drew)); exact HO136.out))) (below_size (by repeat (first | (with_reducible first | exact HB.out | apply below_alloc | apply pw_below_drewN | apply below_drew1) | exact HB.out)))); have n2_ := Aside0.mk (below_step (by repeat (first | (with_reducible first | exact HB.out | apply below_alloc | apply pw_below_drewN | apply below_drew1) | exact HB.out)) hb); clear HO136; clear HB; have HO136 := n0_; have HO140 := n1_; have HB := n2_; clear n0_ n1_ n2_; (try clear hb); (try clear hb2); (try clear hk); (try clear hi); (try clear ho0)) | ((with_reducible refine gate_callee (f := 15) rfl ?_); refine goesL_ (some 16) rfl rfl Tryd.func15 (by kernel_rfl) rfl #[.string (⟨#[43, 114, 103]⟩ : ByteArray)] rfl (by (try simp only [List.map_toArray, List.map_cons, List.map_nil]); first | done | rfl | (simp only [List.length_drop, List.length_take]; rfl)) ?_; (with_reducible refine (clause_Parse.calls k (⟨#[43, 114, 103]⟩ : ByteArray) t141 t142 _ A3.out).mono ?_); rintro e w59 ⟨v143, rfl, ho0, hb⟩; refine ⟨_, rfl, ?_⟩; have n0_ := Aside0.mk (Kd.S_elder' (by (with_reducible repeat (first | apply Kd.S_alloc | apply Kd.S_drewN | apply Kd.S_drew)); exact HO136.out) (Kd.S_base ho0) hb); have n1_ := Aside0.mk (Kd.S_elder' (by (with_reducible repeat (first | apply Kd.S_alloc | apply Kd.S_drewN | apply Kd.S_drew)); exact HO140.out) (Kd.S_base ho0) hb); have n2_ := Aside0.mk (Kd.S_lower (Kd.S_new' (Kd.S_new' ho0 (Kd.S_lt (by (with_reducible repeat (first | apply Kd.S_alloc | apply Kd.S_drewN | apply Kd.S_drew)); exact HO136.out))) (Kd.S_lt (by (with_reducible repeat (first | apply Kd.S_alloc | apply Kd.S_drewN | apply Kd.S_drew)); exact HO140.out))) (below_size (by repeat (first | (with_reducible first | exact HB.out | apply below_alloc | apply pw_below_drewN | apply below_drew1) | exact HB.out)))); have n3_ := Aside0.mk (below_step (by repeat (first | (with_reducible first | exact HB.out | apply below_alloc | apply pw_below_drewN | apply below_drew1) | exact HB.out)) hb); clear HO136; clear HO140; clear HB; have HO136 := n0_; have HO140 := n1_; have HO144 := n2_; have HB := n3_; clear n0_ n1_ n2_ n3_; (try clear hb); (try clear hb2); (try clear hk); (try clear hi); (try clear ho0)))
    go_ret
    exact ⟨by first | rfl | (simp [errW_none, errW_some] <;> rfl) | (simp [*, errW_none, errW_some] <;> rfl), by repeat (first | (with_reducible first | exact HB.out | apply below_alloc | apply pw_below_drewN | apply below_drew1) | exact HB.out)⟩
/-! ### gaolerref02_Place: function 38 -/
def gaolerref02_Place.l0 : Nat → ByteArray → Int → Int → Option (Int)
  | 0, _, _, _ => none
  | k + 1, x0, x1, x5 => if x5 < (x0.size : Int) then (if 0 ≤ x5 then (if (bt x0 x5) = x1 then (some x5) else (gaolerref02_Place.l0 k x0 x1 (wrap64 (x5 + 1)))) else (none)) else (some (-1))
def gaolerref02_Place.f (k : Nat) (a0 : ByteArray) (a1 : Int) : Option (Int) := gaolerref02_Place.l0 k a0 a1 0
set_option maxHeartbeats 8000000 in
set_option maxRecDepth 100000 in
theorem gaolerref02_Place.calls (k : Nat) (a0 : ByteArray) (a1 : Int) (r : Int) (w : World) (h : gaolerref02_Place.f k a0 a1 = some r) :
    Calls Tryd.prog 38 #[.string a0, .int .u8 a1] w fun e w' => e = .returned (.int .i64 r) ∧ Drawn0 w w' := by
  have H : (gaolerref02_Place.l0 k a0 a1 0) = some r := h
  clear h
  have H' := Aside0.mk H
  clear H
  go_enter Tryd.func38, Tryd.ntmps38
  go_wp2
  go_loopg [5] k (fun kq v5 w' => ∃ (x5_1 : Int), v5 = .int .i64 x5_1 ∧ Aside0 (gaolerref02_Place.l0 kq a0 a1 x5_1 = some r) ∧ Aside0 (kq ≤ k) ∧ Drawn0 w w')
  case atStart => exact ⟨(0), (by first | rfl | (simp; done) | (simp [*]; done)), H', ⟨Nat.le_refl _⟩, by repeat (first | exact Drawn0.refl _ | apply Drawn0.step)⟩
  case round =>
    clear H'
    try clear p2
    obtain ⟨x5_1, rfl, HA, HK1, ⟨m1, rfl⟩⟩ := hrel
    cases gk with
    | zero => exact absurd HA.out (by simp [gaolerref02_Place.l0])
    | succ k1 =>
      have H := HA.out
      clear HA
      simp only [gaolerref02_Place.l0] at H
      by_cases c3 : x5_1 < (a0.size : Int)
      · rw [if_pos c3] at H
        have c3b0 : decide (x5_1 < (a0.size : Int)) = true := decide_eq_true c3
        clear c3
        by_cases c4 : 0 ≤ x5_1
        · rw [if_pos c4] at H
          have c4b0 : decide (0 ≤ x5_1) = true := decide_eq_true c4
          clear c4
          by_cases c6 : (bt a0 x5_1) = a1
          · rw [if_pos c6] at H
            have c6b0 : ((bt a0 x5_1) == a1) = true := beq_iff_eq.mpr c6
            have c6b1 : ((bt a0 x5_1) != a1) = false := bne_eq_false_iff_eq.mpr c6
            clear c6
            obtain rfl := Option.some.inj H
            have p5 : 0 ≤ (x5_1 : Int) := of_decide_eq_true (by first | (with_reducible assumption) | assumption)
            have q5 : x5_1 < (a0.size : Int) := of_decide_eq_true (by first | (with_reducible assumption) | assumption)
            have hx5 := bt_at a0 x5_1
            replace p5 := eq_true p5
            replace q5 := eq_true q5
            go_wp2
            go_ret
            exact ⟨by first | rfl | (simp; done) | (simp [*]; done), by repeat (first | exact Drawn0.refl _ | apply Drawn0.step)⟩
          · rw [if_neg c6] at H
            have c6b0 : ((bt a0 x5_1) == a1) = false := beq_eq_false_iff_ne.mpr c6
            have c6b1 : ((bt a0 x5_1) != a1) = true := bne_iff_ne.mpr c6
            have H' := Aside0.mk H
            clear H
            have p5 : 0 ≤ (x5_1 : Int) := of_decide_eq_true (by first | (with_reducible assumption) | assumption)
            have q5 : x5_1 < (a0.size : Int) := of_decide_eq_true (by first | (with_reducible assumption) | assumption)
            have hx5 := bt_at a0 x5_1
            replace p5 := eq_true p5
            replace q5 := eq_true q5
            go_wp2
            go_roundg k1
            case measure => have := HK1.out; omega
            case rel => exact ⟨(wrap64 (x5_1 + 1)), (by first | rfl | (simp; done) | (simp [*]; done)), H', ⟨by have := HK1.out; omega⟩, by repeat (first | exact Drawn0.refl _ | apply Drawn0.step)⟩
        · rw [if_neg c4] at H
          exact absurd H (by simp)
      · rw [if_neg c3] at H
        have c3b0 : decide (x5_1 < (a0.size : Int)) = false := decide_eq_false c3
        clear c3
        obtain rfl := Option.some.inj H
        go_wp2
        go_ret
        exact ⟨by first | rfl | (simp; done) | (simp [*]; done), by repeat (first | exact Drawn0.refl _ | apply Drawn0.step)⟩
end Go.Proofs.YtlohbepfecahdaaDoor.S
