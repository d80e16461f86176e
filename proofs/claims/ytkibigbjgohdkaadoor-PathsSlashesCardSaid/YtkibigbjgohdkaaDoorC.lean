/- Small facts that several walks of this seat use: no program in sight. -/
import Derived.Test.YtkibigbjgohdkaaDoorWWords
import Derived.Test.YtkibigbjgohdkaaDoorWMore
import Derived.Test.YtkibigbjgohdkaaDoorB
import Derived.Lib.Hide
import Derived.Handy
import Derived.Lib.SlBytesConst
import Derived.OneCell
import Derived.Laws.RangeAny
namespace Go.Proofs.YtkibigbjgohdkaaDoor.S
open Go.RowKit Go.Proofs.YtkibigbjgohdkaaDoorW.PrintWords Go.Proofs.YtkibigbjgohdkaaDoorW.PrintMore
set_option linter.unusedVariables false
set_option linter.unusedSimpArgs false

theorem ret_int {k : IntKind} {a b : Int} (h : a = b) : Ending.returned (.int k a) = .returned (.int k b) := by rw [h]
theorem ret_int2 {k : IntKind} {a b c d : Int} (h : a = b) (h2 : c = d) : Ending.returned (.tuple #[.int k a, .int k c]) = .returned (.tuple #[.int k b, .int k d]) := by rw [h, h2]
theorem ret_str {a b : ByteArray} (h : a = b) : Ending.returned (.string a) = .returned (.string b) := by rw [h]
theorem ret_three {a b c d : Int} {x y : Bool} (h1 : a = b) (h2 : c = d) (h3 : x = y) : Ending.returned (.tuple #[.int .i64 a, .int .i64 c, .bool x]) = .returned (.tuple #[.int .i64 b, .int .i64 d, .bool y]) := by rw [h1, h2, h3]
theorem bcell {W w1 : World} (hb : Below W.heap.size W w1) : (∀ b o, b < W.heap.size → w1.cell? ⟨b, o, none⟩ = W.cell? ⟨b, o, none⟩) ∧ (∀ b o, b < W.heap.size → w1.frozen? ⟨b, o, none⟩ = W.frozen? ⟨b, o, none⟩) :=
  ⟨fun b o h => hb.cell (p := ⟨b, o, none⟩) h, fun b o h => hb.frozen (p := ⟨b, o, none⟩) h⟩
theorem take_snoc (s : ByteArray) (k : Nat) (h : k < s.size) : s.data.toList.take (k + 1) = s.data.toList.take k ++ [s[k]] := by
  rw [List.take_succ_eq_append_getElem (by simpa using h)]; rfl
theorem iter_below (w : World) (s : ByteArray) (p : Nat) : Below w.heap.size w (w.iter s p) := (Below.refl _ _).alloc (Nat.le_refl _) _
theorem width_pos (s : ByteArray) (pos : Nat) (h : pos < s.size) : 1 ≤ (Utf8.decode s pos).2 := by
  by_cases ha : (s[pos]'h).toNat < 128
  · rw [decode_ascii s pos h ha]
    exact Nat.le_refl _
  · exact (decode_high s pos h (by omega)).2
theorem toList_emp (s : ByteArray) (h : s.size ≠ 0) : s.toList.isEmpty = false := by
  rw [ByteArray.toList_eq]
  cases h2 : s.data.toList with
  | nil => exact absurd (by simpa using congrArg List.length h2) h
  | cons a b => rfl
theorem blk_of_below {w w1 : World} (h : Below w.heap.size w w1) {g : Nat} {o : Obj} (hb : w.heap[g]? = some o) : w1.heap[g]? = some o := by
  have hlt : g < w.heap.size := (Array.getElem?_eq_some_iff.1 hb).1
  rw [h.block g hlt]; exact hb
theorem grown_blk {w w1 : World} {row : Option Nat} (h : w.grownBy w1 row) {g : Nat} {o : Obj} (hb : w.heap[g]? = some o) (hne : some g ≠ row) : w1.heap[g]? = some o := by
  have hlt : g < w.heap.size := (Array.getElem?_eq_some_iff.1 hb).1
  rw [h.block g hlt hne]; exact hb
def NotAt (v : Value) (a b : Nat) : Prop := some a ≠ v.ownBlock ∧ some b ≠ v.ownBlock
theorem NotAt.next {W : World} {v v1 : Value} {a b : Nat} (h : NotAt v a b) (ha : a < W.heap.size) (hb : b < W.heap.size) (hat : v1.ownBlock = v.ownBlock ∨ ∃ c, v1.ownBlock = some c ∧ W.heap.size ≤ c) : NotAt v1 a b := by
  rcases hat with e | ⟨c, e, hc⟩
  · unfold NotAt; rw [e]; exact h
  · unfold NotAt; rw [e]
    constructor
    · intro h2; injection h2 with h2; omega
    · intro h2; injection h2 with h2; omega
theorem blk_lt' {w : World} {g : Nat} {o : Obj} (hb : w.heap[g]? = some o) : g < w.heap.size := (Array.getElem?_eq_some_iff.1 hb).1
theorem own_last {W : World} {base e : Nat} {v : Value} {xs : List Int} (h : W.ownsRow base e 1 v xs.length (nums .u8 xs)) (h0 : 0 < xs.length) (i : Nat) (x : Int) (hi : i < xs.length) :
    ∃ g cap, v = .slice (some ⟨g, 0, none⟩) xs.length cap ∧ W.cell? ⟨g, i, none⟩ = some (.int .u8 (xs.getD i 0)) ∧ W.frozen? ⟨g, i, none⟩ = false ∧ Aside0 ((W.setCell ⟨g, i, none⟩ (.int .u8 x)).ownsRow base e 1 (.slice (some ⟨g, 0, none⟩) (xs.set i x).length cap) (xs.set i x).length (nums .u8 (xs.set i x))) := by
  obtain ⟨g, cap, rfl, _, _⟩ := h.form h0
  refine ⟨g, cap, rfl, ?_, ?_, ⟨?_⟩⟩
  · rw [h.cellAt i (by omega)]; simp [nums, hi]
  · exact h.frozenAt i
  · have e1 : nums .u8 (xs.set i x) = (nums .u8 xs).set i (.int .u8 x) := by simp [nums, List.map_set]
    rw [List.length_set, e1]
    exact (h.stored i (.int .u8 x)).1
def chr (s : ByteArray) (j : Nat) : Int := if h : j < s.size then ((s[j]'h).toNat : Int) else 0
theorem chr_at (s : ByteArray) (j : Nat) (h : j < s.size) : chr s j = ((s[j]'h).toNat : Int) := by unfold chr; rw [dif_pos h]
end Go.Proofs.YtkibigbjgohdkaaDoor.S
