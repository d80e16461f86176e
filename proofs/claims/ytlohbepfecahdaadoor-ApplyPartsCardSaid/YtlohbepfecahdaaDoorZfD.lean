/- Plain facts: the letters of clauses, byte by byte; the bytes of a rune: no program in sight. -/
import Derived.Lib.FieldsP
import Derived.Lib.SpaceUEq
import Derived.Lib.IndexAny
import Derived.Lib.OthersKept
import Derived.Test.YtlohbepfecahdaaDoorZfC
namespace Go.Proofs.YtlohbepfecahdaaDoor.S
open Go.RowKit
set_option linter.unusedVariables false
set_option linter.unusedSimpArgs false
/-- A rune that begins at pos. -/
theorem rune_facts (s : ByteArray) (pos : Nat) (h : pos < s.size) : pos + (Utf8.decode s pos).2 ≤ s.size ∧ 1 ≤ (Utf8.decode s pos).2 ∧ (Utf8.decode s pos).1 ≤ 1114111 ∧
    ((s[pos]'h).toNat < 128 → (Utf8.decode s pos).2 = 1 ∧ (Utf8.decode s pos).1 = (s[pos]'h).toNat) ∧
    (128 ≤ (s[pos]'h).toNat → 128 ≤ (Utf8.decode s pos).1) := by
  have hle := Lib.decodeN_le_n' (s.size - pos) (s.get! pos).toNat (s.get! (pos + 1)).toNat (s.get! (pos + 2)).toNat (s.get! (pos + 3)).toNat (by omega)
  rw [← Lib.decode_at] at hle
  refine ⟨by omega, Lib.width_pos s pos, Lib.rune_le s pos, fun ha => ?_, fun ha => (decode_high s pos h ha).1⟩
  rw [decode_ascii s pos h ha]; exact ⟨rfl, rfl⟩
theorem drop_cons (s : ByteArray) (pos : Nat) (h : pos < s.size) : s.data.toList.drop pos = (s[pos]'h) :: s.data.toList.drop (pos + 1) := by
  rw [List.drop_eq_getElem_cons (by simpa using h)]; rfl
theorem drop_text (s : ByteArray) (pos : Nat) : s.extract pos s.size = ⟨⟨s.data.toList.drop pos⟩⟩ := by
  apply ByteArray.ext; apply Array.ext'
  simp [List.take_of_length_le]
def orI (a b : Int) : Int := Go.bits .or .i64 a b
/-- Whose bits: the letters ahead, and what is left. -/
def whoS : Int → List UInt8 → Int × List UInt8
  | n, [] => (n, [])
  | n, c :: l => if c = 97 then whoS 7 l else if c = 117 then whoS (orI n 1) l else if c = 103 then whoS (orI n 2) l else if c = 111 then whoS (orI n 4) l else (n, c :: l)
def signK (c : UInt8) : Bool := c = 43 || c = 45 || c = 61
def classK (c : UInt8) : Int := if c = 117 then 0 else if c = 103 then 1 else if c = 111 then 2 else -1
def permK (c : UInt8) : Int := if c = 120 then 0 else if c = 119 then 1 else if c = 114 then 2 else if c = 88 then 3 else if c = 115 then 4 else if c = 116 then 5 else -1
def permS : Int → List UInt8 → Int × List UInt8
  | p, [] => (p, [])
  | p, c :: l => if c = 120 then permS (orI p 1) l else if c = 119 then permS (orI p 2) l else if c = 114 then permS (orI p 4) l else if c = 88 then permS (orI p 8) l else if c = 115 then permS (orI p 16) l else if c = 116 then permS (orI p 32) l else (p, c :: l)
def actS : List UInt8 → (Int × Int × Int) × List UInt8
  | [] => ((0, 0, 0), [])
  | c :: l => if signK c = false then ((0, 0, 0), c :: l) else
    match l with
    | [] => (((c.toNat : Int), 0, 0), [])
    | d :: m => if 0 ≤ classK d then (((c.toNat : Int), 0, classK d + 1), m) else (((c.toNat : Int), (permS 0 (d :: m)).1, 0), (permS 0 (d :: m)).2)
theorem sign_at (c : UInt8) : decide (Lib.indexByte [43, 45, 61] c < 0) = !signK c := by
  have : ∀ x : Fin 256, decide (Lib.indexByte [43, 45, 61] (UInt8.ofNat x.val) < 0) = !signK (UInt8.ofNat x.val) := by decide +kernel
  have h := this ⟨c.toNat, c.toNat_lt⟩
  simpa using h
theorem class_at (c : UInt8) : Lib.indexByte [117, 103, 111] c = classK c := by
  have : ∀ x : Fin 256, Lib.indexByte [117, 103, 111] (UInt8.ofNat x.val) = classK (UInt8.ofNat x.val) := by decide +kernel
  have h := this ⟨c.toNat, c.toNat_lt⟩
  simpa using h
theorem perm_at (c : UInt8) : Lib.indexByte [120, 119, 114, 88, 115, 116] c = permK c := by
  have : ∀ x : Fin 256, Lib.indexByte [120, 119, 114, 88, 115, 116] (UInt8.ofNat x.val) = permK (UInt8.ofNat x.val) := by decide +kernel
  have h := this ⟨c.toNat, c.toNat_lt⟩
  simpa using h
end Go.Proofs.YtlohbepfecahdaaDoor.S
