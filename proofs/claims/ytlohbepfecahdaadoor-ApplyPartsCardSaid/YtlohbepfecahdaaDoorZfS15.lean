-- Written by wip/tools/myprint.py, a session's own driver of the kit's printer.
import Derived.ArgAppend
import Derived.Below
import Derived.BigQuiet
import Derived.Deep.AppendLies
import Derived.Deep.CutBlock
import Derived.Deep.DeepCutAuto
import Derived.Deep.Draws
import Derived.Deep.LoopGhost
import Derived.Deep.OwnRows
import Derived.Deep.QuietTactic
import Derived.Deep.RegionHeld3
import Derived.Handy
import Derived.KernelRfl
import Derived.Laws.BitsAllLaws
import Derived.Laws.BitsLemmas
import Derived.Laws.BytesArg
import Derived.Laws.IdiomCopy
import Derived.Laws.MakeOwn
import Derived.Laws.OwnMore
import Derived.Laws.RangeAny
import Derived.Laws.Rows
import Derived.Laws.Slices
import Derived.Laws.StructEq
import Derived.Lib.AppendStr
import Derived.Lib.ConvBytes
import Derived.Lib.FieldsP
import Derived.Lib.Hide
import Derived.Lib.IndexAny
import Derived.Lib.OthersKept
import Derived.Lib.SlBytesConst
import Derived.Lib.SpaceUEq
import Derived.Maps.AppendAt
import Derived.OneCell
import Derived.OrdersHeld
import Derived.OwnWalk
import Derived.RowKit
import Derived.RowKit3
import Derived.Shelf.LaysM
import Derived.Shelf.Small.Strs
import Derived.Shelf.Small.Utf8
import Derived.Shelf.Strings.Builder1
import Derived.Shelf.Strings.Builder2
import Derived.Shelf.Strings.BuilderF
import Derived.Shelf.Strings.BuilderK
import Derived.Shelf.Strings.Count
import Derived.Shelf.Strings.OnBuilder
import Derived.Shelf.Strings.Runes
import Derived.Shelf.Strings.Search1
import Derived.Shelf.Strings.Search2
import Derived.Shelf.Strings.Search3
import Derived.Shelf.Strings.Shaped
import Derived.Shelf.Strings.Split
import Derived.Shelf.Strings.SplitShaped
import Derived.Shelf.Unicode.DecodeSlow
import Derived.Tactics
import Derived.Test.YtlohbepfecahdaaDoorProg
import Derived.WalkKit
import Derived.WideLaws
import Derived.Test.YtlohbepfecahdaaDoorZfWWords
import Derived.Test.YtlohbepfecahdaaDoorZfWLast
import Derived.Test.YtlohbepfecahdaaDoorZfWApart
import Derived.Test.YtlohbepfecahdaaDoorZfWFoot
import Derived.Test.YtlohbepfecahdaaDoorZfWShare
import Derived.Test.YtlohbepfecahdaaDoorZfWN
import Derived.Test.YtlohbepfecahdaaDoorZfWNEv
import Derived.Test.YtlohbepfecahdaaDoorZfWMore
import Derived.Test.YtlohbepfecahdaaDoorZfB
import Derived.Test.YtlohbepfecahdaaDoorZfC
import Derived.Test.YtlohbepfecahdaaDoorZfShelf
import Derived.Test.YtlohbepfecahdaaDoorZfD
import Derived.Test.YtlohbepfecahdaaDoorZfWTab
import Derived.Test.YtlohbepfecahdaaDoorZfWEqStruct
import Derived.Test.YtlohbepfecahdaaDoorZfWRepsOne
import Derived.Test.YtlohbepfecahdaaDoorZfWGuard
import Derived.Test.YtlohbepfecahdaaDoorZfS0
import Derived.Test.YtlohbepfecahdaaDoorZfS4
import Derived.Test.YtlohbepfecahdaaDoorZfS6
import Derived.Test.YtlohbepfecahdaaDoorZfS9
import Derived.Test.YtlohbepfecahdaaDoorZfS10
namespace Go.Proofs.YtlohbepfecahdaaDoor.S
open Go.RowKit Go.Proofs.YtlohbepfecahdaaDoorW.PrintWords Go.Proofs.YtlohbepfecahdaaDoorW.PrintLast Go.Proofs.YtlohbepfecahdaaDoorW.PrintMore
set_option linter.unusedVariables false
set_option linter.unusedSimpArgs false
/-! ### gaolerlaw02_ClauseTurned: function 7 -/
mutual
def gaolerlaw02_ClauseTurned.j0 : Nat → List Int → List Int → Int → Int → Bool → Option (Bool)
  | 0, _, _, _, _, _ => none
  | k + 1, x0, x1, x2, x3, x33 => if x33 = true then (some true) else (gaolerlaw02_ClauseTurned.l0 k x0 x1 x2 x3 (⟨#[]⟩ : ByteArray) (⟨#[]⟩ : ByteArray) 0)
def gaolerlaw02_ClauseTurned.l0 : Nat → List Int → List Int → Int → Int → ByteArray → ByteArray → Int → Option (Bool)
  | 0, _, _, _, _, _, _, _ => none
  | k + 1, x0, x1, x2, x3, x10, x11, x12 => if x12 < (x0.length : Int) then (if 0 ≤ x12 then (if 0 ≤ (wrap64 (Int.tmod (rd x0 x12) 4)) then (if (wrap64 (Int.tmod (rd x0 x12) 4)) ≤ (wrap64 ((wrap64 (Int.tmod (rd x0 x12) 4)) + 1)) then (if (wrap64 ((wrap64 (Int.tmod (rd x0 x12) 4)) + 1)) ≤ 4 then (if x10.size + ((⟨#[117, 103, 111, 97]⟩ : ByteArray).extract ((wrap64 (Int.tmod (rd x0 x12) 4)) : Int).toNat ((wrap64 ((wrap64 (Int.tmod (rd x0 x12) 4)) + 1)) : Int).toNat).size ≤ 9223372036854775807 then (if (x0.length : Int) = 0 then (none) else (if 0 ≤ (Int.tmod (wrap64 (x12 + (wrap64 (x3)))) (x0.length : Int)) then (if (Int.tmod (wrap64 (x12 + (wrap64 (x3)))) (x0.length : Int)) < (x0.length : Int) then (if 0 ≤ (wrap64 (Int.tmod (rd x0 (Int.tmod (wrap64 (x12 + (wrap64 (x3)))) (x0.length : Int))) 4)) then (if (wrap64 (Int.tmod (rd x0 (Int.tmod (wrap64 (x12 + (wrap64 (x3)))) (x0.length : Int))) 4)) ≤ (wrap64 ((wrap64 (Int.tmod (rd x0 (Int.tmod (wrap64 (x12 + (wrap64 (x3)))) (x0.length : Int))) 4)) + 1)) then (if (wrap64 ((wrap64 (Int.tmod (rd x0 (Int.tmod (wrap64 (x12 + (wrap64 (x3)))) (x0.length : Int))) 4)) + 1)) ≤ 4 then (if x11.size + ((⟨#[117, 103, 111, 97]⟩ : ByteArray).extract ((wrap64 (Int.tmod (rd x0 (Int.tmod (wrap64 (x12 + (wrap64 (x3)))) (x0.length : Int))) 4)) : Int).toNat ((wrap64 ((wrap64 (Int.tmod (rd x0 (Int.tmod (wrap64 (x12 + (wrap64 (x3)))) (x0.length : Int))) 4)) + 1)) : Int).toNat).size ≤ 9223372036854775807 then (gaolerlaw02_ClauseTurned.l0 k x0 x1 x2 x3 (x10 ++ ((⟨#[117, 103, 111, 97]⟩ : ByteArray).extract ((wrap64 (Int.tmod (rd x0 x12) 4)) : Int).toNat ((wrap64 ((wrap64 (Int.tmod (rd x0 x12) 4)) + 1)) : Int).toNat)) (x11 ++ ((⟨#[117, 103, 111, 97]⟩ : ByteArray).extract ((wrap64 (Int.tmod (rd x0 (Int.tmod (wrap64 (x12 + (wrap64 (x3)))) (x0.length : Int))) 4)) : Int).toNat ((wrap64 ((wrap64 (Int.tmod (rd x0 (Int.tmod (wrap64 (x12 + (wrap64 (x3)))) (x0.length : Int))) 4)) + 1)) : Int).toNat)) (wrap64 (x12 + 1))) else (none)) else (none)) else (none)) else (none)) else (none)) else (none))) else (none)) else (none)) else (none)) else (none)) else (none)) else (if 0 ≤ (wrap64 (Int.tmod x2 3)) then (if (wrap64 (Int.tmod x2 3)) ≤ (wrap64 ((wrap64 (Int.tmod x2 3)) + 1)) then (if (wrap64 ((wrap64 (Int.tmod x2 3)) + 1)) ≤ 3 then (if x10.size + ((⟨#[43, 45, 61]⟩ : ByteArray).extract ((wrap64 (Int.tmod x2 3)) : Int).toNat ((wrap64 ((wrap64 (Int.tmod x2 3)) + 1)) : Int).toNat).size ≤ 9223372036854775807 then (if x11.size + ((⟨#[43, 45, 61]⟩ : ByteArray).extract ((wrap64 (Int.tmod x2 3)) : Int).toNat ((wrap64 ((wrap64 (Int.tmod x2 3)) + 1)) : Int).toNat).size ≤ 9223372036854775807 then (if x11.size + (x11 ++ ((⟨#[43, 45, 61]⟩ : ByteArray).extract ((wrap64 (Int.tmod x2 3)) : Int).toNat ((wrap64 ((wrap64 (Int.tmod x2 3)) + 1)) : Int).toNat)).size ≤ 9223372036854775807 then (gaolerlaw02_ClauseTurned.l1 k x1 x3 (x10 ++ ((⟨#[43, 45, 61]⟩ : ByteArray).extract ((wrap64 (Int.tmod x2 3)) : Int).toNat ((wrap64 ((wrap64 (Int.tmod x2 3)) + 1)) : Int).toNat)) (x11 ++ (x11 ++ ((⟨#[43, 45, 61]⟩ : ByteArray).extract ((wrap64 (Int.tmod x2 3)) : Int).toNat ((wrap64 ((wrap64 (Int.tmod x2 3)) + 1)) : Int).toNat))) 0) else (none)) else (none)) else (none)) else (none)) else (none)) else (none))
def gaolerlaw02_ClauseTurned.l1 : Nat → List Int → Int → ByteArray → ByteArray → Int → Option (Bool)
  | 0, _, _, _, _, _ => none
  | k + 1, x1, x3, x10, x11, x16 => if x16 < (x1.length : Int) then (if 0 ≤ x16 then (if 0 ≤ (wrap64 (Int.tmod (rd x1 x16) 6)) then (if (wrap64 (Int.tmod (rd x1 x16) 6)) ≤ (wrap64 ((wrap64 (Int.tmod (rd x1 x16) 6)) + 1)) then (if (wrap64 ((wrap64 (Int.tmod (rd x1 x16) 6)) + 1)) ≤ 6 then (if x10.size + ((⟨#[114, 119, 120, 88, 115, 116]⟩ : ByteArray).extract ((wrap64 (Int.tmod (rd x1 x16) 6)) : Int).toNat ((wrap64 ((wrap64 (Int.tmod (rd x1 x16) 6)) + 1)) : Int).toNat).size ≤ 9223372036854775807 then (if (x1.length : Int) = 0 then (none) else (if 0 ≤ (Int.tmod (wrap64 (x16 + (wrap64 (x3)))) (x1.length : Int)) then (if (Int.tmod (wrap64 (x16 + (wrap64 (x3)))) (x1.length : Int)) < (x1.length : Int) then (if 0 ≤ (wrap64 (Int.tmod (rd x1 (Int.tmod (wrap64 (x16 + (wrap64 (x3)))) (x1.length : Int))) 6)) then (if (wrap64 (Int.tmod (rd x1 (Int.tmod (wrap64 (x16 + (wrap64 (x3)))) (x1.length : Int))) 6)) ≤ (wrap64 ((wrap64 (Int.tmod (rd x1 (Int.tmod (wrap64 (x16 + (wrap64 (x3)))) (x1.length : Int))) 6)) + 1)) then (if (wrap64 ((wrap64 (Int.tmod (rd x1 (Int.tmod (wrap64 (x16 + (wrap64 (x3)))) (x1.length : Int))) 6)) + 1)) ≤ 6 then (if ((⟨#[114, 119, 120, 88, 115, 116]⟩ : ByteArray).extract ((wrap64 (Int.tmod (rd x1 (Int.tmod (wrap64 (x16 + (wrap64 (x3)))) (x1.length : Int))) 6)) : Int).toNat ((wrap64 ((wrap64 (Int.tmod (rd x1 (Int.tmod (wrap64 (x16 + (wrap64 (x3)))) (x1.length : Int))) 6)) + 1)) : Int).toNat).size + ((⟨#[114, 119, 120, 88, 115, 116]⟩ : ByteArray).extract ((wrap64 (Int.tmod (rd x1 (Int.tmod (wrap64 (x16 + (wrap64 (x3)))) (x1.length : Int))) 6)) : Int).toNat ((wrap64 ((wrap64 (Int.tmod (rd x1 (Int.tmod (wrap64 (x16 + (wrap64 (x3)))) (x1.length : Int))) 6)) + 1)) : Int).toNat).size ≤ 9223372036854775807 then (if x11.size + (((⟨#[114, 119, 120, 88, 115, 116]⟩ : ByteArray).extract ((wrap64 (Int.tmod (rd x1 (Int.tmod (wrap64 (x16 + (wrap64 (x3)))) (x1.length : Int))) 6)) : Int).toNat ((wrap64 ((wrap64 (Int.tmod (rd x1 (Int.tmod (wrap64 (x16 + (wrap64 (x3)))) (x1.length : Int))) 6)) + 1)) : Int).toNat) ++ ((⟨#[114, 119, 120, 88, 115, 116]⟩ : ByteArray).extract ((wrap64 (Int.tmod (rd x1 (Int.tmod (wrap64 (x16 + (wrap64 (x3)))) (x1.length : Int))) 6)) : Int).toNat ((wrap64 ((wrap64 (Int.tmod (rd x1 (Int.tmod (wrap64 (x16 + (wrap64 (x3)))) (x1.length : Int))) 6)) + 1)) : Int).toNat)).size ≤ 9223372036854775807 then (gaolerlaw02_ClauseTurned.l1 k x1 x3 (x10 ++ ((⟨#[114, 119, 120, 88, 115, 116]⟩ : ByteArray).extract ((wrap64 (Int.tmod (rd x1 x16) 6)) : Int).toNat ((wrap64 ((wrap64 (Int.tmod (rd x1 x16) 6)) + 1)) : Int).toNat)) (x11 ++ (((⟨#[114, 119, 120, 88, 115, 116]⟩ : ByteArray).extract ((wrap64 (Int.tmod (rd x1 (Int.tmod (wrap64 (x16 + (wrap64 (x3)))) (x1.length : Int))) 6)) : Int).toNat ((wrap64 ((wrap64 (Int.tmod (rd x1 (Int.tmod (wrap64 (x16 + (wrap64 (x3)))) (x1.length : Int))) 6)) + 1)) : Int).toNat) ++ ((⟨#[114, 119, 120, 88, 115, 116]⟩ : ByteArray).extract ((wrap64 (Int.tmod (rd x1 (Int.tmod (wrap64 (x16 + (wrap64 (x3)))) (x1.length : Int))) 6)) : Int).toNat ((wrap64 ((wrap64 (Int.tmod (rd x1 (Int.tmod (wrap64 (x16 + (wrap64 (x3)))) (x1.length : Int))) 6)) + 1)) : Int).toNat))) (wrap64 (x16 + 1))) else (none)) else (none)) else (none)) else (none)) else (none)) else (none)) else (none))) else (none)) else (none)) else (none)) else (none)) else (none)) else ((clause_Parse.f k x10).bind fun bt304 => ((clause_Parse.f k x11).bind fun bt308 => (if bt304.2 = 0 then (if bt308.2 = 0 then ((gaolerlaw02_model.f k bt308.1).bind fun t312 => ((gaolerlaw02_same.f k bt304.1 t312).bind fun t315 => (if t315 = true then (some ((bt304.1.length : Int) == 1)) else (some false)))) else (some false)) else (some false))))
end
def gaolerlaw02_ClauseTurned.f (k : Nat) (l0 : List Int) (l1 : List Int) (a2 : Int) (a3 : Int) : Option (Bool) := (gaolerlaw02_awake.f k).bind fun t299 => (if t299 = true then (if (l0.length : Int) > 20 then (gaolerlaw02_ClauseTurned.j0 k l0 l1 a2 a3 true) else (gaolerlaw02_ClauseTurned.j0 k l0 l1 a2 a3 (decide ((l1.length : Int) > 20)))) else (some false))
/-! ### modes_ReadOctal: function 43 -/
def isOct (c : UInt8) : Bool := 48 ≤ c.toNat && c.toNat ≤ 55
def octV : List UInt8 → Int → Int
  | [], n => n
  | c :: t, n => octV t (n * 8 + ((c.toNat : Int) - 48))
theorem octV_snoc (l : List UInt8) (c : UInt8) (n : Int) : octV (l ++ [c]) n = octV l n * 8 + ((c.toNat : Int) - 48) := by
  induction l generalizing n with
  | nil => rfl
  | cons a t ih => exact ih _
theorem octV_bound (l : List UInt8) : ∀ n : Int, 0 ≤ n → (∀ c ∈ l, isOct c = true) → 0 ≤ octV l n ∧ octV l n < (n + 1) * 8 ^ l.length := by
  induction l with
  | nil => intro n h _; exact ⟨h, by simp [octV]; omega⟩
  | cons c t ih =>
    intro n h hc
    have h1 := hc c (by simp)
    simp [isOct] at h1
    have hm : ∀ c ∈ t, isOct c = true := fun x hx => hc x (by simp [hx])
    obtain ⟨i1, i2⟩ := ih (n * 8 + ((c.toNat : Int) - 48)) (by omega) hm
    refine ⟨i1, Int.lt_of_lt_of_le i2 ?_⟩
    rw [List.length_cons, Int.pow_succ, Int.mul_comm (8 ^ t.length) 8, ← Int.mul_assoc]
    exact Int.mul_le_mul_of_nonneg_right (by omega) (Int.pow_nonneg (by decide))
theorem octV_small (l : List UInt8) (h : ∀ c ∈ l, isOct c = true) (hl : l.length ≤ 8) : 0 ≤ octV l 0 ∧ octV l 0 < 16777216 := by
  obtain ⟨h1, h2⟩ := octV_bound l 0 (by decide) h
  refine ⟨h1, Int.lt_of_lt_of_le h2 ?_⟩
  have h8 : (8 : Nat) ^ l.length ≤ 8 ^ 8 := Nat.pow_le_pow_right (by decide) hl
  have : (8 : Int) ^ l.length ≤ ((8 ^ 8 : Nat) : Int) := by
    have e : (8 : Int) ^ l.length = ((8 ^ l.length : Nat) : Int) := by simp
    rw [e]; exact_mod_cast h8
  omega
def roS (s : ByteArray) : Int × Int := if s.size = 0 ∨ 8 < s.size then (0, 22) else if s.data.toList.all isOct then (if 4095 < octV s.data.toList 0 then (0, 22) else (octV s.data.toList 0, 0)) else (0, 22)
def modes_ReadOctal.f (a0 : ByteArray) : Option (Int × Int) := some (roS a0)
theorem roS_bad (s : ByteArray) (h0 : s.size ≠ 0) (h8 : s.size ≤ 8) (c : UInt8) (hc : c ∈ s.data.toList) (h : isOct c = false) : roS s = (0, 22) := by
  unfold roS
  rw [if_neg (by omega), if_neg]
  intro ha
  rw [List.all_eq_true.1 ha c hc] at h
  exact Bool.noConfusion h
set_option maxHeartbeats 1600000 in
theorem modes_ReadOctal.go (s : ByteArray) (w : World) (h0 : s.size ≠ 0) (h8 : s.size ≤ 8) :
    Calls Tryd.prog 43 #[.string s] w fun e w' => e = .returned (.tuple #[.int .i64 (roS s).1, .int .i64 (roS s).2]) ∧ Below w.heap.size w w' := by
  have he := toList_emp s h0
  have h8' : (s.size : Int) ≤ 8 := by omega
  go_enter Tryd.func43, Tryd.ntmps43
  go_wp2
  go_loopw [4] (fun n w' => ∃ pos : Nat, pos ≤ s.size ∧ w' = w.iter s pos ∧ n = .int .i64 (octV (s.data.toList.take pos) 0) ∧ Aside0 (∀ c ∈ s.data.toList.take pos, isOct c = true)) (fun _ w' => s.size - w'.iterPos w.heap.size)
  case atStart => exact ⟨0, Nat.zero_le _, rfl, rfl, ⟨by simp⟩⟩
  case round =>
    obtain ⟨pos, hpos, rfl, rfl, HA⟩ := hrel
    have hl : (s.data.toList.take pos).length ≤ 8 := by rw [List.length_take]; omega
    obtain ⟨b0, b1⟩ := octV_small _ HA.out hl
    clear hl
    by_cases hp : pos < s.size
    · have HX := Aside0.mk (octV_snoc (s.data.toList.take pos) (s[pos]'hp) 0)
      have HT := Aside0.mk (take_snoc s pos hp)
      have hlt := (s[pos]'hp).toNat_lt
      have HM : Aside0 (s[pos]'hp ∈ s.data.toList) := ⟨Array.mem_toList_iff.2 (Array.getElem_mem (by simpa using hp))⟩
      by_cases ha : (s[pos]'hp).toNat < 128
      · have hnx : ∀ ty, (Instr.next (.pointer (some ⟨w.heap.size, 0, none⟩)) true ty).run Tryd.prog (w.iter s pos) = _ := fun ty => run_next_ascii w s pos ty hp ha
        by_cases hlo : (s[pos]'hp).toNat < 48
        · have HR := Aside0.mk (roS_bad s h0 h8 _ HM.out (by simp [isOct]; omega))
          have g1 : ((s[pos]'hp).toNat : Int) < 48 := by omega
          have d1 : decide (((s[pos]'hp).toNat : Int) < 48) = true := decide_eq_true g1
          go_wp2
          go_ret2
          exact ⟨by rw [HR.out]; rfl, iter_below _ _ _⟩
        · by_cases hhi : 55 < (s[pos]'hp).toNat
          · have HR := Aside0.mk (roS_bad s h0 h8 _ HM.out (by simp [isOct]; omega))
            have d1 : decide (((s[pos]'hp).toNat : Int) < 48) = false := decide_eq_false (by omega)
            have d2 : decide ((55 : Int) < ((s[pos]'hp).toNat : Int)) = true := decide_eq_true (by omega)
            go_wp2
            go_ret2
            exact ⟨by rw [HR.out]; rfl, iter_below _ _ _⟩
          · have g1 : ¬ ((s[pos]'hp).toNat : Int) < 48 := by omega
            have g2 : ¬ (55 : Int) < ((s[pos]'hp).toNat : Int) := by omega
            have d1 : decide (((s[pos]'hp).toNat : Int) < 48) = false := decide_eq_false g1
            have d2 : decide ((55 : Int) < ((s[pos]'hp).toNat : Int)) = false := decide_eq_false g2
            have HO : Aside0 (isOct (s[pos]'hp) = true) := ⟨by simp [isOct]; omega⟩
            go_wp2
            go_roundw
            case rel =>
              refine ⟨pos + 1, by omega, rfl, ?_, ⟨?_⟩⟩
              · rw [HT.out, HX.out]
              · rw [HT.out]
                intro c hc
                rcases List.mem_append.1 hc with hc | hc
                · exact HA.out c hc
                · rw [List.mem_singleton.1 hc]; exact HO.out
            case measure => simp; omega
      · have hnx : ∀ ty, (Instr.next (.pointer (some ⟨w.heap.size, 0, none⟩)) true ty).run Tryd.prog (w.iter s pos) = _ := fun ty => run_next_any w s pos ty hp
        obtain ⟨hd1, hd2⟩ := decode_high s pos hp (by omega)
        have HR := Aside0.mk (roS_bad s h0 h8 _ HM.out (by simp [isOct]; omega))
        generalize hg : Utf8.decode s pos = dc at hnx hd1 hd2
        clear hg
        have d1 : decide ((dc.1 : Int) < 48) = false := decide_eq_false (by omega)
        have d2 : decide ((55 : Int) < (dc.1 : Int)) = true := decide_eq_true (by omega)
        go_wp2
        go_ret2
        exact ⟨by rw [HR.out]; rfl, iter_below _ _ _⟩
    · have hnx : ∀ ty, (Instr.next (.pointer (some ⟨w.heap.size, 0, none⟩)) true ty).run Tryd.prog (w.iter s pos) = _ := fun ty => run_next_end w s pos ty hp
      obtain rfl : pos = s.size := by omega
      have HF := Aside0.mk (show s.data.toList.take s.size = s.data.toList from List.take_of_length_le (by simp))
      by_cases hv : 4095 < octV (s.data.toList.take s.size) 0
      · have HR : Aside0 (roS s = (0, 22)) := ⟨by
          have := hv; rw [HF.out] at this
          unfold roS; rw [if_neg (by omega), if_pos (List.all_eq_true.2 (by have := HA.out; rw [HF.out] at this; exact this)), if_pos this]⟩
        go_wp2
        go_ret2
        exact ⟨by rw [HR.out]; rfl, iter_below _ _ _⟩
      · have HR : Aside0 (roS s = (octV (s.data.toList.take s.size) 0, 0)) := ⟨by
          have := hv; rw [HF.out] at this
          unfold roS; rw [if_neg (by omega), if_pos (List.all_eq_true.2 (by have := HA.out; rw [HF.out] at this; exact this)), if_neg this, HF.out]⟩
        go_wp2
        go_ret2
        exact ⟨by rw [HR.out]; rfl, iter_below _ _ _⟩
set_option maxHeartbeats 1600000 in
theorem modes_ReadOctal.calls (a0 : ByteArray) (r1 : Int) (r2 : Int) (w : World) (h : modes_ReadOctal.f a0 = some (r1, r2)) :
    Calls Tryd.prog 43 #[.string a0] w fun e w' => e = .returned (.tuple #[.int .i64 r1, .int .i64 r2]) ∧ Below w.heap.size w w' := by
  obtain ⟨rfl, rfl⟩ : (roS a0).1 = r1 ∧ (roS a0).2 = r2 := by have := Option.some.inj h; rw [this]; exact ⟨rfl, rfl⟩
  clear h
  by_cases h0 : a0.size = 0
  · have HR : Aside0 (roS a0 = (0, 22)) := ⟨by unfold roS; rw [if_pos (.inl h0)]⟩
    have he : a0.toList = [] := by rw [ByteArray.toList_eq]; exact List.eq_nil_of_length_eq_zero (by simpa using h0)
    have he2 : a0.toList.isEmpty = true := by rw [he]; rfl
    clear he
    go_enter Tryd.func43, Tryd.ntmps43
    go_wp2
    go_ret2
    exact ⟨by rw [HR.out]; rfl, Below.refl _ _⟩
  · by_cases h8 : 8 < a0.size
    · have HR : Aside0 (roS a0 = (0, 22)) := ⟨by unfold roS; rw [if_pos (.inr h8)]⟩
      have he := toList_emp a0 h0
      have h8' : (8 : Int) < (a0.size : Int) := by omega
      have h8d : decide ((8 : Int) < (a0.size : Int)) = true := decide_eq_true h8'
      go_enter Tryd.func43, Tryd.ntmps43
      go_wp2
      go_ret2
      exact ⟨by rw [HR.out]; rfl, Below.refl _ _⟩
    · exact modes_ReadOctal.go a0 w h0 (by omega)
end Go.Proofs.YtlohbepfecahdaaDoor.S
