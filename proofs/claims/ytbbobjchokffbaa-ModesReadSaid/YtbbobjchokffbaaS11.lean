-- Written by wip/tools/myprint.py, a session's own driver of the kit's printer.
import Derived.Test.YtbbobjchokffbaaS0
import Derived.Test.YtbbobjchokffbaaS1
import Derived.Test.YtbbobjchokffbaaS6
import Derived.Test.YtbbobjchokffbaaS10
namespace Go.Proofs.Ytbbobjchokffbaa.S
open Go.RowKit Go.Proofs.YtbbobjchokffbaaW.PrintWords Go.Proofs.YtbbobjchokffbaaW.PrintLast Go.Proofs.YtbbobjchokffbaaW.PrintMore
attribute [local go_sem] max2_int min2_int max_two min_two max_three min_three max_four min_four   -- for this text's walks alone
set_option linter.unusedVariables false
set_option linter.unusedSimpArgs false

/-! ### modes_Read: function 37 -/
def signK (k : Nat) : Int := if k = 2 then 116 else 115
def bitK (k : Nat) : Int := if k = 0 then 2048 else if k = 1 then 1024 else 512
def b1 (s : ByteArray) (k : Nat) : Int := if chr s (1 + 3 * k) = 114 then Go.bits .or .i64 0 4 else 0
def b2 (s : ByteArray) (k : Nat) : Int := if chr s (2 + 3 * k) = 119 then Go.bits .or .i64 (b1 s k) 2 else b1 s k
def b3 (s : ByteArray) (k : Nat) : Int := if chr s (3 + 3 * k) = 120 then Go.bits .or .i64 (b2 s k) 1 else if chr s (3 + 3 * k) = signK k then Go.bits .or .i64 (b2 s k) 1 else b2 s k
def bI (s : ByteArray) (k i : Nat) : Int := if i = 0 then 0 else if i = 1 then b1 s k else if i = 2 then b2 s k else b3 s k
theorem bI_0 (s : ByteArray) (k : Nat) : bI s k 0 = 0 := rfl
def mI (s : ByteArray) (k : Nat) (m : Int) : Int := if chr s (3 + 3 * k) = 120 then m else if chr s (3 + 3 * k) = signK k then Go.bits .or .i64 m (bitK k) else if chr s (3 + 3 * k) = signK k - 32 then Go.bits .or .i64 m (bitK k) else m
def mS (s : ByteArray) : Nat → Int
  | 0 => 0
  | k + 1 => withS (mI s k (mS s k)) k (bI s k 3)
def mJ (s : ByteArray) (k i : Nat) : Int := if i = 3 then mI s k (mS s k) else mS s k
def readS (s : ByteArray) : Int × Int × Bool :=
  if s.size = 10 then (if showS 0 (mS s 3) = s then (0, mS s 3, true) else if showS 1 (mS s 3) = s then (1, mS s 3, true) else if showS 2 (mS s 3) = s then (2, mS s 3, true) else if showS 3 (mS s 3) = s then (3, mS s 3, true) else (0, 0, false)) else (0, 0, false)
def modes_Read.f (a0 : ByteArray) : Option (Int × Int × Bool) := some (readS a0)
theorem readS_no (s : ByteArray) (h : s.size = 10) (hn : ∀ q : Nat, q < 4 → showS q (mS s 3) ≠ s) : readS s = (0, 0, false) := by
  unfold readS
  have h0 := hn 0 (by decide); have h1 := hn 1 (by decide); have h2 := hn 2 (by decide); have h3 := hn 3 (by decide)
  rw [if_pos h, if_neg (by simpa using h0), if_neg (by simpa using h1), if_neg (by simpa using h2), if_neg (by simpa using h3)]
theorem readS_yes (s : ByteArray) (h : s.size = 10) (k : Nat) (hk : k < 4) (hn : ∀ q : Nat, q < k → showS q (mS s 3) ≠ s) (hy : showS k (mS s 3) = s) : readS s = ((k : Int), mS s 3, true) := by
  unfold readS
  rw [if_pos h]
  match k, hk with
  | 0, _ => rw [if_pos (by simpa using hy)]; rfl
  | 1, _ => rw [if_neg (by simpa using hn 0 (by decide)), if_pos (by simpa using hy)]; rfl
  | 2, _ => rw [if_neg (by simpa using hn 0 (by decide)), if_neg (by simpa using hn 1 (by decide)), if_pos (by simpa using hy)]; rfl
  | 3, _ => rw [if_neg (by simpa using hn 0 (by decide)), if_neg (by simpa using hn 1 (by decide)), if_neg (by simpa using hn 2 (by decide)), if_pos (by simpa using hy)]; rfl
set_option maxHeartbeats 8000000 in
set_option maxRecDepth 100000 in
theorem modes_Read.ten (s : ByteArray) (w : World) (hs : s.size = 10) :
    Calls Try.prog 37 #[.string s] w fun e w' => e = .returned (.tuple #[.int .i64 (readS s).1, .int .i64 (readS s).2.1, .bool (readS s).2.2]) ∧ Below w.heap.size w w' := by
  have hd : ((s.size : Int) != 10) = false := by rw [hs]; rfl
  have HS := Aside0.mk hs
  have hs1 : (9 : Nat) < s.size := by omega
  have hs2 : (9 : Int) < (s.size : Int) := by omega
  clear hs
  go_enter Try.func37, Try.ntmps37
  go_wp2
  go_loopw [5, 16] (fun v5 v16 wr => ∃ k : Nat, k ≤ 3 ∧ v16 = .int .i64 k ∧ v5 = .int .i64 (mS s k) ∧ Aside0 (Below w.heap.size w wr)) (fun _ v16 _ => 3 - (intOf v16).toNat)
  case atStart => exact ⟨0, by omega, rfl, rfl, ⟨(Below.refl _ _).alloc (Nat.le_refl _) _⟩⟩
  case round =>
    obtain ⟨k, hk, rfl, rfl, HB⟩ := hrel
    have hk' : k = 0 ∨ k = 1 ∨ k = 2 ∨ k = 3 := by omega
    clear hk
    rcases hk' with rfl | rfl | rfl | rfl
    · have hix : ∀ w, (Instr.index 68 (.agg #[.int .i64 2048, .int .u8 115, .int .i64 1024, .int .u8 115, .int .i64 512, .int .u8 116]) (.int .i64 0)).run Try.prog w = .ok (.agg #[.int .i64 2048, .int .u8 115]) w := fun _ => by kernel_rfl
      have hc0 : (wr.alloc (.cells #[.int .i64 2048, .int .u8 115] 67)).cell? ⟨wr.heap.size, 0, none⟩ = some (.int .i64 2048) := World.cell?_alloc_new ..
      have hc1 : (wr.alloc (.cells #[.int .i64 2048, .int .u8 115] 67)).cell? ⟨wr.heap.size, 1, none⟩ = some (.int .u8 115) := World.cell?_alloc_new ..
      go_wp2
      clear hix
      have HB1 := Aside0.mk (HB.out.alloc HB.out.size (.cells #[.int .i64 2048, .int .u8 115] 67))
      clear HB
      generalize wr.alloc (.cells #[.int .i64 2048, .int .u8 115] 67) = wd at hc0 hc1 HB1 ⊢
      generalize wr.heap.size = sb at hc0 hc1 ⊢
      go_loopw [5, 8, 20] (fun v5 v8 v20 wx => ∃ i : Nat, i ≤ 3 ∧ v20 = .int .i64 i ∧ v8 = .int .i64 (bI s 0 i) ∧ v5 = .int .i64 (mJ s 0 i) ∧ wx = wd) (fun _ _ v20 _ => 3 - (intOf v20).toNat)
      case atStart => exact ⟨0, by omega, rfl, by rw [bI_0], rfl, rfl⟩
      case round =>
        obtain ⟨i, hi, rfl, rfl, rfl, rfl⟩ := hrel
        have hi' : i = 0 ∨ i = 1 ∨ i = 2 ∨ i = 3 := by omega
        clear hi
        rcases hi' with rfl | rfl | rfl | rfl
        · have HC := Aside0.mk (chr_at s 1 (by omega))
          have hlit : (((ByteArray.mk #[114, 119, 120])[0]'(by decide)).toNat : Int) = 114 := rfl
          by_cases hq : ((s[1]'(by omega)).toNat : Int) = 114
          · have hb1 : (((s[1]'(by omega)).toNat : Int) == 114) = true := beq_iff_eq.2 hq
            have HE := Aside0.mk (show bI s 0 1 = Go.bits .or .i64 (bI s 0 0) 4 from by simp [bI, b1, b2, b3, signK, bitK, HC.out, hq])
            have HM := Aside0.mk (show mJ s 0 1 = mJ s 0 0 from by simp [mJ, mI, signK, bitK, HC.out, hq])
            clear hq
            go_wp2
            go_roundw
            case rel => first | exact ⟨1, by omega, rfl, by rw [HE.out] <;> rfl, by rw [HM.out], by trivial⟩ | ((repeat apply Exists.intro); exact ⟨⟨1, by omega, rfl, by rw [HE.out] <;> rfl, by rw [HM.out], by trivial⟩, rfl⟩)
            case measure => simp [intOf]
          · have hb1 : (((s[1]'(by omega)).toNat : Int) == 114) = false := beq_eq_false_iff_ne.2 hq
            have HE := Aside0.mk (show bI s 0 1 = bI s 0 0 from by simp [bI, b1, b2, b3, signK, bitK, HC.out, hq])
            have HM := Aside0.mk (show mJ s 0 1 = mJ s 0 0 from by simp [mJ, mI, signK, bitK, HC.out, hq])
            clear hq
            go_wp2
            go_roundw
            case rel => first | exact ⟨1, by omega, rfl, by rw [HE.out] <;> rfl, by rw [HM.out], by trivial⟩ | ((repeat apply Exists.intro); exact ⟨⟨1, by omega, rfl, by rw [HE.out] <;> rfl, by rw [HM.out], by trivial⟩, rfl⟩)
            case measure => simp [intOf]
        · have HC := Aside0.mk (chr_at s 2 (by omega))
          have hlit : (((ByteArray.mk #[114, 119, 120])[1]'(by decide)).toNat : Int) = 119 := rfl
          by_cases hq : ((s[2]'(by omega)).toNat : Int) = 119
          · have hb1 : (((s[2]'(by omega)).toNat : Int) == 119) = true := beq_iff_eq.2 hq
            have HE := Aside0.mk (show bI s 0 2 = Go.bits .or .i64 (bI s 0 1) 2 from by simp [bI, b1, b2, b3, signK, bitK, HC.out, hq])
            have HM := Aside0.mk (show mJ s 0 2 = mJ s 0 1 from by simp [mJ, mI, signK, bitK, HC.out, hq])
            clear hq
            go_wp2
            go_roundw
            case rel => first | exact ⟨2, by omega, rfl, by rw [HE.out] <;> rfl, by rw [HM.out], by trivial⟩ | ((repeat apply Exists.intro); exact ⟨⟨2, by omega, rfl, by rw [HE.out] <;> rfl, by rw [HM.out], by trivial⟩, rfl⟩)
            case measure => simp [intOf]
          · have hb1 : (((s[2]'(by omega)).toNat : Int) == 119) = false := beq_eq_false_iff_ne.2 hq
            have HE := Aside0.mk (show bI s 0 2 = bI s 0 1 from by simp [bI, b1, b2, b3, signK, bitK, HC.out, hq])
            have HM := Aside0.mk (show mJ s 0 2 = mJ s 0 1 from by simp [mJ, mI, signK, bitK, HC.out, hq])
            clear hq
            go_wp2
            go_roundw
            case rel => first | exact ⟨2, by omega, rfl, by rw [HE.out] <;> rfl, by rw [HM.out], by trivial⟩ | ((repeat apply Exists.intro); exact ⟨⟨2, by omega, rfl, by rw [HE.out] <;> rfl, by rw [HM.out], by trivial⟩, rfl⟩)
            case measure => simp [intOf]
        · have HC := Aside0.mk (chr_at s 3 (by omega))
          have hlit : (((ByteArray.mk #[114, 119, 120])[2]'(by decide)).toNat : Int) = 120 := rfl
          by_cases hq : ((s[3]'(by omega)).toNat : Int) = 120
          · have hb1 : (((s[3]'(by omega)).toNat : Int) == 120) = true := beq_iff_eq.2 hq
            have HE := Aside0.mk (show bI s 0 3 = Go.bits .or .i64 (bI s 0 2) 1 from by simp [bI, b1, b2, b3, signK, bitK, HC.out, hq])
            have HM := Aside0.mk (show mJ s 0 3 = mJ s 0 2 from by simp [mJ, mI, signK, bitK, HC.out, hq])
            clear hq
            go_wp2
            go_roundw
            case rel => first | exact ⟨3, by omega, rfl, by rw [HE.out] <;> rfl, by rw [HM.out], by trivial⟩ | ((repeat apply Exists.intro); exact ⟨⟨3, by omega, rfl, by rw [HE.out] <;> rfl, by rw [HM.out], by trivial⟩, rfl⟩)
            case measure => simp [intOf]
          · have hb1 : (((s[3]'(by omega)).toNat : Int) == 120) = false := beq_eq_false_iff_ne.2 hq
            by_cases hr : ((s[3]'(by omega)).toNat : Int) = 115
            · have hb2 : (((s[3]'(by omega)).toNat : Int) == 115) = true := beq_iff_eq.2 hr
              have HE := Aside0.mk (show bI s 0 3 = Go.bits .or .i64 (bI s 0 2) 1 from by simp [bI, b1, b2, b3, signK, bitK, HC.out, hq, hr])
              have HM := Aside0.mk (show mJ s 0 3 = Go.bits .or .i64 (mJ s 0 2) 2048 from by simp [mJ, mI, signK, bitK, HC.out, hq, hr])
              clear hq hr
              go_wp2
              go_roundw
              case rel => first | exact ⟨3, by omega, rfl, by rw [HE.out] <;> rfl, by rw [HM.out], by trivial⟩ | ((repeat apply Exists.intro); exact ⟨⟨3, by omega, rfl, by rw [HE.out] <;> rfl, by rw [HM.out], by trivial⟩, rfl⟩)
              case measure => simp [intOf]
            · have hb2 : (((s[3]'(by omega)).toNat : Int) == 115) = false := beq_eq_false_iff_ne.2 hr
              by_cases ht : ((s[3]'(by omega)).toNat : Int) = 83
              · have hb3 : (((s[3]'(by omega)).toNat : Int) == 83) = true := beq_iff_eq.2 ht
                have HE := Aside0.mk (show bI s 0 3 = bI s 0 2 from by simp [bI, b1, b2, b3, signK, bitK, HC.out, hq, hr, ht])
                have HM := Aside0.mk (show mJ s 0 3 = Go.bits .or .i64 (mJ s 0 2) 2048 from by simp [mJ, mI, signK, bitK, HC.out, hq, hr, ht])
                clear hq hr ht
                go_wp2
                go_roundw
                case rel => first | exact ⟨3, by omega, rfl, by rw [HE.out] <;> rfl, by rw [HM.out], by trivial⟩ | ((repeat apply Exists.intro); exact ⟨⟨3, by omega, rfl, by rw [HE.out] <;> rfl, by rw [HM.out], by trivial⟩, rfl⟩)
                case measure => simp [intOf]
              · have hb3 : (((s[3]'(by omega)).toNat : Int) == 83) = false := beq_eq_false_iff_ne.2 ht
                have HE := Aside0.mk (show bI s 0 3 = bI s 0 2 from by simp [bI, b1, b2, b3, signK, bitK, HC.out, hq, hr, ht])
                have HM := Aside0.mk (show mJ s 0 3 = mJ s 0 2 from by simp [mJ, mI, signK, bitK, HC.out, hq, hr, ht])
                clear hq hr ht
                go_wp2
                go_roundw
                case rel => first | exact ⟨3, by omega, rfl, by rw [HE.out] <;> rfl, by rw [HM.out], by trivial⟩ | ((repeat apply Exists.intro); exact ⟨⟨3, by omega, rfl, by rw [HE.out] <;> rfl, by rw [HM.out], by trivial⟩, rfl⟩)
                case measure => simp [intOf]
        · go_wp2_with fail
          refine (modes_With.calls (mJ s 0 3) 0 (bI s 0 3) (mS s 1) _ rfl).mono ?_
          rintro e w1 ⟨rfl, ⟨nd, rfl⟩⟩
          go_wp2
          go_roundw
          case rel => exact ⟨1, by omega, rfl, rfl, ⟨pw_below_drewN HB1.out _⟩⟩
          case measure => simp [intOf]
    · have hix : ∀ w, (Instr.index 68 (.agg #[.int .i64 2048, .int .u8 115, .int .i64 1024, .int .u8 115, .int .i64 512, .int .u8 116]) (.int .i64 1)).run Try.prog w = .ok (.agg #[.int .i64 1024, .int .u8 115]) w := fun _ => by kernel_rfl
      have hc0 : (wr.alloc (.cells #[.int .i64 1024, .int .u8 115] 67)).cell? ⟨wr.heap.size, 0, none⟩ = some (.int .i64 1024) := World.cell?_alloc_new ..
      have hc1 : (wr.alloc (.cells #[.int .i64 1024, .int .u8 115] 67)).cell? ⟨wr.heap.size, 1, none⟩ = some (.int .u8 115) := World.cell?_alloc_new ..
      go_wp2
      clear hix
      have HB1 := Aside0.mk (HB.out.alloc HB.out.size (.cells #[.int .i64 1024, .int .u8 115] 67))
      clear HB
      generalize wr.alloc (.cells #[.int .i64 1024, .int .u8 115] 67) = wd at hc0 hc1 HB1 ⊢
      generalize wr.heap.size = sb at hc0 hc1 ⊢
      go_loopw [5, 8, 20] (fun v5 v8 v20 wx => ∃ i : Nat, i ≤ 3 ∧ v20 = .int .i64 i ∧ v8 = .int .i64 (bI s 1 i) ∧ v5 = .int .i64 (mJ s 1 i) ∧ wx = wd) (fun _ _ v20 _ => 3 - (intOf v20).toNat)
      case atStart => exact ⟨0, by omega, rfl, by rw [bI_0], rfl, rfl⟩
      case round =>
        obtain ⟨i, hi, rfl, rfl, rfl, rfl⟩ := hrel
        have hi' : i = 0 ∨ i = 1 ∨ i = 2 ∨ i = 3 := by omega
        clear hi
        rcases hi' with rfl | rfl | rfl | rfl
        · have HC := Aside0.mk (chr_at s 4 (by omega))
          have hlit : (((ByteArray.mk #[114, 119, 120])[0]'(by decide)).toNat : Int) = 114 := rfl
          by_cases hq : ((s[4]'(by omega)).toNat : Int) = 114
          · have hb1 : (((s[4]'(by omega)).toNat : Int) == 114) = true := beq_iff_eq.2 hq
            have HE := Aside0.mk (show bI s 1 1 = Go.bits .or .i64 (bI s 1 0) 4 from by simp [bI, b1, b2, b3, signK, bitK, HC.out, hq])
            have HM := Aside0.mk (show mJ s 1 1 = mJ s 1 0 from by simp [mJ, mI, signK, bitK, HC.out, hq])
            clear hq
            go_wp2
            go_roundw
            case rel => first | exact ⟨1, by omega, rfl, by rw [HE.out] <;> rfl, by rw [HM.out], by trivial⟩ | ((repeat apply Exists.intro); exact ⟨⟨1, by omega, rfl, by rw [HE.out] <;> rfl, by rw [HM.out], by trivial⟩, rfl⟩)
            case measure => simp [intOf]
          · have hb1 : (((s[4]'(by omega)).toNat : Int) == 114) = false := beq_eq_false_iff_ne.2 hq
            have HE := Aside0.mk (show bI s 1 1 = bI s 1 0 from by simp [bI, b1, b2, b3, signK, bitK, HC.out, hq])
            have HM := Aside0.mk (show mJ s 1 1 = mJ s 1 0 from by simp [mJ, mI, signK, bitK, HC.out, hq])
            clear hq
            go_wp2
            go_roundw
            case rel => first | exact ⟨1, by omega, rfl, by rw [HE.out] <;> rfl, by rw [HM.out], by trivial⟩ | ((repeat apply Exists.intro); exact ⟨⟨1, by omega, rfl, by rw [HE.out] <;> rfl, by rw [HM.out], by trivial⟩, rfl⟩)
            case measure => simp [intOf]
        · have HC := Aside0.mk (chr_at s 5 (by omega))
          have hlit : (((ByteArray.mk #[114, 119, 120])[1]'(by decide)).toNat : Int) = 119 := rfl
          by_cases hq : ((s[5]'(by omega)).toNat : Int) = 119
          · have hb1 : (((s[5]'(by omega)).toNat : Int) == 119) = true := beq_iff_eq.2 hq
            have HE := Aside0.mk (show bI s 1 2 = Go.bits .or .i64 (bI s 1 1) 2 from by simp [bI, b1, b2, b3, signK, bitK, HC.out, hq])
            have HM := Aside0.mk (show mJ s 1 2 = mJ s 1 1 from by simp [mJ, mI, signK, bitK, HC.out, hq])
            clear hq
            go_wp2
            go_roundw
            case rel => first | exact ⟨2, by omega, rfl, by rw [HE.out] <;> rfl, by rw [HM.out], by trivial⟩ | ((repeat apply Exists.intro); exact ⟨⟨2, by omega, rfl, by rw [HE.out] <;> rfl, by rw [HM.out], by trivial⟩, rfl⟩)
            case measure => simp [intOf]
          · have hb1 : (((s[5]'(by omega)).toNat : Int) == 119) = false := beq_eq_false_iff_ne.2 hq
            have HE := Aside0.mk (show bI s 1 2 = bI s 1 1 from by simp [bI, b1, b2, b3, signK, bitK, HC.out, hq])
            have HM := Aside0.mk (show mJ s 1 2 = mJ s 1 1 from by simp [mJ, mI, signK, bitK, HC.out, hq])
            clear hq
            go_wp2
            go_roundw
            case rel => first | exact ⟨2, by omega, rfl, by rw [HE.out] <;> rfl, by rw [HM.out], by trivial⟩ | ((repeat apply Exists.intro); exact ⟨⟨2, by omega, rfl, by rw [HE.out] <;> rfl, by rw [HM.out], by trivial⟩, rfl⟩)
            case measure => simp [intOf]
        · have HC := Aside0.mk (chr_at s 6 (by omega))
          have hlit : (((ByteArray.mk #[114, 119, 120])[2]'(by decide)).toNat : Int) = 120 := rfl
          by_cases hq : ((s[6]'(by omega)).toNat : Int) = 120
          · have hb1 : (((s[6]'(by omega)).toNat : Int) == 120) = true := beq_iff_eq.2 hq
            have HE := Aside0.mk (show bI s 1 3 = Go.bits .or .i64 (bI s 1 2) 1 from by simp [bI, b1, b2, b3, signK, bitK, HC.out, hq])
            have HM := Aside0.mk (show mJ s 1 3 = mJ s 1 2 from by simp [mJ, mI, signK, bitK, HC.out, hq])
            clear hq
            go_wp2
            go_roundw
            case rel => first | exact ⟨3, by omega, rfl, by rw [HE.out] <;> rfl, by rw [HM.out], by trivial⟩ | ((repeat apply Exists.intro); exact ⟨⟨3, by omega, rfl, by rw [HE.out] <;> rfl, by rw [HM.out], by trivial⟩, rfl⟩)
            case measure => simp [intOf]
          · have hb1 : (((s[6]'(by omega)).toNat : Int) == 120) = false := beq_eq_false_iff_ne.2 hq
            by_cases hr : ((s[6]'(by omega)).toNat : Int) = 115
            · have hb2 : (((s[6]'(by omega)).toNat : Int) == 115) = true := beq_iff_eq.2 hr
              have HE := Aside0.mk (show bI s 1 3 = Go.bits .or .i64 (bI s 1 2) 1 from by simp [bI, b1, b2, b3, signK, bitK, HC.out, hq, hr])
              have HM := Aside0.mk (show mJ s 1 3 = Go.bits .or .i64 (mJ s 1 2) 1024 from by simp [mJ, mI, signK, bitK, HC.out, hq, hr])
              clear hq hr
              go_wp2
              go_roundw
              case rel => first | exact ⟨3, by omega, rfl, by rw [HE.out] <;> rfl, by rw [HM.out], by trivial⟩ | ((repeat apply Exists.intro); exact ⟨⟨3, by omega, rfl, by rw [HE.out] <;> rfl, by rw [HM.out], by trivial⟩, rfl⟩)
              case measure => simp [intOf]
            · have hb2 : (((s[6]'(by omega)).toNat : Int) == 115) = false := beq_eq_false_iff_ne.2 hr
              by_cases ht : ((s[6]'(by omega)).toNat : Int) = 83
              · have hb3 : (((s[6]'(by omega)).toNat : Int) == 83) = true := beq_iff_eq.2 ht
                have HE := Aside0.mk (show bI s 1 3 = bI s 1 2 from by simp [bI, b1, b2, b3, signK, bitK, HC.out, hq, hr, ht])
                have HM := Aside0.mk (show mJ s 1 3 = Go.bits .or .i64 (mJ s 1 2) 1024 from by simp [mJ, mI, signK, bitK, HC.out, hq, hr, ht])
                clear hq hr ht
                go_wp2
                go_roundw
                case rel => first | exact ⟨3, by omega, rfl, by rw [HE.out] <;> rfl, by rw [HM.out], by trivial⟩ | ((repeat apply Exists.intro); exact ⟨⟨3, by omega, rfl, by rw [HE.out] <;> rfl, by rw [HM.out], by trivial⟩, rfl⟩)
                case measure => simp [intOf]
              · have hb3 : (((s[6]'(by omega)).toNat : Int) == 83) = false := beq_eq_false_iff_ne.2 ht
                have HE := Aside0.mk (show bI s 1 3 = bI s 1 2 from by simp [bI, b1, b2, b3, signK, bitK, HC.out, hq, hr, ht])
                have HM := Aside0.mk (show mJ s 1 3 = mJ s 1 2 from by simp [mJ, mI, signK, bitK, HC.out, hq, hr, ht])
                clear hq hr ht
                go_wp2
                go_roundw
                case rel => first | exact ⟨3, by omega, rfl, by rw [HE.out] <;> rfl, by rw [HM.out], by trivial⟩ | ((repeat apply Exists.intro); exact ⟨⟨3, by omega, rfl, by rw [HE.out] <;> rfl, by rw [HM.out], by trivial⟩, rfl⟩)
                case measure => simp [intOf]
        · go_wp2_with fail
          refine (modes_With.calls (mJ s 1 3) 1 (bI s 1 3) (mS s 2) _ rfl).mono ?_
          rintro e w1 ⟨rfl, ⟨nd, rfl⟩⟩
          go_wp2
          go_roundw
          case rel => exact ⟨2, by omega, rfl, rfl, ⟨pw_below_drewN HB1.out _⟩⟩
          case measure => simp [intOf]
    · have hix : ∀ w, (Instr.index 68 (.agg #[.int .i64 2048, .int .u8 115, .int .i64 1024, .int .u8 115, .int .i64 512, .int .u8 116]) (.int .i64 2)).run Try.prog w = .ok (.agg #[.int .i64 512, .int .u8 116]) w := fun _ => by kernel_rfl
      have hc0 : (wr.alloc (.cells #[.int .i64 512, .int .u8 116] 67)).cell? ⟨wr.heap.size, 0, none⟩ = some (.int .i64 512) := World.cell?_alloc_new ..
      have hc1 : (wr.alloc (.cells #[.int .i64 512, .int .u8 116] 67)).cell? ⟨wr.heap.size, 1, none⟩ = some (.int .u8 116) := World.cell?_alloc_new ..
      go_wp2
      clear hix
      have HB1 := Aside0.mk (HB.out.alloc HB.out.size (.cells #[.int .i64 512, .int .u8 116] 67))
      clear HB
      generalize wr.alloc (.cells #[.int .i64 512, .int .u8 116] 67) = wd at hc0 hc1 HB1 ⊢
      generalize wr.heap.size = sb at hc0 hc1 ⊢
      go_loopw [5, 8, 20] (fun v5 v8 v20 wx => ∃ i : Nat, i ≤ 3 ∧ v20 = .int .i64 i ∧ v8 = .int .i64 (bI s 2 i) ∧ v5 = .int .i64 (mJ s 2 i) ∧ wx = wd) (fun _ _ v20 _ => 3 - (intOf v20).toNat)
      case atStart => exact ⟨0, by omega, rfl, by rw [bI_0], rfl, rfl⟩
      case round =>
        obtain ⟨i, hi, rfl, rfl, rfl, rfl⟩ := hrel
        have hi' : i = 0 ∨ i = 1 ∨ i = 2 ∨ i = 3 := by omega
        clear hi
        rcases hi' with rfl | rfl | rfl | rfl
        · have HC := Aside0.mk (chr_at s 7 (by omega))
          have hlit : (((ByteArray.mk #[114, 119, 120])[0]'(by decide)).toNat : Int) = 114 := rfl
          by_cases hq : ((s[7]'(by omega)).toNat : Int) = 114
          · have hb1 : (((s[7]'(by omega)).toNat : Int) == 114) = true := beq_iff_eq.2 hq
            have HE := Aside0.mk (show bI s 2 1 = Go.bits .or .i64 (bI s 2 0) 4 from by simp [bI, b1, b2, b3, signK, bitK, HC.out, hq])
            have HM := Aside0.mk (show mJ s 2 1 = mJ s 2 0 from by simp [mJ, mI, signK, bitK, HC.out, hq])
            clear hq
            go_wp2
            go_roundw
            case rel => first | exact ⟨1, by omega, rfl, by rw [HE.out] <;> rfl, by rw [HM.out], by trivial⟩ | ((repeat apply Exists.intro); exact ⟨⟨1, by omega, rfl, by rw [HE.out] <;> rfl, by rw [HM.out], by trivial⟩, rfl⟩)
            case measure => simp [intOf]
          · have hb1 : (((s[7]'(by omega)).toNat : Int) == 114) = false := beq_eq_false_iff_ne.2 hq
            have HE := Aside0.mk (show bI s 2 1 = bI s 2 0 from by simp [bI, b1, b2, b3, signK, bitK, HC.out, hq])
            have HM := Aside0.mk (show mJ s 2 1 = mJ s 2 0 from by simp [mJ, mI, signK, bitK, HC.out, hq])
            clear hq
            go_wp2
            go_roundw
            case rel => first | exact ⟨1, by omega, rfl, by rw [HE.out] <;> rfl, by rw [HM.out], by trivial⟩ | ((repeat apply Exists.intro); exact ⟨⟨1, by omega, rfl, by rw [HE.out] <;> rfl, by rw [HM.out], by trivial⟩, rfl⟩)
            case measure => simp [intOf]
        · have HC := Aside0.mk (chr_at s 8 (by omega))
          have hlit : (((ByteArray.mk #[114, 119, 120])[1]'(by decide)).toNat : Int) = 119 := rfl
          by_cases hq : ((s[8]'(by omega)).toNat : Int) = 119
          · have hb1 : (((s[8]'(by omega)).toNat : Int) == 119) = true := beq_iff_eq.2 hq
            have HE := Aside0.mk (show bI s 2 2 = Go.bits .or .i64 (bI s 2 1) 2 from by simp [bI, b1, b2, b3, signK, bitK, HC.out, hq])
            have HM := Aside0.mk (show mJ s 2 2 = mJ s 2 1 from by simp [mJ, mI, signK, bitK, HC.out, hq])
            clear hq
            go_wp2
            go_roundw
            case rel => first | exact ⟨2, by omega, rfl, by rw [HE.out] <;> rfl, by rw [HM.out], by trivial⟩ | ((repeat apply Exists.intro); exact ⟨⟨2, by omega, rfl, by rw [HE.out] <;> rfl, by rw [HM.out], by trivial⟩, rfl⟩)
            case measure => simp [intOf]
          · have hb1 : (((s[8]'(by omega)).toNat : Int) == 119) = false := beq_eq_false_iff_ne.2 hq
            have HE := Aside0.mk (show bI s 2 2 = bI s 2 1 from by simp [bI, b1, b2, b3, signK, bitK, HC.out, hq])
            have HM := Aside0.mk (show mJ s 2 2 = mJ s 2 1 from by simp [mJ, mI, signK, bitK, HC.out, hq])
            clear hq
            go_wp2
            go_roundw
            case rel => first | exact ⟨2, by omega, rfl, by rw [HE.out] <;> rfl, by rw [HM.out], by trivial⟩ | ((repeat apply Exists.intro); exact ⟨⟨2, by omega, rfl, by rw [HE.out] <;> rfl, by rw [HM.out], by trivial⟩, rfl⟩)
            case measure => simp [intOf]
        · have HC := Aside0.mk (chr_at s 9 (by omega))
          have hlit : (((ByteArray.mk #[114, 119, 120])[2]'(by decide)).toNat : Int) = 120 := rfl
          by_cases hq : ((s[9]'(by omega)).toNat : Int) = 120
          · have hb1 : (((s[9]'(by omega)).toNat : Int) == 120) = true := beq_iff_eq.2 hq
            have HE := Aside0.mk (show bI s 2 3 = Go.bits .or .i64 (bI s 2 2) 1 from by simp [bI, b1, b2, b3, signK, bitK, HC.out, hq])
            have HM := Aside0.mk (show mJ s 2 3 = mJ s 2 2 from by simp [mJ, mI, signK, bitK, HC.out, hq])
            clear hq
            go_wp2
            go_roundw
            case rel => first | exact ⟨3, by omega, rfl, by rw [HE.out] <;> rfl, by rw [HM.out], by trivial⟩ | ((repeat apply Exists.intro); exact ⟨⟨3, by omega, rfl, by rw [HE.out] <;> rfl, by rw [HM.out], by trivial⟩, rfl⟩)
            case measure => simp [intOf]
          · have hb1 : (((s[9]'(by omega)).toNat : Int) == 120) = false := beq_eq_false_iff_ne.2 hq
            by_cases hr : ((s[9]'(by omega)).toNat : Int) = 116
            · have hb2 : (((s[9]'(by omega)).toNat : Int) == 116) = true := beq_iff_eq.2 hr
              have HE := Aside0.mk (show bI s 2 3 = Go.bits .or .i64 (bI s 2 2) 1 from by simp [bI, b1, b2, b3, signK, bitK, HC.out, hq, hr])
              have HM := Aside0.mk (show mJ s 2 3 = Go.bits .or .i64 (mJ s 2 2) 512 from by simp [mJ, mI, signK, bitK, HC.out, hq, hr])
              clear hq hr
              go_wp2
              go_roundw
              case rel => first | exact ⟨3, by omega, rfl, by rw [HE.out] <;> rfl, by rw [HM.out], by trivial⟩ | ((repeat apply Exists.intro); exact ⟨⟨3, by omega, rfl, by rw [HE.out] <;> rfl, by rw [HM.out], by trivial⟩, rfl⟩)
              case measure => simp [intOf]
            · have hb2 : (((s[9]'(by omega)).toNat : Int) == 116) = false := beq_eq_false_iff_ne.2 hr
              by_cases ht : ((s[9]'(by omega)).toNat : Int) = 84
              · have hb3 : (((s[9]'(by omega)).toNat : Int) == 84) = true := beq_iff_eq.2 ht
                have HE := Aside0.mk (show bI s 2 3 = bI s 2 2 from by simp [bI, b1, b2, b3, signK, bitK, HC.out, hq, hr, ht])
                have HM := Aside0.mk (show mJ s 2 3 = Go.bits .or .i64 (mJ s 2 2) 512 from by simp [mJ, mI, signK, bitK, HC.out, hq, hr, ht])
                clear hq hr ht
                go_wp2
                go_roundw
                case rel => first | exact ⟨3, by omega, rfl, by rw [HE.out] <;> rfl, by rw [HM.out], by trivial⟩ | ((repeat apply Exists.intro); exact ⟨⟨3, by omega, rfl, by rw [HE.out] <;> rfl, by rw [HM.out], by trivial⟩, rfl⟩)
                case measure => simp [intOf]
              · have hb3 : (((s[9]'(by omega)).toNat : Int) == 84) = false := beq_eq_false_iff_ne.2 ht
                have HE := Aside0.mk (show bI s 2 3 = bI s 2 2 from by simp [bI, b1, b2, b3, signK, bitK, HC.out, hq, hr, ht])
                have HM := Aside0.mk (show mJ s 2 3 = mJ s 2 2 from by simp [mJ, mI, signK, bitK, HC.out, hq, hr, ht])
                clear hq hr ht
                go_wp2
                go_roundw
                case rel => first | exact ⟨3, by omega, rfl, by rw [HE.out] <;> rfl, by rw [HM.out], by trivial⟩ | ((repeat apply Exists.intro); exact ⟨⟨3, by omega, rfl, by rw [HE.out] <;> rfl, by rw [HM.out], by trivial⟩, rfl⟩)
                case measure => simp [intOf]
        · go_wp2_with fail
          refine (modes_With.calls (mJ s 2 3) 2 (bI s 2 3) (mS s 3) _ rfl).mono ?_
          rintro e w1 ⟨rfl, ⟨nd, rfl⟩⟩
          go_wp2
          go_roundw
          case rel => exact ⟨3, by omega, rfl, rfl, ⟨pw_below_drewN HB1.out _⟩⟩
          case measure => simp [intOf]
    · go_wp2
      generalize hmm : mS s 3 = m
      have HMM := Aside0.mk hmm
      clear hmm
      go_loopw [75] (fun v75 wq => ∃ q : Nat, q ≤ 4 ∧ v75 = .int .i64 q ∧ Aside0 (Below w.heap.size w wq) ∧ Aside0 (∀ x : Nat, x < q → showS x m ≠ s)) (fun v75 _ => 4 - (intOf v75).toNat)
      case atStart => exact ⟨0, by omega, rfl, HB, ⟨fun x hx => absurd hx (Nat.not_lt_zero _)⟩⟩
      case round =>
        obtain ⟨q, hq, rfl, HB2, HN⟩ := hrel
        by_cases hlt : q < 4
        · by_cases he : showS q m = s
          · have HR := Aside0.mk (show readS s = ((q : Int), m, true) from by rw [← HMM.out] at he ⊢; exact readS_yes s HS.out q hlt (by have h := HN.out; rw [← HMM.out] at h; exact h) he)
            have he1 : ((showS q m).toList == s.toList) = true := by rw [he]; exact beq_self_eq_true _
            clear he
            go_wp2_with fail
            refine (modes_Show.calls q m (showS q m) _ rfl).mono ?_
            rintro e w1 ⟨rfl, hb⟩
            have HB3 := Aside0.mk (HB2.out.trans (hb.mono HB2.out.size))
            clear hb
            go_wp2
            go_ret3
            exact ⟨by rw [HR.out]; rfl, HB3.out⟩
          · have he1 : ((showS q m).toList == s.toList) = false := by
              rw [beq_eq_false_iff_ne]; intro h; rw [ByteArray.toList_eq, ByteArray.toList_eq] at h
              exact he (ByteArray.ext (Array.toList_inj.1 h))
            have HE := Aside0.mk he
            clear he
            go_wp2_with fail
            refine (modes_Show.calls q m (showS q m) _ rfl).mono ?_
            rintro e w1 ⟨rfl, hb⟩
            have HB3 := Aside0.mk (HB2.out.trans (hb.mono HB2.out.size))
            clear hb
            go_wp2
            go_roundw
            have HN2 := Aside0.mk (fun (x : Nat) (hx : x < q + 1) => (show showS x m ≠ s from (Nat.lt_or_ge x q).elim (fun h => HN.out x h) (fun h => (show x = q from by omega) ▸ HE.out)))
            case rel => first | exact ⟨q + 1, by omega, by go_num, HB3, HN2⟩ | ((repeat apply Exists.intro); exact ⟨⟨q + 1, by omega, by go_num, HB3, HN2⟩, rfl⟩)
            case measure => simp [intOf]; omega
        · obtain rfl : q = 4 := by omega
          have HR := Aside0.mk (show readS s = (0, 0, false) from readS_no s HS.out (by have h := HN.out; rw [← HMM.out] at h; exact h))
          go_wp2
          go_ret3
          exact ⟨by rw [HR.out]; rfl, HB2.out⟩
theorem modes_Read.calls (a0 : ByteArray) (r1 : Int) (r2 : Int) (r3 : Bool) (w : World) (h : modes_Read.f a0 = some (r1, r2, r3)) :
    Calls Try.prog 37 #[.string a0] w fun e w' => e = .returned (.tuple #[.int .i64 r1, .int .i64 r2, .bool r3]) ∧ Below w.heap.size w w' := by
  obtain ⟨rfl, rfl, rfl⟩ : (readS a0).1 = r1 ∧ (readS a0).2.1 = r2 ∧ (readS a0).2.2 = r3 := by have := Option.some.inj h; rw [this]; exact ⟨rfl, rfl, rfl⟩
  clear h
  by_cases hs : a0.size = 10
  · exact modes_Read.ten a0 w hs
  · have HR := Aside0.mk (show readS a0 = (0, 0, false) from by unfold readS; rw [if_neg hs])
    have hd : ((a0.size : Int) != 10) = true := by rw [bne_iff_ne]; omega
    clear hs
    go_enter Try.func37, Try.ntmps37
    go_wp2
    go_ret3
    exact ⟨by rw [HR.out]; rfl, Below.refl _ _⟩

/-! ### modes_ReadOctal: function 38 -/
def isOct (c : UInt8) : Bool := 48 ≤ c.toNat && c.toNat ≤ 55
def octV : List UInt8 → Int → Int
  | [], n => n
  | c :: t, n => octV t (n * 8 + ((c.toNat : Int) - 48))
theorem octV_snoc (l : List UInt8) (c : UInt8) (n : Int) : octV (l ++ [c]) n = octV l n * 8 + ((c.toNat : Int) - 48) := by
  induction l generalizing n with
  | nil => rfl
  | cons a t ih => exact ih _
theorem octV_bound (l : List UInt8) : ∀ n : Int, 0 ≤ n → (∀ c ∈ l, isOct c = true) → 0 ≤ octV l n ∧ octV l n < (n + 1) * 8 ^ l.length := by
  induction l with
  | nil => intro n h _; exact ⟨h, by simp [octV]; omega⟩
  | cons c t ih =>
    intro n h hc
    have h1 := hc c (by simp)
    simp [isOct] at h1
    have hm : ∀ c ∈ t, isOct c = true := fun x hx => hc x (by simp [hx])
    obtain ⟨i1, i2⟩ := ih (n * 8 + ((c.toNat : Int) - 48)) (by omega) hm
    refine ⟨i1, Int.lt_of_lt_of_le i2 ?_⟩
    rw [List.length_cons, Int.pow_succ, Int.mul_comm (8 ^ t.length) 8, ← Int.mul_assoc]
    exact Int.mul_le_mul_of_nonneg_right (by omega) (Int.pow_nonneg (by decide))
theorem octV_small (l : List UInt8) (h : ∀ c ∈ l, isOct c = true) (hl : l.length ≤ 8) : 0 ≤ octV l 0 ∧ octV l 0 < 16777216 := by
  obtain ⟨h1, h2⟩ := octV_bound l 0 (by decide) h
  refine ⟨h1, Int.lt_of_lt_of_le h2 ?_⟩
  have h8 : (8 : Nat) ^ l.length ≤ 8 ^ 8 := Nat.pow_le_pow_right (by decide) hl
  have : (8 : Int) ^ l.length ≤ ((8 ^ 8 : Nat) : Int) := by
    have e : (8 : Int) ^ l.length = ((8 ^ l.length : Nat) : Int) := by simp
    rw [e]; exact_mod_cast h8
  omega
def roS (s : ByteArray) : Int × Int := if s.size = 0 ∨ 8 < s.size then (0, 22) else if s.data.toList.all isOct then (if 4095 < octV s.data.toList 0 then (0, 22) else (octV s.data.toList 0, 0)) else (0, 22)
def modes_ReadOctal.f (a0 : ByteArray) : Option (Int × Int) := some (roS a0)
theorem roS_bad (s : ByteArray) (h0 : s.size ≠ 0) (h8 : s.size ≤ 8) (c : UInt8) (hc : c ∈ s.data.toList) (h : isOct c = false) : roS s = (0, 22) := by
  unfold roS
  rw [if_neg (by omega), if_neg]
  intro ha
  rw [List.all_eq_true.1 ha c hc] at h
  exact Bool.noConfusion h
set_option maxHeartbeats 1600000 in
theorem modes_ReadOctal.go (s : ByteArray) (w : World) (h0 : s.size ≠ 0) (h8 : s.size ≤ 8) :
    Calls Try.prog 38 #[.string s] w fun e w' => e = .returned (.tuple #[.int .i64 (roS s).1, .int .i64 (roS s).2]) ∧ Below w.heap.size w w' := by
  have he := toList_emp s h0
  have h8' : (s.size : Int) ≤ 8 := by omega
  go_enter Try.func38, Try.ntmps38
  go_wp2
  go_loopw [4] (fun n w' => ∃ pos : Nat, pos ≤ s.size ∧ w' = w.iter s pos ∧ n = .int .i64 (octV (s.data.toList.take pos) 0) ∧ Aside0 (∀ c ∈ s.data.toList.take pos, isOct c = true)) (fun _ w' => s.size - w'.iterPos w.heap.size)
  case atStart => exact ⟨0, Nat.zero_le _, rfl, rfl, ⟨by simp⟩⟩
  case round =>
    obtain ⟨pos, hpos, rfl, rfl, HA⟩ := hrel
    have hl : (s.data.toList.take pos).length ≤ 8 := by rw [List.length_take]; omega
    obtain ⟨b0, b1⟩ := octV_small _ HA.out hl
    clear hl
    by_cases hp : pos < s.size
    · have HX := Aside0.mk (octV_snoc (s.data.toList.take pos) (s[pos]'hp) 0)
      have HT := Aside0.mk (take_snoc s pos hp)
      have hlt := (s[pos]'hp).toNat_lt
      have HM : Aside0 (s[pos]'hp ∈ s.data.toList) := ⟨Array.mem_toList_iff.2 (Array.getElem_mem (by simpa using hp))⟩
      by_cases ha : (s[pos]'hp).toNat < 128
      · have hnx : ∀ ty, (Instr.next (.pointer (some ⟨w.heap.size, 0, none⟩)) true ty).run Try.prog (w.iter s pos) = _ := fun ty => run_next_ascii w s pos ty hp ha
        by_cases hlo : (s[pos]'hp).toNat < 48
        · have HR := Aside0.mk (roS_bad s h0 h8 _ HM.out (by simp [isOct]; omega))
          have g1 : ((s[pos]'hp).toNat : Int) < 48 := by omega
          have d1 : decide (((s[pos]'hp).toNat : Int) < 48) = true := decide_eq_true g1
          go_wp2
          go_ret2
          exact ⟨by rw [HR.out]; rfl, iter_below _ _ _⟩
        · by_cases hhi : 55 < (s[pos]'hp).toNat
          · have HR := Aside0.mk (roS_bad s h0 h8 _ HM.out (by simp [isOct]; omega))
            have d1 : decide (((s[pos]'hp).toNat : Int) < 48) = false := decide_eq_false (by omega)
            have d2 : decide ((55 : Int) < ((s[pos]'hp).toNat : Int)) = true := decide_eq_true (by omega)
            go_wp2
            go_ret2
            exact ⟨by rw [HR.out]; rfl, iter_below _ _ _⟩
          · have g1 : ¬ ((s[pos]'hp).toNat : Int) < 48 := by omega
            have g2 : ¬ (55 : Int) < ((s[pos]'hp).toNat : Int) := by omega
            have d1 : decide (((s[pos]'hp).toNat : Int) < 48) = false := decide_eq_false g1
            have d2 : decide ((55 : Int) < ((s[pos]'hp).toNat : Int)) = false := decide_eq_false g2
            have HO : Aside0 (isOct (s[pos]'hp) = true) := ⟨by simp [isOct]; omega⟩
            go_wp2
            go_roundw
            case rel =>
              refine ⟨pos + 1, by omega, rfl, ?_, ⟨?_⟩⟩
              · rw [HT.out, HX.out]
              · rw [HT.out]
                intro c hc
                rcases List.mem_append.1 hc with hc | hc
                · exact HA.out c hc
                · rw [List.mem_singleton.1 hc]; exact HO.out
            case measure => simp; omega
      · have hnx : ∀ ty, (Instr.next (.pointer (some ⟨w.heap.size, 0, none⟩)) true ty).run Try.prog (w.iter s pos) = _ := fun ty => run_next_any w s pos ty hp
        obtain ⟨hd1, hd2⟩ := decode_high s pos hp (by omega)
        have HR := Aside0.mk (roS_bad s h0 h8 _ HM.out (by simp [isOct]; omega))
        generalize hg : Utf8.decode s pos = dc at hnx hd1 hd2
        clear hg
        have d1 : decide ((dc.1 : Int) < 48) = false := decide_eq_false (by omega)
        have d2 : decide ((55 : Int) < (dc.1 : Int)) = true := decide_eq_true (by omega)
        go_wp2
        go_ret2
        exact ⟨by rw [HR.out]; rfl, iter_below _ _ _⟩
    · have hnx : ∀ ty, (Instr.next (.pointer (some ⟨w.heap.size, 0, none⟩)) true ty).run Try.prog (w.iter s pos) = _ := fun ty => run_next_end w s pos ty hp
      obtain rfl : pos = s.size := by omega
      have HF := Aside0.mk (show s.data.toList.take s.size = s.data.toList from List.take_of_length_le (by simp))
      by_cases hv : 4095 < octV (s.data.toList.take s.size) 0
      · have HR : Aside0 (roS s = (0, 22)) := ⟨by
          have := hv; rw [HF.out] at this
          unfold roS; rw [if_neg (by omega), if_pos (List.all_eq_true.2 (by have := HA.out; rw [HF.out] at this; exact this)), if_pos this]⟩
        go_wp2
        go_ret2
        exact ⟨by rw [HR.out]; rfl, iter_below _ _ _⟩
      · have HR : Aside0 (roS s = (octV (s.data.toList.take s.size) 0, 0)) := ⟨by
          have := hv; rw [HF.out] at this
          unfold roS; rw [if_neg (by omega), if_pos (List.all_eq_true.2 (by have := HA.out; rw [HF.out] at this; exact this)), if_neg this, HF.out]⟩
        go_wp2
        go_ret2
        exact ⟨by rw [HR.out]; rfl, iter_below _ _ _⟩
set_option maxHeartbeats 1600000 in
theorem modes_ReadOctal.calls (a0 : ByteArray) (r1 : Int) (r2 : Int) (w : World) (h : modes_ReadOctal.f a0 = some (r1, r2)) :
    Calls Try.prog 38 #[.string a0] w fun e w' => e = .returned (.tuple #[.int .i64 r1, .int .i64 r2]) ∧ Below w.heap.size w w' := by
  obtain ⟨rfl, rfl⟩ : (roS a0).1 = r1 ∧ (roS a0).2 = r2 := by have := Option.some.inj h; rw [this]; exact ⟨rfl, rfl⟩
  clear h
  by_cases h0 : a0.size = 0
  · have HR : Aside0 (roS a0 = (0, 22)) := ⟨by unfold roS; rw [if_pos (.inl h0)]⟩
    have he : a0.toList = [] := by rw [ByteArray.toList_eq]; exact List.eq_nil_of_length_eq_zero (by simpa using h0)
    have he2 : a0.toList.isEmpty = true := by rw [he]; rfl
    clear he
    go_enter Try.func38, Try.ntmps38
    go_wp2
    go_ret2
    exact ⟨by rw [HR.out]; rfl, Below.refl _ _⟩
  · by_cases h8 : 8 < a0.size
    · have HR : Aside0 (roS a0 = (0, 22)) := ⟨by unfold roS; rw [if_pos (.inr h8)]⟩
      have he := toList_emp a0 h0
      have h8' : (8 : Int) < (a0.size : Int) := by omega
      have h8d : decide ((8 : Int) < (a0.size : Int)) = true := decide_eq_true h8'
      go_enter Try.func38, Try.ntmps38
      go_wp2
      go_ret2
      exact ⟨by rw [HR.out]; rfl, Below.refl _ _⟩
    · exact modes_ReadOctal.go a0 w h0 (by omega)

/-! ### modes_Octal: function 40 -/
def dg (x : Int) : UInt8 := UInt8.ofNat (48 + (x % 8).toNat)
theorem enc_dg (x : Int) : Utf8.encode (wrap32 (wrap64 (48 + Go.bits .and .i64 x 7))) = ⟨#[dg x]⟩ := by
  rw [B.and_7]
  have h0 : 0 ≤ x % 8 := by omega
  have h1 : x % 8 < 8 := by omega
  unfold dg
  generalize x % 8 = y at h0 h1
  obtain ⟨n, rfl⟩ := Int.eq_ofNat_of_zero_le h0
  have hn : n < 8 := by omega
  clear h0 h1
  match n, hn with
  | 0, _ => decide +kernel
  | 1, _ => decide +kernel
  | 2, _ => decide +kernel
  | 3, _ => decide +kernel
  | 4, _ => decide +kernel
  | 5, _ => decide +kernel
  | 6, _ => decide +kernel
  | 7, _ => decide +kernel
def octS (x : Int) : ByteArray := ⟨#[dg (x / 512), dg (x / 64), dg (x / 8), dg x]⟩
def modes_Octal.f (a0 : Int) : Option ByteArray := some (octS a0)
set_option maxHeartbeats 1600000 in
theorem modes_Octal.calls (a0 : Int) (r : ByteArray) (w : World) (h : modes_Octal.f a0 = some r) :
    Calls Try.prog 40 #[.int .i64 a0] w fun e w' => e = .returned (.string r) ∧ Drawn0 w w' := by
  obtain rfl := Option.some.inj h
  clear h
  have he := enc_dg
  go_enter Try.func40, Try.ntmps40
  go_wp2
  go_rounds 5
  go_ret
  exact ⟨ret_str (by apply ByteArray.ext; simp [octS]), by repeat (first | exact Drawn0.refl _ | apply Drawn0.step)⟩

/-! ### gaolerlaw01_awake: function 34 -/
def gaolerlaw01_awake.f  : Option (Bool) := (modes_Read.f (⟨#[100, 114, 119, 120, 114, 119, 120, 114, 45, 116]⟩ : ByteArray)).bind fun bt258 => ((modes_ReadOctal.f (⟨#[52, 55, 53, 53]⟩ : ByteArray)).bind fun bt261 => ((modes_Show.f 2 1021).bind fun t263 => (if t263.toList = ([100, 114, 119, 120, 114, 119, 120, 114, 45, 116] : List UInt8) then (if bt258.1 = 2 then (if bt258.2.1 = 1021 then (if bt258.2.2 = true then ((modes_Octal.f 2541).bind fun t264 => (if t264.toList = ([52, 55, 53, 53] : List UInt8) then (if bt261.1 = 2541 then (if bt261.2 = 0 then ((modes_Class.f 2541 1).bind fun t265 => (some (t265 == 5))) else (some false)) else (some false)) else (some false))) else (some false)) else (some false)) else (some false)) else (some false))))
set_option maxHeartbeats 8000000 in
set_option maxRecDepth 100000 in
theorem gaolerlaw01_awake.calls  (r : Bool) (w : World) (h : gaolerlaw01_awake.f  = some r) :
    Calls Try.prog 34 #[] w fun e w' => e = .returned (.bool r) ∧ Below w.heap.size w w' := by
  have HB := Aside0.mk (Below.refl w.heap.size w)
  have H : ((modes_Read.f (⟨#[100, 114, 119, 120, 114, 119, 120, 114, 45, 116]⟩ : ByteArray)).bind fun bt258 => ((modes_ReadOctal.f (⟨#[52, 55, 53, 53]⟩ : ByteArray)).bind fun bt261 => ((modes_Show.f 2 1021).bind fun t263 => (if t263.toList = ([100, 114, 119, 120, 114, 119, 120, 114, 45, 116] : List UInt8) then (if bt258.1 = 2 then (if bt258.2.1 = 1021 then (if bt258.2.2 = true then ((modes_Octal.f 2541).bind fun t264 => (if t264.toList = ([52, 55, 53, 53] : List UInt8) then (if bt261.1 = 2541 then (if bt261.2 = 0 then ((modes_Class.f 2541 1).bind fun t265 => (some (t265 == 5))) else (some false)) else (some false)) else (some false))) else (some false)) else (some false)) else (some false)) else (some false))))) = some r := h
  clear h
  replace H := Option.bind_eq_some_iff.mp H
  obtain ⟨⟨t258, t259, t260⟩, A10, H⟩ := H
  replace H : ((modes_ReadOctal.f (⟨#[52, 55, 53, 53]⟩ : ByteArray)).bind fun bt261 => ((modes_Show.f 2 1021).bind fun t263 => (if t263.toList = ([100, 114, 119, 120, 114, 119, 120, 114, 45, 116] : List UInt8) then (if t258 = 2 then (if t259 = 1021 then (if t260 = true then ((modes_Octal.f 2541).bind fun t264 => (if t264.toList = ([52, 55, 53, 53] : List UInt8) then (if bt261.1 = 2541 then (if bt261.2 = 0 then ((modes_Class.f 2541 1).bind fun t265 => (some (t265 == 5))) else (some false)) else (some false)) else (some false))) else (some false)) else (some false)) else (some false)) else (some false)))) = some r := H
  have A1 := Aside0.mk A10
  clear A10
  replace H := Option.bind_eq_some_iff.mp H
  obtain ⟨⟨t261, t262⟩, A20, H⟩ := H
  replace H : ((modes_Show.f 2 1021).bind fun t263 => (if t263.toList = ([100, 114, 119, 120, 114, 119, 120, 114, 45, 116] : List UInt8) then (if t258 = 2 then (if t259 = 1021 then (if t260 = true then ((modes_Octal.f 2541).bind fun t264 => (if t264.toList = ([52, 55, 53, 53] : List UInt8) then (if t261 = 2541 then (if t262 = 0 then ((modes_Class.f 2541 1).bind fun t265 => (some (t265 == 5))) else (some false)) else (some false)) else (some false))) else (some false)) else (some false)) else (some false)) else (some false))) = some r := H
  have A2 := Aside0.mk A20
  clear A20
  replace H := Option.bind_eq_some_iff.mp H
  obtain ⟨t263, A30, H⟩ := H
  replace H : (if t263.toList = ([100, 114, 119, 120, 114, 119, 120, 114, 45, 116] : List UInt8) then (if t258 = 2 then (if t259 = 1021 then (if t260 = true then ((modes_Octal.f 2541).bind fun t264 => (if t264.toList = ([52, 55, 53, 53] : List UInt8) then (if t261 = 2541 then (if t262 = 0 then ((modes_Class.f 2541 1).bind fun t265 => (some (t265 == 5))) else (some false)) else (some false)) else (some false))) else (some false)) else (some false)) else (some false)) else (some false)) = some r := H
  have A3 := Aside0.mk A30
  clear A30
  by_cases c4 : t263.toList = ([100, 114, 119, 120, 114, 119, 120, 114, 45, 116] : List UInt8)
  · rw [if_pos c4] at H
    have c4b0 : (t263.toList == ([100, 114, 119, 120, 114, 119, 120, 114, 45, 116] : List UInt8)) = true := beq_iff_eq.mpr c4
    have c4b1 : (t263.toList != ([100, 114, 119, 120, 114, 119, 120, 114, 45, 116] : List UInt8)) = false := bne_eq_false_iff_eq.mpr c4
    clear c4
    by_cases c5 : t258 = 2
    · rw [if_pos c5] at H
      have c5b0 : (t258 == 2) = true := beq_iff_eq.mpr c5
      have c5b1 : (t258 != 2) = false := bne_eq_false_iff_eq.mpr c5
      clear c5
      by_cases c6 : t259 = 1021
      · rw [if_pos c6] at H
        have c6b0 : (t259 == 1021) = true := beq_iff_eq.mpr c6
        have c6b1 : (t259 != 1021) = false := bne_eq_false_iff_eq.mpr c6
        clear c6
        by_cases c7 : t260 = true
        · subst c7
          have H1 : ((modes_Octal.f 2541).bind fun t264 => (if t264.toList = ([52, 55, 53, 53] : List UInt8) then (if t261 = 2541 then (if t262 = 0 then ((modes_Class.f 2541 1).bind fun t265 => (some (t265 == 5))) else (some false)) else (some false)) else (some false))) = some r := by rw [if_pos rfl] at H; exact H
          clear H
          have H := H1
          clear H1
          replace H := Option.bind_eq_some_iff.mp H
          obtain ⟨t264, A80, H⟩ := H
          replace H : (if t264.toList = ([52, 55, 53, 53] : List UInt8) then (if t261 = 2541 then (if t262 = 0 then ((modes_Class.f 2541 1).bind fun t265 => (some (t265 == 5))) else (some false)) else (some false)) else (some false)) = some r := H
          have A8 := Aside0.mk A80
          clear A80
          by_cases c9 : t264.toList = ([52, 55, 53, 53] : List UInt8)
          · rw [if_pos c9] at H
            have c9b0 : (t264.toList == ([52, 55, 53, 53] : List UInt8)) = true := beq_iff_eq.mpr c9
            have c9b1 : (t264.toList != ([52, 55, 53, 53] : List UInt8)) = false := bne_eq_false_iff_eq.mpr c9
            clear c9
            by_cases c10 : t261 = 2541
            · rw [if_pos c10] at H
              have c10b0 : (t261 == 2541) = true := beq_iff_eq.mpr c10
              have c10b1 : (t261 != 2541) = false := bne_eq_false_iff_eq.mpr c10
              clear c10
              by_cases c11 : t262 = 0
              · rw [if_pos c11] at H
                have c11b0 : (t262 == 0) = true := beq_iff_eq.mpr c11
                have c11b1 : (t262 != 0) = false := bne_eq_false_iff_eq.mpr c11
                clear c11
                replace H := Option.bind_eq_some_iff.mp H
                obtain ⟨t265, A120, H⟩ := H
                replace H : (some (t265 == 5)) = some r := H
                have A12 := Aside0.mk A120
                clear A120
                obtain rfl := Option.some.inj H
                go_enter Try.func34, Try.ntmps34
                go_wp2_with (first | ((with_reducible refine gate_callee (f := 37) rfl ?_); refine goesL_ (some 7) rfl rfl Try.func37 (by kernel_rfl) rfl #[.string (⟨#[100, 114, 119, 120, 114, 119, 120, 114, 45, 116]⟩ : ByteArray)] rfl (by (try simp only [List.map_toArray, List.map_cons, List.map_nil]); first | done | rfl | (simp only [List.length_drop, List.length_take]; rfl)) ?_; (with_reducible refine (modes_Read.calls (⟨#[100, 114, 119, 120, 114, 119, 120, 114, 45, 116]⟩ : ByteArray) t258 t259 true _ A1.out).mono ?_); rintro e w13 ⟨rfl, hb⟩; refine ⟨_, rfl, ?_⟩; have n0_ := Aside0.mk (below_step (by repeat (first | (with_reducible first | exact HB.out | apply below_alloc | apply pw_below_drewN | apply below_drew1) | exact HB.out)) hb); clear HB; have HB := n0_; clear n0_; (try clear hb); (try clear hb2); (try clear hk); (try clear hi)) | ((with_reducible refine gate_callee (f := 38) rfl ?_); refine goesL_ (some 12) rfl rfl Try.func38 (by kernel_rfl) rfl #[.string (⟨#[52, 55, 53, 53]⟩ : ByteArray)] rfl (by (try simp only [List.map_toArray, List.map_cons, List.map_nil]); first | done | rfl | (simp only [List.length_drop, List.length_take]; rfl)) ?_; (with_reducible refine (modes_ReadOctal.calls (⟨#[52, 55, 53, 53]⟩ : ByteArray) t261 t262 _ A2.out).mono ?_); rintro e w14 ⟨rfl, hb⟩; refine ⟨_, rfl, ?_⟩; have n0_ := Aside0.mk (below_step (by repeat (first | (with_reducible first | exact HB.out | apply below_alloc | apply pw_below_drewN | apply below_drew1) | exact HB.out)) hb); clear HB; have HB := n0_; clear n0_; (try clear hb); (try clear hb2); (try clear hk); (try clear hi)) | ((with_reducible refine gate_callee (f := 35) rfl ?_); refine goesL_ (some 15) rfl rfl Try.func35 (by kernel_rfl) rfl #[.int .i64 2, .int .i64 1021] rfl (by (try simp only [List.map_toArray, List.map_cons, List.map_nil]); first | done | rfl | (simp only [List.length_drop, List.length_take]; rfl)) ?_; (with_reducible refine (modes_Show.calls 2 1021 t263 _ A3.out).mono ?_); rintro e w15 ⟨rfl, hb⟩; refine ⟨_, rfl, ?_⟩; have n0_ := Aside0.mk (below_step (by repeat (first | (with_reducible first | exact HB.out | apply below_alloc | apply pw_below_drewN | apply below_drew1) | exact HB.out)) hb); clear HB; have HB := n0_; clear n0_; (try clear hb); (try clear hb2); (try clear hk); (try clear hi)) | (go_at_call 40; (with_reducible refine (modes_Octal.calls 2541 t264 _ A8.out).mono ?_); rintro e w' ⟨rfl, ⟨nd, rfl⟩⟩) | (go_at_call 29; (with_reducible refine (modes_Class.calls 2541 1 t265 _ A12.out).mono ?_); rintro e w' ⟨rfl, ⟨nd, rfl⟩⟩))
                go_ret
                exact ⟨by first | rfl | (simp [errW_none, errW_some] <;> rfl) | (simp [*, errW_none, errW_some] <;> rfl), by repeat (first | (with_reducible first | exact HB.out | apply below_alloc | apply pw_below_drewN | apply below_drew1) | exact HB.out)⟩
              · rw [if_neg c11] at H
                have c11b0 : (t262 == 0) = false := beq_eq_false_iff_ne.mpr c11
                have c11b1 : (t262 != 0) = true := bne_iff_ne.mpr c11
                obtain rfl := Option.some.inj H
                go_enter Try.func34, Try.ntmps34
                go_wp2_with (first | ((with_reducible refine gate_callee (f := 37) rfl ?_); refine goesL_ (some 7) rfl rfl Try.func37 (by kernel_rfl) rfl #[.string (⟨#[100, 114, 119, 120, 114, 119, 120, 114, 45, 116]⟩ : ByteArray)] rfl (by (try simp only [List.map_toArray, List.map_cons, List.map_nil]); first | done | rfl | (simp only [List.length_drop, List.length_take]; rfl)) ?_; (with_reducible refine (modes_Read.calls (⟨#[100, 114, 119, 120, 114, 119, 120, 114, 45, 116]⟩ : ByteArray) t258 t259 true _ A1.out).mono ?_); rintro e w16 ⟨rfl, hb⟩; refine ⟨_, rfl, ?_⟩; have n0_ := Aside0.mk (below_step (by repeat (first | (with_reducible first | exact HB.out | apply below_alloc | apply pw_below_drewN | apply below_drew1) | exact HB.out)) hb); clear HB; have HB := n0_; clear n0_; (try clear hb); (try clear hb2); (try clear hk); (try clear hi)) | ((with_reducible refine gate_callee (f := 38) rfl ?_); refine goesL_ (some 12) rfl rfl Try.func38 (by kernel_rfl) rfl #[.string (⟨#[52, 55, 53, 53]⟩ : ByteArray)] rfl (by (try simp only [List.map_toArray, List.map_cons, List.map_nil]); first | done | rfl | (simp only [List.length_drop, List.length_take]; rfl)) ?_; (with_reducible refine (modes_ReadOctal.calls (⟨#[52, 55, 53, 53]⟩ : ByteArray) t261 t262 _ A2.out).mono ?_); rintro e w17 ⟨rfl, hb⟩; refine ⟨_, rfl, ?_⟩; have n0_ := Aside0.mk (below_step (by repeat (first | (with_reducible first | exact HB.out | apply below_alloc | apply pw_below_drewN | apply below_drew1) | exact HB.out)) hb); clear HB; have HB := n0_; clear n0_; (try clear hb); (try clear hb2); (try clear hk); (try clear hi)) | ((with_reducible refine gate_callee (f := 35) rfl ?_); refine goesL_ (some 15) rfl rfl Try.func35 (by kernel_rfl) rfl #[.int .i64 2, .int .i64 1021] rfl (by (try simp only [List.map_toArray, List.map_cons, List.map_nil]); first | done | rfl | (simp only [List.length_drop, List.length_take]; rfl)) ?_; (with_reducible refine (modes_Show.calls 2 1021 t263 _ A3.out).mono ?_); rintro e w18 ⟨rfl, hb⟩; refine ⟨_, rfl, ?_⟩; have n0_ := Aside0.mk (below_step (by repeat (first | (with_reducible first | exact HB.out | apply below_alloc | apply pw_below_drewN | apply below_drew1) | exact HB.out)) hb); clear HB; have HB := n0_; clear n0_; (try clear hb); (try clear hb2); (try clear hk); (try clear hi)) | (go_at_call 40; (with_reducible refine (modes_Octal.calls 2541 t264 _ A8.out).mono ?_); rintro e w' ⟨rfl, ⟨nd, rfl⟩⟩))
                go_ret
                exact ⟨by first | rfl | (simp [errW_none, errW_some] <;> rfl) | (simp [*, errW_none, errW_some] <;> rfl), by repeat (first | (with_reducible first | exact HB.out | apply below_alloc | apply pw_below_drewN | apply below_drew1) | exact HB.out)⟩
            · rw [if_neg c10] at H
              have c10b0 : (t261 == 2541) = false := beq_eq_false_iff_ne.mpr c10
              have c10b1 : (t261 != 2541) = true := bne_iff_ne.mpr c10
              obtain rfl := Option.some.inj H
              go_enter Try.func34, Try.ntmps34
              go_wp2_with (first | ((with_reducible refine gate_callee (f := 37) rfl ?_); refine goesL_ (some 7) rfl rfl Try.func37 (by kernel_rfl) rfl #[.string (⟨#[100, 114, 119, 120, 114, 119, 120, 114, 45, 116]⟩ : ByteArray)] rfl (by (try simp only [List.map_toArray, List.map_cons, List.map_nil]); first | done | rfl | (simp only [List.length_drop, List.length_take]; rfl)) ?_; (with_reducible refine (modes_Read.calls (⟨#[100, 114, 119, 120, 114, 119, 120, 114, 45, 116]⟩ : ByteArray) t258 t259 true _ A1.out).mono ?_); rintro e w19 ⟨rfl, hb⟩; refine ⟨_, rfl, ?_⟩; have n0_ := Aside0.mk (below_step (by repeat (first | (with_reducible first | exact HB.out | apply below_alloc | apply pw_below_drewN | apply below_drew1) | exact HB.out)) hb); clear HB; have HB := n0_; clear n0_; (try clear hb); (try clear hb2); (try clear hk); (try clear hi)) | ((with_reducible refine gate_callee (f := 38) rfl ?_); refine goesL_ (some 12) rfl rfl Try.func38 (by kernel_rfl) rfl #[.string (⟨#[52, 55, 53, 53]⟩ : ByteArray)] rfl (by (try simp only [List.map_toArray, List.map_cons, List.map_nil]); first | done | rfl | (simp only [List.length_drop, List.length_take]; rfl)) ?_; (with_reducible refine (modes_ReadOctal.calls (⟨#[52, 55, 53, 53]⟩ : ByteArray) t261 t262 _ A2.out).mono ?_); rintro e w20 ⟨rfl, hb⟩; refine ⟨_, rfl, ?_⟩; have n0_ := Aside0.mk (below_step (by repeat (first | (with_reducible first | exact HB.out | apply below_alloc | apply pw_below_drewN | apply below_drew1) | exact HB.out)) hb); clear HB; have HB := n0_; clear n0_; (try clear hb); (try clear hb2); (try clear hk); (try clear hi)) | ((with_reducible refine gate_callee (f := 35) rfl ?_); refine goesL_ (some 15) rfl rfl Try.func35 (by kernel_rfl) rfl #[.int .i64 2, .int .i64 1021] rfl (by (try simp only [List.map_toArray, List.map_cons, List.map_nil]); first | done | rfl | (simp only [List.length_drop, List.length_take]; rfl)) ?_; (with_reducible refine (modes_Show.calls 2 1021 t263 _ A3.out).mono ?_); rintro e w21 ⟨rfl, hb⟩; refine ⟨_, rfl, ?_⟩; have n0_ := Aside0.mk (below_step (by repeat (first | (with_reducible first | exact HB.out | apply below_alloc | apply pw_below_drewN | apply below_drew1) | exact HB.out)) hb); clear HB; have HB := n0_; clear n0_; (try clear hb); (try clear hb2); (try clear hk); (try clear hi)) | (go_at_call 40; (with_reducible refine (modes_Octal.calls 2541 t264 _ A8.out).mono ?_); rintro e w' ⟨rfl, ⟨nd, rfl⟩⟩))
              go_ret
              exact ⟨by first | rfl | (simp [errW_none, errW_some] <;> rfl) | (simp [*, errW_none, errW_some] <;> rfl), by repeat (first | (with_reducible first | exact HB.out | apply below_alloc | apply pw_below_drewN | apply below_drew1) | exact HB.out)⟩
          · rw [if_neg c9] at H
            have c9b0 : (t264.toList == ([52, 55, 53, 53] : List UInt8)) = false := beq_eq_false_iff_ne.mpr c9
            have c9b1 : (t264.toList != ([52, 55, 53, 53] : List UInt8)) = true := bne_iff_ne.mpr c9
            obtain rfl := Option.some.inj H
            go_enter Try.func34, Try.ntmps34
            go_wp2_with (first | ((with_reducible refine gate_callee (f := 37) rfl ?_); refine goesL_ (some 7) rfl rfl Try.func37 (by kernel_rfl) rfl #[.string (⟨#[100, 114, 119, 120, 114, 119, 120, 114, 45, 116]⟩ : ByteArray)] rfl (by (try simp only [List.map_toArray, List.map_cons, List.map_nil]); first | done | rfl | (simp only [List.length_drop, List.length_take]; rfl)) ?_; (with_reducible refine (modes_Read.calls (⟨#[100, 114, 119, 120, 114, 119, 120, 114, 45, 116]⟩ : ByteArray) t258 t259 true _ A1.out).mono ?_); rintro e w22 ⟨rfl, hb⟩; refine ⟨_, rfl, ?_⟩; have n0_ := Aside0.mk (below_step (by repeat (first | (with_reducible first | exact HB.out | apply below_alloc | apply pw_below_drewN | apply below_drew1) | exact HB.out)) hb); clear HB; have HB := n0_; clear n0_; (try clear hb); (try clear hb2); (try clear hk); (try clear hi)) | ((with_reducible refine gate_callee (f := 38) rfl ?_); refine goesL_ (some 12) rfl rfl Try.func38 (by kernel_rfl) rfl #[.string (⟨#[52, 55, 53, 53]⟩ : ByteArray)] rfl (by (try simp only [List.map_toArray, List.map_cons, List.map_nil]); first | done | rfl | (simp only [List.length_drop, List.length_take]; rfl)) ?_; (with_reducible refine (modes_ReadOctal.calls (⟨#[52, 55, 53, 53]⟩ : ByteArray) t261 t262 _ A2.out).mono ?_); rintro e w23 ⟨rfl, hb⟩; refine ⟨_, rfl, ?_⟩; have n0_ := Aside0.mk (below_step (by repeat (first | (with_reducible first | exact HB.out | apply below_alloc | apply pw_below_drewN | apply below_drew1) | exact HB.out)) hb); clear HB; have HB := n0_; clear n0_; (try clear hb); (try clear hb2); (try clear hk); (try clear hi)) | ((with_reducible refine gate_callee (f := 35) rfl ?_); refine goesL_ (some 15) rfl rfl Try.func35 (by kernel_rfl) rfl #[.int .i64 2, .int .i64 1021] rfl (by (try simp only [List.map_toArray, List.map_cons, List.map_nil]); first | done | rfl | (simp only [List.length_drop, List.length_take]; rfl)) ?_; (with_reducible refine (modes_Show.calls 2 1021 t263 _ A3.out).mono ?_); rintro e w24 ⟨rfl, hb⟩; refine ⟨_, rfl, ?_⟩; have n0_ := Aside0.mk (below_step (by repeat (first | (with_reducible first | exact HB.out | apply below_alloc | apply pw_below_drewN | apply below_drew1) | exact HB.out)) hb); clear HB; have HB := n0_; clear n0_; (try clear hb); (try clear hb2); (try clear hk); (try clear hi)) | (go_at_call 40; (with_reducible refine (modes_Octal.calls 2541 t264 _ A8.out).mono ?_); rintro e w' ⟨rfl, ⟨nd, rfl⟩⟩))
            go_ret
            exact ⟨by first | rfl | (simp [errW_none, errW_some] <;> rfl) | (simp [*, errW_none, errW_some] <;> rfl), by repeat (first | (with_reducible first | exact HB.out | apply below_alloc | apply pw_below_drewN | apply below_drew1) | exact HB.out)⟩
        · replace c7 := Bool.eq_false_iff.mpr c7
          subst c7
          have H1 : (some false) = some r := by rw [if_neg (show ¬ (false = true) by decide)] at H; exact H
          clear H
          have H := H1
          clear H1
          obtain rfl := Option.some.inj H
          go_enter Try.func34, Try.ntmps34
          go_wp2_with (first | ((with_reducible refine gate_callee (f := 37) rfl ?_); refine goesL_ (some 7) rfl rfl Try.func37 (by kernel_rfl) rfl #[.string (⟨#[100, 114, 119, 120, 114, 119, 120, 114, 45, 116]⟩ : ByteArray)] rfl (by (try simp only [List.map_toArray, List.map_cons, List.map_nil]); first | done | rfl | (simp only [List.length_drop, List.length_take]; rfl)) ?_; (with_reducible refine (modes_Read.calls (⟨#[100, 114, 119, 120, 114, 119, 120, 114, 45, 116]⟩ : ByteArray) t258 t259 false _ A1.out).mono ?_); rintro e w25 ⟨rfl, hb⟩; refine ⟨_, rfl, ?_⟩; have n0_ := Aside0.mk (below_step (by repeat (first | (with_reducible first | exact HB.out | apply below_alloc | apply pw_below_drewN | apply below_drew1) | exact HB.out)) hb); clear HB; have HB := n0_; clear n0_; (try clear hb); (try clear hb2); (try clear hk); (try clear hi)) | ((with_reducible refine gate_callee (f := 38) rfl ?_); refine goesL_ (some 12) rfl rfl Try.func38 (by kernel_rfl) rfl #[.string (⟨#[52, 55, 53, 53]⟩ : ByteArray)] rfl (by (try simp only [List.map_toArray, List.map_cons, List.map_nil]); first | done | rfl | (simp only [List.length_drop, List.length_take]; rfl)) ?_; (with_reducible refine (modes_ReadOctal.calls (⟨#[52, 55, 53, 53]⟩ : ByteArray) t261 t262 _ A2.out).mono ?_); rintro e w26 ⟨rfl, hb⟩; refine ⟨_, rfl, ?_⟩; have n0_ := Aside0.mk (below_step (by repeat (first | (with_reducible first | exact HB.out | apply below_alloc | apply pw_below_drewN | apply below_drew1) | exact HB.out)) hb); clear HB; have HB := n0_; clear n0_; (try clear hb); (try clear hb2); (try clear hk); (try clear hi)) | ((with_reducible refine gate_callee (f := 35) rfl ?_); refine goesL_ (some 15) rfl rfl Try.func35 (by kernel_rfl) rfl #[.int .i64 2, .int .i64 1021] rfl (by (try simp only [List.map_toArray, List.map_cons, List.map_nil]); first | done | rfl | (simp only [List.length_drop, List.length_take]; rfl)) ?_; (with_reducible refine (modes_Show.calls 2 1021 t263 _ A3.out).mono ?_); rintro e w27 ⟨rfl, hb⟩; refine ⟨_, rfl, ?_⟩; have n0_ := Aside0.mk (below_step (by repeat (first | (with_reducible first | exact HB.out | apply below_alloc | apply pw_below_drewN | apply below_drew1) | exact HB.out)) hb); clear HB; have HB := n0_; clear n0_; (try clear hb); (try clear hb2); (try clear hk); (try clear hi)))
          go_ret
          exact ⟨by first | rfl | (simp [errW_none, errW_some] <;> rfl) | (simp [*, errW_none, errW_some] <;> rfl), by repeat (first | (with_reducible first | exact HB.out | apply below_alloc | apply pw_below_drewN | apply below_drew1) | exact HB.out)⟩
      · rw [if_neg c6] at H
        have c6b0 : (t259 == 1021) = false := beq_eq_false_iff_ne.mpr c6
        have c6b1 : (t259 != 1021) = true := bne_iff_ne.mpr c6
        obtain rfl := Option.some.inj H
        go_enter Try.func34, Try.ntmps34
        go_wp2_with (first | ((with_reducible refine gate_callee (f := 37) rfl ?_); refine goesL_ (some 7) rfl rfl Try.func37 (by kernel_rfl) rfl #[.string (⟨#[100, 114, 119, 120, 114, 119, 120, 114, 45, 116]⟩ : ByteArray)] rfl (by (try simp only [List.map_toArray, List.map_cons, List.map_nil]); first | done | rfl | (simp only [List.length_drop, List.length_take]; rfl)) ?_; (with_reducible refine (modes_Read.calls (⟨#[100, 114, 119, 120, 114, 119, 120, 114, 45, 116]⟩ : ByteArray) t258 t259 t260 _ A1.out).mono ?_); rintro e w28 ⟨rfl, hb⟩; refine ⟨_, rfl, ?_⟩; have n0_ := Aside0.mk (below_step (by repeat (first | (with_reducible first | exact HB.out | apply below_alloc | apply pw_below_drewN | apply below_drew1) | exact HB.out)) hb); clear HB; have HB := n0_; clear n0_; (try clear hb); (try clear hb2); (try clear hk); (try clear hi)) | ((with_reducible refine gate_callee (f := 38) rfl ?_); refine goesL_ (some 12) rfl rfl Try.func38 (by kernel_rfl) rfl #[.string (⟨#[52, 55, 53, 53]⟩ : ByteArray)] rfl (by (try simp only [List.map_toArray, List.map_cons, List.map_nil]); first | done | rfl | (simp only [List.length_drop, List.length_take]; rfl)) ?_; (with_reducible refine (modes_ReadOctal.calls (⟨#[52, 55, 53, 53]⟩ : ByteArray) t261 t262 _ A2.out).mono ?_); rintro e w29 ⟨rfl, hb⟩; refine ⟨_, rfl, ?_⟩; have n0_ := Aside0.mk (below_step (by repeat (first | (with_reducible first | exact HB.out | apply below_alloc | apply pw_below_drewN | apply below_drew1) | exact HB.out)) hb); clear HB; have HB := n0_; clear n0_; (try clear hb); (try clear hb2); (try clear hk); (try clear hi)) | ((with_reducible refine gate_callee (f := 35) rfl ?_); refine goesL_ (some 15) rfl rfl Try.func35 (by kernel_rfl) rfl #[.int .i64 2, .int .i64 1021] rfl (by (try simp only [List.map_toArray, List.map_cons, List.map_nil]); first | done | rfl | (simp only [List.length_drop, List.length_take]; rfl)) ?_; (with_reducible refine (modes_Show.calls 2 1021 t263 _ A3.out).mono ?_); rintro e w30 ⟨rfl, hb⟩; refine ⟨_, rfl, ?_⟩; have n0_ := Aside0.mk (below_step (by repeat (first | (with_reducible first | exact HB.out | apply below_alloc | apply pw_below_drewN | apply below_drew1) | exact HB.out)) hb); clear HB; have HB := n0_; clear n0_; (try clear hb); (try clear hb2); (try clear hk); (try clear hi)))
        go_ret
        exact ⟨by first | rfl | (simp [errW_none, errW_some] <;> rfl) | (simp [*, errW_none, errW_some] <;> rfl), by repeat (first | (with_reducible first | exact HB.out | apply below_alloc | apply pw_below_drewN | apply below_drew1) | exact HB.out)⟩
    · rw [if_neg c5] at H
      have c5b0 : (t258 == 2) = false := beq_eq_false_iff_ne.mpr c5
      have c5b1 : (t258 != 2) = true := bne_iff_ne.mpr c5
      obtain rfl := Option.some.inj H
      go_enter Try.func34, Try.ntmps34
      go_wp2_with (first | ((with_reducible refine gate_callee (f := 37) rfl ?_); refine goesL_ (some 7) rfl rfl Try.func37 (by kernel_rfl) rfl #[.string (⟨#[100, 114, 119, 120, 114, 119, 120, 114, 45, 116]⟩ : ByteArray)] rfl (by (try simp only [List.map_toArray, List.map_cons, List.map_nil]); first | done | rfl | (simp only [List.length_drop, List.length_take]; rfl)) ?_; (with_reducible refine (modes_Read.calls (⟨#[100, 114, 119, 120, 114, 119, 120, 114, 45, 116]⟩ : ByteArray) t258 t259 t260 _ A1.out).mono ?_); rintro e w31 ⟨rfl, hb⟩; refine ⟨_, rfl, ?_⟩; have n0_ := Aside0.mk (below_step (by repeat (first | (with_reducible first | exact HB.out | apply below_alloc | apply pw_below_drewN | apply below_drew1) | exact HB.out)) hb); clear HB; have HB := n0_; clear n0_; (try clear hb); (try clear hb2); (try clear hk); (try clear hi)) | ((with_reducible refine gate_callee (f := 38) rfl ?_); refine goesL_ (some 12) rfl rfl Try.func38 (by kernel_rfl) rfl #[.string (⟨#[52, 55, 53, 53]⟩ : ByteArray)] rfl (by (try simp only [List.map_toArray, List.map_cons, List.map_nil]); first | done | rfl | (simp only [List.length_drop, List.length_take]; rfl)) ?_; (with_reducible refine (modes_ReadOctal.calls (⟨#[52, 55, 53, 53]⟩ : ByteArray) t261 t262 _ A2.out).mono ?_); rintro e w32 ⟨rfl, hb⟩; refine ⟨_, rfl, ?_⟩; have n0_ := Aside0.mk (below_step (by repeat (first | (with_reducible first | exact HB.out | apply below_alloc | apply pw_below_drewN | apply below_drew1) | exact HB.out)) hb); clear HB; have HB := n0_; clear n0_; (try clear hb); (try clear hb2); (try clear hk); (try clear hi)) | ((with_reducible refine gate_callee (f := 35) rfl ?_); refine goesL_ (some 15) rfl rfl Try.func35 (by kernel_rfl) rfl #[.int .i64 2, .int .i64 1021] rfl (by (try simp only [List.map_toArray, List.map_cons, List.map_nil]); first | done | rfl | (simp only [List.length_drop, List.length_take]; rfl)) ?_; (with_reducible refine (modes_Show.calls 2 1021 t263 _ A3.out).mono ?_); rintro e w33 ⟨rfl, hb⟩; refine ⟨_, rfl, ?_⟩; have n0_ := Aside0.mk (below_step (by repeat (first | (with_reducible first | exact HB.out | apply below_alloc | apply pw_below_drewN | apply below_drew1) | exact HB.out)) hb); clear HB; have HB := n0_; clear n0_; (try clear hb); (try clear hb2); (try clear hk); (try clear hi)))
      go_ret
      exact ⟨by first | rfl | (simp [errW_none, errW_some] <;> rfl) | (simp [*, errW_none, errW_some] <;> rfl), by repeat (first | (with_reducible first | exact HB.out | apply below_alloc | apply pw_below_drewN | apply below_drew1) | exact HB.out)⟩
  · rw [if_neg c4] at H
    have c4b0 : (t263.toList == ([100, 114, 119, 120, 114, 119, 120, 114, 45, 116] : List UInt8)) = false := beq_eq_false_iff_ne.mpr c4
    have c4b1 : (t263.toList != ([100, 114, 119, 120, 114, 119, 120, 114, 45, 116] : List UInt8)) = true := bne_iff_ne.mpr c4
    obtain rfl := Option.some.inj H
    go_enter Try.func34, Try.ntmps34
    go_wp2_with (first | ((with_reducible refine gate_callee (f := 37) rfl ?_); refine goesL_ (some 7) rfl rfl Try.func37 (by kernel_rfl) rfl #[.string (⟨#[100, 114, 119, 120, 114, 119, 120, 114, 45, 116]⟩ : ByteArray)] rfl (by (try simp only [List.map_toArray, List.map_cons, List.map_nil]); first | done | rfl | (simp only [List.length_drop, List.length_take]; rfl)) ?_; (with_reducible refine (modes_Read.calls (⟨#[100, 114, 119, 120, 114, 119, 120, 114, 45, 116]⟩ : ByteArray) t258 t259 t260 _ A1.out).mono ?_); rintro e w34 ⟨rfl, hb⟩; refine ⟨_, rfl, ?_⟩; have n0_ := Aside0.mk (below_step (by repeat (first | (with_reducible first | exact HB.out | apply below_alloc | apply pw_below_drewN | apply below_drew1) | exact HB.out)) hb); clear HB; have HB := n0_; clear n0_; (try clear hb); (try clear hb2); (try clear hk); (try clear hi)) | ((with_reducible refine gate_callee (f := 38) rfl ?_); refine goesL_ (some 12) rfl rfl Try.func38 (by kernel_rfl) rfl #[.string (⟨#[52, 55, 53, 53]⟩ : ByteArray)] rfl (by (try simp only [List.map_toArray, List.map_cons, List.map_nil]); first | done | rfl | (simp only [List.length_drop, List.length_take]; rfl)) ?_; (with_reducible refine (modes_ReadOctal.calls (⟨#[52, 55, 53, 53]⟩ : ByteArray) t261 t262 _ A2.out).mono ?_); rintro e w35 ⟨rfl, hb⟩; refine ⟨_, rfl, ?_⟩; have n0_ := Aside0.mk (below_step (by repeat (first | (with_reducible first | exact HB.out | apply below_alloc | apply pw_below_drewN | apply below_drew1) | exact HB.out)) hb); clear HB; have HB := n0_; clear n0_; (try clear hb); (try clear hb2); (try clear hk); (try clear hi)) | ((with_reducible refine gate_callee (f := 35) rfl ?_); refine goesL_ (some 15) rfl rfl Try.func35 (by kernel_rfl) rfl #[.int .i64 2, .int .i64 1021] rfl (by (try simp only [List.map_toArray, List.map_cons, List.map_nil]); first | done | rfl | (simp only [List.length_drop, List.length_take]; rfl)) ?_; (with_reducible refine (modes_Show.calls 2 1021 t263 _ A3.out).mono ?_); rintro e w36 ⟨rfl, hb⟩; refine ⟨_, rfl, ?_⟩; have n0_ := Aside0.mk (below_step (by repeat (first | (with_reducible first | exact HB.out | apply below_alloc | apply pw_below_drewN | apply below_drew1) | exact HB.out)) hb); clear HB; have HB := n0_; clear n0_; (try clear hb); (try clear hb2); (try clear hk); (try clear hi)))
    go_ret
    exact ⟨by first | rfl | (simp [errW_none, errW_some] <;> rfl) | (simp [*, errW_none, errW_some] <;> rfl), by repeat (first | (with_reducible first | exact HB.out | apply below_alloc | apply pw_below_drewN | apply below_drew1) | exact HB.out)⟩

/-! ### gaolerref01_sign: function 58 -/
def gaolerref01_sign.f (a0 : Bool) (a1 : ByteArray) (a2 : ByteArray) : Option (ByteArray) := if a0 = true then (some a1) else (some a2)
set_option maxHeartbeats 8000000 in
set_option maxRecDepth 100000 in
theorem gaolerref01_sign.calls (a0 : Bool) (a1 : ByteArray) (a2 : ByteArray) (r : ByteArray) (w : World) (h : gaolerref01_sign.f a0 a1 a2 = some r) :
    Calls Try.prog 58 #[.bool a0, .string a1, .string a2] w fun e w' => e = .returned (.string r) ∧ Drawn0 w w' := by
  have H : (if a0 = true then (some a1) else (some a2)) = some r := h
  clear h
  by_cases c4 : a0 = true
  · subst c4
    have H1 : (some a1) = some r := by rw [if_pos rfl] at H; exact H
    clear H
    have H := H1
    clear H1
    obtain rfl := Option.some.inj H
    go_enter Try.func58, Try.ntmps58
    go_wp2
    go_ret
    exact ⟨by first | rfl | (simp; done) | (simp [*]; done), by repeat (first | exact Drawn0.refl _ | apply Drawn0.step)⟩
  · replace c4 := Bool.eq_false_iff.mpr c4
    subst c4
    have H1 : (some a2) = some r := by rw [if_neg (show ¬ (false = true) by decide)] at H; exact H
    clear H
    have H := H1
    clear H1
    obtain rfl := Option.some.inj H
    go_enter Try.func58, Try.ntmps58
    go_wp2
    go_ret
    exact ⟨by first | rfl | (simp; done) | (simp [*]; done), by repeat (first | exact Drawn0.refl _ | apply Drawn0.step)⟩

/-! ### gaolerref01_three: function 53 -/
def gaolerref01_three.f (a0 : Int) (a1 : Bool) (a2 : ByteArray) (a3 : ByteArray) : Option (ByteArray) := (gaolerref01_sign.f ((Int.tmod a0 2) == 1) (⟨#[120]⟩ : ByteArray) (⟨#[45]⟩ : ByteArray)).bind fun t266 => (if a1 = true then ((gaolerref01_sign.f ((Int.tmod a0 2) == 1) a2 a3).bind fun t267 => ((gaolerref01_sign.f ((wrap64 (Int.tdiv a0 4)) == 1) (⟨#[114]⟩ : ByteArray) (⟨#[45]⟩ : ByteArray)).bind fun t268 => ((gaolerref01_sign.f ((Int.tmod (wrap64 (Int.tdiv a0 2)) 2) == 1) (⟨#[119]⟩ : ByteArray) (⟨#[45]⟩ : ByteArray)).bind fun t269 => (if t268.size + t269.size ≤ 9223372036854775807 then (if (t268 ++ t269).size + t267.size ≤ 9223372036854775807 then (some ((t268 ++ t269) ++ t267)) else (none)) else (none))))) else ((gaolerref01_sign.f ((wrap64 (Int.tdiv a0 4)) == 1) (⟨#[114]⟩ : ByteArray) (⟨#[45]⟩ : ByteArray)).bind fun t270 => ((gaolerref01_sign.f ((Int.tmod (wrap64 (Int.tdiv a0 2)) 2) == 1) (⟨#[119]⟩ : ByteArray) (⟨#[45]⟩ : ByteArray)).bind fun t271 => (if t270.size + t271.size ≤ 9223372036854775807 then (if (t270 ++ t271).size + t266.size ≤ 9223372036854775807 then (some ((t270 ++ t271) ++ t266)) else (none)) else (none)))))
set_option maxHeartbeats 8000000 in
set_option maxRecDepth 100000 in
theorem gaolerref01_three.calls (a0 : Int) (a1 : Bool) (a2 : ByteArray) (a3 : ByteArray) (r : ByteArray) (w : World) (h : gaolerref01_three.f a0 a1 a2 a3 = some r) :
    Calls Try.prog 53 #[.int .i64 a0, .bool a1, .string a2, .string a3] w fun e w' => e = .returned (.string r) ∧ Drawn0 w w' := by
  have H : ((gaolerref01_sign.f ((Int.tmod a0 2) == 1) (⟨#[120]⟩ : ByteArray) (⟨#[45]⟩ : ByteArray)).bind fun t266 => (if a1 = true then ((gaolerref01_sign.f ((Int.tmod a0 2) == 1) a2 a3).bind fun t267 => ((gaolerref01_sign.f ((wrap64 (Int.tdiv a0 4)) == 1) (⟨#[114]⟩ : ByteArray) (⟨#[45]⟩ : ByteArray)).bind fun t268 => ((gaolerref01_sign.f ((Int.tmod (wrap64 (Int.tdiv a0 2)) 2) == 1) (⟨#[119]⟩ : ByteArray) (⟨#[45]⟩ : ByteArray)).bind fun t269 => (if t268.size + t269.size ≤ 9223372036854775807 then (if (t268 ++ t269).size + t267.size ≤ 9223372036854775807 then (some ((t268 ++ t269) ++ t267)) else (none)) else (none))))) else ((gaolerref01_sign.f ((wrap64 (Int.tdiv a0 4)) == 1) (⟨#[114]⟩ : ByteArray) (⟨#[45]⟩ : ByteArray)).bind fun t270 => ((gaolerref01_sign.f ((Int.tmod (wrap64 (Int.tdiv a0 2)) 2) == 1) (⟨#[119]⟩ : ByteArray) (⟨#[45]⟩ : ByteArray)).bind fun t271 => (if t270.size + t271.size ≤ 9223372036854775807 then (if (t270 ++ t271).size + t266.size ≤ 9223372036854775807 then (some ((t270 ++ t271) ++ t266)) else (none)) else (none)))))) = some r := h
  clear h
  replace H := Option.bind_eq_some_iff.mp H
  obtain ⟨t266, A50, H⟩ := H
  replace H : (if a1 = true then ((gaolerref01_sign.f ((Int.tmod a0 2) == 1) a2 a3).bind fun t267 => ((gaolerref01_sign.f ((wrap64 (Int.tdiv a0 4)) == 1) (⟨#[114]⟩ : ByteArray) (⟨#[45]⟩ : ByteArray)).bind fun t268 => ((gaolerref01_sign.f ((Int.tmod (wrap64 (Int.tdiv a0 2)) 2) == 1) (⟨#[119]⟩ : ByteArray) (⟨#[45]⟩ : ByteArray)).bind fun t269 => (if t268.size + t269.size ≤ 9223372036854775807 then (if (t268 ++ t269).size + t267.size ≤ 9223372036854775807 then (some ((t268 ++ t269) ++ t267)) else (none)) else (none))))) else ((gaolerref01_sign.f ((wrap64 (Int.tdiv a0 4)) == 1) (⟨#[114]⟩ : ByteArray) (⟨#[45]⟩ : ByteArray)).bind fun t270 => ((gaolerref01_sign.f ((Int.tmod (wrap64 (Int.tdiv a0 2)) 2) == 1) (⟨#[119]⟩ : ByteArray) (⟨#[45]⟩ : ByteArray)).bind fun t271 => (if t270.size + t271.size ≤ 9223372036854775807 then (if (t270 ++ t271).size + t266.size ≤ 9223372036854775807 then (some ((t270 ++ t271) ++ t266)) else (none)) else (none))))) = some r := H
  have A5 := Aside0.mk A50
  clear A50
  by_cases c6 : a1 = true
  · subst c6
    have H1 : ((gaolerref01_sign.f ((Int.tmod a0 2) == 1) a2 a3).bind fun t267 => ((gaolerref01_sign.f ((wrap64 (Int.tdiv a0 4)) == 1) (⟨#[114]⟩ : ByteArray) (⟨#[45]⟩ : ByteArray)).bind fun t268 => ((gaolerref01_sign.f ((Int.tmod (wrap64 (Int.tdiv a0 2)) 2) == 1) (⟨#[119]⟩ : ByteArray) (⟨#[45]⟩ : ByteArray)).bind fun t269 => (if t268.size + t269.size ≤ 9223372036854775807 then (if (t268 ++ t269).size + t267.size ≤ 9223372036854775807 then (some ((t268 ++ t269) ++ t267)) else (none)) else (none))))) = some r := by rw [if_pos rfl] at H; exact H
    clear H
    have H := H1
    clear H1
    replace H := Option.bind_eq_some_iff.mp H
    obtain ⟨t267, A70, H⟩ := H
    replace H : ((gaolerref01_sign.f ((wrap64 (Int.tdiv a0 4)) == 1) (⟨#[114]⟩ : ByteArray) (⟨#[45]⟩ : ByteArray)).bind fun t268 => ((gaolerref01_sign.f ((Int.tmod (wrap64 (Int.tdiv a0 2)) 2) == 1) (⟨#[119]⟩ : ByteArray) (⟨#[45]⟩ : ByteArray)).bind fun t269 => (if t268.size + t269.size ≤ 9223372036854775807 then (if (t268 ++ t269).size + t267.size ≤ 9223372036854775807 then (some ((t268 ++ t269) ++ t267)) else (none)) else (none)))) = some r := H
    have A7 := Aside0.mk A70
    clear A70
    replace H := Option.bind_eq_some_iff.mp H
    obtain ⟨t268, A80, H⟩ := H
    replace H : ((gaolerref01_sign.f ((Int.tmod (wrap64 (Int.tdiv a0 2)) 2) == 1) (⟨#[119]⟩ : ByteArray) (⟨#[45]⟩ : ByteArray)).bind fun t269 => (if t268.size + t269.size ≤ 9223372036854775807 then (if (t268 ++ t269).size + t267.size ≤ 9223372036854775807 then (some ((t268 ++ t269) ++ t267)) else (none)) else (none))) = some r := H
    have A8 := Aside0.mk A80
    clear A80
    replace H := Option.bind_eq_some_iff.mp H
    obtain ⟨t269, A90, H⟩ := H
    replace H : (if t268.size + t269.size ≤ 9223372036854775807 then (if (t268 ++ t269).size + t267.size ≤ 9223372036854775807 then (some ((t268 ++ t269) ++ t267)) else (none)) else (none)) = some r := H
    have A9 := Aside0.mk A90
    clear A90
    by_cases c10 : t268.size + t269.size ≤ 9223372036854775807
    · rw [if_pos c10] at H
      have c10b0 := eq_true c10
      have c10b1 : decide (t268.size + t269.size ≤ 9223372036854775807) = true := decide_eq_true c10
      try have c10b2 : (9223372036854775807 < t268.size + t269.size) = False := eq_false (Nat.not_lt.2 c10)
      by_cases c11 : (t268 ++ t269).size + t267.size ≤ 9223372036854775807
      · rw [if_pos c11] at H
        have c11b0 := eq_true c11
        have c11b1 : decide ((t268 ++ t269).size + t267.size ≤ 9223372036854775807) = true := decide_eq_true c11
        try have c11b2 : (9223372036854775807 < (t268 ++ t269).size + t267.size) = False := eq_false (Nat.not_lt.2 c11)
        (try (have c11b3 := c11b2; simp only [ByteArray.size_append] at c11b3))
        obtain rfl := Option.some.inj H
        go_enter Try.func53, Try.ntmps53
        go_wp2_with (first | ((with_reducible refine gate_callee (f := 58) rfl ?_); refine goesL_ (some 13) rfl rfl Try.func58 (by kernel_rfl) rfl #[.bool ((Int.tmod a0 2) == 1), .string (⟨#[120]⟩ : ByteArray), .string (⟨#[45]⟩ : ByteArray)] rfl (by (try simp only [List.map_toArray, List.map_cons, List.map_nil]); first | done | rfl | (simp only [List.length_drop, List.length_take]; rfl)) ?_; (with_reducible refine (gaolerref01_sign.calls ((Int.tmod a0 2) == 1) (⟨#[120]⟩ : ByteArray) (⟨#[45]⟩ : ByteArray) t266 _ A5.out).mono ?_); rintro e w' ⟨rfl, ⟨nd, rfl⟩⟩; refine ⟨_, rfl, ?_⟩) | ((with_reducible refine gate_callee (f := 58) rfl ?_); refine goesL_ (some 20) rfl rfl Try.func58 (by kernel_rfl) rfl #[.bool ((Int.tmod a0 2) == 1), .string a2, .string a3] rfl (by (try simp only [List.map_toArray, List.map_cons, List.map_nil]); first | done | rfl | (simp only [List.length_drop, List.length_take]; rfl)) ?_; (with_reducible refine (gaolerref01_sign.calls ((Int.tmod a0 2) == 1) a2 a3 t267 _ A7.out).mono ?_); rintro e w' ⟨rfl, ⟨nd, rfl⟩⟩; refine ⟨_, rfl, ?_⟩) | ((with_reducible refine gate_callee (f := 58) rfl ?_); refine goesL_ (some 24) rfl rfl Try.func58 (by kernel_rfl) rfl #[.bool ((wrap64 (Int.tdiv a0 4)) == 1), .string (⟨#[114]⟩ : ByteArray), .string (⟨#[45]⟩ : ByteArray)] rfl (by (try simp only [List.map_toArray, List.map_cons, List.map_nil]); first | done | rfl | (simp only [List.length_drop, List.length_take]; rfl)) ?_; (with_reducible refine (gaolerref01_sign.calls ((wrap64 (Int.tdiv a0 4)) == 1) (⟨#[114]⟩ : ByteArray) (⟨#[45]⟩ : ByteArray) t268 _ A8.out).mono ?_); rintro e w' ⟨rfl, ⟨nd, rfl⟩⟩; refine ⟨_, rfl, ?_⟩) | ((with_reducible refine gate_callee (f := 58) rfl ?_); refine goesL_ (some 29) rfl rfl Try.func58 (by kernel_rfl) rfl #[.bool ((Int.tmod (wrap64 (Int.tdiv a0 2)) 2) == 1), .string (⟨#[119]⟩ : ByteArray), .string (⟨#[45]⟩ : ByteArray)] rfl (by (try simp only [List.map_toArray, List.map_cons, List.map_nil]); first | done | rfl | (simp only [List.length_drop, List.length_take]; rfl)) ?_; (with_reducible refine (gaolerref01_sign.calls ((Int.tmod (wrap64 (Int.tdiv a0 2)) 2) == 1) (⟨#[119]⟩ : ByteArray) (⟨#[45]⟩ : ByteArray) t269 _ A9.out).mono ?_); rintro e w' ⟨rfl, ⟨nd, rfl⟩⟩; refine ⟨_, rfl, ?_⟩))
        go_ret
        exact ⟨by first | rfl | (simp; done) | (simp [*]; done), by repeat (first | exact Drawn0.refl _ | apply Drawn0.step)⟩
      · rw [if_neg c11] at H
        exact absurd H (by simp)
    · rw [if_neg c10] at H
      exact absurd H (by simp)
  · replace c6 := Bool.eq_false_iff.mpr c6
    subst c6
    have H1 : ((gaolerref01_sign.f ((wrap64 (Int.tdiv a0 4)) == 1) (⟨#[114]⟩ : ByteArray) (⟨#[45]⟩ : ByteArray)).bind fun t270 => ((gaolerref01_sign.f ((Int.tmod (wrap64 (Int.tdiv a0 2)) 2) == 1) (⟨#[119]⟩ : ByteArray) (⟨#[45]⟩ : ByteArray)).bind fun t271 => (if t270.size + t271.size ≤ 9223372036854775807 then (if (t270 ++ t271).size + t266.size ≤ 9223372036854775807 then (some ((t270 ++ t271) ++ t266)) else (none)) else (none)))) = some r := by rw [if_neg (show ¬ (false = true) by decide)] at H; exact H
    clear H
    have H := H1
    clear H1
    replace H := Option.bind_eq_some_iff.mp H
    obtain ⟨t270, A120, H⟩ := H
    replace H : ((gaolerref01_sign.f ((Int.tmod (wrap64 (Int.tdiv a0 2)) 2) == 1) (⟨#[119]⟩ : ByteArray) (⟨#[45]⟩ : ByteArray)).bind fun t271 => (if t270.size + t271.size ≤ 9223372036854775807 then (if (t270 ++ t271).size + t266.size ≤ 9223372036854775807 then (some ((t270 ++ t271) ++ t266)) else (none)) else (none))) = some r := H
    have A12 := Aside0.mk A120
    clear A120
    replace H := Option.bind_eq_some_iff.mp H
    obtain ⟨t271, A130, H⟩ := H
    replace H : (if t270.size + t271.size ≤ 9223372036854775807 then (if (t270 ++ t271).size + t266.size ≤ 9223372036854775807 then (some ((t270 ++ t271) ++ t266)) else (none)) else (none)) = some r := H
    have A13 := Aside0.mk A130
    clear A130
    by_cases c14 : t270.size + t271.size ≤ 9223372036854775807
    · rw [if_pos c14] at H
      have c14b0 := eq_true c14
      have c14b1 : decide (t270.size + t271.size ≤ 9223372036854775807) = true := decide_eq_true c14
      try have c14b2 : (9223372036854775807 < t270.size + t271.size) = False := eq_false (Nat.not_lt.2 c14)
      by_cases c15 : (t270 ++ t271).size + t266.size ≤ 9223372036854775807
      · rw [if_pos c15] at H
        have c15b0 := eq_true c15
        have c15b1 : decide ((t270 ++ t271).size + t266.size ≤ 9223372036854775807) = true := decide_eq_true c15
        try have c15b2 : (9223372036854775807 < (t270 ++ t271).size + t266.size) = False := eq_false (Nat.not_lt.2 c15)
        (try (have c15b3 := c15b2; simp only [ByteArray.size_append] at c15b3))
        obtain rfl := Option.some.inj H
        go_enter Try.func53, Try.ntmps53
        go_wp2_with (first | ((with_reducible refine gate_callee (f := 58) rfl ?_); refine goesL_ (some 13) rfl rfl Try.func58 (by kernel_rfl) rfl #[.bool ((Int.tmod a0 2) == 1), .string (⟨#[120]⟩ : ByteArray), .string (⟨#[45]⟩ : ByteArray)] rfl (by (try simp only [List.map_toArray, List.map_cons, List.map_nil]); first | done | rfl | (simp only [List.length_drop, List.length_take]; rfl)) ?_; (with_reducible refine (gaolerref01_sign.calls ((Int.tmod a0 2) == 1) (⟨#[120]⟩ : ByteArray) (⟨#[45]⟩ : ByteArray) t266 _ A5.out).mono ?_); rintro e w' ⟨rfl, ⟨nd, rfl⟩⟩; refine ⟨_, rfl, ?_⟩) | ((with_reducible refine gate_callee (f := 58) rfl ?_); refine goesL_ (some 24) rfl rfl Try.func58 (by kernel_rfl) rfl #[.bool ((wrap64 (Int.tdiv a0 4)) == 1), .string (⟨#[114]⟩ : ByteArray), .string (⟨#[45]⟩ : ByteArray)] rfl (by (try simp only [List.map_toArray, List.map_cons, List.map_nil]); first | done | rfl | (simp only [List.length_drop, List.length_take]; rfl)) ?_; (with_reducible refine (gaolerref01_sign.calls ((wrap64 (Int.tdiv a0 4)) == 1) (⟨#[114]⟩ : ByteArray) (⟨#[45]⟩ : ByteArray) t270 _ A12.out).mono ?_); rintro e w' ⟨rfl, ⟨nd, rfl⟩⟩; refine ⟨_, rfl, ?_⟩) | ((with_reducible refine gate_callee (f := 58) rfl ?_); refine goesL_ (some 29) rfl rfl Try.func58 (by kernel_rfl) rfl #[.bool ((Int.tmod (wrap64 (Int.tdiv a0 2)) 2) == 1), .string (⟨#[119]⟩ : ByteArray), .string (⟨#[45]⟩ : ByteArray)] rfl (by (try simp only [List.map_toArray, List.map_cons, List.map_nil]); first | done | rfl | (simp only [List.length_drop, List.length_take]; rfl)) ?_; (with_reducible refine (gaolerref01_sign.calls ((Int.tmod (wrap64 (Int.tdiv a0 2)) 2) == 1) (⟨#[119]⟩ : ByteArray) (⟨#[45]⟩ : ByteArray) t271 _ A13.out).mono ?_); rintro e w' ⟨rfl, ⟨nd, rfl⟩⟩; refine ⟨_, rfl, ?_⟩))
        go_ret
        exact ⟨by first | rfl | (simp; done) | (simp [*]; done), by repeat (first | exact Drawn0.refl _ | apply Drawn0.step)⟩
      · rw [if_neg c15] at H
        exact absurd H (by simp)
    · rw [if_neg c14] at H
      exact absurd H (by simp)

end Go.Proofs.Ytbbobjchokffbaa.S
