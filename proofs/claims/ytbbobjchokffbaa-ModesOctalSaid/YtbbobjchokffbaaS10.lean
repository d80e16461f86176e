-- Written by wip/tools/myprint.py, a session's own driver of the kit's printer.
import Derived.Test.YtbbobjchokffbaaS0
import Derived.Test.YtbbobjchokffbaaS1
namespace Go.Proofs.Ytbbobjchokffbaa.S
open Go.RowKit Go.Proofs.YtbbobjchokffbaaW.PrintWords Go.Proofs.YtbbobjchokffbaaW.PrintLast Go.Proofs.YtbbobjchokffbaaW.PrintMore
attribute [local go_sem] max2_int min2_int max_two min_two max_three min_three max_four min_four   -- for this text's walks alone
set_option linter.unusedVariables false
set_option linter.unusedSimpArgs false

/-! ### modes_Show: function 35 -/
def sg (b : Int) (i : Nat) : Int := if i = 0 then (if b / 4 % 2 = 0 then 45 else 114) else if i = 1 then (if b / 2 % 2 = 0 then 45 else 119) else (if b % 2 = 0 then 45 else 120)
def lastS (m bit sign b : Int) : Int := if m / bit % 2 = 0 then sg b 2 else if b % 2 = 0 then sign - 32 else sign
def kindS (k : Int) : Int := if k = 1 then 45 else if k = 2 then 100 else if k = 3 then 108 else 63
def preL (a0 a1 : Int) : Nat → List Int
  | 0 => [kindS a0]
  | 1 => [kindS a0, sg (clsS a1 0) 0, sg (clsS a1 0) 1, lastS a1 2048 115 (clsS a1 0)]
  | 2 => [kindS a0, sg (clsS a1 0) 0, sg (clsS a1 0) 1, lastS a1 2048 115 (clsS a1 0), sg (clsS a1 1) 0, sg (clsS a1 1) 1, lastS a1 1024 115 (clsS a1 1)]
  | _ => [kindS a0, sg (clsS a1 0) 0, sg (clsS a1 0) 1, lastS a1 2048 115 (clsS a1 0), sg (clsS a1 1) 0, sg (clsS a1 1) 1, lastS a1 1024 115 (clsS a1 1), sg (clsS a1 2) 0, sg (clsS a1 2) 1, lastS a1 512 116 (clsS a1 2)]
def showS (a0 a1 : Int) : ByteArray := strOfNums (preL a0 a1 3)
def modes_Show.f (a0 : Int) (a1 : Int) : Option ByteArray := some (showS a0 a1)
def midL (a0 a1 : Int) (k i : Nat) : List Int := preL a0 a1 k ++ [sg (clsS a1 k) 0, sg (clsS a1 k) 1, sg (clsS a1 k) 2].take i
theorem and_2048 (m : Int) : Go.bits .and .i64 m 2048 = m / 2048 % 2 * 2048 := B.and_bit m 11 (by decide)
theorem and_1024 (m : Int) : Go.bits .and .i64 m 1024 = m / 1024 % 2 * 1024 := B.and_bit m 10 (by decide)
theorem and_512 (m : Int) : Go.bits .and .i64 m 512 = m / 512 % 2 * 512 := B.and_bit m 9 (by decide)
theorem clsS_range (m k : Int) : 0 ≤ clsS m k ∧ clsS m k ≤ 7 := by unfold clsS; split <;> (try split) <;> (try split) <;> omega
theorem sg_range (b : Int) (i : Nat) : 0 ≤ sg b i ∧ sg b i ≤ 255 := by unfold sg; repeat' split
                                                                       all_goals omega
theorem info_u8 : (Try.prog.info? 5).map (fun i => (i.zero, i.size, i.bytes)) = some (some (.int .u8 0), 1, 1) := by kernel_rfl
theorem kind_sign (a0 : Int) (h0 : 0 ≤ a0) (h1 : a0 < 4) (hh : a0.toNat < (ByteArray.mk #[63, 45, 100, 108]).size) : (((ByteArray.mk #[63, 45, 100, 108])[a0.toNat]'hh).toNat : Int) = kindS a0 := by
  rcases (show a0 = 0 ∨ a0 = 1 ∨ a0 = 2 ∨ a0 = 3 by omega) with rfl | rfl | rfl | rfl <;> rfl
theorem kind_other (a0 : Int) (h : ¬ (0 ≤ a0 ∧ a0 < 4)) : kindS a0 = 63 := by unfold kindS; rw [if_neg (by omega), if_neg (by omega), if_neg (by omega)]
set_option maxHeartbeats 8000000 in
set_option maxRecDepth 100000 in
theorem modes_Show.mid (a0 a1 : Int) (w : World) (h1 : 0 ≤ a0) (h2 : a0 < 4) :
    Calls Try.prog 35 #[.int .i64 a0, .int .i64 a1] w fun e w' => e = .returned (.string (showS a0 a1)) ∧ Below w.heap.size w w' := by
  have d1 : decide (a0 < 0) = false := decide_eq_false (by omega)
  have d2 : decide (4 ≤ a0) = false := decide_eq_false (by omega)
  go_enter Try.func35, Try.ntmps35
  go_wp2
  go_loopw [5, 22] (fun v5 v22 wr => ∃ k : Nat, k ≤ 3 ∧ v22 = .int .i64 k ∧ Aside0 (wr.ownsRow w.heap.size 5 1 v5 (preL a0 a1 k).length (nums .u8 (preL a0 a1 k))) ∧ Aside0 (Below w.heap.size w wr)) (fun _ v22 _ => 3 - (intOf v22).toNat)
  case atStart => exact ⟨0, by omega, rfl, ⟨by rw [kind_sign a0 h1 h2]; exact (own_lit w w.heap.size 5 .u8 [kindS a0] (Nat.le_refl _) (by simp)).alloc _⟩, ⟨((Below.refl _ _).alloc (Nat.le_refl _) _).alloc (by simp) _⟩⟩
  case round =>
    obtain ⟨k, hk, rfl, HO, HB⟩ := hrel
    have hk' : k = 0 ∨ k = 1 ∨ k = 2 ∨ k = 3 := by omega
    clear hk
    rcases hk' with rfl | rfl | rfl | rfl
    · have hix : ∀ w, (Instr.index 68 (.agg #[.int .i64 2048, .int .u8 115, .int .i64 1024, .int .u8 115, .int .i64 512, .int .u8 116]) (.int .i64 0)).run Try.prog w = .ok (.agg #[.int .i64 2048, .int .u8 115]) w := fun _ => by kernel_rfl
      go_wp2_with fail
      refine (modes_Class.calls a1 0 (clsS a1 0) _ rfl).mono ?_
      rintro e w1 ⟨rfl, ⟨nd, rfl⟩⟩
      clear hix
      have HS := Aside0.mk (show ((wr.alloc (.cells #[.int .i64 2048, .int .u8 115] 67)).drewN nd).heap[wr.heap.size]? = some (.cells #[.int .i64 2048, .int .u8 115] 67 (0, 0)) from heap_alloc_new wr _)
      have HO1 := Aside0.mk (show ((wr.alloc (.cells #[.int .i64 2048, .int .u8 115] 67)).drewN nd).ownsRow w.heap.size 5 1 u5 (preL a0 a1 0).length (nums .u8 (preL a0 a1 0)) from HO.out.alloc _)
      have HB1 := Aside0.mk (show Below w.heap.size w ((wr.alloc (.cells #[.int .i64 2048, .int .u8 115] 67)).drewN nd) from pw_below_drewN (HB.out.alloc HB.out.size _) _)
      have HN1 := Aside0.mk (show some wr.heap.size ≠ u5.ownBlock from fun h => Nat.lt_irrefl _ (own_lt HO.out _ h.symm))
      have HZ1 := Aside0.mk (show wr.heap.size < ((wr.alloc (.cells #[.int .i64 2048, .int .u8 115] 67)).drewN nd).heap.size from blk_lt' HS.out)
      clear HO HB
      generalize (wr.alloc (.cells #[.int .i64 2048, .int .u8 115] 67)).drewN nd = wd at HS HO1 HB1 HZ1 ⊢
      generalize hsb : wr.heap.size = sb at HS HN1 HZ1 ⊢
      clear hsb
      have kc := fun (w : World) (C : Array Value) (n c : Nat) => Lib.run_convert_bytes_const (P := Try.prog) w 65 5 C n c Try.underlying65 Try.underlying5
      go_wp2
      clear kc
      go_loopw [5, 32] (fun v5 v32 ws => ∃ i : Nat, i ≤ 3 ∧ v32 = .int .i64 i ∧ Aside0 (ws.ownsRow w.heap.size 5 1 v5 (midL a0 a1 0 i).length (nums .u8 (midL a0 a1 0 i))) ∧ Aside0 (Below w.heap.size w ws) ∧ Aside0 (ws.heap[sb]? = some (.cells #[.int .i64 2048, .int .u8 115] 67 (0, 0))) ∧ Aside0 (ws.heap[wd.heap.size]? = some (.cells #[.int .u8 114, .int .u8 119, .int .u8 120] 5 (3, 4))) ∧ Aside0 (NotAt v5 sb wd.heap.size)) (fun _ v32 _ => 3 - (intOf v32).toNat)
      case atStart =>
        refine ⟨0, by omega, rfl, ⟨?_⟩, ⟨HB1.out.alloc HB1.out.size _⟩, ⟨?_⟩, ⟨heap_alloc_new wd _⟩, ⟨HN1.out, fun h => Nat.lt_irrefl _ (own_lt HO1.out _ h.symm)⟩⟩
        · exact HO1.out.alloc _
        · exact blk_of_below ((Below.refl _ _).alloc (Nat.le_refl _) _) HS.out
      case round =>
        obtain ⟨i, hi, rfl, HO, HB, HS2, HR2, HN⟩ := hrel
        have HZ := Aside0.mk HB.out.size
        have hi' : i = 0 ∨ i = 1 ∨ i = 2 ∨ i = 3 := by omega
        rcases hi' with rfl | rfl | rfl | rfl
        · have hcl : wr.cell? ⟨wd.heap.size, 0, none⟩ = some (.int .u8 114) := (cell_of_row wr wd.heap.size 0 _ 5 (3, 4) HR2.out).trans rfl
          by_cases hbt : clsS a1 0 / 4 % 2 = 0
          · have hb1 : (Go.bits .and .i64 (clsS a1 0 / 4) 1 == 0) = true := by rw [B.and_1]; exact beq_iff_eq.2 hbt
            have HE := Aside0.mk (show sg (clsS a1 0) 0 = 45 from by unfold sg; simp [hbt])
            clear hbt
            go_wp2_with (at_builtin; refine print_append_num (w0 := w) w.heap.size rfl (.tmp 43) (.tmp 45) 65 5 .u8 1 rfl Try.underlying65 info_u8 (by decide) u5 (midL a0 a1 0 0) 45 rfl rfl ?aO ?aB ?aS ?aL ?_; (case aO => exact HO.out); (case aB => exact HB.out); (case aS => exact HZ.out); (case aL => simp [midL, preL]); intro v1 w1 ho hb hg hat; have HO3 := Aside0.mk ho; have HB3 := Aside0.mk hb; have HG3 := Aside0.mk hg; have HA3 := Aside0.mk hat; clear ho hb hg hat)
            go_roundw
            case rel => exact ⟨1, by omega, rfl, ⟨by have h := HO3.out; rw [← HE.out] at h; exact h⟩, HB3, ⟨grown_blk HG3.out HS2.out HN.out.1⟩, ⟨grown_blk HG3.out HR2.out HN.out.2⟩, ⟨HN.out.next (blk_lt' HS2.out) (blk_lt' HR2.out) HA3.out⟩⟩
            case measure => simp [intOf]
          · have hb1 : (Go.bits .and .i64 (clsS a1 0 / 4) 1 == 0) = false := by rw [B.and_1]; exact beq_eq_false_iff_ne.2 hbt
            have HE := Aside0.mk (show sg (clsS a1 0) 0 = 114 from by unfold sg; simp [hbt])
            clear hbt
            go_wp2_with (at_builtin; refine print_append_num (w0 := w) w.heap.size rfl (.tmp 43) (.tmp 45) 65 5 .u8 1 rfl Try.underlying65 info_u8 (by decide) u5 (midL a0 a1 0 0) 114 rfl rfl ?aO ?aB ?aS ?aL ?_; (case aO => exact HO.out); (case aB => exact HB.out); (case aS => exact HZ.out); (case aL => simp [midL, preL]); intro v1 w1 ho hb hg hat; have HO3 := Aside0.mk ho; have HB3 := Aside0.mk hb; have HG3 := Aside0.mk hg; have HA3 := Aside0.mk hat; clear ho hb hg hat)
            go_roundw
            case rel => exact ⟨1, by omega, rfl, ⟨by have h := HO3.out; rw [← HE.out] at h; exact h⟩, HB3, ⟨grown_blk HG3.out HS2.out HN.out.1⟩, ⟨grown_blk HG3.out HR2.out HN.out.2⟩, ⟨HN.out.next (blk_lt' HS2.out) (blk_lt' HR2.out) HA3.out⟩⟩
            case measure => simp [intOf]
        · have hcl : wr.cell? ⟨wd.heap.size, 1, none⟩ = some (.int .u8 119) := (cell_of_row wr wd.heap.size 1 _ 5 (3, 4) HR2.out).trans rfl
          by_cases hbt : clsS a1 0 / 2 % 2 = 0
          · have hb1 : (Go.bits .and .i64 (clsS a1 0 / 2) 1 == 0) = true := by rw [B.and_1]; exact beq_iff_eq.2 hbt
            have HE := Aside0.mk (show sg (clsS a1 0) 1 = 45 from by unfold sg; simp [hbt])
            clear hbt
            go_wp2_with (at_builtin; refine print_append_num (w0 := w) w.heap.size rfl (.tmp 43) (.tmp 45) 65 5 .u8 1 rfl Try.underlying65 info_u8 (by decide) u5 (midL a0 a1 0 1) 45 rfl rfl ?aO ?aB ?aS ?aL ?_; (case aO => exact HO.out); (case aB => exact HB.out); (case aS => exact HZ.out); (case aL => simp [midL, preL]); intro v1 w1 ho hb hg hat; have HO3 := Aside0.mk ho; have HB3 := Aside0.mk hb; have HG3 := Aside0.mk hg; have HA3 := Aside0.mk hat; clear ho hb hg hat)
            go_roundw
            case rel => exact ⟨2, by omega, rfl, ⟨by have h := HO3.out; rw [← HE.out] at h; exact h⟩, HB3, ⟨grown_blk HG3.out HS2.out HN.out.1⟩, ⟨grown_blk HG3.out HR2.out HN.out.2⟩, ⟨HN.out.next (blk_lt' HS2.out) (blk_lt' HR2.out) HA3.out⟩⟩
            case measure => simp [intOf]
          · have hb1 : (Go.bits .and .i64 (clsS a1 0 / 2) 1 == 0) = false := by rw [B.and_1]; exact beq_eq_false_iff_ne.2 hbt
            have HE := Aside0.mk (show sg (clsS a1 0) 1 = 119 from by unfold sg; simp [hbt])
            clear hbt
            go_wp2_with (at_builtin; refine print_append_num (w0 := w) w.heap.size rfl (.tmp 43) (.tmp 45) 65 5 .u8 1 rfl Try.underlying65 info_u8 (by decide) u5 (midL a0 a1 0 1) 119 rfl rfl ?aO ?aB ?aS ?aL ?_; (case aO => exact HO.out); (case aB => exact HB.out); (case aS => exact HZ.out); (case aL => simp [midL, preL]); intro v1 w1 ho hb hg hat; have HO3 := Aside0.mk ho; have HB3 := Aside0.mk hb; have HG3 := Aside0.mk hg; have HA3 := Aside0.mk hat; clear ho hb hg hat)
            go_roundw
            case rel => exact ⟨2, by omega, rfl, ⟨by have h := HO3.out; rw [← HE.out] at h; exact h⟩, HB3, ⟨grown_blk HG3.out HS2.out HN.out.1⟩, ⟨grown_blk HG3.out HR2.out HN.out.2⟩, ⟨HN.out.next (blk_lt' HS2.out) (blk_lt' HR2.out) HA3.out⟩⟩
            case measure => simp [intOf]
        · have hcl : wr.cell? ⟨wd.heap.size, 2, none⟩ = some (.int .u8 120) := (cell_of_row wr wd.heap.size 2 _ 5 (3, 4) HR2.out).trans rfl
          by_cases hbt : clsS a1 0 % 2 = 0
          · have hb1 : (Go.bits .and .i64 (clsS a1 0) 1 == 0) = true := by rw [B.and_1]; exact beq_iff_eq.2 hbt
            have HE := Aside0.mk (show sg (clsS a1 0) 2 = 45 from by unfold sg; simp [hbt])
            clear hbt
            go_wp2_with (at_builtin; refine print_append_num (w0 := w) w.heap.size rfl (.tmp 43) (.tmp 45) 65 5 .u8 1 rfl Try.underlying65 info_u8 (by decide) u5 (midL a0 a1 0 2) 45 rfl rfl ?aO ?aB ?aS ?aL ?_; (case aO => exact HO.out); (case aB => exact HB.out); (case aS => exact HZ.out); (case aL => simp [midL, preL]); intro v1 w1 ho hb hg hat; have HO3 := Aside0.mk ho; have HB3 := Aside0.mk hb; have HG3 := Aside0.mk hg; have HA3 := Aside0.mk hat; clear ho hb hg hat)
            go_roundw
            case rel => exact ⟨3, by omega, rfl, ⟨by have h := HO3.out; rw [← HE.out] at h; exact h⟩, HB3, ⟨grown_blk HG3.out HS2.out HN.out.1⟩, ⟨grown_blk HG3.out HR2.out HN.out.2⟩, ⟨HN.out.next (blk_lt' HS2.out) (blk_lt' HR2.out) HA3.out⟩⟩
            case measure => simp [intOf]
          · have hb1 : (Go.bits .and .i64 (clsS a1 0) 1 == 0) = false := by rw [B.and_1]; exact beq_eq_false_iff_ne.2 hbt
            have HE := Aside0.mk (show sg (clsS a1 0) 2 = 120 from by unfold sg; simp [hbt])
            clear hbt
            go_wp2_with (at_builtin; refine print_append_num (w0 := w) w.heap.size rfl (.tmp 43) (.tmp 45) 65 5 .u8 1 rfl Try.underlying65 info_u8 (by decide) u5 (midL a0 a1 0 2) 120 rfl rfl ?aO ?aB ?aS ?aL ?_; (case aO => exact HO.out); (case aB => exact HB.out); (case aS => exact HZ.out); (case aL => simp [midL, preL]); intro v1 w1 ho hb hg hat; have HO3 := Aside0.mk ho; have HB3 := Aside0.mk hb; have HG3 := Aside0.mk hg; have HA3 := Aside0.mk hat; clear ho hb hg hat)
            go_roundw
            case rel => exact ⟨3, by omega, rfl, ⟨by have h := HO3.out; rw [← HE.out] at h; exact h⟩, HB3, ⟨grown_blk HG3.out HS2.out HN.out.1⟩, ⟨grown_blk HG3.out HR2.out HN.out.2⟩, ⟨HN.out.next (blk_lt' HS2.out) (blk_lt' HR2.out) HA3.out⟩⟩
            case measure => simp [intOf]
        · have hc0 : wr.cell? ⟨sb, 0, none⟩ = some (.int .i64 2048) := (blk_cell HS2.out 0).trans rfl
          have hc1 : wr.cell? ⟨sb, 1, none⟩ = some (.int .u8 115) := (blk_cell HS2.out 1).trans rfl
          by_cases hm : a1 / 2048 % 2 = 0
          · have hb1 : (Go.bits .and .i64 a1 2048 != 0) = false := by rw [and_2048, hm]; rfl
            have HE := Aside0.mk (show midL a0 a1 0 3 = preL a0 a1 1 from by simp [midL, preL, lastS, hm])
            clear hm
            go_wp2
            go_roundw
            case rel => exact ⟨1, by omega, rfl, ⟨by have h := HO.out; rw [HE.out] at h; exact h⟩, HB⟩
            case measure => simp [intOf]
          · have hb1 : (Go.bits .and .i64 a1 2048 != 0) = true := by rw [and_2048, show a1 / 2048 % 2 = 1 by omega]; rfl
            by_cases hx : clsS a1 0 % 2 = 0
            · have hb2 : (Go.bits .and .i64 (clsS a1 0) 1 == 0) = true := by rw [B.and_1]; exact beq_iff_eq.2 hx
              have HE := Aside0.mk (show (midL a0 a1 0 3).set 3 83 = preL a0 a1 1 from by simp [midL, preL, lastS, hm, hx])
              clear hm hx
              obtain ⟨g, cap, rfl, hcell, hfrz, HST⟩ := own_last HO.out (by simp [midL, preL]) 3 83 (by simp [midL, preL])
              rw [show (midL a0 a1 0 3).length = 4 from rfl]
              go_wp2
              go_roundw
              case rel => exact ⟨1, by omega, rfl, ⟨by have h := HST.out; rw [HE.out] at h; exact h⟩, ⟨HB.out.setCell (p := ⟨g, 3, none⟩) (own_base HO.out g rfl) _⟩⟩
              case measure => simp [intOf]
            · have hb2 : (Go.bits .and .i64 (clsS a1 0) 1 == 0) = false := by rw [B.and_1]; exact beq_eq_false_iff_ne.2 hx
              have HE := Aside0.mk (show (midL a0 a1 0 3).set 3 115 = preL a0 a1 1 from by simp [midL, preL, lastS, hm, hx])
              clear hm hx
              obtain ⟨g, cap, rfl, hcell, hfrz, HST⟩ := own_last HO.out (by simp [midL, preL]) 3 115 (by simp [midL, preL])
              rw [show (midL a0 a1 0 3).length = 4 from rfl]
              go_wp2
              go_roundw
              case rel => exact ⟨1, by omega, rfl, ⟨by have h := HST.out; rw [HE.out] at h; exact h⟩, ⟨HB.out.setCell (p := ⟨g, 3, none⟩) (own_base HO.out g rfl) _⟩⟩
              case measure => simp [intOf]
    · have hix : ∀ w, (Instr.index 68 (.agg #[.int .i64 2048, .int .u8 115, .int .i64 1024, .int .u8 115, .int .i64 512, .int .u8 116]) (.int .i64 1)).run Try.prog w = .ok (.agg #[.int .i64 1024, .int .u8 115]) w := fun _ => by kernel_rfl
      go_wp2_with fail
      refine (modes_Class.calls a1 1 (clsS a1 1) _ rfl).mono ?_
      rintro e w1 ⟨rfl, ⟨nd, rfl⟩⟩
      clear hix
      have HS := Aside0.mk (show ((wr.alloc (.cells #[.int .i64 1024, .int .u8 115] 67)).drewN nd).heap[wr.heap.size]? = some (.cells #[.int .i64 1024, .int .u8 115] 67 (0, 0)) from heap_alloc_new wr _)
      have HO1 := Aside0.mk (show ((wr.alloc (.cells #[.int .i64 1024, .int .u8 115] 67)).drewN nd).ownsRow w.heap.size 5 1 u5 (preL a0 a1 1).length (nums .u8 (preL a0 a1 1)) from HO.out.alloc _)
      have HB1 := Aside0.mk (show Below w.heap.size w ((wr.alloc (.cells #[.int .i64 1024, .int .u8 115] 67)).drewN nd) from pw_below_drewN (HB.out.alloc HB.out.size _) _)
      have HN1 := Aside0.mk (show some wr.heap.size ≠ u5.ownBlock from fun h => Nat.lt_irrefl _ (own_lt HO.out _ h.symm))
      have HZ1 := Aside0.mk (show wr.heap.size < ((wr.alloc (.cells #[.int .i64 1024, .int .u8 115] 67)).drewN nd).heap.size from blk_lt' HS.out)
      clear HO HB
      generalize (wr.alloc (.cells #[.int .i64 1024, .int .u8 115] 67)).drewN nd = wd at HS HO1 HB1 HZ1 ⊢
      generalize hsb : wr.heap.size = sb at HS HN1 HZ1 ⊢
      clear hsb
      have kc := fun (w : World) (C : Array Value) (n c : Nat) => Lib.run_convert_bytes_const (P := Try.prog) w 65 5 C n c Try.underlying65 Try.underlying5
      go_wp2
      clear kc
      go_loopw [5, 32] (fun v5 v32 ws => ∃ i : Nat, i ≤ 3 ∧ v32 = .int .i64 i ∧ Aside0 (ws.ownsRow w.heap.size 5 1 v5 (midL a0 a1 1 i).length (nums .u8 (midL a0 a1 1 i))) ∧ Aside0 (Below w.heap.size w ws) ∧ Aside0 (ws.heap[sb]? = some (.cells #[.int .i64 1024, .int .u8 115] 67 (0, 0))) ∧ Aside0 (ws.heap[wd.heap.size]? = some (.cells #[.int .u8 114, .int .u8 119, .int .u8 120] 5 (3, 4))) ∧ Aside0 (NotAt v5 sb wd.heap.size)) (fun _ v32 _ => 3 - (intOf v32).toNat)
      case atStart =>
        refine ⟨0, by omega, rfl, ⟨?_⟩, ⟨HB1.out.alloc HB1.out.size _⟩, ⟨?_⟩, ⟨heap_alloc_new wd _⟩, ⟨HN1.out, fun h => Nat.lt_irrefl _ (own_lt HO1.out _ h.symm)⟩⟩
        · exact HO1.out.alloc _
        · exact blk_of_below ((Below.refl _ _).alloc (Nat.le_refl _) _) HS.out
      case round =>
        obtain ⟨i, hi, rfl, HO, HB, HS2, HR2, HN⟩ := hrel
        have HZ := Aside0.mk HB.out.size
        have hi' : i = 0 ∨ i = 1 ∨ i = 2 ∨ i = 3 := by omega
        rcases hi' with rfl | rfl | rfl | rfl
        · have hcl : wr.cell? ⟨wd.heap.size, 0, none⟩ = some (.int .u8 114) := (cell_of_row wr wd.heap.size 0 _ 5 (3, 4) HR2.out).trans rfl
          by_cases hbt : clsS a1 1 / 4 % 2 = 0
          · have hb1 : (Go.bits .and .i64 (clsS a1 1 / 4) 1 == 0) = true := by rw [B.and_1]; exact beq_iff_eq.2 hbt
            have HE := Aside0.mk (show sg (clsS a1 1) 0 = 45 from by unfold sg; simp [hbt])
            clear hbt
            go_wp2_with (at_builtin; refine print_append_num (w0 := w) w.heap.size rfl (.tmp 43) (.tmp 45) 65 5 .u8 1 rfl Try.underlying65 info_u8 (by decide) u5 (midL a0 a1 1 0) 45 rfl rfl ?aO ?aB ?aS ?aL ?_; (case aO => exact HO.out); (case aB => exact HB.out); (case aS => exact HZ.out); (case aL => simp [midL, preL]); intro v1 w1 ho hb hg hat; have HO3 := Aside0.mk ho; have HB3 := Aside0.mk hb; have HG3 := Aside0.mk hg; have HA3 := Aside0.mk hat; clear ho hb hg hat)
            go_roundw
            case rel => exact ⟨1, by omega, rfl, ⟨by have h := HO3.out; rw [← HE.out] at h; exact h⟩, HB3, ⟨grown_blk HG3.out HS2.out HN.out.1⟩, ⟨grown_blk HG3.out HR2.out HN.out.2⟩, ⟨HN.out.next (blk_lt' HS2.out) (blk_lt' HR2.out) HA3.out⟩⟩
            case measure => simp [intOf]
          · have hb1 : (Go.bits .and .i64 (clsS a1 1 / 4) 1 == 0) = false := by rw [B.and_1]; exact beq_eq_false_iff_ne.2 hbt
            have HE := Aside0.mk (show sg (clsS a1 1) 0 = 114 from by unfold sg; simp [hbt])
            clear hbt
            go_wp2_with (at_builtin; refine print_append_num (w0 := w) w.heap.size rfl (.tmp 43) (.tmp 45) 65 5 .u8 1 rfl Try.underlying65 info_u8 (by decide) u5 (midL a0 a1 1 0) 114 rfl rfl ?aO ?aB ?aS ?aL ?_; (case aO => exact HO.out); (case aB => exact HB.out); (case aS => exact HZ.out); (case aL => simp [midL, preL]); intro v1 w1 ho hb hg hat; have HO3 := Aside0.mk ho; have HB3 := Aside0.mk hb; have HG3 := Aside0.mk hg; have HA3 := Aside0.mk hat; clear ho hb hg hat)
            go_roundw
            case rel => exact ⟨1, by omega, rfl, ⟨by have h := HO3.out; rw [← HE.out] at h; exact h⟩, HB3, ⟨grown_blk HG3.out HS2.out HN.out.1⟩, ⟨grown_blk HG3.out HR2.out HN.out.2⟩, ⟨HN.out.next (blk_lt' HS2.out) (blk_lt' HR2.out) HA3.out⟩⟩
            case measure => simp [intOf]
        · have hcl : wr.cell? ⟨wd.heap.size, 1, none⟩ = some (.int .u8 119) := (cell_of_row wr wd.heap.size 1 _ 5 (3, 4) HR2.out).trans rfl
          by_cases hbt : clsS a1 1 / 2 % 2 = 0
          · have hb1 : (Go.bits .and .i64 (clsS a1 1 / 2) 1 == 0) = true := by rw [B.and_1]; exact beq_iff_eq.2 hbt
            have HE := Aside0.mk (show sg (clsS a1 1) 1 = 45 from by unfold sg; simp [hbt])
            clear hbt
            go_wp2_with (at_builtin; refine print_append_num (w0 := w) w.heap.size rfl (.tmp 43) (.tmp 45) 65 5 .u8 1 rfl Try.underlying65 info_u8 (by decide) u5 (midL a0 a1 1 1) 45 rfl rfl ?aO ?aB ?aS ?aL ?_; (case aO => exact HO.out); (case aB => exact HB.out); (case aS => exact HZ.out); (case aL => simp [midL, preL]); intro v1 w1 ho hb hg hat; have HO3 := Aside0.mk ho; have HB3 := Aside0.mk hb; have HG3 := Aside0.mk hg; have HA3 := Aside0.mk hat; clear ho hb hg hat)
            go_roundw
            case rel => exact ⟨2, by omega, rfl, ⟨by have h := HO3.out; rw [← HE.out] at h; exact h⟩, HB3, ⟨grown_blk HG3.out HS2.out HN.out.1⟩, ⟨grown_blk HG3.out HR2.out HN.out.2⟩, ⟨HN.out.next (blk_lt' HS2.out) (blk_lt' HR2.out) HA3.out⟩⟩
            case measure => simp [intOf]
          · have hb1 : (Go.bits .and .i64 (clsS a1 1 / 2) 1 == 0) = false := by rw [B.and_1]; exact beq_eq_false_iff_ne.2 hbt
            have HE := Aside0.mk (show sg (clsS a1 1) 1 = 119 from by unfold sg; simp [hbt])
            clear hbt
            go_wp2_with (at_builtin; refine print_append_num (w0 := w) w.heap.size rfl (.tmp 43) (.tmp 45) 65 5 .u8 1 rfl Try.underlying65 info_u8 (by decide) u5 (midL a0 a1 1 1) 119 rfl rfl ?aO ?aB ?aS ?aL ?_; (case aO => exact HO.out); (case aB => exact HB.out); (case aS => exact HZ.out); (case aL => simp [midL, preL]); intro v1 w1 ho hb hg hat; have HO3 := Aside0.mk ho; have HB3 := Aside0.mk hb; have HG3 := Aside0.mk hg; have HA3 := Aside0.mk hat; clear ho hb hg hat)
            go_roundw
            case rel => exact ⟨2, by omega, rfl, ⟨by have h := HO3.out; rw [← HE.out] at h; exact h⟩, HB3, ⟨grown_blk HG3.out HS2.out HN.out.1⟩, ⟨grown_blk HG3.out HR2.out HN.out.2⟩, ⟨HN.out.next (blk_lt' HS2.out) (blk_lt' HR2.out) HA3.out⟩⟩
            case measure => simp [intOf]
        · have hcl : wr.cell? ⟨wd.heap.size, 2, none⟩ = some (.int .u8 120) := (cell_of_row wr wd.heap.size 2 _ 5 (3, 4) HR2.out).trans rfl
          by_cases hbt : clsS a1 1 % 2 = 0
          · have hb1 : (Go.bits .and .i64 (clsS a1 1) 1 == 0) = true := by rw [B.and_1]; exact beq_iff_eq.2 hbt
            have HE := Aside0.mk (show sg (clsS a1 1) 2 = 45 from by unfold sg; simp [hbt])
            clear hbt
            go_wp2_with (at_builtin; refine print_append_num (w0 := w) w.heap.size rfl (.tmp 43) (.tmp 45) 65 5 .u8 1 rfl Try.underlying65 info_u8 (by decide) u5 (midL a0 a1 1 2) 45 rfl rfl ?aO ?aB ?aS ?aL ?_; (case aO => exact HO.out); (case aB => exact HB.out); (case aS => exact HZ.out); (case aL => simp [midL, preL]); intro v1 w1 ho hb hg hat; have HO3 := Aside0.mk ho; have HB3 := Aside0.mk hb; have HG3 := Aside0.mk hg; have HA3 := Aside0.mk hat; clear ho hb hg hat)
            go_roundw
            case rel => exact ⟨3, by omega, rfl, ⟨by have h := HO3.out; rw [← HE.out] at h; exact h⟩, HB3, ⟨grown_blk HG3.out HS2.out HN.out.1⟩, ⟨grown_blk HG3.out HR2.out HN.out.2⟩, ⟨HN.out.next (blk_lt' HS2.out) (blk_lt' HR2.out) HA3.out⟩⟩
            case measure => simp [intOf]
          · have hb1 : (Go.bits .and .i64 (clsS a1 1) 1 == 0) = false := by rw [B.and_1]; exact beq_eq_false_iff_ne.2 hbt
            have HE := Aside0.mk (show sg (clsS a1 1) 2 = 120 from by unfold sg; simp [hbt])
            clear hbt
            go_wp2_with (at_builtin; refine print_append_num (w0 := w) w.heap.size rfl (.tmp 43) (.tmp 45) 65 5 .u8 1 rfl Try.underlying65 info_u8 (by decide) u5 (midL a0 a1 1 2) 120 rfl rfl ?aO ?aB ?aS ?aL ?_; (case aO => exact HO.out); (case aB => exact HB.out); (case aS => exact HZ.out); (case aL => simp [midL, preL]); intro v1 w1 ho hb hg hat; have HO3 := Aside0.mk ho; have HB3 := Aside0.mk hb; have HG3 := Aside0.mk hg; have HA3 := Aside0.mk hat; clear ho hb hg hat)
            go_roundw
            case rel => exact ⟨3, by omega, rfl, ⟨by have h := HO3.out; rw [← HE.out] at h; exact h⟩, HB3, ⟨grown_blk HG3.out HS2.out HN.out.1⟩, ⟨grown_blk HG3.out HR2.out HN.out.2⟩, ⟨HN.out.next (blk_lt' HS2.out) (blk_lt' HR2.out) HA3.out⟩⟩
            case measure => simp [intOf]
        · have hc0 : wr.cell? ⟨sb, 0, none⟩ = some (.int .i64 1024) := (blk_cell HS2.out 0).trans rfl
          have hc1 : wr.cell? ⟨sb, 1, none⟩ = some (.int .u8 115) := (blk_cell HS2.out 1).trans rfl
          by_cases hm : a1 / 1024 % 2 = 0
          · have hb1 : (Go.bits .and .i64 a1 1024 != 0) = false := by rw [and_1024, hm]; rfl
            have HE := Aside0.mk (show midL a0 a1 1 3 = preL a0 a1 2 from by simp [midL, preL, lastS, hm])
            clear hm
            go_wp2
            go_roundw
            case rel => exact ⟨2, by omega, rfl, ⟨by have h := HO.out; rw [HE.out] at h; exact h⟩, HB⟩
            case measure => simp [intOf]
          · have hb1 : (Go.bits .and .i64 a1 1024 != 0) = true := by rw [and_1024, show a1 / 1024 % 2 = 1 by omega]; rfl
            by_cases hx : clsS a1 1 % 2 = 0
            · have hb2 : (Go.bits .and .i64 (clsS a1 1) 1 == 0) = true := by rw [B.and_1]; exact beq_iff_eq.2 hx
              have HE := Aside0.mk (show (midL a0 a1 1 3).set 6 83 = preL a0 a1 2 from by simp [midL, preL, lastS, hm, hx])
              clear hm hx
              obtain ⟨g, cap, rfl, hcell, hfrz, HST⟩ := own_last HO.out (by simp [midL, preL]) 6 83 (by simp [midL, preL])
              rw [show (midL a0 a1 1 3).length = 7 from rfl]
              go_wp2
              go_roundw
              case rel => exact ⟨2, by omega, rfl, ⟨by have h := HST.out; rw [HE.out] at h; exact h⟩, ⟨HB.out.setCell (p := ⟨g, 6, none⟩) (own_base HO.out g rfl) _⟩⟩
              case measure => simp [intOf]
            · have hb2 : (Go.bits .and .i64 (clsS a1 1) 1 == 0) = false := by rw [B.and_1]; exact beq_eq_false_iff_ne.2 hx
              have HE := Aside0.mk (show (midL a0 a1 1 3).set 6 115 = preL a0 a1 2 from by simp [midL, preL, lastS, hm, hx])
              clear hm hx
              obtain ⟨g, cap, rfl, hcell, hfrz, HST⟩ := own_last HO.out (by simp [midL, preL]) 6 115 (by simp [midL, preL])
              rw [show (midL a0 a1 1 3).length = 7 from rfl]
              go_wp2
              go_roundw
              case rel => exact ⟨2, by omega, rfl, ⟨by have h := HST.out; rw [HE.out] at h; exact h⟩, ⟨HB.out.setCell (p := ⟨g, 6, none⟩) (own_base HO.out g rfl) _⟩⟩
              case measure => simp [intOf]
    · have hix : ∀ w, (Instr.index 68 (.agg #[.int .i64 2048, .int .u8 115, .int .i64 1024, .int .u8 115, .int .i64 512, .int .u8 116]) (.int .i64 2)).run Try.prog w = .ok (.agg #[.int .i64 512, .int .u8 116]) w := fun _ => by kernel_rfl
      go_wp2_with fail
      refine (modes_Class.calls a1 2 (clsS a1 2) _ rfl).mono ?_
      rintro e w1 ⟨rfl, ⟨nd, rfl⟩⟩
      clear hix
      have HS := Aside0.mk (show ((wr.alloc (.cells #[.int .i64 512, .int .u8 116] 67)).drewN nd).heap[wr.heap.size]? = some (.cells #[.int .i64 512, .int .u8 116] 67 (0, 0)) from heap_alloc_new wr _)
      have HO1 := Aside0.mk (show ((wr.alloc (.cells #[.int .i64 512, .int .u8 116] 67)).drewN nd).ownsRow w.heap.size 5 1 u5 (preL a0 a1 2).length (nums .u8 (preL a0 a1 2)) from HO.out.alloc _)
      have HB1 := Aside0.mk (show Below w.heap.size w ((wr.alloc (.cells #[.int .i64 512, .int .u8 116] 67)).drewN nd) from pw_below_drewN (HB.out.alloc HB.out.size _) _)
      have HN1 := Aside0.mk (show some wr.heap.size ≠ u5.ownBlock from fun h => Nat.lt_irrefl _ (own_lt HO.out _ h.symm))
      have HZ1 := Aside0.mk (show wr.heap.size < ((wr.alloc (.cells #[.int .i64 512, .int .u8 116] 67)).drewN nd).heap.size from blk_lt' HS.out)
      clear HO HB
      generalize (wr.alloc (.cells #[.int .i64 512, .int .u8 116] 67)).drewN nd = wd at HS HO1 HB1 HZ1 ⊢
      generalize hsb : wr.heap.size = sb at HS HN1 HZ1 ⊢
      clear hsb
      have kc := fun (w : World) (C : Array Value) (n c : Nat) => Lib.run_convert_bytes_const (P := Try.prog) w 65 5 C n c Try.underlying65 Try.underlying5
      go_wp2
      clear kc
      go_loopw [5, 32] (fun v5 v32 ws => ∃ i : Nat, i ≤ 3 ∧ v32 = .int .i64 i ∧ Aside0 (ws.ownsRow w.heap.size 5 1 v5 (midL a0 a1 2 i).length (nums .u8 (midL a0 a1 2 i))) ∧ Aside0 (Below w.heap.size w ws) ∧ Aside0 (ws.heap[sb]? = some (.cells #[.int .i64 512, .int .u8 116] 67 (0, 0))) ∧ Aside0 (ws.heap[wd.heap.size]? = some (.cells #[.int .u8 114, .int .u8 119, .int .u8 120] 5 (3, 4))) ∧ Aside0 (NotAt v5 sb wd.heap.size)) (fun _ v32 _ => 3 - (intOf v32).toNat)
      case atStart =>
        refine ⟨0, by omega, rfl, ⟨?_⟩, ⟨HB1.out.alloc HB1.out.size _⟩, ⟨?_⟩, ⟨heap_alloc_new wd _⟩, ⟨HN1.out, fun h => Nat.lt_irrefl _ (own_lt HO1.out _ h.symm)⟩⟩
        · exact HO1.out.alloc _
        · exact blk_of_below ((Below.refl _ _).alloc (Nat.le_refl _) _) HS.out
      case round =>
        obtain ⟨i, hi, rfl, HO, HB, HS2, HR2, HN⟩ := hrel
        have HZ := Aside0.mk HB.out.size
        have hi' : i = 0 ∨ i = 1 ∨ i = 2 ∨ i = 3 := by omega
        rcases hi' with rfl | rfl | rfl | rfl
        · have hcl : wr.cell? ⟨wd.heap.size, 0, none⟩ = some (.int .u8 114) := (cell_of_row wr wd.heap.size 0 _ 5 (3, 4) HR2.out).trans rfl
          by_cases hbt : clsS a1 2 / 4 % 2 = 0
          · have hb1 : (Go.bits .and .i64 (clsS a1 2 / 4) 1 == 0) = true := by rw [B.and_1]; exact beq_iff_eq.2 hbt
            have HE := Aside0.mk (show sg (clsS a1 2) 0 = 45 from by unfold sg; simp [hbt])
            clear hbt
            go_wp2_with (at_builtin; refine print_append_num (w0 := w) w.heap.size rfl (.tmp 43) (.tmp 45) 65 5 .u8 1 rfl Try.underlying65 info_u8 (by decide) u5 (midL a0 a1 2 0) 45 rfl rfl ?aO ?aB ?aS ?aL ?_; (case aO => exact HO.out); (case aB => exact HB.out); (case aS => exact HZ.out); (case aL => simp [midL, preL]); intro v1 w1 ho hb hg hat; have HO3 := Aside0.mk ho; have HB3 := Aside0.mk hb; have HG3 := Aside0.mk hg; have HA3 := Aside0.mk hat; clear ho hb hg hat)
            go_roundw
            case rel => exact ⟨1, by omega, rfl, ⟨by have h := HO3.out; rw [← HE.out] at h; exact h⟩, HB3, ⟨grown_blk HG3.out HS2.out HN.out.1⟩, ⟨grown_blk HG3.out HR2.out HN.out.2⟩, ⟨HN.out.next (blk_lt' HS2.out) (blk_lt' HR2.out) HA3.out⟩⟩
            case measure => simp [intOf]
          · have hb1 : (Go.bits .and .i64 (clsS a1 2 / 4) 1 == 0) = false := by rw [B.and_1]; exact beq_eq_false_iff_ne.2 hbt
            have HE := Aside0.mk (show sg (clsS a1 2) 0 = 114 from by unfold sg; simp [hbt])
            clear hbt
            go_wp2_with (at_builtin; refine print_append_num (w0 := w) w.heap.size rfl (.tmp 43) (.tmp 45) 65 5 .u8 1 rfl Try.underlying65 info_u8 (by decide) u5 (midL a0 a1 2 0) 114 rfl rfl ?aO ?aB ?aS ?aL ?_; (case aO => exact HO.out); (case aB => exact HB.out); (case aS => exact HZ.out); (case aL => simp [midL, preL]); intro v1 w1 ho hb hg hat; have HO3 := Aside0.mk ho; have HB3 := Aside0.mk hb; have HG3 := Aside0.mk hg; have HA3 := Aside0.mk hat; clear ho hb hg hat)
            go_roundw
            case rel => exact ⟨1, by omega, rfl, ⟨by have h := HO3.out; rw [← HE.out] at h; exact h⟩, HB3, ⟨grown_blk HG3.out HS2.out HN.out.1⟩, ⟨grown_blk HG3.out HR2.out HN.out.2⟩, ⟨HN.out.next (blk_lt' HS2.out) (blk_lt' HR2.out) HA3.out⟩⟩
            case measure => simp [intOf]
        · have hcl : wr.cell? ⟨wd.heap.size, 1, none⟩ = some (.int .u8 119) := (cell_of_row wr wd.heap.size 1 _ 5 (3, 4) HR2.out).trans rfl
          by_cases hbt : clsS a1 2 / 2 % 2 = 0
          · have hb1 : (Go.bits .and .i64 (clsS a1 2 / 2) 1 == 0) = true := by rw [B.and_1]; exact beq_iff_eq.2 hbt
            have HE := Aside0.mk (show sg (clsS a1 2) 1 = 45 from by unfold sg; simp [hbt])
            clear hbt
            go_wp2_with (at_builtin; refine print_append_num (w0 := w) w.heap.size rfl (.tmp 43) (.tmp 45) 65 5 .u8 1 rfl Try.underlying65 info_u8 (by decide) u5 (midL a0 a1 2 1) 45 rfl rfl ?aO ?aB ?aS ?aL ?_; (case aO => exact HO.out); (case aB => exact HB.out); (case aS => exact HZ.out); (case aL => simp [midL, preL]); intro v1 w1 ho hb hg hat; have HO3 := Aside0.mk ho; have HB3 := Aside0.mk hb; have HG3 := Aside0.mk hg; have HA3 := Aside0.mk hat; clear ho hb hg hat)
            go_roundw
            case rel => exact ⟨2, by omega, rfl, ⟨by have h := HO3.out; rw [← HE.out] at h; exact h⟩, HB3, ⟨grown_blk HG3.out HS2.out HN.out.1⟩, ⟨grown_blk HG3.out HR2.out HN.out.2⟩, ⟨HN.out.next (blk_lt' HS2.out) (blk_lt' HR2.out) HA3.out⟩⟩
            case measure => simp [intOf]
          · have hb1 : (Go.bits .and .i64 (clsS a1 2 / 2) 1 == 0) = false := by rw [B.and_1]; exact beq_eq_false_iff_ne.2 hbt
            have HE := Aside0.mk (show sg (clsS a1 2) 1 = 119 from by unfold sg; simp [hbt])
            clear hbt
            go_wp2_with (at_builtin; refine print_append_num (w0 := w) w.heap.size rfl (.tmp 43) (.tmp 45) 65 5 .u8 1 rfl Try.underlying65 info_u8 (by decide) u5 (midL a0 a1 2 1) 119 rfl rfl ?aO ?aB ?aS ?aL ?_; (case aO => exact HO.out); (case aB => exact HB.out); (case aS => exact HZ.out); (case aL => simp [midL, preL]); intro v1 w1 ho hb hg hat; have HO3 := Aside0.mk ho; have HB3 := Aside0.mk hb; have HG3 := Aside0.mk hg; have HA3 := Aside0.mk hat; clear ho hb hg hat)
            go_roundw
            case rel => exact ⟨2, by omega, rfl, ⟨by have h := HO3.out; rw [← HE.out] at h; exact h⟩, HB3, ⟨grown_blk HG3.out HS2.out HN.out.1⟩, ⟨grown_blk HG3.out HR2.out HN.out.2⟩, ⟨HN.out.next (blk_lt' HS2.out) (blk_lt' HR2.out) HA3.out⟩⟩
            case measure => simp [intOf]
        · have hcl : wr.cell? ⟨wd.heap.size, 2, none⟩ = some (.int .u8 120) := (cell_of_row wr wd.heap.size 2 _ 5 (3, 4) HR2.out).trans rfl
          by_cases hbt : clsS a1 2 % 2 = 0
          · have hb1 : (Go.bits .and .i64 (clsS a1 2) 1 == 0) = true := by rw [B.and_1]; exact beq_iff_eq.2 hbt
            have HE := Aside0.mk (show sg (clsS a1 2) 2 = 45 from by unfold sg; simp [hbt])
            clear hbt
            go_wp2_with (at_builtin; refine print_append_num (w0 := w) w.heap.size rfl (.tmp 43) (.tmp 45) 65 5 .u8 1 rfl Try.underlying65 info_u8 (by decide) u5 (midL a0 a1 2 2) 45 rfl rfl ?aO ?aB ?aS ?aL ?_; (case aO => exact HO.out); (case aB => exact HB.out); (case aS => exact HZ.out); (case aL => simp [midL, preL]); intro v1 w1 ho hb hg hat; have HO3 := Aside0.mk ho; have HB3 := Aside0.mk hb; have HG3 := Aside0.mk hg; have HA3 := Aside0.mk hat; clear ho hb hg hat)
            go_roundw
            case rel => exact ⟨3, by omega, rfl, ⟨by have h := HO3.out; rw [← HE.out] at h; exact h⟩, HB3, ⟨grown_blk HG3.out HS2.out HN.out.1⟩, ⟨grown_blk HG3.out HR2.out HN.out.2⟩, ⟨HN.out.next (blk_lt' HS2.out) (blk_lt' HR2.out) HA3.out⟩⟩
            case measure => simp [intOf]
          · have hb1 : (Go.bits .and .i64 (clsS a1 2) 1 == 0) = false := by rw [B.and_1]; exact beq_eq_false_iff_ne.2 hbt
            have HE := Aside0.mk (show sg (clsS a1 2) 2 = 120 from by unfold sg; simp [hbt])
            clear hbt
            go_wp2_with (at_builtin; refine print_append_num (w0 := w) w.heap.size rfl (.tmp 43) (.tmp 45) 65 5 .u8 1 rfl Try.underlying65 info_u8 (by decide) u5 (midL a0 a1 2 2) 120 rfl rfl ?aO ?aB ?aS ?aL ?_; (case aO => exact HO.out); (case aB => exact HB.out); (case aS => exact HZ.out); (case aL => simp [midL, preL]); intro v1 w1 ho hb hg hat; have HO3 := Aside0.mk ho; have HB3 := Aside0.mk hb; have HG3 := Aside0.mk hg; have HA3 := Aside0.mk hat; clear ho hb hg hat)
            go_roundw
            case rel => exact ⟨3, by omega, rfl, ⟨by have h := HO3.out; rw [← HE.out] at h; exact h⟩, HB3, ⟨grown_blk HG3.out HS2.out HN.out.1⟩, ⟨grown_blk HG3.out HR2.out HN.out.2⟩, ⟨HN.out.next (blk_lt' HS2.out) (blk_lt' HR2.out) HA3.out⟩⟩
            case measure => simp [intOf]
        · have hc0 : wr.cell? ⟨sb, 0, none⟩ = some (.int .i64 512) := (blk_cell HS2.out 0).trans rfl
          have hc1 : wr.cell? ⟨sb, 1, none⟩ = some (.int .u8 116) := (blk_cell HS2.out 1).trans rfl
          by_cases hm : a1 / 512 % 2 = 0
          · have hb1 : (Go.bits .and .i64 a1 512 != 0) = false := by rw [and_512, hm]; rfl
            have HE := Aside0.mk (show midL a0 a1 2 3 = preL a0 a1 3 from by simp [midL, preL, lastS, hm])
            clear hm
            go_wp2
            go_roundw
            case rel => exact ⟨3, by omega, rfl, ⟨by have h := HO.out; rw [HE.out] at h; exact h⟩, HB⟩
            case measure => simp [intOf]
          · have hb1 : (Go.bits .and .i64 a1 512 != 0) = true := by rw [and_512, show a1 / 512 % 2 = 1 by omega]; rfl
            by_cases hx : clsS a1 2 % 2 = 0
            · have hb2 : (Go.bits .and .i64 (clsS a1 2) 1 == 0) = true := by rw [B.and_1]; exact beq_iff_eq.2 hx
              have HE := Aside0.mk (show (midL a0 a1 2 3).set 9 84 = preL a0 a1 3 from by simp [midL, preL, lastS, hm, hx])
              clear hm hx
              obtain ⟨g, cap, rfl, hcell, hfrz, HST⟩ := own_last HO.out (by simp [midL, preL]) 9 84 (by simp [midL, preL])
              rw [show (midL a0 a1 2 3).length = 10 from rfl]
              go_wp2
              go_roundw
              case rel => exact ⟨3, by omega, rfl, ⟨by have h := HST.out; rw [HE.out] at h; exact h⟩, ⟨HB.out.setCell (p := ⟨g, 9, none⟩) (own_base HO.out g rfl) _⟩⟩
              case measure => simp [intOf]
            · have hb2 : (Go.bits .and .i64 (clsS a1 2) 1 == 0) = false := by rw [B.and_1]; exact beq_eq_false_iff_ne.2 hx
              have HE := Aside0.mk (show (midL a0 a1 2 3).set 9 116 = preL a0 a1 3 from by simp [midL, preL, lastS, hm, hx])
              clear hm hx
              obtain ⟨g, cap, rfl, hcell, hfrz, HST⟩ := own_last HO.out (by simp [midL, preL]) 9 116 (by simp [midL, preL])
              rw [show (midL a0 a1 2 3).length = 10 from rfl]
              go_wp2
              go_roundw
              case rel => exact ⟨3, by omega, rfl, ⟨by have h := HST.out; rw [HE.out] at h; exact h⟩, ⟨HB.out.setCell (p := ⟨g, 9, none⟩) (own_base HO.out g rfl) _⟩⟩
              case measure => simp [intOf]
    · have hcv := fun (ww : Unit) => own_string (P := Try.prog) Try.underlying65 Try.underlying5 Try.underlying9 HO.out
      have hcv := hcv ()
      go_wp2
      go_ret
      exact ⟨rfl, HB.out⟩
set_option maxHeartbeats 8000000 in
set_option maxRecDepth 100000 in
theorem modes_Show.low (a0 a1 : Int) (w : World) (h1 : a0 < 0) :
    Calls Try.prog 35 #[.int .i64 a0, .int .i64 a1] w fun e w' => e = .returned (.string (showS a0 a1)) ∧ Below w.heap.size w w' := by
  have d1 : decide (a0 < 0) = true := decide_eq_true h1
  have HK := Aside0.mk (kind_other a0 (by omega))
  go_enter Try.func35, Try.ntmps35
  go_wp2
  go_loopw [5, 22] (fun v5 v22 wr => ∃ k : Nat, k ≤ 3 ∧ v22 = .int .i64 k ∧ Aside0 (wr.ownsRow w.heap.size 5 1 v5 (preL a0 a1 k).length (nums .u8 (preL a0 a1 k))) ∧ Aside0 (Below w.heap.size w wr)) (fun _ v22 _ => 3 - (intOf v22).toNat)
  case atStart => exact ⟨0, by omega, rfl, ⟨by have hh := HK.out; rw [show (preL a0 a1 0) = [63] from by rw [← hh]; rfl]; skip; exact (own_lit w w.heap.size 5 .u8 [63] (Nat.le_refl _) (by simp)).alloc _⟩, ⟨((Below.refl _ _).alloc (Nat.le_refl _) _).alloc (by simp) _⟩⟩
  case round =>
    obtain ⟨k, hk, rfl, HO, HB⟩ := hrel
    have hk' : k = 0 ∨ k = 1 ∨ k = 2 ∨ k = 3 := by omega
    clear hk
    rcases hk' with rfl | rfl | rfl | rfl
    · have hix : ∀ w, (Instr.index 68 (.agg #[.int .i64 2048, .int .u8 115, .int .i64 1024, .int .u8 115, .int .i64 512, .int .u8 116]) (.int .i64 0)).run Try.prog w = .ok (.agg #[.int .i64 2048, .int .u8 115]) w := fun _ => by kernel_rfl
      go_wp2_with fail
      refine (modes_Class.calls a1 0 (clsS a1 0) _ rfl).mono ?_
      rintro e w1 ⟨rfl, ⟨nd, rfl⟩⟩
      clear hix
      have HS := Aside0.mk (show ((wr.alloc (.cells #[.int .i64 2048, .int .u8 115] 67)).drewN nd).heap[wr.heap.size]? = some (.cells #[.int .i64 2048, .int .u8 115] 67 (0, 0)) from heap_alloc_new wr _)
      have HO1 := Aside0.mk (show ((wr.alloc (.cells #[.int .i64 2048, .int .u8 115] 67)).drewN nd).ownsRow w.heap.size 5 1 u5 (preL a0 a1 0).length (nums .u8 (preL a0 a1 0)) from HO.out.alloc _)
      have HB1 := Aside0.mk (show Below w.heap.size w ((wr.alloc (.cells #[.int .i64 2048, .int .u8 115] 67)).drewN nd) from pw_below_drewN (HB.out.alloc HB.out.size _) _)
      have HN1 := Aside0.mk (show some wr.heap.size ≠ u5.ownBlock from fun h => Nat.lt_irrefl _ (own_lt HO.out _ h.symm))
      have HZ1 := Aside0.mk (show wr.heap.size < ((wr.alloc (.cells #[.int .i64 2048, .int .u8 115] 67)).drewN nd).heap.size from blk_lt' HS.out)
      clear HO HB
      generalize (wr.alloc (.cells #[.int .i64 2048, .int .u8 115] 67)).drewN nd = wd at HS HO1 HB1 HZ1 ⊢
      generalize hsb : wr.heap.size = sb at HS HN1 HZ1 ⊢
      clear hsb
      have kc := fun (w : World) (C : Array Value) (n c : Nat) => Lib.run_convert_bytes_const (P := Try.prog) w 65 5 C n c Try.underlying65 Try.underlying5
      go_wp2
      clear kc
      go_loopw [5, 32] (fun v5 v32 ws => ∃ i : Nat, i ≤ 3 ∧ v32 = .int .i64 i ∧ Aside0 (ws.ownsRow w.heap.size 5 1 v5 (midL a0 a1 0 i).length (nums .u8 (midL a0 a1 0 i))) ∧ Aside0 (Below w.heap.size w ws) ∧ Aside0 (ws.heap[sb]? = some (.cells #[.int .i64 2048, .int .u8 115] 67 (0, 0))) ∧ Aside0 (ws.heap[wd.heap.size]? = some (.cells #[.int .u8 114, .int .u8 119, .int .u8 120] 5 (3, 4))) ∧ Aside0 (NotAt v5 sb wd.heap.size)) (fun _ v32 _ => 3 - (intOf v32).toNat)
      case atStart =>
        refine ⟨0, by omega, rfl, ⟨?_⟩, ⟨HB1.out.alloc HB1.out.size _⟩, ⟨?_⟩, ⟨heap_alloc_new wd _⟩, ⟨HN1.out, fun h => Nat.lt_irrefl _ (own_lt HO1.out _ h.symm)⟩⟩
        · exact HO1.out.alloc _
        · exact blk_of_below ((Below.refl _ _).alloc (Nat.le_refl _) _) HS.out
      case round =>
        obtain ⟨i, hi, rfl, HO, HB, HS2, HR2, HN⟩ := hrel
        have HZ := Aside0.mk HB.out.size
        have hi' : i = 0 ∨ i = 1 ∨ i = 2 ∨ i = 3 := by omega
        rcases hi' with rfl | rfl | rfl | rfl
        · have hcl : wr.cell? ⟨wd.heap.size, 0, none⟩ = some (.int .u8 114) := (cell_of_row wr wd.heap.size 0 _ 5 (3, 4) HR2.out).trans rfl
          by_cases hbt : clsS a1 0 / 4 % 2 = 0
          · have hb1 : (Go.bits .and .i64 (clsS a1 0 / 4) 1 == 0) = true := by rw [B.and_1]; exact beq_iff_eq.2 hbt
            have HE := Aside0.mk (show sg (clsS a1 0) 0 = 45 from by unfold sg; simp [hbt])
            clear hbt
            go_wp2_with (at_builtin; refine print_append_num (w0 := w) w.heap.size rfl (.tmp 43) (.tmp 45) 65 5 .u8 1 rfl Try.underlying65 info_u8 (by decide) u5 (midL a0 a1 0 0) 45 rfl rfl ?aO ?aB ?aS ?aL ?_; (case aO => exact HO.out); (case aB => exact HB.out); (case aS => exact HZ.out); (case aL => simp [midL, preL]); intro v1 w1 ho hb hg hat; have HO3 := Aside0.mk ho; have HB3 := Aside0.mk hb; have HG3 := Aside0.mk hg; have HA3 := Aside0.mk hat; clear ho hb hg hat)
            go_roundw
            case rel => exact ⟨1, by omega, rfl, ⟨by have h := HO3.out; rw [← HE.out] at h; exact h⟩, HB3, ⟨grown_blk HG3.out HS2.out HN.out.1⟩, ⟨grown_blk HG3.out HR2.out HN.out.2⟩, ⟨HN.out.next (blk_lt' HS2.out) (blk_lt' HR2.out) HA3.out⟩⟩
            case measure => simp [intOf]
          · have hb1 : (Go.bits .and .i64 (clsS a1 0 / 4) 1 == 0) = false := by rw [B.and_1]; exact beq_eq_false_iff_ne.2 hbt
            have HE := Aside0.mk (show sg (clsS a1 0) 0 = 114 from by unfold sg; simp [hbt])
            clear hbt
            go_wp2_with (at_builtin; refine print_append_num (w0 := w) w.heap.size rfl (.tmp 43) (.tmp 45) 65 5 .u8 1 rfl Try.underlying65 info_u8 (by decide) u5 (midL a0 a1 0 0) 114 rfl rfl ?aO ?aB ?aS ?aL ?_; (case aO => exact HO.out); (case aB => exact HB.out); (case aS => exact HZ.out); (case aL => simp [midL, preL]); intro v1 w1 ho hb hg hat; have HO3 := Aside0.mk ho; have HB3 := Aside0.mk hb; have HG3 := Aside0.mk hg; have HA3 := Aside0.mk hat; clear ho hb hg hat)
            go_roundw
            case rel => exact ⟨1, by omega, rfl, ⟨by have h := HO3.out; rw [← HE.out] at h; exact h⟩, HB3, ⟨grown_blk HG3.out HS2.out HN.out.1⟩, ⟨grown_blk HG3.out HR2.out HN.out.2⟩, ⟨HN.out.next (blk_lt' HS2.out) (blk_lt' HR2.out) HA3.out⟩⟩
            case measure => simp [intOf]
        · have hcl : wr.cell? ⟨wd.heap.size, 1, none⟩ = some (.int .u8 119) := (cell_of_row wr wd.heap.size 1 _ 5 (3, 4) HR2.out).trans rfl
          by_cases hbt : clsS a1 0 / 2 % 2 = 0
          · have hb1 : (Go.bits .and .i64 (clsS a1 0 / 2) 1 == 0) = true := by rw [B.and_1]; exact beq_iff_eq.2 hbt
            have HE := Aside0.mk (show sg (clsS a1 0) 1 = 45 from by unfold sg; simp [hbt])
            clear hbt
            go_wp2_with (at_builtin; refine print_append_num (w0 := w) w.heap.size rfl (.tmp 43) (.tmp 45) 65 5 .u8 1 rfl Try.underlying65 info_u8 (by decide) u5 (midL a0 a1 0 1) 45 rfl rfl ?aO ?aB ?aS ?aL ?_; (case aO => exact HO.out); (case aB => exact HB.out); (case aS => exact HZ.out); (case aL => simp [midL, preL]); intro v1 w1 ho hb hg hat; have HO3 := Aside0.mk ho; have HB3 := Aside0.mk hb; have HG3 := Aside0.mk hg; have HA3 := Aside0.mk hat; clear ho hb hg hat)
            go_roundw
            case rel => exact ⟨2, by omega, rfl, ⟨by have h := HO3.out; rw [← HE.out] at h; exact h⟩, HB3, ⟨grown_blk HG3.out HS2.out HN.out.1⟩, ⟨grown_blk HG3.out HR2.out HN.out.2⟩, ⟨HN.out.next (blk_lt' HS2.out) (blk_lt' HR2.out) HA3.out⟩⟩
            case measure => simp [intOf]
          · have hb1 : (Go.bits .and .i64 (clsS a1 0 / 2) 1 == 0) = false := by rw [B.and_1]; exact beq_eq_false_iff_ne.2 hbt
            have HE := Aside0.mk (show sg (clsS a1 0) 1 = 119 from by unfold sg; simp [hbt])
            clear hbt
            go_wp2_with (at_builtin; refine print_append_num (w0 := w) w.heap.size rfl (.tmp 43) (.tmp 45) 65 5 .u8 1 rfl Try.underlying65 info_u8 (by decide) u5 (midL a0 a1 0 1) 119 rfl rfl ?aO ?aB ?aS ?aL ?_; (case aO => exact HO.out); (case aB => exact HB.out); (case aS => exact HZ.out); (case aL => simp [midL, preL]); intro v1 w1 ho hb hg hat; have HO3 := Aside0.mk ho; have HB3 := Aside0.mk hb; have HG3 := Aside0.mk hg; have HA3 := Aside0.mk hat; clear ho hb hg hat)
            go_roundw
            case rel => exact ⟨2, by omega, rfl, ⟨by have h := HO3.out; rw [← HE.out] at h; exact h⟩, HB3, ⟨grown_blk HG3.out HS2.out HN.out.1⟩, ⟨grown_blk HG3.out HR2.out HN.out.2⟩, ⟨HN.out.next (blk_lt' HS2.out) (blk_lt' HR2.out) HA3.out⟩⟩
            case measure => simp [intOf]
        · have hcl : wr.cell? ⟨wd.heap.size, 2, none⟩ = some (.int .u8 120) := (cell_of_row wr wd.heap.size 2 _ 5 (3, 4) HR2.out).trans rfl
          by_cases hbt : clsS a1 0 % 2 = 0
          · have hb1 : (Go.bits .and .i64 (clsS a1 0) 1 == 0) = true := by rw [B.and_1]; exact beq_iff_eq.2 hbt
            have HE := Aside0.mk (show sg (clsS a1 0) 2 = 45 from by unfold sg; simp [hbt])
            clear hbt
            go_wp2_with (at_builtin; refine print_append_num (w0 := w) w.heap.size rfl (.tmp 43) (.tmp 45) 65 5 .u8 1 rfl Try.underlying65 info_u8 (by decide) u5 (midL a0 a1 0 2) 45 rfl rfl ?aO ?aB ?aS ?aL ?_; (case aO => exact HO.out); (case aB => exact HB.out); (case aS => exact HZ.out); (case aL => simp [midL, preL]); intro v1 w1 ho hb hg hat; have HO3 := Aside0.mk ho; have HB3 := Aside0.mk hb; have HG3 := Aside0.mk hg; have HA3 := Aside0.mk hat; clear ho hb hg hat)
            go_roundw
            case rel => exact ⟨3, by omega, rfl, ⟨by have h := HO3.out; rw [← HE.out] at h; exact h⟩, HB3, ⟨grown_blk HG3.out HS2.out HN.out.1⟩, ⟨grown_blk HG3.out HR2.out HN.out.2⟩, ⟨HN.out.next (blk_lt' HS2.out) (blk_lt' HR2.out) HA3.out⟩⟩
            case measure => simp [intOf]
          · have hb1 : (Go.bits .and .i64 (clsS a1 0) 1 == 0) = false := by rw [B.and_1]; exact beq_eq_false_iff_ne.2 hbt
            have HE := Aside0.mk (show sg (clsS a1 0) 2 = 120 from by unfold sg; simp [hbt])
            clear hbt
            go_wp2_with (at_builtin; refine print_append_num (w0 := w) w.heap.size rfl (.tmp 43) (.tmp 45) 65 5 .u8 1 rfl Try.underlying65 info_u8 (by decide) u5 (midL a0 a1 0 2) 120 rfl rfl ?aO ?aB ?aS ?aL ?_; (case aO => exact HO.out); (case aB => exact HB.out); (case aS => exact HZ.out); (case aL => simp [midL, preL]); intro v1 w1 ho hb hg hat; have HO3 := Aside0.mk ho; have HB3 := Aside0.mk hb; have HG3 := Aside0.mk hg; have HA3 := Aside0.mk hat; clear ho hb hg hat)
            go_roundw
            case rel => exact ⟨3, by omega, rfl, ⟨by have h := HO3.out; rw [← HE.out] at h; exact h⟩, HB3, ⟨grown_blk HG3.out HS2.out HN.out.1⟩, ⟨grown_blk HG3.out HR2.out HN.out.2⟩, ⟨HN.out.next (blk_lt' HS2.out) (blk_lt' HR2.out) HA3.out⟩⟩
            case measure => simp [intOf]
        · have hc0 : wr.cell? ⟨sb, 0, none⟩ = some (.int .i64 2048) := (blk_cell HS2.out 0).trans rfl
          have hc1 : wr.cell? ⟨sb, 1, none⟩ = some (.int .u8 115) := (blk_cell HS2.out 1).trans rfl
          by_cases hm : a1 / 2048 % 2 = 0
          · have hb1 : (Go.bits .and .i64 a1 2048 != 0) = false := by rw [and_2048, hm]; rfl
            have HE := Aside0.mk (show midL a0 a1 0 3 = preL a0 a1 1 from by simp [midL, preL, lastS, hm])
            clear hm
            go_wp2
            go_roundw
            case rel => exact ⟨1, by omega, rfl, ⟨by have h := HO.out; rw [HE.out] at h; exact h⟩, HB⟩
            case measure => simp [intOf]
          · have hb1 : (Go.bits .and .i64 a1 2048 != 0) = true := by rw [and_2048, show a1 / 2048 % 2 = 1 by omega]; rfl
            by_cases hx : clsS a1 0 % 2 = 0
            · have hb2 : (Go.bits .and .i64 (clsS a1 0) 1 == 0) = true := by rw [B.and_1]; exact beq_iff_eq.2 hx
              have HE := Aside0.mk (show (midL a0 a1 0 3).set 3 83 = preL a0 a1 1 from by simp [midL, preL, lastS, hm, hx])
              clear hm hx
              obtain ⟨g, cap, rfl, hcell, hfrz, HST⟩ := own_last HO.out (by simp [midL, preL]) 3 83 (by simp [midL, preL])
              rw [show (midL a0 a1 0 3).length = 4 from rfl]
              go_wp2
              go_roundw
              case rel => exact ⟨1, by omega, rfl, ⟨by have h := HST.out; rw [HE.out] at h; exact h⟩, ⟨HB.out.setCell (p := ⟨g, 3, none⟩) (own_base HO.out g rfl) _⟩⟩
              case measure => simp [intOf]
            · have hb2 : (Go.bits .and .i64 (clsS a1 0) 1 == 0) = false := by rw [B.and_1]; exact beq_eq_false_iff_ne.2 hx
              have HE := Aside0.mk (show (midL a0 a1 0 3).set 3 115 = preL a0 a1 1 from by simp [midL, preL, lastS, hm, hx])
              clear hm hx
              obtain ⟨g, cap, rfl, hcell, hfrz, HST⟩ := own_last HO.out (by simp [midL, preL]) 3 115 (by simp [midL, preL])
              rw [show (midL a0 a1 0 3).length = 4 from rfl]
              go_wp2
              go_roundw
              case rel => exact ⟨1, by omega, rfl, ⟨by have h := HST.out; rw [HE.out] at h; exact h⟩, ⟨HB.out.setCell (p := ⟨g, 3, none⟩) (own_base HO.out g rfl) _⟩⟩
              case measure => simp [intOf]
    · have hix : ∀ w, (Instr.index 68 (.agg #[.int .i64 2048, .int .u8 115, .int .i64 1024, .int .u8 115, .int .i64 512, .int .u8 116]) (.int .i64 1)).run Try.prog w = .ok (.agg #[.int .i64 1024, .int .u8 115]) w := fun _ => by kernel_rfl
      go_wp2_with fail
      refine (modes_Class.calls a1 1 (clsS a1 1) _ rfl).mono ?_
      rintro e w1 ⟨rfl, ⟨nd, rfl⟩⟩
      clear hix
      have HS := Aside0.mk (show ((wr.alloc (.cells #[.int .i64 1024, .int .u8 115] 67)).drewN nd).heap[wr.heap.size]? = some (.cells #[.int .i64 1024, .int .u8 115] 67 (0, 0)) from heap_alloc_new wr _)
      have HO1 := Aside0.mk (show ((wr.alloc (.cells #[.int .i64 1024, .int .u8 115] 67)).drewN nd).ownsRow w.heap.size 5 1 u5 (preL a0 a1 1).length (nums .u8 (preL a0 a1 1)) from HO.out.alloc _)
      have HB1 := Aside0.mk (show Below w.heap.size w ((wr.alloc (.cells #[.int .i64 1024, .int .u8 115] 67)).drewN nd) from pw_below_drewN (HB.out.alloc HB.out.size _) _)
      have HN1 := Aside0.mk (show some wr.heap.size ≠ u5.ownBlock from fun h => Nat.lt_irrefl _ (own_lt HO.out _ h.symm))
      have HZ1 := Aside0.mk (show wr.heap.size < ((wr.alloc (.cells #[.int .i64 1024, .int .u8 115] 67)).drewN nd).heap.size from blk_lt' HS.out)
      clear HO HB
      generalize (wr.alloc (.cells #[.int .i64 1024, .int .u8 115] 67)).drewN nd = wd at HS HO1 HB1 HZ1 ⊢
      generalize hsb : wr.heap.size = sb at HS HN1 HZ1 ⊢
      clear hsb
      have kc := fun (w : World) (C : Array Value) (n c : Nat) => Lib.run_convert_bytes_const (P := Try.prog) w 65 5 C n c Try.underlying65 Try.underlying5
      go_wp2
      clear kc
      go_loopw [5, 32] (fun v5 v32 ws => ∃ i : Nat, i ≤ 3 ∧ v32 = .int .i64 i ∧ Aside0 (ws.ownsRow w.heap.size 5 1 v5 (midL a0 a1 1 i).length (nums .u8 (midL a0 a1 1 i))) ∧ Aside0 (Below w.heap.size w ws) ∧ Aside0 (ws.heap[sb]? = some (.cells #[.int .i64 1024, .int .u8 115] 67 (0, 0))) ∧ Aside0 (ws.heap[wd.heap.size]? = some (.cells #[.int .u8 114, .int .u8 119, .int .u8 120] 5 (3, 4))) ∧ Aside0 (NotAt v5 sb wd.heap.size)) (fun _ v32 _ => 3 - (intOf v32).toNat)
      case atStart =>
        refine ⟨0, by omega, rfl, ⟨?_⟩, ⟨HB1.out.alloc HB1.out.size _⟩, ⟨?_⟩, ⟨heap_alloc_new wd _⟩, ⟨HN1.out, fun h => Nat.lt_irrefl _ (own_lt HO1.out _ h.symm)⟩⟩
        · exact HO1.out.alloc _
        · exact blk_of_below ((Below.refl _ _).alloc (Nat.le_refl _) _) HS.out
      case round =>
        obtain ⟨i, hi, rfl, HO, HB, HS2, HR2, HN⟩ := hrel
        have HZ := Aside0.mk HB.out.size
        have hi' : i = 0 ∨ i = 1 ∨ i = 2 ∨ i = 3 := by omega
        rcases hi' with rfl | rfl | rfl | rfl
        · have hcl : wr.cell? ⟨wd.heap.size, 0, none⟩ = some (.int .u8 114) := (cell_of_row wr wd.heap.size 0 _ 5 (3, 4) HR2.out).trans rfl
          by_cases hbt : clsS a1 1 / 4 % 2 = 0
          · have hb1 : (Go.bits .and .i64 (clsS a1 1 / 4) 1 == 0) = true := by rw [B.and_1]; exact beq_iff_eq.2 hbt
            have HE := Aside0.mk (show sg (clsS a1 1) 0 = 45 from by unfold sg; simp [hbt])
            clear hbt
            go_wp2_with (at_builtin; refine print_append_num (w0 := w) w.heap.size rfl (.tmp 43) (.tmp 45) 65 5 .u8 1 rfl Try.underlying65 info_u8 (by decide) u5 (midL a0 a1 1 0) 45 rfl rfl ?aO ?aB ?aS ?aL ?_; (case aO => exact HO.out); (case aB => exact HB.out); (case aS => exact HZ.out); (case aL => simp [midL, preL]); intro v1 w1 ho hb hg hat; have HO3 := Aside0.mk ho; have HB3 := Aside0.mk hb; have HG3 := Aside0.mk hg; have HA3 := Aside0.mk hat; clear ho hb hg hat)
            go_roundw
            case rel => exact ⟨1, by omega, rfl, ⟨by have h := HO3.out; rw [← HE.out] at h; exact h⟩, HB3, ⟨grown_blk HG3.out HS2.out HN.out.1⟩, ⟨grown_blk HG3.out HR2.out HN.out.2⟩, ⟨HN.out.next (blk_lt' HS2.out) (blk_lt' HR2.out) HA3.out⟩⟩
            case measure => simp [intOf]
          · have hb1 : (Go.bits .and .i64 (clsS a1 1 / 4) 1 == 0) = false := by rw [B.and_1]; exact beq_eq_false_iff_ne.2 hbt
            have HE := Aside0.mk (show sg (clsS a1 1) 0 = 114 from by unfold sg; simp [hbt])
            clear hbt
            go_wp2_with (at_builtin; refine print_append_num (w0 := w) w.heap.size rfl (.tmp 43) (.tmp 45) 65 5 .u8 1 rfl Try.underlying65 info_u8 (by decide) u5 (midL a0 a1 1 0) 114 rfl rfl ?aO ?aB ?aS ?aL ?_; (case aO => exact HO.out); (case aB => exact HB.out); (case aS => exact HZ.out); (case aL => simp [midL, preL]); intro v1 w1 ho hb hg hat; have HO3 := Aside0.mk ho; have HB3 := Aside0.mk hb; have HG3 := Aside0.mk hg; have HA3 := Aside0.mk hat; clear ho hb hg hat)
            go_roundw
            case rel => exact ⟨1, by omega, rfl, ⟨by have h := HO3.out; rw [← HE.out] at h; exact h⟩, HB3, ⟨grown_blk HG3.out HS2.out HN.out.1⟩, ⟨grown_blk HG3.out HR2.out HN.out.2⟩, ⟨HN.out.next (blk_lt' HS2.out) (blk_lt' HR2.out) HA3.out⟩⟩
            case measure => simp [intOf]
        · have hcl : wr.cell? ⟨wd.heap.size, 1, none⟩ = some (.int .u8 119) := (cell_of_row wr wd.heap.size 1 _ 5 (3, 4) HR2.out).trans rfl
          by_cases hbt : clsS a1 1 / 2 % 2 = 0
          · have hb1 : (Go.bits .and .i64 (clsS a1 1 / 2) 1 == 0) = true := by rw [B.and_1]; exact beq_iff_eq.2 hbt
            have HE := Aside0.mk (show sg (clsS a1 1) 1 = 45 from by unfold sg; simp [hbt])
            clear hbt
            go_wp2_with (at_builtin; refine print_append_num (w0 := w) w.heap.size rfl (.tmp 43) (.tmp 45) 65 5 .u8 1 rfl Try.underlying65 info_u8 (by decide) u5 (midL a0 a1 1 1) 45 rfl rfl ?aO ?aB ?aS ?aL ?_; (case aO => exact HO.out); (case aB => exact HB.out); (case aS => exact HZ.out); (case aL => simp [midL, preL]); intro v1 w1 ho hb hg hat; have HO3 := Aside0.mk ho; have HB3 := Aside0.mk hb; have HG3 := Aside0.mk hg; have HA3 := Aside0.mk hat; clear ho hb hg hat)
            go_roundw
            case rel => exact ⟨2, by omega, rfl, ⟨by have h := HO3.out; rw [← HE.out] at h; exact h⟩, HB3, ⟨grown_blk HG3.out HS2.out HN.out.1⟩, ⟨grown_blk HG3.out HR2.out HN.out.2⟩, ⟨HN.out.next (blk_lt' HS2.out) (blk_lt' HR2.out) HA3.out⟩⟩
            case measure => simp [intOf]
          · have hb1 : (Go.bits .and .i64 (clsS a1 1 / 2) 1 == 0) = false := by rw [B.and_1]; exact beq_eq_false_iff_ne.2 hbt
            have HE := Aside0.mk (show sg (clsS a1 1) 1 = 119 from by unfold sg; simp [hbt])
            clear hbt
            go_wp2_with (at_builtin; refine print_append_num (w0 := w) w.heap.size rfl (.tmp 43) (.tmp 45) 65 5 .u8 1 rfl Try.underlying65 info_u8 (by decide) u5 (midL a0 a1 1 1) 119 rfl rfl ?aO ?aB ?aS ?aL ?_; (case aO => exact HO.out); (case aB => exact HB.out); (case aS => exact HZ.out); (case aL => simp [midL, preL]); intro v1 w1 ho hb hg hat; have HO3 := Aside0.mk ho; have HB3 := Aside0.mk hb; have HG3 := Aside0.mk hg; have HA3 := Aside0.mk hat; clear ho hb hg hat)
            go_roundw
            case rel => exact ⟨2, by omega, rfl, ⟨by have h := HO3.out; rw [← HE.out] at h; exact h⟩, HB3, ⟨grown_blk HG3.out HS2.out HN.out.1⟩, ⟨grown_blk HG3.out HR2.out HN.out.2⟩, ⟨HN.out.next (blk_lt' HS2.out) (blk_lt' HR2.out) HA3.out⟩⟩
            case measure => simp [intOf]
        · have hcl : wr.cell? ⟨wd.heap.size, 2, none⟩ = some (.int .u8 120) := (cell_of_row wr wd.heap.size 2 _ 5 (3, 4) HR2.out).trans rfl
          by_cases hbt : clsS a1 1 % 2 = 0
          · have hb1 : (Go.bits .and .i64 (clsS a1 1) 1 == 0) = true := by rw [B.and_1]; exact beq_iff_eq.2 hbt
            have HE := Aside0.mk (show sg (clsS a1 1) 2 = 45 from by unfold sg; simp [hbt])
            clear hbt
            go_wp2_with (at_builtin; refine print_append_num (w0 := w) w.heap.size rfl (.tmp 43) (.tmp 45) 65 5 .u8 1 rfl Try.underlying65 info_u8 (by decide) u5 (midL a0 a1 1 2) 45 rfl rfl ?aO ?aB ?aS ?aL ?_; (case aO => exact HO.out); (case aB => exact HB.out); (case aS => exact HZ.out); (case aL => simp [midL, preL]); intro v1 w1 ho hb hg hat; have HO3 := Aside0.mk ho; have HB3 := Aside0.mk hb; have HG3 := Aside0.mk hg; have HA3 := Aside0.mk hat; clear ho hb hg hat)
            go_roundw
            case rel => exact ⟨3, by omega, rfl, ⟨by have h := HO3.out; rw [← HE.out] at h; exact h⟩, HB3, ⟨grown_blk HG3.out HS2.out HN.out.1⟩, ⟨grown_blk HG3.out HR2.out HN.out.2⟩, ⟨HN.out.next (blk_lt' HS2.out) (blk_lt' HR2.out) HA3.out⟩⟩
            case measure => simp [intOf]
          · have hb1 : (Go.bits .and .i64 (clsS a1 1) 1 == 0) = false := by rw [B.and_1]; exact beq_eq_false_iff_ne.2 hbt
            have HE := Aside0.mk (show sg (clsS a1 1) 2 = 120 from by unfold sg; simp [hbt])
            clear hbt
            go_wp2_with (at_builtin; refine print_append_num (w0 := w) w.heap.size rfl (.tmp 43) (.tmp 45) 65 5 .u8 1 rfl Try.underlying65 info_u8 (by decide) u5 (midL a0 a1 1 2) 120 rfl rfl ?aO ?aB ?aS ?aL ?_; (case aO => exact HO.out); (case aB => exact HB.out); (case aS => exact HZ.out); (case aL => simp [midL, preL]); intro v1 w1 ho hb hg hat; have HO3 := Aside0.mk ho; have HB3 := Aside0.mk hb; have HG3 := Aside0.mk hg; have HA3 := Aside0.mk hat; clear ho hb hg hat)
            go_roundw
            case rel => exact ⟨3, by omega, rfl, ⟨by have h := HO3.out; rw [← HE.out] at h; exact h⟩, HB3, ⟨grown_blk HG3.out HS2.out HN.out.1⟩, ⟨grown_blk HG3.out HR2.out HN.out.2⟩, ⟨HN.out.next (blk_lt' HS2.out) (blk_lt' HR2.out) HA3.out⟩⟩
            case measure => simp [intOf]
        · have hc0 : wr.cell? ⟨sb, 0, none⟩ = some (.int .i64 1024) := (blk_cell HS2.out 0).trans rfl
          have hc1 : wr.cell? ⟨sb, 1, none⟩ = some (.int .u8 115) := (blk_cell HS2.out 1).trans rfl
          by_cases hm : a1 / 1024 % 2 = 0
          · have hb1 : (Go.bits .and .i64 a1 1024 != 0) = false := by rw [and_1024, hm]; rfl
            have HE := Aside0.mk (show midL a0 a1 1 3 = preL a0 a1 2 from by simp [midL, preL, lastS, hm])
            clear hm
            go_wp2
            go_roundw
            case rel => exact ⟨2, by omega, rfl, ⟨by have h := HO.out; rw [HE.out] at h; exact h⟩, HB⟩
            case measure => simp [intOf]
          · have hb1 : (Go.bits .and .i64 a1 1024 != 0) = true := by rw [and_1024, show a1 / 1024 % 2 = 1 by omega]; rfl
            by_cases hx : clsS a1 1 % 2 = 0
            · have hb2 : (Go.bits .and .i64 (clsS a1 1) 1 == 0) = true := by rw [B.and_1]; exact beq_iff_eq.2 hx
              have HE := Aside0.mk (show (midL a0 a1 1 3).set 6 83 = preL a0 a1 2 from by simp [midL, preL, lastS, hm, hx])
              clear hm hx
              obtain ⟨g, cap, rfl, hcell, hfrz, HST⟩ := own_last HO.out (by simp [midL, preL]) 6 83 (by simp [midL, preL])
              rw [show (midL a0 a1 1 3).length = 7 from rfl]
              go_wp2
              go_roundw
              case rel => exact ⟨2, by omega, rfl, ⟨by have h := HST.out; rw [HE.out] at h; exact h⟩, ⟨HB.out.setCell (p := ⟨g, 6, none⟩) (own_base HO.out g rfl) _⟩⟩
              case measure => simp [intOf]
            · have hb2 : (Go.bits .and .i64 (clsS a1 1) 1 == 0) = false := by rw [B.and_1]; exact beq_eq_false_iff_ne.2 hx
              have HE := Aside0.mk (show (midL a0 a1 1 3).set 6 115 = preL a0 a1 2 from by simp [midL, preL, lastS, hm, hx])
              clear hm hx
              obtain ⟨g, cap, rfl, hcell, hfrz, HST⟩ := own_last HO.out (by simp [midL, preL]) 6 115 (by simp [midL, preL])
              rw [show (midL a0 a1 1 3).length = 7 from rfl]
              go_wp2
              go_roundw
              case rel => exact ⟨2, by omega, rfl, ⟨by have h := HST.out; rw [HE.out] at h; exact h⟩, ⟨HB.out.setCell (p := ⟨g, 6, none⟩) (own_base HO.out g rfl) _⟩⟩
              case measure => simp [intOf]
    · have hix : ∀ w, (Instr.index 68 (.agg #[.int .i64 2048, .int .u8 115, .int .i64 1024, .int .u8 115, .int .i64 512, .int .u8 116]) (.int .i64 2)).run Try.prog w = .ok (.agg #[.int .i64 512, .int .u8 116]) w := fun _ => by kernel_rfl
      go_wp2_with fail
      refine (modes_Class.calls a1 2 (clsS a1 2) _ rfl).mono ?_
      rintro e w1 ⟨rfl, ⟨nd, rfl⟩⟩
      clear hix
      have HS := Aside0.mk (show ((wr.alloc (.cells #[.int .i64 512, .int .u8 116] 67)).drewN nd).heap[wr.heap.size]? = some (.cells #[.int .i64 512, .int .u8 116] 67 (0, 0)) from heap_alloc_new wr _)
      have HO1 := Aside0.mk (show ((wr.alloc (.cells #[.int .i64 512, .int .u8 116] 67)).drewN nd).ownsRow w.heap.size 5 1 u5 (preL a0 a1 2).length (nums .u8 (preL a0 a1 2)) from HO.out.alloc _)
      have HB1 := Aside0.mk (show Below w.heap.size w ((wr.alloc (.cells #[.int .i64 512, .int .u8 116] 67)).drewN nd) from pw_below_drewN (HB.out.alloc HB.out.size _) _)
      have HN1 := Aside0.mk (show some wr.heap.size ≠ u5.ownBlock from fun h => Nat.lt_irrefl _ (own_lt HO.out _ h.symm))
      have HZ1 := Aside0.mk (show wr.heap.size < ((wr.alloc (.cells #[.int .i64 512, .int .u8 116] 67)).drewN nd).heap.size from blk_lt' HS.out)
      clear HO HB
      generalize (wr.alloc (.cells #[.int .i64 512, .int .u8 116] 67)).drewN nd = wd at HS HO1 HB1 HZ1 ⊢
      generalize hsb : wr.heap.size = sb at HS HN1 HZ1 ⊢
      clear hsb
      have kc := fun (w : World) (C : Array Value) (n c : Nat) => Lib.run_convert_bytes_const (P := Try.prog) w 65 5 C n c Try.underlying65 Try.underlying5
      go_wp2
      clear kc
      go_loopw [5, 32] (fun v5 v32 ws => ∃ i : Nat, i ≤ 3 ∧ v32 = .int .i64 i ∧ Aside0 (ws.ownsRow w.heap.size 5 1 v5 (midL a0 a1 2 i).length (nums .u8 (midL a0 a1 2 i))) ∧ Aside0 (Below w.heap.size w ws) ∧ Aside0 (ws.heap[sb]? = some (.cells #[.int .i64 512, .int .u8 116] 67 (0, 0))) ∧ Aside0 (ws.heap[wd.heap.size]? = some (.cells #[.int .u8 114, .int .u8 119, .int .u8 120] 5 (3, 4))) ∧ Aside0 (NotAt v5 sb wd.heap.size)) (fun _ v32 _ => 3 - (intOf v32).toNat)
      case atStart =>
        refine ⟨0, by omega, rfl, ⟨?_⟩, ⟨HB1.out.alloc HB1.out.size _⟩, ⟨?_⟩, ⟨heap_alloc_new wd _⟩, ⟨HN1.out, fun h => Nat.lt_irrefl _ (own_lt HO1.out _ h.symm)⟩⟩
        · exact HO1.out.alloc _
        · exact blk_of_below ((Below.refl _ _).alloc (Nat.le_refl _) _) HS.out
      case round =>
        obtain ⟨i, hi, rfl, HO, HB, HS2, HR2, HN⟩ := hrel
        have HZ := Aside0.mk HB.out.size
        have hi' : i = 0 ∨ i = 1 ∨ i = 2 ∨ i = 3 := by omega
        rcases hi' with rfl | rfl | rfl | rfl
        · have hcl : wr.cell? ⟨wd.heap.size, 0, none⟩ = some (.int .u8 114) := (cell_of_row wr wd.heap.size 0 _ 5 (3, 4) HR2.out).trans rfl
          by_cases hbt : clsS a1 2 / 4 % 2 = 0
          · have hb1 : (Go.bits .and .i64 (clsS a1 2 / 4) 1 == 0) = true := by rw [B.and_1]; exact beq_iff_eq.2 hbt
            have HE := Aside0.mk (show sg (clsS a1 2) 0 = 45 from by unfold sg; simp [hbt])
            clear hbt
            go_wp2_with (at_builtin; refine print_append_num (w0 := w) w.heap.size rfl (.tmp 43) (.tmp 45) 65 5 .u8 1 rfl Try.underlying65 info_u8 (by decide) u5 (midL a0 a1 2 0) 45 rfl rfl ?aO ?aB ?aS ?aL ?_; (case aO => exact HO.out); (case aB => exact HB.out); (case aS => exact HZ.out); (case aL => simp [midL, preL]); intro v1 w1 ho hb hg hat; have HO3 := Aside0.mk ho; have HB3 := Aside0.mk hb; have HG3 := Aside0.mk hg; have HA3 := Aside0.mk hat; clear ho hb hg hat)
            go_roundw
            case rel => exact ⟨1, by omega, rfl, ⟨by have h := HO3.out; rw [← HE.out] at h; exact h⟩, HB3, ⟨grown_blk HG3.out HS2.out HN.out.1⟩, ⟨grown_blk HG3.out HR2.out HN.out.2⟩, ⟨HN.out.next (blk_lt' HS2.out) (blk_lt' HR2.out) HA3.out⟩⟩
            case measure => simp [intOf]
          · have hb1 : (Go.bits .and .i64 (clsS a1 2 / 4) 1 == 0) = false := by rw [B.and_1]; exact beq_eq_false_iff_ne.2 hbt
            have HE := Aside0.mk (show sg (clsS a1 2) 0 = 114 from by unfold sg; simp [hbt])
            clear hbt
            go_wp2_with (at_builtin; refine print_append_num (w0 := w) w.heap.size rfl (.tmp 43) (.tmp 45) 65 5 .u8 1 rfl Try.underlying65 info_u8 (by decide) u5 (midL a0 a1 2 0) 114 rfl rfl ?aO ?aB ?aS ?aL ?_; (case aO => exact HO.out); (case aB => exact HB.out); (case aS => exact HZ.out); (case aL => simp [midL, preL]); intro v1 w1 ho hb hg hat; have HO3 := Aside0.mk ho; have HB3 := Aside0.mk hb; have HG3 := Aside0.mk hg; have HA3 := Aside0.mk hat; clear ho hb hg hat)
            go_roundw
            case rel => exact ⟨1, by omega, rfl, ⟨by have h := HO3.out; rw [← HE.out] at h; exact h⟩, HB3, ⟨grown_blk HG3.out HS2.out HN.out.1⟩, ⟨grown_blk HG3.out HR2.out HN.out.2⟩, ⟨HN.out.next (blk_lt' HS2.out) (blk_lt' HR2.out) HA3.out⟩⟩
            case measure => simp [intOf]
        · have hcl : wr.cell? ⟨wd.heap.size, 1, none⟩ = some (.int .u8 119) := (cell_of_row wr wd.heap.size 1 _ 5 (3, 4) HR2.out).trans rfl
          by_cases hbt : clsS a1 2 / 2 % 2 = 0
          · have hb1 : (Go.bits .and .i64 (clsS a1 2 / 2) 1 == 0) = true := by rw [B.and_1]; exact beq_iff_eq.2 hbt
            have HE := Aside0.mk (show sg (clsS a1 2) 1 = 45 from by unfold sg; simp [hbt])
            clear hbt
            go_wp2_with (at_builtin; refine print_append_num (w0 := w) w.heap.size rfl (.tmp 43) (.tmp 45) 65 5 .u8 1 rfl Try.underlying65 info_u8 (by decide) u5 (midL a0 a1 2 1) 45 rfl rfl ?aO ?aB ?aS ?aL ?_; (case aO => exact HO.out); (case aB => exact HB.out); (case aS => exact HZ.out); (case aL => simp [midL, preL]); intro v1 w1 ho hb hg hat; have HO3 := Aside0.mk ho; have HB3 := Aside0.mk hb; have HG3 := Aside0.mk hg; have HA3 := Aside0.mk hat; clear ho hb hg hat)
            go_roundw
            case rel => exact ⟨2, by omega, rfl, ⟨by have h := HO3.out; rw [← HE.out] at h; exact h⟩, HB3, ⟨grown_blk HG3.out HS2.out HN.out.1⟩, ⟨grown_blk HG3.out HR2.out HN.out.2⟩, ⟨HN.out.next (blk_lt' HS2.out) (blk_lt' HR2.out) HA3.out⟩⟩
            case measure => simp [intOf]
          · have hb1 : (Go.bits .and .i64 (clsS a1 2 / 2) 1 == 0) = false := by rw [B.and_1]; exact beq_eq_false_iff_ne.2 hbt
            have HE := Aside0.mk (show sg (clsS a1 2) 1 = 119 from by unfold sg; simp [hbt])
            clear hbt
            go_wp2_with (at_builtin; refine print_append_num (w0 := w) w.heap.size rfl (.tmp 43) (.tmp 45) 65 5 .u8 1 rfl Try.underlying65 info_u8 (by decide) u5 (midL a0 a1 2 1) 119 rfl rfl ?aO ?aB ?aS ?aL ?_; (case aO => exact HO.out); (case aB => exact HB.out); (case aS => exact HZ.out); (case aL => simp [midL, preL]); intro v1 w1 ho hb hg hat; have HO3 := Aside0.mk ho; have HB3 := Aside0.mk hb; have HG3 := Aside0.mk hg; have HA3 := Aside0.mk hat; clear ho hb hg hat)
            go_roundw
            case rel => exact ⟨2, by omega, rfl, ⟨by have h := HO3.out; rw [← HE.out] at h; exact h⟩, HB3, ⟨grown_blk HG3.out HS2.out HN.out.1⟩, ⟨grown_blk HG3.out HR2.out HN.out.2⟩, ⟨HN.out.next (blk_lt' HS2.out) (blk_lt' HR2.out) HA3.out⟩⟩
            case measure => simp [intOf]
        · have hcl : wr.cell? ⟨wd.heap.size, 2, none⟩ = some (.int .u8 120) := (cell_of_row wr wd.heap.size 2 _ 5 (3, 4) HR2.out).trans rfl
          by_cases hbt : clsS a1 2 % 2 = 0
          · have hb1 : (Go.bits .and .i64 (clsS a1 2) 1 == 0) = true := by rw [B.and_1]; exact beq_iff_eq.2 hbt
            have HE := Aside0.mk (show sg (clsS a1 2) 2 = 45 from by unfold sg; simp [hbt])
            clear hbt
            go_wp2_with (at_builtin; refine print_append_num (w0 := w) w.heap.size rfl (.tmp 43) (.tmp 45) 65 5 .u8 1 rfl Try.underlying65 info_u8 (by decide) u5 (midL a0 a1 2 2) 45 rfl rfl ?aO ?aB ?aS ?aL ?_; (case aO => exact HO.out); (case aB => exact HB.out); (case aS => exact HZ.out); (case aL => simp [midL, preL]); intro v1 w1 ho hb hg hat; have HO3 := Aside0.mk ho; have HB3 := Aside0.mk hb; have HG3 := Aside0.mk hg; have HA3 := Aside0.mk hat; clear ho hb hg hat)
            go_roundw
            case rel => exact ⟨3, by omega, rfl, ⟨by have h := HO3.out; rw [← HE.out] at h; exact h⟩, HB3, ⟨grown_blk HG3.out HS2.out HN.out.1⟩, ⟨grown_blk HG3.out HR2.out HN.out.2⟩, ⟨HN.out.next (blk_lt' HS2.out) (blk_lt' HR2.out) HA3.out⟩⟩
            case measure => simp [intOf]
          · have hb1 : (Go.bits .and .i64 (clsS a1 2) 1 == 0) = false := by rw [B.and_1]; exact beq_eq_false_iff_ne.2 hbt
            have HE := Aside0.mk (show sg (clsS a1 2) 2 = 120 from by unfold sg; simp [hbt])
            clear hbt
            go_wp2_with (at_builtin; refine print_append_num (w0 := w) w.heap.size rfl (.tmp 43) (.tmp 45) 65 5 .u8 1 rfl Try.underlying65 info_u8 (by decide) u5 (midL a0 a1 2 2) 120 rfl rfl ?aO ?aB ?aS ?aL ?_; (case aO => exact HO.out); (case aB => exact HB.out); (case aS => exact HZ.out); (case aL => simp [midL, preL]); intro v1 w1 ho hb hg hat; have HO3 := Aside0.mk ho; have HB3 := Aside0.mk hb; have HG3 := Aside0.mk hg; have HA3 := Aside0.mk hat; clear ho hb hg hat)
            go_roundw
            case rel => exact ⟨3, by omega, rfl, ⟨by have h := HO3.out; rw [← HE.out] at h; exact h⟩, HB3, ⟨grown_blk HG3.out HS2.out HN.out.1⟩, ⟨grown_blk HG3.out HR2.out HN.out.2⟩, ⟨HN.out.next (blk_lt' HS2.out) (blk_lt' HR2.out) HA3.out⟩⟩
            case measure => simp [intOf]
        · have hc0 : wr.cell? ⟨sb, 0, none⟩ = some (.int .i64 512) := (blk_cell HS2.out 0).trans rfl
          have hc1 : wr.cell? ⟨sb, 1, none⟩ = some (.int .u8 116) := (blk_cell HS2.out 1).trans rfl
          by_cases hm : a1 / 512 % 2 = 0
          · have hb1 : (Go.bits .and .i64 a1 512 != 0) = false := by rw [and_512, hm]; rfl
            have HE := Aside0.mk (show midL a0 a1 2 3 = preL a0 a1 3 from by simp [midL, preL, lastS, hm])
            clear hm
            go_wp2
            go_roundw
            case rel => exact ⟨3, by omega, rfl, ⟨by have h := HO.out; rw [HE.out] at h; exact h⟩, HB⟩
            case measure => simp [intOf]
          · have hb1 : (Go.bits .and .i64 a1 512 != 0) = true := by rw [and_512, show a1 / 512 % 2 = 1 by omega]; rfl
            by_cases hx : clsS a1 2 % 2 = 0
            · have hb2 : (Go.bits .and .i64 (clsS a1 2) 1 == 0) = true := by rw [B.and_1]; exact beq_iff_eq.2 hx
              have HE := Aside0.mk (show (midL a0 a1 2 3).set 9 84 = preL a0 a1 3 from by simp [midL, preL, lastS, hm, hx])
              clear hm hx
              obtain ⟨g, cap, rfl, hcell, hfrz, HST⟩ := own_last HO.out (by simp [midL, preL]) 9 84 (by simp [midL, preL])
              rw [show (midL a0 a1 2 3).length = 10 from rfl]
              go_wp2
              go_roundw
              case rel => exact ⟨3, by omega, rfl, ⟨by have h := HST.out; rw [HE.out] at h; exact h⟩, ⟨HB.out.setCell (p := ⟨g, 9, none⟩) (own_base HO.out g rfl) _⟩⟩
              case measure => simp [intOf]
            · have hb2 : (Go.bits .and .i64 (clsS a1 2) 1 == 0) = false := by rw [B.and_1]; exact beq_eq_false_iff_ne.2 hx
              have HE := Aside0.mk (show (midL a0 a1 2 3).set 9 116 = preL a0 a1 3 from by simp [midL, preL, lastS, hm, hx])
              clear hm hx
              obtain ⟨g, cap, rfl, hcell, hfrz, HST⟩ := own_last HO.out (by simp [midL, preL]) 9 116 (by simp [midL, preL])
              rw [show (midL a0 a1 2 3).length = 10 from rfl]
              go_wp2
              go_roundw
              case rel => exact ⟨3, by omega, rfl, ⟨by have h := HST.out; rw [HE.out] at h; exact h⟩, ⟨HB.out.setCell (p := ⟨g, 9, none⟩) (own_base HO.out g rfl) _⟩⟩
              case measure => simp [intOf]
    · have hcv := fun (ww : Unit) => own_string (P := Try.prog) Try.underlying65 Try.underlying5 Try.underlying9 HO.out
      have hcv := hcv ()
      go_wp2
      go_ret
      exact ⟨rfl, HB.out⟩
set_option maxHeartbeats 8000000 in
set_option maxRecDepth 100000 in
theorem modes_Show.high (a0 a1 : Int) (w : World) (h1 : 4 ≤ a0) :
    Calls Try.prog 35 #[.int .i64 a0, .int .i64 a1] w fun e w' => e = .returned (.string (showS a0 a1)) ∧ Below w.heap.size w w' := by
  have d1 : decide (a0 < 0) = false := decide_eq_false (by omega)
  have d2 : decide (4 ≤ a0) = true := decide_eq_true h1
  have HK := Aside0.mk (kind_other a0 (by omega))
  go_enter Try.func35, Try.ntmps35
  go_wp2
  go_loopw [5, 22] (fun v5 v22 wr => ∃ k : Nat, k ≤ 3 ∧ v22 = .int .i64 k ∧ Aside0 (wr.ownsRow w.heap.size 5 1 v5 (preL a0 a1 k).length (nums .u8 (preL a0 a1 k))) ∧ Aside0 (Below w.heap.size w wr)) (fun _ v22 _ => 3 - (intOf v22).toNat)
  case atStart => exact ⟨0, by omega, rfl, ⟨by have hh := HK.out; rw [show (preL a0 a1 0) = [63] from by rw [← hh]; rfl]; skip; exact (own_lit w w.heap.size 5 .u8 [63] (Nat.le_refl _) (by simp)).alloc _⟩, ⟨((Below.refl _ _).alloc (Nat.le_refl _) _).alloc (by simp) _⟩⟩
  case round =>
    obtain ⟨k, hk, rfl, HO, HB⟩ := hrel
    have hk' : k = 0 ∨ k = 1 ∨ k = 2 ∨ k = 3 := by omega
    clear hk
    rcases hk' with rfl | rfl | rfl | rfl
    · have hix : ∀ w, (Instr.index 68 (.agg #[.int .i64 2048, .int .u8 115, .int .i64 1024, .int .u8 115, .int .i64 512, .int .u8 116]) (.int .i64 0)).run Try.prog w = .ok (.agg #[.int .i64 2048, .int .u8 115]) w := fun _ => by kernel_rfl
      go_wp2_with fail
      refine (modes_Class.calls a1 0 (clsS a1 0) _ rfl).mono ?_
      rintro e w1 ⟨rfl, ⟨nd, rfl⟩⟩
      clear hix
      have HS := Aside0.mk (show ((wr.alloc (.cells #[.int .i64 2048, .int .u8 115] 67)).drewN nd).heap[wr.heap.size]? = some (.cells #[.int .i64 2048, .int .u8 115] 67 (0, 0)) from heap_alloc_new wr _)
      have HO1 := Aside0.mk (show ((wr.alloc (.cells #[.int .i64 2048, .int .u8 115] 67)).drewN nd).ownsRow w.heap.size 5 1 u5 (preL a0 a1 0).length (nums .u8 (preL a0 a1 0)) from HO.out.alloc _)
      have HB1 := Aside0.mk (show Below w.heap.size w ((wr.alloc (.cells #[.int .i64 2048, .int .u8 115] 67)).drewN nd) from pw_below_drewN (HB.out.alloc HB.out.size _) _)
      have HN1 := Aside0.mk (show some wr.heap.size ≠ u5.ownBlock from fun h => Nat.lt_irrefl _ (own_lt HO.out _ h.symm))
      have HZ1 := Aside0.mk (show wr.heap.size < ((wr.alloc (.cells #[.int .i64 2048, .int .u8 115] 67)).drewN nd).heap.size from blk_lt' HS.out)
      clear HO HB
      generalize (wr.alloc (.cells #[.int .i64 2048, .int .u8 115] 67)).drewN nd = wd at HS HO1 HB1 HZ1 ⊢
      generalize hsb : wr.heap.size = sb at HS HN1 HZ1 ⊢
      clear hsb
      have kc := fun (w : World) (C : Array Value) (n c : Nat) => Lib.run_convert_bytes_const (P := Try.prog) w 65 5 C n c Try.underlying65 Try.underlying5
      go_wp2
      clear kc
      go_loopw [5, 32] (fun v5 v32 ws => ∃ i : Nat, i ≤ 3 ∧ v32 = .int .i64 i ∧ Aside0 (ws.ownsRow w.heap.size 5 1 v5 (midL a0 a1 0 i).length (nums .u8 (midL a0 a1 0 i))) ∧ Aside0 (Below w.heap.size w ws) ∧ Aside0 (ws.heap[sb]? = some (.cells #[.int .i64 2048, .int .u8 115] 67 (0, 0))) ∧ Aside0 (ws.heap[wd.heap.size]? = some (.cells #[.int .u8 114, .int .u8 119, .int .u8 120] 5 (3, 4))) ∧ Aside0 (NotAt v5 sb wd.heap.size)) (fun _ v32 _ => 3 - (intOf v32).toNat)
      case atStart =>
        refine ⟨0, by omega, rfl, ⟨?_⟩, ⟨HB1.out.alloc HB1.out.size _⟩, ⟨?_⟩, ⟨heap_alloc_new wd _⟩, ⟨HN1.out, fun h => Nat.lt_irrefl _ (own_lt HO1.out _ h.symm)⟩⟩
        · exact HO1.out.alloc _
        · exact blk_of_below ((Below.refl _ _).alloc (Nat.le_refl _) _) HS.out
      case round =>
        obtain ⟨i, hi, rfl, HO, HB, HS2, HR2, HN⟩ := hrel
        have HZ := Aside0.mk HB.out.size
        have hi' : i = 0 ∨ i = 1 ∨ i = 2 ∨ i = 3 := by omega
        rcases hi' with rfl | rfl | rfl | rfl
        · have hcl : wr.cell? ⟨wd.heap.size, 0, none⟩ = some (.int .u8 114) := (cell_of_row wr wd.heap.size 0 _ 5 (3, 4) HR2.out).trans rfl
          by_cases hbt : clsS a1 0 / 4 % 2 = 0
          · have hb1 : (Go.bits .and .i64 (clsS a1 0 / 4) 1 == 0) = true := by rw [B.and_1]; exact beq_iff_eq.2 hbt
            have HE := Aside0.mk (show sg (clsS a1 0) 0 = 45 from by unfold sg; simp [hbt])
            clear hbt
            go_wp2_with (at_builtin; refine print_append_num (w0 := w) w.heap.size rfl (.tmp 43) (.tmp 45) 65 5 .u8 1 rfl Try.underlying65 info_u8 (by decide) u5 (midL a0 a1 0 0) 45 rfl rfl ?aO ?aB ?aS ?aL ?_; (case aO => exact HO.out); (case aB => exact HB.out); (case aS => exact HZ.out); (case aL => simp [midL, preL]); intro v1 w1 ho hb hg hat; have HO3 := Aside0.mk ho; have HB3 := Aside0.mk hb; have HG3 := Aside0.mk hg; have HA3 := Aside0.mk hat; clear ho hb hg hat)
            go_roundw
            case rel => exact ⟨1, by omega, rfl, ⟨by have h := HO3.out; rw [← HE.out] at h; exact h⟩, HB3, ⟨grown_blk HG3.out HS2.out HN.out.1⟩, ⟨grown_blk HG3.out HR2.out HN.out.2⟩, ⟨HN.out.next (blk_lt' HS2.out) (blk_lt' HR2.out) HA3.out⟩⟩
            case measure => simp [intOf]
          · have hb1 : (Go.bits .and .i64 (clsS a1 0 / 4) 1 == 0) = false := by rw [B.and_1]; exact beq_eq_false_iff_ne.2 hbt
            have HE := Aside0.mk (show sg (clsS a1 0) 0 = 114 from by unfold sg; simp [hbt])
            clear hbt
            go_wp2_with (at_builtin; refine print_append_num (w0 := w) w.heap.size rfl (.tmp 43) (.tmp 45) 65 5 .u8 1 rfl Try.underlying65 info_u8 (by decide) u5 (midL a0 a1 0 0) 114 rfl rfl ?aO ?aB ?aS ?aL ?_; (case aO => exact HO.out); (case aB => exact HB.out); (case aS => exact HZ.out); (case aL => simp [midL, preL]); intro v1 w1 ho hb hg hat; have HO3 := Aside0.mk ho; have HB3 := Aside0.mk hb; have HG3 := Aside0.mk hg; have HA3 := Aside0.mk hat; clear ho hb hg hat)
            go_roundw
            case rel => exact ⟨1, by omega, rfl, ⟨by have h := HO3.out; rw [← HE.out] at h; exact h⟩, HB3, ⟨grown_blk HG3.out HS2.out HN.out.1⟩, ⟨grown_blk HG3.out HR2.out HN.out.2⟩, ⟨HN.out.next (blk_lt' HS2.out) (blk_lt' HR2.out) HA3.out⟩⟩
            case measure => simp [intOf]
        · have hcl : wr.cell? ⟨wd.heap.size, 1, none⟩ = some (.int .u8 119) := (cell_of_row wr wd.heap.size 1 _ 5 (3, 4) HR2.out).trans rfl
          by_cases hbt : clsS a1 0 / 2 % 2 = 0
          · have hb1 : (Go.bits .and .i64 (clsS a1 0 / 2) 1 == 0) = true := by rw [B.and_1]; exact beq_iff_eq.2 hbt
            have HE := Aside0.mk (show sg (clsS a1 0) 1 = 45 from by unfold sg; simp [hbt])
            clear hbt
            go_wp2_with (at_builtin; refine print_append_num (w0 := w) w.heap.size rfl (.tmp 43) (.tmp 45) 65 5 .u8 1 rfl Try.underlying65 info_u8 (by decide) u5 (midL a0 a1 0 1) 45 rfl rfl ?aO ?aB ?aS ?aL ?_; (case aO => exact HO.out); (case aB => exact HB.out); (case aS => exact HZ.out); (case aL => simp [midL, preL]); intro v1 w1 ho hb hg hat; have HO3 := Aside0.mk ho; have HB3 := Aside0.mk hb; have HG3 := Aside0.mk hg; have HA3 := Aside0.mk hat; clear ho hb hg hat)
            go_roundw
            case rel => exact ⟨2, by omega, rfl, ⟨by have h := HO3.out; rw [← HE.out] at h; exact h⟩, HB3, ⟨grown_blk HG3.out HS2.out HN.out.1⟩, ⟨grown_blk HG3.out HR2.out HN.out.2⟩, ⟨HN.out.next (blk_lt' HS2.out) (blk_lt' HR2.out) HA3.out⟩⟩
            case measure => simp [intOf]
          · have hb1 : (Go.bits .and .i64 (clsS a1 0 / 2) 1 == 0) = false := by rw [B.and_1]; exact beq_eq_false_iff_ne.2 hbt
            have HE := Aside0.mk (show sg (clsS a1 0) 1 = 119 from by unfold sg; simp [hbt])
            clear hbt
            go_wp2_with (at_builtin; refine print_append_num (w0 := w) w.heap.size rfl (.tmp 43) (.tmp 45) 65 5 .u8 1 rfl Try.underlying65 info_u8 (by decide) u5 (midL a0 a1 0 1) 119 rfl rfl ?aO ?aB ?aS ?aL ?_; (case aO => exact HO.out); (case aB => exact HB.out); (case aS => exact HZ.out); (case aL => simp [midL, preL]); intro v1 w1 ho hb hg hat; have HO3 := Aside0.mk ho; have HB3 := Aside0.mk hb; have HG3 := Aside0.mk hg; have HA3 := Aside0.mk hat; clear ho hb hg hat)
            go_roundw
            case rel => exact ⟨2, by omega, rfl, ⟨by have h := HO3.out; rw [← HE.out] at h; exact h⟩, HB3, ⟨grown_blk HG3.out HS2.out HN.out.1⟩, ⟨grown_blk HG3.out HR2.out HN.out.2⟩, ⟨HN.out.next (blk_lt' HS2.out) (blk_lt' HR2.out) HA3.out⟩⟩
            case measure => simp [intOf]
        · have hcl : wr.cell? ⟨wd.heap.size, 2, none⟩ = some (.int .u8 120) := (cell_of_row wr wd.heap.size 2 _ 5 (3, 4) HR2.out).trans rfl
          by_cases hbt : clsS a1 0 % 2 = 0
          · have hb1 : (Go.bits .and .i64 (clsS a1 0) 1 == 0) = true := by rw [B.and_1]; exact beq_iff_eq.2 hbt
            have HE := Aside0.mk (show sg (clsS a1 0) 2 = 45 from by unfold sg; simp [hbt])
            clear hbt
            go_wp2_with (at_builtin; refine print_append_num (w0 := w) w.heap.size rfl (.tmp 43) (.tmp 45) 65 5 .u8 1 rfl Try.underlying65 info_u8 (by decide) u5 (midL a0 a1 0 2) 45 rfl rfl ?aO ?aB ?aS ?aL ?_; (case aO => exact HO.out); (case aB => exact HB.out); (case aS => exact HZ.out); (case aL => simp [midL, preL]); intro v1 w1 ho hb hg hat; have HO3 := Aside0.mk ho; have HB3 := Aside0.mk hb; have HG3 := Aside0.mk hg; have HA3 := Aside0.mk hat; clear ho hb hg hat)
            go_roundw
            case rel => exact ⟨3, by omega, rfl, ⟨by have h := HO3.out; rw [← HE.out] at h; exact h⟩, HB3, ⟨grown_blk HG3.out HS2.out HN.out.1⟩, ⟨grown_blk HG3.out HR2.out HN.out.2⟩, ⟨HN.out.next (blk_lt' HS2.out) (blk_lt' HR2.out) HA3.out⟩⟩
            case measure => simp [intOf]
          · have hb1 : (Go.bits .and .i64 (clsS a1 0) 1 == 0) = false := by rw [B.and_1]; exact beq_eq_false_iff_ne.2 hbt
            have HE := Aside0.mk (show sg (clsS a1 0) 2 = 120 from by unfold sg; simp [hbt])
            clear hbt
            go_wp2_with (at_builtin; refine print_append_num (w0 := w) w.heap.size rfl (.tmp 43) (.tmp 45) 65 5 .u8 1 rfl Try.underlying65 info_u8 (by decide) u5 (midL a0 a1 0 2) 120 rfl rfl ?aO ?aB ?aS ?aL ?_; (case aO => exact HO.out); (case aB => exact HB.out); (case aS => exact HZ.out); (case aL => simp [midL, preL]); intro v1 w1 ho hb hg hat; have HO3 := Aside0.mk ho; have HB3 := Aside0.mk hb; have HG3 := Aside0.mk hg; have HA3 := Aside0.mk hat; clear ho hb hg hat)
            go_roundw
            case rel => exact ⟨3, by omega, rfl, ⟨by have h := HO3.out; rw [← HE.out] at h; exact h⟩, HB3, ⟨grown_blk HG3.out HS2.out HN.out.1⟩, ⟨grown_blk HG3.out HR2.out HN.out.2⟩, ⟨HN.out.next (blk_lt' HS2.out) (blk_lt' HR2.out) HA3.out⟩⟩
            case measure => simp [intOf]
        · have hc0 : wr.cell? ⟨sb, 0, none⟩ = some (.int .i64 2048) := (blk_cell HS2.out 0).trans rfl
          have hc1 : wr.cell? ⟨sb, 1, none⟩ = some (.int .u8 115) := (blk_cell HS2.out 1).trans rfl
          by_cases hm : a1 / 2048 % 2 = 0
          · have hb1 : (Go.bits .and .i64 a1 2048 != 0) = false := by rw [and_2048, hm]; rfl
            have HE := Aside0.mk (show midL a0 a1 0 3 = preL a0 a1 1 from by simp [midL, preL, lastS, hm])
            clear hm
            go_wp2
            go_roundw
            case rel => exact ⟨1, by omega, rfl, ⟨by have h := HO.out; rw [HE.out] at h; exact h⟩, HB⟩
            case measure => simp [intOf]
          · have hb1 : (Go.bits .and .i64 a1 2048 != 0) = true := by rw [and_2048, show a1 / 2048 % 2 = 1 by omega]; rfl
            by_cases hx : clsS a1 0 % 2 = 0
            · have hb2 : (Go.bits .and .i64 (clsS a1 0) 1 == 0) = true := by rw [B.and_1]; exact beq_iff_eq.2 hx
              have HE := Aside0.mk (show (midL a0 a1 0 3).set 3 83 = preL a0 a1 1 from by simp [midL, preL, lastS, hm, hx])
              clear hm hx
              obtain ⟨g, cap, rfl, hcell, hfrz, HST⟩ := own_last HO.out (by simp [midL, preL]) 3 83 (by simp [midL, preL])
              rw [show (midL a0 a1 0 3).length = 4 from rfl]
              go_wp2
              go_roundw
              case rel => exact ⟨1, by omega, rfl, ⟨by have h := HST.out; rw [HE.out] at h; exact h⟩, ⟨HB.out.setCell (p := ⟨g, 3, none⟩) (own_base HO.out g rfl) _⟩⟩
              case measure => simp [intOf]
            · have hb2 : (Go.bits .and .i64 (clsS a1 0) 1 == 0) = false := by rw [B.and_1]; exact beq_eq_false_iff_ne.2 hx
              have HE := Aside0.mk (show (midL a0 a1 0 3).set 3 115 = preL a0 a1 1 from by simp [midL, preL, lastS, hm, hx])
              clear hm hx
              obtain ⟨g, cap, rfl, hcell, hfrz, HST⟩ := own_last HO.out (by simp [midL, preL]) 3 115 (by simp [midL, preL])
              rw [show (midL a0 a1 0 3).length = 4 from rfl]
              go_wp2
              go_roundw
              case rel => exact ⟨1, by omega, rfl, ⟨by have h := HST.out; rw [HE.out] at h; exact h⟩, ⟨HB.out.setCell (p := ⟨g, 3, none⟩) (own_base HO.out g rfl) _⟩⟩
              case measure => simp [intOf]
    · have hix : ∀ w, (Instr.index 68 (.agg #[.int .i64 2048, .int .u8 115, .int .i64 1024, .int .u8 115, .int .i64 512, .int .u8 116]) (.int .i64 1)).run Try.prog w = .ok (.agg #[.int .i64 1024, .int .u8 115]) w := fun _ => by kernel_rfl
      go_wp2_with fail
      refine (modes_Class.calls a1 1 (clsS a1 1) _ rfl).mono ?_
      rintro e w1 ⟨rfl, ⟨nd, rfl⟩⟩
      clear hix
      have HS := Aside0.mk (show ((wr.alloc (.cells #[.int .i64 1024, .int .u8 115] 67)).drewN nd).heap[wr.heap.size]? = some (.cells #[.int .i64 1024, .int .u8 115] 67 (0, 0)) from heap_alloc_new wr _)
      have HO1 := Aside0.mk (show ((wr.alloc (.cells #[.int .i64 1024, .int .u8 115] 67)).drewN nd).ownsRow w.heap.size 5 1 u5 (preL a0 a1 1).length (nums .u8 (preL a0 a1 1)) from HO.out.alloc _)
      have HB1 := Aside0.mk (show Below w.heap.size w ((wr.alloc (.cells #[.int .i64 1024, .int .u8 115] 67)).drewN nd) from pw_below_drewN (HB.out.alloc HB.out.size _) _)
      have HN1 := Aside0.mk (show some wr.heap.size ≠ u5.ownBlock from fun h => Nat.lt_irrefl _ (own_lt HO.out _ h.symm))
      have HZ1 := Aside0.mk (show wr.heap.size < ((wr.alloc (.cells #[.int .i64 1024, .int .u8 115] 67)).drewN nd).heap.size from blk_lt' HS.out)
      clear HO HB
      generalize (wr.alloc (.cells #[.int .i64 1024, .int .u8 115] 67)).drewN nd = wd at HS HO1 HB1 HZ1 ⊢
      generalize hsb : wr.heap.size = sb at HS HN1 HZ1 ⊢
      clear hsb
      have kc := fun (w : World) (C : Array Value) (n c : Nat) => Lib.run_convert_bytes_const (P := Try.prog) w 65 5 C n c Try.underlying65 Try.underlying5
      go_wp2
      clear kc
      go_loopw [5, 32] (fun v5 v32 ws => ∃ i : Nat, i ≤ 3 ∧ v32 = .int .i64 i ∧ Aside0 (ws.ownsRow w.heap.size 5 1 v5 (midL a0 a1 1 i).length (nums .u8 (midL a0 a1 1 i))) ∧ Aside0 (Below w.heap.size w ws) ∧ Aside0 (ws.heap[sb]? = some (.cells #[.int .i64 1024, .int .u8 115] 67 (0, 0))) ∧ Aside0 (ws.heap[wd.heap.size]? = some (.cells #[.int .u8 114, .int .u8 119, .int .u8 120] 5 (3, 4))) ∧ Aside0 (NotAt v5 sb wd.heap.size)) (fun _ v32 _ => 3 - (intOf v32).toNat)
      case atStart =>
        refine ⟨0, by omega, rfl, ⟨?_⟩, ⟨HB1.out.alloc HB1.out.size _⟩, ⟨?_⟩, ⟨heap_alloc_new wd _⟩, ⟨HN1.out, fun h => Nat.lt_irrefl _ (own_lt HO1.out _ h.symm)⟩⟩
        · exact HO1.out.alloc _
        · exact blk_of_below ((Below.refl _ _).alloc (Nat.le_refl _) _) HS.out
      case round =>
        obtain ⟨i, hi, rfl, HO, HB, HS2, HR2, HN⟩ := hrel
        have HZ := Aside0.mk HB.out.size
        have hi' : i = 0 ∨ i = 1 ∨ i = 2 ∨ i = 3 := by omega
        rcases hi' with rfl | rfl | rfl | rfl
        · have hcl : wr.cell? ⟨wd.heap.size, 0, none⟩ = some (.int .u8 114) := (cell_of_row wr wd.heap.size 0 _ 5 (3, 4) HR2.out).trans rfl
          by_cases hbt : clsS a1 1 / 4 % 2 = 0
          · have hb1 : (Go.bits .and .i64 (clsS a1 1 / 4) 1 == 0) = true := by rw [B.and_1]; exact beq_iff_eq.2 hbt
            have HE := Aside0.mk (show sg (clsS a1 1) 0 = 45 from by unfold sg; simp [hbt])
            clear hbt
            go_wp2_with (at_builtin; refine print_append_num (w0 := w) w.heap.size rfl (.tmp 43) (.tmp 45) 65 5 .u8 1 rfl Try.underlying65 info_u8 (by decide) u5 (midL a0 a1 1 0) 45 rfl rfl ?aO ?aB ?aS ?aL ?_; (case aO => exact HO.out); (case aB => exact HB.out); (case aS => exact HZ.out); (case aL => simp [midL, preL]); intro v1 w1 ho hb hg hat; have HO3 := Aside0.mk ho; have HB3 := Aside0.mk hb; have HG3 := Aside0.mk hg; have HA3 := Aside0.mk hat; clear ho hb hg hat)
            go_roundw
            case rel => exact ⟨1, by omega, rfl, ⟨by have h := HO3.out; rw [← HE.out] at h; exact h⟩, HB3, ⟨grown_blk HG3.out HS2.out HN.out.1⟩, ⟨grown_blk HG3.out HR2.out HN.out.2⟩, ⟨HN.out.next (blk_lt' HS2.out) (blk_lt' HR2.out) HA3.out⟩⟩
            case measure => simp [intOf]
          · have hb1 : (Go.bits .and .i64 (clsS a1 1 / 4) 1 == 0) = false := by rw [B.and_1]; exact beq_eq_false_iff_ne.2 hbt
            have HE := Aside0.mk (show sg (clsS a1 1) 0 = 114 from by unfold sg; simp [hbt])
            clear hbt
            go_wp2_with (at_builtin; refine print_append_num (w0 := w) w.heap.size rfl (.tmp 43) (.tmp 45) 65 5 .u8 1 rfl Try.underlying65 info_u8 (by decide) u5 (midL a0 a1 1 0) 114 rfl rfl ?aO ?aB ?aS ?aL ?_; (case aO => exact HO.out); (case aB => exact HB.out); (case aS => exact HZ.out); (case aL => simp [midL, preL]); intro v1 w1 ho hb hg hat; have HO3 := Aside0.mk ho; have HB3 := Aside0.mk hb; have HG3 := Aside0.mk hg; have HA3 := Aside0.mk hat; clear ho hb hg hat)
            go_roundw
            case rel => exact ⟨1, by omega, rfl, ⟨by have h := HO3.out; rw [← HE.out] at h; exact h⟩, HB3, ⟨grown_blk HG3.out HS2.out HN.out.1⟩, ⟨grown_blk HG3.out HR2.out HN.out.2⟩, ⟨HN.out.next (blk_lt' HS2.out) (blk_lt' HR2.out) HA3.out⟩⟩
            case measure => simp [intOf]
        · have hcl : wr.cell? ⟨wd.heap.size, 1, none⟩ = some (.int .u8 119) := (cell_of_row wr wd.heap.size 1 _ 5 (3, 4) HR2.out).trans rfl
          by_cases hbt : clsS a1 1 / 2 % 2 = 0
          · have hb1 : (Go.bits .and .i64 (clsS a1 1 / 2) 1 == 0) = true := by rw [B.and_1]; exact beq_iff_eq.2 hbt
            have HE := Aside0.mk (show sg (clsS a1 1) 1 = 45 from by unfold sg; simp [hbt])
            clear hbt
            go_wp2_with (at_builtin; refine print_append_num (w0 := w) w.heap.size rfl (.tmp 43) (.tmp 45) 65 5 .u8 1 rfl Try.underlying65 info_u8 (by decide) u5 (midL a0 a1 1 1) 45 rfl rfl ?aO ?aB ?aS ?aL ?_; (case aO => exact HO.out); (case aB => exact HB.out); (case aS => exact HZ.out); (case aL => simp [midL, preL]); intro v1 w1 ho hb hg hat; have HO3 := Aside0.mk ho; have HB3 := Aside0.mk hb; have HG3 := Aside0.mk hg; have HA3 := Aside0.mk hat; clear ho hb hg hat)
            go_roundw
            case rel => exact ⟨2, by omega, rfl, ⟨by have h := HO3.out; rw [← HE.out] at h; exact h⟩, HB3, ⟨grown_blk HG3.out HS2.out HN.out.1⟩, ⟨grown_blk HG3.out HR2.out HN.out.2⟩, ⟨HN.out.next (blk_lt' HS2.out) (blk_lt' HR2.out) HA3.out⟩⟩
            case measure => simp [intOf]
          · have hb1 : (Go.bits .and .i64 (clsS a1 1 / 2) 1 == 0) = false := by rw [B.and_1]; exact beq_eq_false_iff_ne.2 hbt
            have HE := Aside0.mk (show sg (clsS a1 1) 1 = 119 from by unfold sg; simp [hbt])
            clear hbt
            go_wp2_with (at_builtin; refine print_append_num (w0 := w) w.heap.size rfl (.tmp 43) (.tmp 45) 65 5 .u8 1 rfl Try.underlying65 info_u8 (by decide) u5 (midL a0 a1 1 1) 119 rfl rfl ?aO ?aB ?aS ?aL ?_; (case aO => exact HO.out); (case aB => exact HB.out); (case aS => exact HZ.out); (case aL => simp [midL, preL]); intro v1 w1 ho hb hg hat; have HO3 := Aside0.mk ho; have HB3 := Aside0.mk hb; have HG3 := Aside0.mk hg; have HA3 := Aside0.mk hat; clear ho hb hg hat)
            go_roundw
            case rel => exact ⟨2, by omega, rfl, ⟨by have h := HO3.out; rw [← HE.out] at h; exact h⟩, HB3, ⟨grown_blk HG3.out HS2.out HN.out.1⟩, ⟨grown_blk HG3.out HR2.out HN.out.2⟩, ⟨HN.out.next (blk_lt' HS2.out) (blk_lt' HR2.out) HA3.out⟩⟩
            case measure => simp [intOf]
        · have hcl : wr.cell? ⟨wd.heap.size, 2, none⟩ = some (.int .u8 120) := (cell_of_row wr wd.heap.size 2 _ 5 (3, 4) HR2.out).trans rfl
          by_cases hbt : clsS a1 1 % 2 = 0
          · have hb1 : (Go.bits .and .i64 (clsS a1 1) 1 == 0) = true := by rw [B.and_1]; exact beq_iff_eq.2 hbt
            have HE := Aside0.mk (show sg (clsS a1 1) 2 = 45 from by unfold sg; simp [hbt])
            clear hbt
            go_wp2_with (at_builtin; refine print_append_num (w0 := w) w.heap.size rfl (.tmp 43) (.tmp 45) 65 5 .u8 1 rfl Try.underlying65 info_u8 (by decide) u5 (midL a0 a1 1 2) 45 rfl rfl ?aO ?aB ?aS ?aL ?_; (case aO => exact HO.out); (case aB => exact HB.out); (case aS => exact HZ.out); (case aL => simp [midL, preL]); intro v1 w1 ho hb hg hat; have HO3 := Aside0.mk ho; have HB3 := Aside0.mk hb; have HG3 := Aside0.mk hg; have HA3 := Aside0.mk hat; clear ho hb hg hat)
            go_roundw
            case rel => exact ⟨3, by omega, rfl, ⟨by have h := HO3.out; rw [← HE.out] at h; exact h⟩, HB3, ⟨grown_blk HG3.out HS2.out HN.out.1⟩, ⟨grown_blk HG3.out HR2.out HN.out.2⟩, ⟨HN.out.next (blk_lt' HS2.out) (blk_lt' HR2.out) HA3.out⟩⟩
            case measure => simp [intOf]
          · have hb1 : (Go.bits .and .i64 (clsS a1 1) 1 == 0) = false := by rw [B.and_1]; exact beq_eq_false_iff_ne.2 hbt
            have HE := Aside0.mk (show sg (clsS a1 1) 2 = 120 from by unfold sg; simp [hbt])
            clear hbt
            go_wp2_with (at_builtin; refine print_append_num (w0 := w) w.heap.size rfl (.tmp 43) (.tmp 45) 65 5 .u8 1 rfl Try.underlying65 info_u8 (by decide) u5 (midL a0 a1 1 2) 120 rfl rfl ?aO ?aB ?aS ?aL ?_; (case aO => exact HO.out); (case aB => exact HB.out); (case aS => exact HZ.out); (case aL => simp [midL, preL]); intro v1 w1 ho hb hg hat; have HO3 := Aside0.mk ho; have HB3 := Aside0.mk hb; have HG3 := Aside0.mk hg; have HA3 := Aside0.mk hat; clear ho hb hg hat)
            go_roundw
            case rel => exact ⟨3, by omega, rfl, ⟨by have h := HO3.out; rw [← HE.out] at h; exact h⟩, HB3, ⟨grown_blk HG3.out HS2.out HN.out.1⟩, ⟨grown_blk HG3.out HR2.out HN.out.2⟩, ⟨HN.out.next (blk_lt' HS2.out) (blk_lt' HR2.out) HA3.out⟩⟩
            case measure => simp [intOf]
        · have hc0 : wr.cell? ⟨sb, 0, none⟩ = some (.int .i64 1024) := (blk_cell HS2.out 0).trans rfl
          have hc1 : wr.cell? ⟨sb, 1, none⟩ = some (.int .u8 115) := (blk_cell HS2.out 1).trans rfl
          by_cases hm : a1 / 1024 % 2 = 0
          · have hb1 : (Go.bits .and .i64 a1 1024 != 0) = false := by rw [and_1024, hm]; rfl
            have HE := Aside0.mk (show midL a0 a1 1 3 = preL a0 a1 2 from by simp [midL, preL, lastS, hm])
            clear hm
            go_wp2
            go_roundw
            case rel => exact ⟨2, by omega, rfl, ⟨by have h := HO.out; rw [HE.out] at h; exact h⟩, HB⟩
            case measure => simp [intOf]
          · have hb1 : (Go.bits .and .i64 a1 1024 != 0) = true := by rw [and_1024, show a1 / 1024 % 2 = 1 by omega]; rfl
            by_cases hx : clsS a1 1 % 2 = 0
            · have hb2 : (Go.bits .and .i64 (clsS a1 1) 1 == 0) = true := by rw [B.and_1]; exact beq_iff_eq.2 hx
              have HE := Aside0.mk (show (midL a0 a1 1 3).set 6 83 = preL a0 a1 2 from by simp [midL, preL, lastS, hm, hx])
              clear hm hx
              obtain ⟨g, cap, rfl, hcell, hfrz, HST⟩ := own_last HO.out (by simp [midL, preL]) 6 83 (by simp [midL, preL])
              rw [show (midL a0 a1 1 3).length = 7 from rfl]
              go_wp2
              go_roundw
              case rel => exact ⟨2, by omega, rfl, ⟨by have h := HST.out; rw [HE.out] at h; exact h⟩, ⟨HB.out.setCell (p := ⟨g, 6, none⟩) (own_base HO.out g rfl) _⟩⟩
              case measure => simp [intOf]
            · have hb2 : (Go.bits .and .i64 (clsS a1 1) 1 == 0) = false := by rw [B.and_1]; exact beq_eq_false_iff_ne.2 hx
              have HE := Aside0.mk (show (midL a0 a1 1 3).set 6 115 = preL a0 a1 2 from by simp [midL, preL, lastS, hm, hx])
              clear hm hx
              obtain ⟨g, cap, rfl, hcell, hfrz, HST⟩ := own_last HO.out (by simp [midL, preL]) 6 115 (by simp [midL, preL])
              rw [show (midL a0 a1 1 3).length = 7 from rfl]
              go_wp2
              go_roundw
              case rel => exact ⟨2, by omega, rfl, ⟨by have h := HST.out; rw [HE.out] at h; exact h⟩, ⟨HB.out.setCell (p := ⟨g, 6, none⟩) (own_base HO.out g rfl) _⟩⟩
              case measure => simp [intOf]
    · have hix : ∀ w, (Instr.index 68 (.agg #[.int .i64 2048, .int .u8 115, .int .i64 1024, .int .u8 115, .int .i64 512, .int .u8 116]) (.int .i64 2)).run Try.prog w = .ok (.agg #[.int .i64 512, .int .u8 116]) w := fun _ => by kernel_rfl
      go_wp2_with fail
      refine (modes_Class.calls a1 2 (clsS a1 2) _ rfl).mono ?_
      rintro e w1 ⟨rfl, ⟨nd, rfl⟩⟩
      clear hix
      have HS := Aside0.mk (show ((wr.alloc (.cells #[.int .i64 512, .int .u8 116] 67)).drewN nd).heap[wr.heap.size]? = some (.cells #[.int .i64 512, .int .u8 116] 67 (0, 0)) from heap_alloc_new wr _)
      have HO1 := Aside0.mk (show ((wr.alloc (.cells #[.int .i64 512, .int .u8 116] 67)).drewN nd).ownsRow w.heap.size 5 1 u5 (preL a0 a1 2).length (nums .u8 (preL a0 a1 2)) from HO.out.alloc _)
      have HB1 := Aside0.mk (show Below w.heap.size w ((wr.alloc (.cells #[.int .i64 512, .int .u8 116] 67)).drewN nd) from pw_below_drewN (HB.out.alloc HB.out.size _) _)
      have HN1 := Aside0.mk (show some wr.heap.size ≠ u5.ownBlock from fun h => Nat.lt_irrefl _ (own_lt HO.out _ h.symm))
      have HZ1 := Aside0.mk (show wr.heap.size < ((wr.alloc (.cells #[.int .i64 512, .int .u8 116] 67)).drewN nd).heap.size from blk_lt' HS.out)
      clear HO HB
      generalize (wr.alloc (.cells #[.int .i64 512, .int .u8 116] 67)).drewN nd = wd at HS HO1 HB1 HZ1 ⊢
      generalize hsb : wr.heap.size = sb at HS HN1 HZ1 ⊢
      clear hsb
      have kc := fun (w : World) (C : Array Value) (n c : Nat) => Lib.run_convert_bytes_const (P := Try.prog) w 65 5 C n c Try.underlying65 Try.underlying5
      go_wp2
      clear kc
      go_loopw [5, 32] (fun v5 v32 ws => ∃ i : Nat, i ≤ 3 ∧ v32 = .int .i64 i ∧ Aside0 (ws.ownsRow w.heap.size 5 1 v5 (midL a0 a1 2 i).length (nums .u8 (midL a0 a1 2 i))) ∧ Aside0 (Below w.heap.size w ws) ∧ Aside0 (ws.heap[sb]? = some (.cells #[.int .i64 512, .int .u8 116] 67 (0, 0))) ∧ Aside0 (ws.heap[wd.heap.size]? = some (.cells #[.int .u8 114, .int .u8 119, .int .u8 120] 5 (3, 4))) ∧ Aside0 (NotAt v5 sb wd.heap.size)) (fun _ v32 _ => 3 - (intOf v32).toNat)
      case atStart =>
        refine ⟨0, by omega, rfl, ⟨?_⟩, ⟨HB1.out.alloc HB1.out.size _⟩, ⟨?_⟩, ⟨heap_alloc_new wd _⟩, ⟨HN1.out, fun h => Nat.lt_irrefl _ (own_lt HO1.out _ h.symm)⟩⟩
        · exact HO1.out.alloc _
        · exact blk_of_below ((Below.refl _ _).alloc (Nat.le_refl _) _) HS.out
      case round =>
        obtain ⟨i, hi, rfl, HO, HB, HS2, HR2, HN⟩ := hrel
        have HZ := Aside0.mk HB.out.size
        have hi' : i = 0 ∨ i = 1 ∨ i = 2 ∨ i = 3 := by omega
        rcases hi' with rfl | rfl | rfl | rfl
        · have hcl : wr.cell? ⟨wd.heap.size, 0, none⟩ = some (.int .u8 114) := (cell_of_row wr wd.heap.size 0 _ 5 (3, 4) HR2.out).trans rfl
          by_cases hbt : clsS a1 2 / 4 % 2 = 0
          · have hb1 : (Go.bits .and .i64 (clsS a1 2 / 4) 1 == 0) = true := by rw [B.and_1]; exact beq_iff_eq.2 hbt
            have HE := Aside0.mk (show sg (clsS a1 2) 0 = 45 from by unfold sg; simp [hbt])
            clear hbt
            go_wp2_with (at_builtin; refine print_append_num (w0 := w) w.heap.size rfl (.tmp 43) (.tmp 45) 65 5 .u8 1 rfl Try.underlying65 info_u8 (by decide) u5 (midL a0 a1 2 0) 45 rfl rfl ?aO ?aB ?aS ?aL ?_; (case aO => exact HO.out); (case aB => exact HB.out); (case aS => exact HZ.out); (case aL => simp [midL, preL]); intro v1 w1 ho hb hg hat; have HO3 := Aside0.mk ho; have HB3 := Aside0.mk hb; have HG3 := Aside0.mk hg; have HA3 := Aside0.mk hat; clear ho hb hg hat)
            go_roundw
            case rel => exact ⟨1, by omega, rfl, ⟨by have h := HO3.out; rw [← HE.out] at h; exact h⟩, HB3, ⟨grown_blk HG3.out HS2.out HN.out.1⟩, ⟨grown_blk HG3.out HR2.out HN.out.2⟩, ⟨HN.out.next (blk_lt' HS2.out) (blk_lt' HR2.out) HA3.out⟩⟩
            case measure => simp [intOf]
          · have hb1 : (Go.bits .and .i64 (clsS a1 2 / 4) 1 == 0) = false := by rw [B.and_1]; exact beq_eq_false_iff_ne.2 hbt
            have HE := Aside0.mk (show sg (clsS a1 2) 0 = 114 from by unfold sg; simp [hbt])
            clear hbt
            go_wp2_with (at_builtin; refine print_append_num (w0 := w) w.heap.size rfl (.tmp 43) (.tmp 45) 65 5 .u8 1 rfl Try.underlying65 info_u8 (by decide) u5 (midL a0 a1 2 0) 114 rfl rfl ?aO ?aB ?aS ?aL ?_; (case aO => exact HO.out); (case aB => exact HB.out); (case aS => exact HZ.out); (case aL => simp [midL, preL]); intro v1 w1 ho hb hg hat; have HO3 := Aside0.mk ho; have HB3 := Aside0.mk hb; have HG3 := Aside0.mk hg; have HA3 := Aside0.mk hat; clear ho hb hg hat)
            go_roundw
            case rel => exact ⟨1, by omega, rfl, ⟨by have h := HO3.out; rw [← HE.out] at h; exact h⟩, HB3, ⟨grown_blk HG3.out HS2.out HN.out.1⟩, ⟨grown_blk HG3.out HR2.out HN.out.2⟩, ⟨HN.out.next (blk_lt' HS2.out) (blk_lt' HR2.out) HA3.out⟩⟩
            case measure => simp [intOf]
        · have hcl : wr.cell? ⟨wd.heap.size, 1, none⟩ = some (.int .u8 119) := (cell_of_row wr wd.heap.size 1 _ 5 (3, 4) HR2.out).trans rfl
          by_cases hbt : clsS a1 2 / 2 % 2 = 0
          · have hb1 : (Go.bits .and .i64 (clsS a1 2 / 2) 1 == 0) = true := by rw [B.and_1]; exact beq_iff_eq.2 hbt
            have HE := Aside0.mk (show sg (clsS a1 2) 1 = 45 from by unfold sg; simp [hbt])
            clear hbt
            go_wp2_with (at_builtin; refine print_append_num (w0 := w) w.heap.size rfl (.tmp 43) (.tmp 45) 65 5 .u8 1 rfl Try.underlying65 info_u8 (by decide) u5 (midL a0 a1 2 1) 45 rfl rfl ?aO ?aB ?aS ?aL ?_; (case aO => exact HO.out); (case aB => exact HB.out); (case aS => exact HZ.out); (case aL => simp [midL, preL]); intro v1 w1 ho hb hg hat; have HO3 := Aside0.mk ho; have HB3 := Aside0.mk hb; have HG3 := Aside0.mk hg; have HA3 := Aside0.mk hat; clear ho hb hg hat)
            go_roundw
            case rel => exact ⟨2, by omega, rfl, ⟨by have h := HO3.out; rw [← HE.out] at h; exact h⟩, HB3, ⟨grown_blk HG3.out HS2.out HN.out.1⟩, ⟨grown_blk HG3.out HR2.out HN.out.2⟩, ⟨HN.out.next (blk_lt' HS2.out) (blk_lt' HR2.out) HA3.out⟩⟩
            case measure => simp [intOf]
          · have hb1 : (Go.bits .and .i64 (clsS a1 2 / 2) 1 == 0) = false := by rw [B.and_1]; exact beq_eq_false_iff_ne.2 hbt
            have HE := Aside0.mk (show sg (clsS a1 2) 1 = 119 from by unfold sg; simp [hbt])
            clear hbt
            go_wp2_with (at_builtin; refine print_append_num (w0 := w) w.heap.size rfl (.tmp 43) (.tmp 45) 65 5 .u8 1 rfl Try.underlying65 info_u8 (by decide) u5 (midL a0 a1 2 1) 119 rfl rfl ?aO ?aB ?aS ?aL ?_; (case aO => exact HO.out); (case aB => exact HB.out); (case aS => exact HZ.out); (case aL => simp [midL, preL]); intro v1 w1 ho hb hg hat; have HO3 := Aside0.mk ho; have HB3 := Aside0.mk hb; have HG3 := Aside0.mk hg; have HA3 := Aside0.mk hat; clear ho hb hg hat)
            go_roundw
            case rel => exact ⟨2, by omega, rfl, ⟨by have h := HO3.out; rw [← HE.out] at h; exact h⟩, HB3, ⟨grown_blk HG3.out HS2.out HN.out.1⟩, ⟨grown_blk HG3.out HR2.out HN.out.2⟩, ⟨HN.out.next (blk_lt' HS2.out) (blk_lt' HR2.out) HA3.out⟩⟩
            case measure => simp [intOf]
        · have hcl : wr.cell? ⟨wd.heap.size, 2, none⟩ = some (.int .u8 120) := (cell_of_row wr wd.heap.size 2 _ 5 (3, 4) HR2.out).trans rfl
          by_cases hbt : clsS a1 2 % 2 = 0
          · have hb1 : (Go.bits .and .i64 (clsS a1 2) 1 == 0) = true := by rw [B.and_1]; exact beq_iff_eq.2 hbt
            have HE := Aside0.mk (show sg (clsS a1 2) 2 = 45 from by unfold sg; simp [hbt])
            clear hbt
            go_wp2_with (at_builtin; refine print_append_num (w0 := w) w.heap.size rfl (.tmp 43) (.tmp 45) 65 5 .u8 1 rfl Try.underlying65 info_u8 (by decide) u5 (midL a0 a1 2 2) 45 rfl rfl ?aO ?aB ?aS ?aL ?_; (case aO => exact HO.out); (case aB => exact HB.out); (case aS => exact HZ.out); (case aL => simp [midL, preL]); intro v1 w1 ho hb hg hat; have HO3 := Aside0.mk ho; have HB3 := Aside0.mk hb; have HG3 := Aside0.mk hg; have HA3 := Aside0.mk hat; clear ho hb hg hat)
            go_roundw
            case rel => exact ⟨3, by omega, rfl, ⟨by have h := HO3.out; rw [← HE.out] at h; exact h⟩, HB3, ⟨grown_blk HG3.out HS2.out HN.out.1⟩, ⟨grown_blk HG3.out HR2.out HN.out.2⟩, ⟨HN.out.next (blk_lt' HS2.out) (blk_lt' HR2.out) HA3.out⟩⟩
            case measure => simp [intOf]
          · have hb1 : (Go.bits .and .i64 (clsS a1 2) 1 == 0) = false := by rw [B.and_1]; exact beq_eq_false_iff_ne.2 hbt
            have HE := Aside0.mk (show sg (clsS a1 2) 2 = 120 from by unfold sg; simp [hbt])
            clear hbt
            go_wp2_with (at_builtin; refine print_append_num (w0 := w) w.heap.size rfl (.tmp 43) (.tmp 45) 65 5 .u8 1 rfl Try.underlying65 info_u8 (by decide) u5 (midL a0 a1 2 2) 120 rfl rfl ?aO ?aB ?aS ?aL ?_; (case aO => exact HO.out); (case aB => exact HB.out); (case aS => exact HZ.out); (case aL => simp [midL, preL]); intro v1 w1 ho hb hg hat; have HO3 := Aside0.mk ho; have HB3 := Aside0.mk hb; have HG3 := Aside0.mk hg; have HA3 := Aside0.mk hat; clear ho hb hg hat)
            go_roundw
            case rel => exact ⟨3, by omega, rfl, ⟨by have h := HO3.out; rw [← HE.out] at h; exact h⟩, HB3, ⟨grown_blk HG3.out HS2.out HN.out.1⟩, ⟨grown_blk HG3.out HR2.out HN.out.2⟩, ⟨HN.out.next (blk_lt' HS2.out) (blk_lt' HR2.out) HA3.out⟩⟩
            case measure => simp [intOf]
        · have hc0 : wr.cell? ⟨sb, 0, none⟩ = some (.int .i64 512) := (blk_cell HS2.out 0).trans rfl
          have hc1 : wr.cell? ⟨sb, 1, none⟩ = some (.int .u8 116) := (blk_cell HS2.out 1).trans rfl
          by_cases hm : a1 / 512 % 2 = 0
          · have hb1 : (Go.bits .and .i64 a1 512 != 0) = false := by rw [and_512, hm]; rfl
            have HE := Aside0.mk (show midL a0 a1 2 3 = preL a0 a1 3 from by simp [midL, preL, lastS, hm])
            clear hm
            go_wp2
            go_roundw
            case rel => exact ⟨3, by omega, rfl, ⟨by have h := HO.out; rw [HE.out] at h; exact h⟩, HB⟩
            case measure => simp [intOf]
          · have hb1 : (Go.bits .and .i64 a1 512 != 0) = true := by rw [and_512, show a1 / 512 % 2 = 1 by omega]; rfl
            by_cases hx : clsS a1 2 % 2 = 0
            · have hb2 : (Go.bits .and .i64 (clsS a1 2) 1 == 0) = true := by rw [B.and_1]; exact beq_iff_eq.2 hx
              have HE := Aside0.mk (show (midL a0 a1 2 3).set 9 84 = preL a0 a1 3 from by simp [midL, preL, lastS, hm, hx])
              clear hm hx
              obtain ⟨g, cap, rfl, hcell, hfrz, HST⟩ := own_last HO.out (by simp [midL, preL]) 9 84 (by simp [midL, preL])
              rw [show (midL a0 a1 2 3).length = 10 from rfl]
              go_wp2
              go_roundw
              case rel => exact ⟨3, by omega, rfl, ⟨by have h := HST.out; rw [HE.out] at h; exact h⟩, ⟨HB.out.setCell (p := ⟨g, 9, none⟩) (own_base HO.out g rfl) _⟩⟩
              case measure => simp [intOf]
            · have hb2 : (Go.bits .and .i64 (clsS a1 2) 1 == 0) = false := by rw [B.and_1]; exact beq_eq_false_iff_ne.2 hx
              have HE := Aside0.mk (show (midL a0 a1 2 3).set 9 116 = preL a0 a1 3 from by simp [midL, preL, lastS, hm, hx])
              clear hm hx
              obtain ⟨g, cap, rfl, hcell, hfrz, HST⟩ := own_last HO.out (by simp [midL, preL]) 9 116 (by simp [midL, preL])
              rw [show (midL a0 a1 2 3).length = 10 from rfl]
              go_wp2
              go_roundw
              case rel => exact ⟨3, by omega, rfl, ⟨by have h := HST.out; rw [HE.out] at h; exact h⟩, ⟨HB.out.setCell (p := ⟨g, 9, none⟩) (own_base HO.out g rfl) _⟩⟩
              case measure => simp [intOf]
    · have hcv := fun (ww : Unit) => own_string (P := Try.prog) Try.underlying65 Try.underlying5 Try.underlying9 HO.out
      have hcv := hcv ()
      go_wp2
      go_ret
      exact ⟨rfl, HB.out⟩
theorem modes_Show.calls (a0 : Int) (a1 : Int) (r : ByteArray) (w : World) (h : modes_Show.f a0 a1 = some r) :
    Calls Try.prog 35 #[.int .i64 a0, .int .i64 a1] w fun e w' => e = .returned (.string r) ∧ Below w.heap.size w w' := by
  obtain rfl := Option.some.inj h
  by_cases h1 : a0 < 0
  · exact modes_Show.low a0 a1 w h1
  · by_cases h2 : 4 ≤ a0
    · exact modes_Show.high a0 a1 w h2
    · exact modes_Show.mid a0 a1 w (by omega) (by omega)

end Go.Proofs.Ytbbobjchokffbaa.S
