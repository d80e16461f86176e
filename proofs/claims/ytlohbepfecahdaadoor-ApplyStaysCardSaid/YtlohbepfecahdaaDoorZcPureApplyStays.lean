/- ApplyStays: bits of classes that a clause doesn't name stay, unless it names none; what is set by plus loses nothing, by minus wins nothing. Pure part: numbers and lists alone. -/
import Derived.Test.YtlohbepfecahdaaDoorZcLu
import Derived.Test.YtlohbepfecahdaaDoorZcS22
namespace Go.Proofs.YtlohbepfecahdaaDoor.Pure
open Go.RowKit Go.Proofs.YtlohbepfecahdaaDoor.S Go.Proofs.YtlohbepfecahdaaDoor.L Go.Proofs.YtlohbepfecahdaaDoorW.PrintWords Go.Proofs.YtlohbepfecahdaaDoorW.PrintLast
set_option linter.unusedVariables false
theorem u8r {x : Int} (h : (Lit.int .u8 x).wf = true) : 0 ≤ x ∧ x ≤ 255 := by simpa [Lit.wf, IntKind.min, IntKind.max, IntKind.signed, IntKind.bits] using h
theorem u16r {x : Int} (h : (Lit.int .u16 x).wf = true) : 0 ≤ x ∧ x ≤ 65535 := by simpa [Lit.wf, IntKind.min, IntKind.max, IntKind.signed, IntKind.bits] using h
theorem opAt (x : Int) (h0 : 0 ≤ x) : bt (⟨#[43, 45, 61]⟩ : ByteArray) (Int.tmod x 3) = (if x % 3 = 0 then 43 else if x % 3 = 1 then 45 else 61) := by
  rw [Int.tmod_eq_emod_of_nonneg h0]
  rcases (show x % 3 = 0 ∨ x % 3 = 1 ∨ x % 3 = 2 by omega) with h | h | h <;> rw [h] <;> decide +kernel
theorem name_fin : ∀ w : Fin 8, ∀ k : Fin 3, (Go.bits .and .i64 (shr .i64 (w.val : Int) (k.val : Int)) 1 == 1) = tb (w.val : Int) k.val := by decide +kernel
theorem stays_loop (w o p m : Int) (d : Bool) (u : Int) (w0 : 0 ≤ w) (w7 : w ≤ 7) (p0 : 0 ≤ p) (p1 : p ≤ 63) (hm : small m) (ho : signI o = true) (n : Nat) : ∀ (k i : Nat), i + n = 3 → n * 2 + 5 < k →
    gaolerlaw03_ApplyStays.l0 k w o m (actV o w p 0 m d u) (i : Int) = some true := by
  obtain ⟨xr, xb⟩ := actV_bit o w p 0 m d u ho w0 w7 p0 p1 (by decide) (by decide) hm.1 hm.2
  induction n with
  | zero =>
    intro k i hi hk
    obtain ⟨k, rfl⟩ : ∃ q, k = q + 1 := ⟨k - 1, by omega⟩
    simp only [gaolerlaw03_ApplyStays.l0]
    rw [if_neg (by omega)]
    generalize hx : actV o w p 0 m d u = x at xr xb ⊢
    have or_r := (r12 x m xr ⟨hm.1, hm.2⟩).2.1
    have or_b := tb_or x m xr ⟨hm.1, hm.2⟩
    by_cases o1 : o = 43
    · rw [if_pos o1]
      have : Go.bits .or .i64 x m = x := eq_bits _ _ or_r xr fun i hi => by
        rw [or_b, xb i hi]
        unfold actB
        rw [if_pos o1]
        cases tb m i <;> simp
      rw [this]; simp
    · rw [if_neg o1]
      by_cases o2 : o = 45
      · rw [if_pos o2]
        have : Go.bits .or .i64 x m = m := eq_bits _ _ or_r ⟨hm.1, hm.2⟩ fun i hi => by
          rw [or_b, xb i hi]
          unfold actB
          rw [if_neg o1, if_pos o2]
          cases tb m i <;> simp
        rw [this]; simp
      · rw [if_neg o2, if_pos xr.1, decide_eq_true (by have := xr.2; omega)]
  | succ n ih =>
    intro k i hi hk
    obtain ⟨k, rfl⟩ : ∃ q, k = q + 1 := ⟨k - 1, by omega⟩
    obtain ⟨k, rfl⟩ : ∃ q, k = q + 1 := ⟨k - 1, by omega⟩
    have go := ih k (i + 1) (by omega) (by omega)
    simp only [gaolerlaw03_ApplyStays.l0, gaolerlaw03_ApplyStays.j1]
    rw [if_pos (by omega), wsucc i (by omega), go]
    by_cases hw : w = 0
    · rw [if_pos hw, if_pos trivial]
    · rw [if_neg hw, if_pos (by omega)]
      obtain ⟨v, rfl⟩ := Int.eq_ofNat_of_zero_le w0
      rw [name_fin ⟨v, by omega⟩ ⟨i, by omega⟩]
      by_cases hn : tb (v : Int) i = true
      · rw [if_pos hn]
      · rw [if_neg hn]
        unfold modes_Class.f
        rw [Option.bind_some, Option.bind_some]
        have e : clsS (actV o (v : Int) p 0 m d u) (i : Int) = clsS m (i : Int) := by
          refine cls_eq _ _ xr hm i (by omega) fun j hj hc h9 => ?_
          rw [xb j hj]
          have hn' : tb (v : Int) i = false := by simpa using hn
          have hh : hasB (v : Int) u j = false := by unfold hasB; rw [if_neg hw, hc]; exact hn'
          unfold actB
          rw [hh]
          have hpos : decide ((v : Int) > 0) = true := decide_eq_true (by omega)
          rw [hpos]
          cases tb m j <;> simp
        rw [e, if_pos rfl]
theorem ApplyStays : gaolerlaw03_ApplyStays.Pure := by
  intro a0 a1 a2 a3 a4 a5 w0 w1 w2 w3 w5
  have h0 := u8r w0
  have h1 := u8r w1
  have h2 := u8r w2
  have h3 := u16r w3
  have h5 := u16r w5
  refine ⟨2000000, ?_⟩
  obtain ⟨k, hk⟩ : ∃ k, k = 2000000 := ⟨_, rfl⟩
  rw [← hk]
  unfold gaolerlaw03_ApplyStays.f
  have e0 : wrap64 (Int.tmod a0 8) = a0 % 8 := by rw [Int.tmod_eq_emod_of_nonneg h0.1, w64 _ (by omega) (by omega)]
  have e2 : wrap64 (Int.tmod a2 64) = a2 % 64 := by rw [Int.tmod_eq_emod_of_nonneg h2.1, w64 _ (by omega) (by omega)]
  have e3 : wrap64 (Int.tmod a3 4096) = a3 % 4096 := by rw [Int.tmod_eq_emod_of_nonneg h3.1, w64 _ (by omega) (by omega)]
  have e5 : wrap64 a5 = a5 := w64 _ (by omega) (by omega)
  have e1 : Int.tmod a1 3 = a1 % 3 := Int.tmod_eq_emod_of_nonneg h1.1
  have eo := opAt a1 h1.1
  rw [awake3 k (by omega), Option.bind_some, if_pos rfl, e0, e2, e3, e5, eo, e1, if_pos (by omega), if_pos (by omega)]
  have ho : signI (if a1 % 3 = 0 then 43 else if a1 % 3 = 1 then 45 else 61) = true := by split <;> (try split) <;> decide
  have hob : 0 ≤ (if a1 % 3 = 0 then (43 : Int) else if a1 % 3 = 1 then 45 else 61) ∧ (if a1 % 3 = 0 then (43 : Int) else if a1 % 3 = 1 then 45 else 61) ≤ 255 := by split <;> (try split) <;> decide
  generalize (if a1 % 3 = 0 then (43 : Int) else if a1 % 3 = 1 then 45 else 61) = o at ho hob ⊢
  have hr : rightC ⟨a0 % 8, [⟨o, a2 % 64, 0⟩]⟩ = true := by
    have q1 : 0 ≤ a0 % 8 := by omega
    have q2 : a0 % 8 ≤ 7 := by omega
    have q3 : 0 ≤ a2 % 64 := by omega
    have q4 : a2 % 64 ≤ 63 := by omega
    simp [rightC, rightA, ho, q1, q2, q3, q4]
  have hm : small (a3 % 4096) := ⟨by omega, by omega⟩
  rw [apply_eq _ (one_sized _ o _ 0 hob.1 hob.2) _ a4 a5 k (by omega), Option.bind_some, one_act _ _ _ _ _ a4 a5 hr hm]
  exact stays_loop (a0 % 8) o (a2 % 64) (a3 % 4096) a4 a5 (by omega) (by omega) (by omega) (by omega) hm ho 3 k 0 rfl (by omega)
end Go.Proofs.YtlohbepfecahdaaDoor.Pure
