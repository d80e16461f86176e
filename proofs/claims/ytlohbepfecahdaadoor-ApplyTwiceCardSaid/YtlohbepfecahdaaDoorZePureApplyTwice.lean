/- ApplyTwice: a change that copies nothing, without X, made twice is the change made once; plus and then minus of the same leaves none of it. The walk, joined with the plain law. -/
import Derived.Test.YtlohbepfecahdaaDoorZeLw
import Derived.Test.YtlohbepfecahdaaDoorZeU
namespace Go.Proofs.YtlohbepfecahdaaDoor.Pure
open Go.RowKit Go.Proofs.YtlohbepfecahdaaDoor.S Go.Proofs.YtlohbepfecahdaaDoor.L Go.Proofs.YtlohbepfecahdaaDoorW.PrintWords Go.Proofs.YtlohbepfecahdaaDoorW.PrintLast
set_option linter.unusedVariables false
theorem t_u8r {x : Int} (h : (Lit.int .u8 x).wf = true) : 0 ≤ x ∧ x ≤ 255 := by simpa [Lit.wf, IntKind.min, IntKind.max, IntKind.signed, IntKind.bits] using h
theorem t_u16r {x : Int} (h : (Lit.int .u16 x).wf = true) : 0 ≤ x ∧ x ≤ 65535 := by simpa [Lit.wf, IntKind.min, IntKind.max, IntKind.signed, IntKind.bits] using h
theorem t_opAt (x : Int) (h0 : 0 ≤ x) : bt (⟨#[43, 45, 61]⟩ : ByteArray) (Int.tmod x 3) = (if x % 3 = 0 then 43 else if x % 3 = 1 then 45 else 61) := by
  rw [Int.tmod_eq_emod_of_nonneg h0]
  rcases (show x % 3 = 0 ∨ x % 3 = 1 ∨ x % 3 = 2 by omega) with h | h | h <;> rw [h] <;> decide +kernel
theorem t_perm : ∀ q : Fin 64, 0 ≤ Go.bits .andNot .i64 (q.val : Int) 8 ∧ Go.bits .andNot .i64 (q.val : Int) 8 ≤ 63 ∧ tb (Go.bits .andNot .i64 (q.val : Int) 8) 3 = false := by decide +kernel
theorem t_one (w o p m : Int) (d : Bool) (u : Int) (k : Nat) (hk : 1100000 < k) (ho : signI o = true) (w0 : 0 ≤ w) (w7 : w ≤ 7) (p0 : 0 ≤ p) (p1 : p ≤ 63) (hm : small m) :
    apply_Apply.f k [⟨w, [⟨o, p, 0⟩]⟩] m d u = some (A w p d u o m) := by
  have ho2 : 0 ≤ o ∧ o ≤ 255 := by rcases signs o ho with rfl | rfl | rfl <;> decide
  have hr : rightC ⟨w, [⟨o, p, 0⟩]⟩ = true := by simp [rightC, rightA, ho, w0, w7, p0, p1]
  rw [apply_eq _ (one_sized w o p 0 ho2.1 ho2.2) m d u k hk, one_act w o p 0 m d u hr hm]; rfl
theorem ApplyTwice (a0 a1 a2 a3 : Int) (a4 : Bool) (a5 : Int) (w0 : (Lit.int .u8 a0).wf = true) (w1 : (Lit.int .u8 a1).wf = true) (w2 : (Lit.int .u8 a2).wf = true) (w3 : (Lit.int .u16 a3).wf = true) (W : World) :
    Calls Tryd.prog 11 #[.int .u8 a0, .int .u8 a1, .int .u8 a2, .int .u16 a3, .bool a4, .int .u16 a5] W fun e w' => e = .returned (.bool true) ∧ Below W.heap.size W w' := by
  have h0 := t_u8r w0
  have h1 := t_u8r w1
  have h2 := t_u8r w2
  have h3 := t_u16r w3
  obtain ⟨k, hk⟩ : ∃ k, k = 2000000 := ⟨_, rfl⟩
  have e0 : wrap64 (Int.tmod a0 8) = a0 % 8 := by rw [Int.tmod_eq_emod_of_nonneg h0.1, w64 _ (by omega) (by omega)]
  have e2 : wrap64 (Int.tmod a2 64) = a2 % 64 := by rw [Int.tmod_eq_emod_of_nonneg h2.1, w64 _ (by omega) (by omega)]
  have e3 : wrap64 (Int.tmod a3 4096) = a3 % 4096 := by rw [Int.tmod_eq_emod_of_nonneg h3.1, w64 _ (by omega) (by omega)]
  have e1 : Int.tmod a1 3 = a1 % 3 := Int.tmod_eq_emod_of_nonneg h1.1
  have eo := t_opAt a1 h1.1
  have ho : signI (if a1 % 3 = 0 then 43 else if a1 % 3 = 1 then 45 else 61) = true := by split <;> (try split) <;> decide
  generalize (if a1 % 3 = 0 then (43 : Int) else if a1 % 3 = 1 then 45 else 61) = o at ho eo
  obtain ⟨q, hq⟩ := Int.eq_ofNat_of_zero_le (show 0 ≤ a2 % 64 by omega)
  have hp3 := t_perm ⟨q, by omega⟩
  obtain ⟨p, hp⟩ : ∃ p, Go.bits .andNot .i64 (q : Int) 8 = p := ⟨_, rfl⟩
  simp only [hp] at hp3
  obtain ⟨p0, p1, pb⟩ := hp3
  have hm : small (a3 % 4096) := ⟨by omega, by omega⟩
  have x0 : 0 ≤ a0 % 8 := by omega
  have x7 : a0 % 8 ≤ 7 := by omega
  have tw := twice (a0 % 8) p a4 (wrap64 a5) o (a3 % 4096) ho x0 x7 p0 p1 pb hm
  have hb := fun o' ho' => (A_bit (a0 % 8) p a4 (wrap64 a5) o' (a3 % 4096) ho' x0 x7 p0 p1 pb hm).1
  have f := fun o' m' ho' hm' => t_one (a0 % 8) o' p m' a4 (wrap64 a5) k (by omega) ho' x0 x7 p0 p1 hm'
  have h43 : signI 43 = true := by decide
  have h45 : signI 45 = true := by decide
  have h61 : signI 61 = true := by decide
  refine gaolerlaw03_ApplyTwice.calls k a0 a1 a2 a3 a5 p (a3 % 4096) o (A (a0 % 8) p a4 (wrap64 a5) o (a3 % 4096)) (A (a0 % 8) p a4 (wrap64 a5) 43 (a3 % 4096)) (A (a0 % 8) p a4 (wrap64 a5) 45 (a3 % 4096)) (A (a0 % 8) p a4 (wrap64 a5) 61 (a3 % 4096)) a4 W
    (awake3 k (by omega)) (by rw [e2, hq]; exact hp) e3 (by omega) (by omega) eo ?_ ?_ ?_ ?_ ?_ ?_ ?_ ?_ <;> unfold oneL <;> rw [e0]
  · exact f o _ ho hm
  · rw [f o _ ho (hb o ho), tw.1]
  · exact f 43 _ h43 hm
  · rw [f 45 _ h45 (hb 43 h43), tw.2.1]
  · exact f 45 _ h45 hm
  · rw [f 43 _ h43 (hb 45 h45), tw.2.2.1]
  · rw [f 61 _ h61 (hb 43 h43), tw.2.2.2]
  · exact f 61 _ h61 hm
end Go.Proofs.YtlohbepfecahdaaDoor.Pure
