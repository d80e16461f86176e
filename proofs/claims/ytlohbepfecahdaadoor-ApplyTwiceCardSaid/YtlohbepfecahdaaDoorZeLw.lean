/- Laws of Apply: an act made twice, plus after minus; clauses one behind the other. -/
import Derived.Test.YtlohbepfecahdaaDoorZeLu
namespace Go.Proofs.YtlohbepfecahdaaDoor.L
open Go.RowKit Go.Proofs.YtlohbepfecahdaaDoor.S Go.Proofs.YtlohbepfecahdaaDoorW.PrintWords Go.Proofs.YtlohbepfecahdaaDoorW.PrintLast
set_option linter.unusedVariables false
def inN (p : Int) (i : Nat) : Bool := if i = 9 then tb p 5 else if i > 9 then tb p 4 else tb p (i % 3)
theorem in0 (p m : Int) (d : Bool) (i : Nat) (hp : tb p 3 = false) : inB p 0 m d i = inN p i := by
  unfold inB inN
  rw [if_neg (by decide), hp]; simp
theorem signs (o : Int) (h : signI o = true) : o = 43 ∨ o = 45 ∨ o = 61 := by simpa [signI, or_assoc] using h
def A (w p : Int) (d : Bool) (u : Int) (o m : Int) : Int := actV o w p 0 m d u
theorem A_bit (w p : Int) (d : Bool) (u o m : Int) (ho : signI o = true) (w0 : 0 ≤ w) (w7 : w ≤ 7) (p0 : 0 ≤ p) (p1 : p ≤ 63) (hp : tb p 3 = false) (hm : small m) :
    small (A w p d u o m) ∧ ∀ i, i < 12 → tb (A w p d u o m) i = (if o = 43 then tb m i || (hasB w u i && inN p i) else if o = 45 then tb m i && !(hasB w u i && inN p i) else (hasB w u i && inN p i) || (tb m i && !hasB w u i && decide (w > 0))) := by
  obtain ⟨xr, xb⟩ := actV_bit o w p 0 m d u ho w0 w7 p0 p1 (by decide) (by decide) hm.1 hm.2
  refine ⟨xr, fun i hi => ?_⟩
  unfold A
  rw [xb i hi]
  unfold actB
  rw [in0 p m d i hp]
  rcases signs o ho with rfl | rfl | rfl
  · rw [if_pos rfl, if_pos rfl]
  · rw [if_neg (by decide), if_pos rfl, if_neg (by decide), if_pos rfl]
  · rw [if_neg (by decide), if_neg (by decide), if_pos rfl, if_neg (by decide), if_neg (by decide)]
theorem twice (w p : Int) (d : Bool) (u o m : Int) (ho : signI o = true) (w0 : 0 ≤ w) (w7 : w ≤ 7) (p0 : 0 ≤ p) (p1 : p ≤ 63) (hp : tb p 3 = false) (hm : small m) :
    A w p d u o (A w p d u o m) = A w p d u o m ∧ A w p d u 45 (A w p d u 43 m) = A w p d u 45 m ∧ A w p d u 43 (A w p d u 45 m) = A w p d u 43 m ∧ A w p d u 61 (A w p d u 43 m) = A w p d u 61 m := by
  have F := fun o m ho hm => A_bit w p d u o m ho w0 w7 p0 p1 hp hm
  have h43 : signI 43 = true := by decide
  have h45 : signI 45 = true := by decide
  have h61 : signI 61 = true := by decide
  have G : ∀ o1 o2 o3 : Int, signI o1 = true → signI o2 = true → signI o3 = true →
      (∀ (h n z b : Bool), (fun o b => (if o = (43 : Int) then b || (h && n) else if o = 45 then b && !(h && n) else (h && n) || (b && !h && z))) o2 ((fun o b => (if o = (43 : Int) then b || (h && n) else if o = 45 then b && !(h && n) else (h && n) || (b && !h && z))) o1 b) = (fun o b => (if o = (43 : Int) then b || (h && n) else if o = 45 then b && !(h && n) else (h && n) || (b && !h && z))) o3 b) →
      A w p d u o2 (A w p d u o1 m) = A w p d u o3 m := by
    intro o1 o2 o3 h1 h2 h3 hb
    obtain ⟨s1, b1⟩ := F o1 m h1 hm
    obtain ⟨s2, b2⟩ := F o2 (A w p d u o1 m) h2 s1
    obtain ⟨s3, b3⟩ := F o3 m h3 hm
    refine eq_bits _ _ s2 s3 fun i hi => ?_
    rw [b2 i hi, b1 i hi, b3 i hi]
    exact hb (hasB w u i) (inN p i) (decide (w > 0)) (tb m i)
  refine ⟨G o o o ho ho ho ?_, G 43 45 45 h43 h45 h45 ?_, G 45 43 43 h45 h43 h43 ?_, G 43 61 61 h43 h61 h61 ?_⟩
  · rcases signs o ho with rfl | rfl | rfl <;> decide
  · decide
  · decide
  · decide
end Go.Proofs.YtlohbepfecahdaaDoor.L
