/- ModesBack in numbers: what is shown is read as it was, and so are digits; noughts ahead of them play no part. -/
import Derived.Test.YtbbobjchokffbaaLs
import Derived.Test.YtbbobjchokffbaaS13
import Derived.OpenShut
namespace Go.Proofs.Ytbbobjchokffbaa.Pure
set_option linter.unusedSimpArgs false
set_option linter.unusedVariables false
open Go.RowKit Go.Proofs.Ytbbobjchokffbaa.S Go.Proofs.Ytbbobjchokffbaa.L Go.Proofs.YtbbobjchokffbaaW.PrintWords Go.Proofs.YtbbobjchokffbaaW.PrintLast
theorem dg_oct (x : Int) : isOct (dg x) = true ∧ ((dg x).toNat : Int) - 48 = x % 8 := by
  unfold dg isOct
  rw [UInt8.toNat_ofNat']
  have : (48 + (x % 8).toNat) % 2 ^ 8 = 48 + (x % 8).toNat := by omega
  rw [this]
  exact ⟨by simp; omega, by omega⟩
theorem oct_val (m : Int) (h0 : 0 ≤ m) (h1 : m < 4096) : octV [dg (m / 512), dg (m / 64), dg (m / 8), dg m] 0 = m := by
  simp only [octV, (dg_oct _).2]; omega
theorem oct_back (m : Int) (h0 : 0 ≤ m) (h1 : m < 4096) : roS (octS m) = (m, 0) := by
  have hl : (octS m).data.toList = [dg (m / 512), dg (m / 64), dg (m / 8), dg m] := rfl
  have hs : (octS m).size = 4 := rfl
  unfold roS
  rw [hl, hs, if_neg (by decide), if_pos (by simp [(dg_oct _).1]), oct_val m h0 h1, if_neg (by omega)]
theorem oct_back2 (m : Int) (h0 : 0 ≤ m) (h1 : m < 4096) : roS ((⟨#[48, 48]⟩ : ByteArray) ++ octS m) = (m, 0) := by
  have hl : ((⟨#[48, 48]⟩ : ByteArray) ++ octS m).data.toList = [48, 48, dg (m / 512), dg (m / 64), dg (m / 8), dg m] := by
    simp [octS]
  have hs : ((⟨#[48, 48]⟩ : ByteArray) ++ octS m).size = 6 := by rw [ByteArray.size_append]; rfl
  have hv : octV [48, 48, dg (m / 512), dg (m / 64), dg (m / 8), dg m] 0 = m := by
    have : octV [48, 48, dg (m / 512), dg (m / 64), dg (m / 8), dg m] 0 = octV [dg (m / 512), dg (m / 64), dg (m / 8), dg m] 0 := by
      show octV _ (( (0 : Int) * 8 + (((48 : UInt8).toNat : Int) - 48)) * 8 + (((48 : UInt8).toNat : Int) - 48)) = _
      rfl
    rw [this, oct_val m h0 h1]
  unfold roS
  rw [hl, hs, if_neg (by decide), if_pos (by simp only [List.all_cons, List.all_nil, (dg_oct _).1]; decide), hv, if_neg (by omega)]
theorem ModesBack : gaolerlaw01_ModesBack.Pure := by
  intro a0 a1 w0 w1
  have b0 := bounds_u8 w0
  have b1 := bounds_u16 w1
  unfold gaolerlaw01_ModesBack.f modes_Show.f modes_Read.f modes_Octal.f modes_ReadOctal.f
  rw [awake1, tmod_nn a0 _ b0.1, tmod_nn a1 _ b1.1, w64 (a0 % 4) (by omega) (by omega), w64 (a1 % 4096) (by omega) (by omega)]
  simp only [Option.bind_some, if_true]
  have hm0 : 0 ≤ a1 % 4096 := by omega
  have hm1 : a1 % 4096 < 4096 := by omega
  obtain ⟨k, hk⟩ := Int.eq_ofNat_of_zero_le (show 0 ≤ a0 % 4 by omega)
  have hk4 : k < 4 := by omega
  rw [hk]
  generalize a1 % 4096 = m at hm0 hm1
  have hsz : (octS m).size = 4 := rfl
  rw [read_show k hk4 m hm0 hm1, oct_back m hm0 hm1, oct_back2 m hm0 hm1, show_size, hsz]
  simp
end Go.Proofs.Ytbbobjchokffbaa.Pure
