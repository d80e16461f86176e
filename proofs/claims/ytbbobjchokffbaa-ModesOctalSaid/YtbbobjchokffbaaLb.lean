/- Plain facts on what the document's answers (the references of modes and cred) are. No machine in sight. -/
import Derived.Test.YtbbobjchokffbaaLa
import Derived.Test.YtbbobjchokffbaaS2
namespace Go.Proofs.Ytbbobjchokffbaa.L
open Go.RowKit Go.Proofs.Ytbbobjchokffbaa.S Go.Proofs.YtbbobjchokffbaaW.PrintWords Go.Proofs.YtbbobjchokffbaaW.PrintLast

theorem tmod_nn (a b : Int) (h : 0 ≤ a) : Int.tmod a b = a % b := Int.tmod_eq_emod_of_nonneg h
theorem tdiv_nn (a b : Int) (h : 0 ≤ a) : Int.tdiv a b = a / b := Int.tdiv_eq_ediv_of_nonneg h
theorem tmod_neg (a b : Int) (h : a < 0) : Int.tmod a b = -((-a) % b) := by
  have := Int.neg_tmod (-a) b
  rw [Int.neg_neg, tmod_nn (-a) b (by omega)] at this
  exact this
theorem rest_4096 (a : Int) : gaolerref01_rest.f a 4096 = some (a % 4096) := by
  unfold gaolerref01_rest.f
  rw [if_neg (by decide)]
  by_cases h : 0 ≤ a
  · rw [tmod_nn a _ h, if_neg (by omega)]
  · rw [tmod_neg a _ (by omega)]
    by_cases h2 : -((-a) % 4096) < 0
    · rw [if_pos h2, w64 _ (by omega) (by omega)]; congr 1; omega
    · rw [if_neg h2]; congr 1; omega
theorem rest_8 (a : Int) : gaolerref01_rest.f a 8 = some (a % 8) := by
  unfold gaolerref01_rest.f
  rw [if_neg (by decide)]
  by_cases h : 0 ≤ a
  · rw [tmod_nn a _ h, if_neg (by omega)]
  · rw [tmod_neg a _ (by omega)]
    by_cases h2 : -((-a) % 8) < 0
    · rw [if_pos h2, w64 _ (by omega) (by omega)]; congr 1; omega
    · rw [if_neg h2]; congr 1; omega
theorem low_eq (a : Int) : gaolerref01_Low.f a = some (a % 4096) := by unfold gaolerref01_Low.f; rw [rest_4096]; rfl
theorem rclass_eq (m k : Int) : gaolerref01_Class.f m k = some (clsS m k) := by
  unfold gaolerref01_Class.f clsS
  rw [low_eq]; simp only [Option.bind_some]
  have h0 : 0 ≤ m % 4096 := by omega
  rw [tdiv_nn _ 64 h0, tdiv_nn _ 8 h0, w64 _ (by omega) (by omega), w64 _ (by omega) (by omega), tmod_nn _ _ (by omega), tmod_nn _ _ (by omega), tmod_nn _ _ h0]
  split
  · congr 1; omega
  · split
    · congr 1; omega
    · split
      · congr 1; omega
      · rfl

theorem refMem (u g : Int) (l : List Int) (a : Int) (hl : l.length ≤ 20) (d : Nat) : ∀ (k i : Nat) (is : Bool), i ≤ l.length → l.length - i = d → d < k →
    gaolerref04_Member.l0 k a is (i : Int) u g l = some (is || (l.drop i).contains a) := by
  induction d with
  | zero =>
    intro k i is h1 hd hk
    obtain ⟨k, rfl⟩ : ∃ m, k = m + 1 := ⟨k - 1, by omega⟩
    simp only [gaolerref04_Member.l0]
    rw [if_neg (by omega), List.drop_eq_nil_of_le (by omega)]
    cases is <;> rfl
  | succ d ih =>
    intro k i is h1 hd hk
    obtain ⟨k, rfl⟩ : ∃ m, k = m + 1 := ⟨k - 1, by omega⟩
    have hlt : i < l.length := by omega
    have hdrop : l.drop i = l[i] :: l.drop (i + 1) := (List.getElem_cons_drop hlt).symm
    have hrd : rd l (i : Int) = l[i] := by simp [rd, hlt]
    have hw : wrap64 ((i : Int) + 1) = ((i + 1 : Nat) : Int) := by rw [w64 _ (by omega) (by omega)]; rfl
    simp only [gaolerref04_Member.l0]
    rw [if_pos (by omega)]
    cases is with
    | true =>
      rw [if_pos rfl]
      simp only [hw]
      rw [ih k (i + 1) true (by omega) (by omega) (by omega)]; simp
    | false =>
      first | rw [if_neg (by decide), if_pos (by omega), if_pos (by omega), hrd] | (simp only [Bool.false_eq_true, if_false]; rw [if_pos (by omega), if_pos (by omega), hrd]) | rw [if_neg (by decide), hrd]
      simp only [hw]
      rw [ih k (i + 1) _ (by omega) (by omega) (by omega), hdrop, List.contains_cons, Bool.false_or]
      try rw [if_pos (show (0 : Int) ≤ (i : Int) by omega)]
      congr 1
      rw [show (l[i] == a) = (a == l[i]) from by rw [Bool.eq_iff_iff]; simp; exact ⟨fun h => h.symm, fun h => h.symm⟩]
section
variable (k : Nat) (u g : Int) (l : List Int) (hl : l.length ≤ 20) (hk : 100 ≤ k)
include hl hk
theorem rmember_eq (a : Int) : gaolerref04_Member.f k u g l a = some (mem g l a) := by
  unfold gaolerref04_Member.f
  have := refMem u g l a hl l.length k 0 (g == a) (by omega) (by omega) (by omega)
  rw [show ((0 : Nat) : Int) = 0 from rfl] at this
  rw [this, List.drop_zero, show (g == a) = (a == g) from by rw [Bool.eq_iff_iff]; simp; exact ⟨fun h => h.symm, fun h => h.symm⟩]; rfl
theorem rcls_eq (uid gid : Int) : gaolerref04_Class.f k u g l uid gid = some (cl u g l uid gid) := by
  unfold gaolerref04_Class.f cl
  by_cases h : u = uid
  · rw [if_pos h, if_pos h.symm]
  · rw [if_neg h, if_neg (fun e => h e.symm), rmember_eq k u g l hl hk]; simp only [Option.bind_some]; split <;> rfl
end
/-- Whether b has w's bits, both from 0 to 7: as the document asks it. -/
def has3 (b w : Int) : Option Bool := if w < 4 then (if w / 2 % 2 = 0 then (if w % 2 = 0 then some true else some (b % 2 == 1)) else (if b / 2 % 2 = 1 then (if w % 2 = 0 then some true else some (b % 2 == 1)) else some false)) else (if b ≥ 4 then (if w / 2 % 2 = 0 then (if w % 2 = 0 then some true else some (b % 2 == 1)) else (if b / 2 % 2 = 1 then (if w % 2 = 0 then some true else some (b % 2 == 1)) else some false)) else some false)
theorem has3_nat : ∀ b : Fin 8, ∀ w : Fin 8, has3 ((b.val : Nat) : Int) ((w.val : Nat) : Int) = some ((((b.val &&& w.val : Nat) : Int)) == ((w.val : Nat) : Int)) := by decide +kernel
theorem has3_eq (b w : Int) (h0 : 0 ≤ b) (h1 : b ≤ 7) (h2 : 0 ≤ w) (h3 : w ≤ 7) : has3 b w = some (Go.bits .and .i64 b w == w) := by
  have := has3_nat ⟨b.toNat, by omega⟩ ⟨w.toNat, by omega⟩
  simp only [Int.toNat_of_nonneg h0, Int.toNat_of_nonneg h2] at this
  rw [this, B.and_int b w h0 (by omega) h2 (by omega)]
section
variable (k : Nat) (u g : Int) (l : List Int) (hl : l.length ≤ 20) (hk : 100 ≤ k)
include hl hk
theorem rcan_eq (uid gid mode want : Int) : gaolerref04_Can.f k u g l uid gid mode want =
    some (u == 0 || (Go.bits .and .i64 (clsS mode (cl u g l uid gid)) (want % 8) == want % 8)) := by
  unfold gaolerref04_Can.f
  by_cases h : u = 0
  · rw [if_pos h, h]; rfl
  · rw [if_neg h, beq_eq_false_iff_ne.2 h, Bool.false_or, rcls_eq k u g l hl hk]
    simp only [Option.bind_some]
    rw [rclass_eq, rclass_eq]
    simp only [Option.bind_some]
    obtain ⟨b0, b1⟩ := clsS_range' mode (cl u g l uid gid)
    have hw : clsS want 2 = want % 8 := rfl
    rw [hw]
    rw [← has3_eq _ _ b0 b1 (by omega) (by omega)]
    rw [tdiv_nn (want % 8) 2 (by omega), tdiv_nn _ 2 b0, w64 _ (by omega) (by omega), w64 _ (by omega) (by omega), tmod_nn (want % 8) _ (by omega), tmod_nn (want % 8 / 2) _ (by omega), tmod_nn (clsS mode (cl u g l uid gid) / 2) _ (by omega), tmod_nn (clsS mode (cl u g l uid gid)) _ b0]
    rfl
omit hl in
theorem maymode_eq (uid : Int) : cred_MayMode.f k u g l uid = some (u == 0 || uid == u) := by
  unfold cred_MayMode.f cred_root.f; simp only [Option.bind_some]; rw [one2 k _ _ (by omega)]; rfl
end
theorem awake4 (k : Nat) (hk : 100 ≤ k) : gaolerlaw04_awake.f k = some true := by
  have h : gaolerlaw04_awake.f 100 = some true := by decide +kernel
  exact at_rounds (fun k => gaolerlaw04_awake.mono k) hk h
end Go.Proofs.Ytbbobjchokffbaa.L
