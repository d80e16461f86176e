/- Plain facts: Show tells the texts of clauses; the document's examples hold. No machine in sight. -/
import Derived.Test.YtlohbepfecahdaaDoorZbLd
import Derived.KernelRfl
namespace Go.Proofs.YtlohbepfecahdaaDoor.L
open Go.RowKit Go.Proofs.YtlohbepfecahdaaDoor.S Go.Proofs.YtlohbepfecahdaaDoorW.PrintWords Go.Proofs.YtlohbepfecahdaaDoorW.PrintLast
set_option linter.unusedVariables false
set_option linter.unusedSimpArgs false
theorem rightA_ok (a : S60) (h : rightA a = true) : okA a = true := by
  simp [rightA, signI] at h
  simp [okA]
  omega
theorem rightC_ok (c : S34) (h : rightC c = true) (hl : c.f1.length ≤ 1000) : okC c = true := by
  simp [rightC] at h
  unfold okC
  rw [Bool.and_eq_true, decide_eq_true_eq, List.all_eq_true]
  exact ⟨⟨⟨h.1, h.2.1⟩, by omega⟩, fun a ha => rightA_ok a (h.2.2.2 a ha)⟩
theorem rightS_ok (l : List S34) (hs : sized l) (h : rightS l = true) : okL l = true := by
  unfold rightS at h
  rw [Bool.and_eq_true, List.all_eq_true] at h
  have := hs.1
  unfold okL
  rw [Bool.and_eq_true, decide_eq_true_eq, List.all_eq_true]
  exact ⟨by omega, fun c hc => rightC_ok c (h.1 c hc) (hs.2 c hc).1⟩
theorem show_eq (l : List S34) (hs : sized l) (k : Nat) (hk : 1020000 < k) : clause_Show.f k l = some (T (if rightS l = true then showS l else [])) := by
  unfold clause_Show.f
  rw [right_eq l hs k hk, Option.bind_some]
  by_cases h : rightS l = true
  · rw [if_pos h, if_pos h, if_pos (rightS_ok l hs h)]; rfl
  · rw [if_neg h, if_neg h]; rfl
def big : Nat := 50000000
theorem big_eq : big = 50000000 := rfl
theorem ex1 : parseS [117, 103, 43, 114, 88, 44, 111, 61] = ([⟨3, [⟨43, 12, 0⟩]⟩, ⟨4, [⟨61, 0, 0⟩]⟩], 0) := by kernel_rfl
theorem ex2 : parseS [117, 61, 103, 45, 120] = ([⟨1, [⟨61, 0, 2⟩, ⟨45, 1, 0⟩]⟩], 0) := by kernel_rfl
theorem ex3 : parseS [43, 114, 103] = ([], 22) := by kernel_rfl
theorem awake2 (k : Nat) (hk : 1020000 < k) : gaolerlaw02_awake.f k = some true := by
  unfold gaolerlaw02_awake.f
  have e1 := parse_eq [117, 103, 43, 114, 88, 44, 111, 61] (by decide) k (by omega)
  have e2 := parse_eq [117, 61, 103, 45, 120] (by decide) k (by omega)
  have e3 := parse_eq [43, 114, 103] (by decide) k (by omega)
  rw [ex1] at e1
  rw [ex2] at e2
  rw [ex3] at e3
  have hs : sized ([⟨3, [⟨43, 12, 0⟩]⟩, ⟨4, [⟨61, 0, 0⟩]⟩] : List S34) := by
    refine ⟨by decide, fun c hc => ?_⟩
    simp at hc
    rcases hc with rfl | rfl
    · exact ⟨by decide, fun a ha => by simp at ha; subst ha; exact ⟨by decide, by decide⟩⟩
    · exact ⟨by decide, fun a ha => by simp at ha; subst ha; exact ⟨by decide, by decide⟩⟩
  have e4 := show_eq _ hs k hk
  rw [show (⟨#[117, 103, 43, 114, 88, 44, 111, 61]⟩ : ByteArray) = T [117, 103, 43, 114, 88, 44, 111, 61] from rfl, e1, Option.bind_some, show (⟨#[117, 61, 103, 45, 120]⟩ : ByteArray) = T [117, 61, 103, 45, 120] from rfl, e2, Option.bind_some,
    show (⟨#[43, 114, 103]⟩ : ByteArray) = T [43, 114, 103] from rfl, e3, Option.bind_some]
  dsimp only
  rw [e4, Option.bind_some, T_list]
  decide +kernel
theorem actS_op (l : List UInt8) : (actS l).1.1 = 0 ∨ ∃ c : UInt8, (actS l).1.1 = (c.toNat : Int) := by
  cases l with
  | nil => exact .inl rfl
  | cons c l =>
    cases hs : signK c with
    | false => exact .inl (by simp [actS, hs])
    | true =>
      refine .inr ⟨c, ?_⟩
      cases l with
      | nil => simp [actS, hs]
      | cons d m =>
        by_cases hk : 0 ≤ classK d
        · simp [actS, hs, hk]
        · simp [actS, hs, hk]
/-- What is parsed is not large. -/
theorem actsN_byte : ∀ (n : Nat) (l : List UInt8), bytesA (actsN n l).1
  | 0, l => by simp [actsN, bytesA]
  | n + 1, l => by
    have ih := actsN_byte n (actS l).2
    unfold actsN
    split
    · simp [bytesA]
    · intro a ha
      rcases List.mem_cons.1 ha with rfl | ha
      · show 0 ≤ (actS l).1.1 ∧ (actS l).1.1 ≤ 255
        rcases actS_op l with h | ⟨c, h⟩
        · rw [h]; decide
        · have hc := c.toNat_lt
          rw [h]; omega
      · exact ih a ha
theorem parseL_mem : ∀ (ps : List (List UInt8)) (r : List S34), parseL ps = some r → ∀ c ∈ r, ∃ p ∈ ps, c = ⟨(oneS p).1, (oneS p).2.1⟩ ∧ (oneS p).2.2 = true
  | [], r, h, c, hc => by have := Option.some.inj h; subst this; simp at hc
  | p :: ps, r, h, c, hc => by
    unfold parseL at h
    split at h
    · rename_i ho
      obtain ⟨r', h1, rfl⟩ := Option.map_eq_some_iff.1 h
      rcases List.mem_cons.1 hc with rfl | hc
      · exact ⟨p, by simp, rfl, ho⟩
      · obtain ⟨q, hq, e⟩ := parseL_mem ps r' h1 c hc
        exact ⟨q, by simp [hq], e⟩
    · exact absurd h (by simp)
theorem parse_sized (l : List UInt8) (hl : l.length ≤ 900) (r : List S34) (h : parseL (pcs [] l) = some r) : sized r := by
  have h1 := parseL_len _ _ h
  have h2 := pcs_len l []
  refine ⟨by omega, fun c hc => ?_⟩
  obtain ⟨p, hp, rfl, _⟩ := parseL_mem _ _ h c hc
  have h3 := pcs_sub l [] p hp
  have h4 := actsN_len p.length (whoS 0 p).2
  exact ⟨by show (actsN p.length (whoS 0 p).2).1.length ≤ 1000; simp at h3; omega, actsN_byte _ _⟩
end Go.Proofs.YtlohbepfecahdaaDoor.L
