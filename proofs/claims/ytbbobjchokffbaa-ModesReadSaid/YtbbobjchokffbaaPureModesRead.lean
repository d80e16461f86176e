/- ModesRead in numbers and lists: the kind and the mode of any text are those of which it is what is shown, or there are none. -/
import Derived.Test.YtbbobjchokffbaaLs
namespace Go.Proofs.Ytbbobjchokffbaa.Pure
set_option linter.unusedSimpArgs false
set_option linter.unusedVariables false
open Go.RowKit Go.Proofs.Ytbbobjchokffbaa.S Go.Proofs.Ytbbobjchokffbaa.L Go.Proofs.YtbbobjchokffbaaW.PrintWords Go.Proofs.YtbbobjchokffbaaW.PrintLast
theorem str_ne {a b : ByteArray} (h : a ≠ b) : ¬ a.toList = b.toList := by
  intro e; rw [ByteArray.toList_eq, ByteArray.toList_eq] at e
  exact h (ByteArray.ext (Array.toList_inj.1 e))
theorem modes_none (s : ByteArray) (kd : Nat) (hn : ∀ m : Int, 0 ≤ m → m < 4096 → showS kd m ≠ s) (d : Nat) : ∀ k : Nat, d ≤ 4096 →
    gaolerlaw01_ModesRead.l1 (k + d + 6) s (kd : Int) ((4096 - d : Nat) : Int) = gaolerlaw01_ModesRead.l0 (k + 5) s (wrap64 ((kd : Int) + 1)) := by
  induction d with
  | zero =>
    intro k hd
    rw [show k + 0 + 6 = (k + 5) + 1 from rfl, gaolerlaw01_ModesRead.l1]
    rw [if_neg (by decide)]
  | succ d ih =>
    intro k hd
    rw [show k + (d + 1) + 6 = (k + d + 6) + 1 from by omega, gaolerlaw01_ModesRead.l1]
    rw [if_pos (by omega), rshow_eq _ (by omega)]
    simp only [Option.bind_some]
    rw [if_neg (str_ne (hn _ (by omega) (by omega))), show wrap64 (((4096 - (d + 1) : Nat) : Int) + 1) = ((4096 - d : Nat) : Int) from by rw [w64 _ (by omega) (by omega)]; omega]
    exact ih k (by omega)
theorem kinds_none (s : ByteArray) (hs : s.size = 10) (hn : ∀ kd : Nat, kd < 4 → ∀ m : Int, 0 ≤ m → m < 4096 → showS kd m ≠ s) (d : Nat) : ∀ k : Nat, d ≤ 4 →
    gaolerlaw01_ModesRead.l0 (k + d * 5000 + 5) s ((4 - d : Nat) : Int) = some true := by
  induction d with
  | zero =>
    intro k hd
    rw [show k + 0 * 5000 + 5 = (k + 4) + 1 from by omega, gaolerlaw01_ModesRead.l0, if_neg (by decide), show k + 4 = (k + 3) + 1 from rfl, gaolerlaw01_ModesRead.j2, if_neg (by decide)]
  | succ d ih =>
    intro k hd
    rw [show k + (d + 1) * 5000 + 5 = (k + d * 5000 + 5004) + 1 from by omega, gaolerlaw01_ModesRead.l0, if_pos (by omega), show k + d * 5000 + 5004 = (k + d * 5000 + 5003) + 1 from by omega, gaolerlaw01_ModesRead.j2, if_pos (by rw [hs]; decide)]
    have h := modes_none s (4 - (d + 1)) (hn (4 - (d + 1)) (by omega)) 4096 (k + d * 5000 + 901) (by omega)
    rw [show k + d * 5000 + 901 + 4096 + 6 = k + d * 5000 + 5003 from by omega, show ((4096 - 4096 : Nat) : Int) = 0 from rfl] at h
    rw [h, show wrap64 (((4 - (d + 1) : Nat) : Int) + 1) = ((4 - d : Nat) : Int) from by rw [w64 _ (by omega) (by omega)]; omega]
    have := ih (k + 901) (by omega)
    rwa [show k + 901 + d * 5000 + 5 = k + d * 5000 + 901 + 5 from by omega] at this
theorem with_range (m k b : Int) : 0 ≤ withS m k b ∧ withS m k b < 4096 := by unfold withS; split <;> (try split) <;> (try split) <;> omega
theorem ModesRead : gaolerlaw01_ModesRead.Pure := by
  intro s _
  refine ⟨30000, ?_⟩
  unfold gaolerlaw01_ModesRead.f modes_Read.f
  rw [awake1]
  simp only [Option.bind_some, if_true]
  by_cases hl : (s.size : Int) > 30
  · rw [if_pos hl]
  · rw [if_neg hl]
    have hm : 0 ≤ mS s 3 ∧ mS s 3 < 4096 := with_range _ _ _
    by_cases hy : ∃ k : Nat, k < 4 ∧ s.size = 10 ∧ readS s = ((k : Int), mS s 3, true) ∧ showS k (mS s 3) = s
    · obtain ⟨k, hk, hs, hr, he⟩ := hy
      rw [hr, rshow_eq 30000 (by decide), he]
      simp only [Option.bind_some, if_true]
      rw [if_pos (by omega), if_pos (by omega), if_pos hm.1, if_pos (by omega)]
      simp
    · have hr : readS s = (0, 0, false) := by
        by_cases hs : s.size = 10
        · refine readS_no s hs fun q hq he => ?_
          have hex : ∃ k : Nat, k < 4 ∧ showS k (mS s 3) = s ∧ ∀ q : Nat, q < k → showS q (mS s 3) ≠ s := by
            by_cases g0 : showS ((0 : Nat) : Int) (mS s 3) = s
            · exact ⟨0, by decide, g0, fun q hq => absurd hq (by omega)⟩
            · by_cases g1 : showS ((1 : Nat) : Int) (mS s 3) = s
              · exact ⟨1, by decide, g1, fun q hq => by obtain rfl : q = 0 := by omega
                                                        exact g0⟩
              · by_cases g2 : showS ((2 : Nat) : Int) (mS s 3) = s
                · exact ⟨2, by decide, g2, fun q hq => by rcases (show q = 0 ∨ q = 1 by omega) with rfl | rfl
                                                          · exact g0
                                                          · exact g1⟩
                · by_cases g3 : showS ((3 : Nat) : Int) (mS s 3) = s
                  · exact ⟨3, by decide, g3, fun q hq => by rcases (show q = 0 ∨ q = 1 ∨ q = 2 by omega) with rfl | rfl | rfl
                                                            · exact g0
                                                            · exact g1
                                                            · exact g2⟩
                  · exfalso
                    rcases (show q = 0 ∨ q = 1 ∨ q = 2 ∨ q = 3 by omega) with rfl | rfl | rfl | rfl
                    · exact g0 he
                    · exact g1 he
                    · exact g2 he
                    · exact g3 he
          obtain ⟨k, hk, hy2, hn2⟩ := hex
          exact hy ⟨k, hk, hs, readS_yes s hs k hk hn2 hy2, hy2⟩
        · unfold readS; rw [if_neg hs]
      rw [hr]
      simp only [Bool.false_eq_true, if_false, if_true]
      rw [show (30000 : Nat) = 29999 + 1 from rfl, show ((0 : Int) != 0) = false from rfl, gaolerlaw01_ModesRead.j0]
      simp only [Bool.false_eq_true, if_false]
      by_cases hs : s.size = 10
      · have := kinds_none s hs (fun kd hkd m h0 h1 he => by
          have h2 := read_show kd hkd m h0 h1
          rw [he, hr] at h2
          have h3 : false = true := congrArg (fun t => t.2.2) h2
          exact Bool.noConfusion h3) 4 9994 (by decide)
        exact this
      · rw [show (29999 : Nat) = 29998 + 1 from rfl, gaolerlaw01_ModesRead.l0, if_pos (by decide), show (29998 : Nat) = 29997 + 1 from rfl, gaolerlaw01_ModesRead.j2, if_neg]
        rw [beq_iff_eq]; omega
end Go.Proofs.Ytbbobjchokffbaa.Pure
