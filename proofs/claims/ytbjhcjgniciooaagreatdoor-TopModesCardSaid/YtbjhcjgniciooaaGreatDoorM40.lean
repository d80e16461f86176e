/- TopModes: a part of the proof, merged. -/
import Derived.Test.YtbjhcjgniciooaaGreatDoorM34
import Derived.Test.YtbjhcjgniciooaaGreatDoorM35
import Derived.Test.YtbjhcjgniciooaaGreatDoorM36
import Derived.Test.YtbjhcjgniciooaaGreatDoorM37
import Derived.Test.YtbjhcjgniciooaaGreatDoorM38
import Derived.Test.YtbjhcjgniciooaaGreatDoorM39
namespace Go.Proofs.YtbjhcjgniciooaaGreatDoor.E
set_option linter.unusedVariables false
theorem memo0_ok : CallOk cx0 FT0 (memoH []) := memo_ok (fun m hm => absurd hm List.not_mem_nil)
theorem memos_ok : CallOk cx0 FT0 (memoH [memo0, memo1, memo2, memo3]) := memo_ok fun m hm => by
 refine ⟨_, runX_ok memo0_ok 40, ?_⟩
 simp only [List.mem_cons, List.not_mem_nil, or_false] at hm
 rcases hm with rfl | rfl | rfl | rfl
 ·exact outsE_ok run0
 ·exact outsE_ok run1
 ·exact outsE_ok run2
 ·exact outsE_ok run3
/-- All outcomes are true. -/
def goodOut (p : AV × St) : Bool := match p.1 with | .bool b => b | _ => false
def goodOuts : Outs → Bool
 | some l => l.all goodOut
 | none => false
theorem run_awake : goodOuts (runX (memoH [memo0, memo1, memo2, memo3]) 40 4 (initSt kAw) []) = true := by decide +kernel
/-! ### awake's contract -/
def env0 : Env := { n := 0, ρ := fun _ => 0, ν := fun _ => undef, β := fun _ => 0, κ := fun _ => 0, S := fun _ => none, A := fun _ => False, N := fun _ => False, B := fun _ => False, A0 := fun _ => False, g := 0, h := 0, U := fun _ => False, T0 := none }
theorem awake_ok (w : World) : Calls Tryz.prog 4 #[] w fun e w' => e = .returned (.bool true) ∧ w'.os = w.os ∧ w'.tape = w.tape ∧ w'.output = w.output ∧ w.heap.size ≤ w'.heap.size ∧ ∀ k, k < w.heap.size → w'.heap[k]? = w.heap[k]? := by
 have hr := run_awake
 cases ho : runX (memoH [memo0, memo1, memo2, memo3]) 40 4 (initSt kAw) [] with
 | none => rw [ho] at hr; cases hr
 | some outs =>
  rw [ho] at hr
  obtain ⟨_, hc⟩ := runX_ok memos_ok 40 4 (initSt kAw) [] outs ho
  have m0 : M cx0.HT (env0.start w) (initSt kAw) w := start_M (K := kAw) ⟨fun k τ n hk _ => (by cases hk), fun k t hk => (by cases hk), fun k hk => hk.elim⟩ (Nat.zero_le _) (Nat.zero_le _)
  refine (hc (env0.start w) w w #[] m0 (Ref.start _ _ _) rfl).mono fun e w' h => ?_
  cases e with
  | panicked => exact h.elim
  | outgrown => exact h.elim
  | returned v =>
   obtain ⟨o, h1, E', h2, h3, h4, h5⟩ := h
   have hg := List.all_eq_true.1 hr o h1
   unfold goodOut at hg
   refine ⟨?_, h4.os, h4.tape, h4.output, h4.size, fun k hk => h4.frn k hk (.inl (by rw [h2.N]; exact ⟨hk, rfl, fun h => h⟩))⟩
   split at hg
   ·rename_i b hb
    rw [hb] at h5
    rw [show v = .bool b from h5, hg]
   ·cases hg
end Go.Proofs.YtbjhcjgniciooaaGreatDoor.E
namespace Go.Proofs.YtbjhcjgniciooaaGreatDoor.E.Kt
open Go.RowKit
theorem TopModes.calls (text : ByteArray) (hbig : text.size ≤ 9223372036854775807) (w : World) : Calls Tryz.prog 3 #[.string text] w fun e w' => e = .returned (.bool true) ∧ Below w.heap.size w w' := top_ok awake_ok h_k7 h_k8 text hbig w
end Go.Proofs.YtbjhcjgniciooaaGreatDoor.E.Kt
#print axioms Go.Proofs.YtbjhcjgniciooaaGreatDoor.E.Kt.TopModes.calls
