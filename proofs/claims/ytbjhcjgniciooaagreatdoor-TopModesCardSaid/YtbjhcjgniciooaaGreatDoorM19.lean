/- TopModes: a part of the proof, merged. -/
import Derived.RangeFuncBox
import Derived.RangeFuncLeaves
import Derived.WalkKit
import Derived.OwnWalkIn
import Derived.TacticsInMore
import Derived.LoopNIn
import Derived.LoopIn
import Derived.Maps.AppendAt
import Derived.Test.YtbjhcjgniciooaaGreatDoorM10b
import Derived.Test.YtbjhcjgniciooaaGreatDoorM14
import Derived.Test.YtbjhcjgniciooaaGreatDoorM16
import Derived.Test.YtbjhcjgniciooaaGreatDoorM18
namespace Go.Proofs.YtbjhcjgniciooaaGreatDoor.E.Kt
open Go.Proofs.YtbjhcjgniciooaaGreatDoor.G (TabAt Tab Nd live zN rightN NdC kE ndCells okx Fr WhB WhR ctB ctE)
open Go.RowKit Go.Proofs.YtbjhcjgniciooaaGreatDoorW.PrintWords Go.Proofs.YtbjhcjgniciooaaGreatDoorW.PrintLast Go.Proofs.YtbjhcjgniciooaaGreatDoorW.PrintMore
set_option linter.unusedVariables false
set_option linter.unusedSimpArgs false
/-! ### Behind Parse: the jobs' users are who may -/
def pA : Nat → Bool := fun τ => !Nat.beq τ 90 && !Nat.beq τ 1035
def dropA (jb m : Nat) (S : Nat → Option (Nat × Nat)) (k : Nat) : Option (Nat × Nat) := if k = jb then some (2035, m) else match S k with
 | some t => if t.1 = 90 then none else some t
 | none => none
def envA (E : Env) (w : World) (jb m : Nat) : Env := { E with S := dropA jb m E.S, U := fun n => ∃ q, q < m ∧ w.cell? ⟨jb, q * 4, none⟩ = some (.int .i64 n), T0 := none }
theorem refA : (nFp.all fun τ => Nat.beq τ 0 || !k15.fp.contains τ || refH false pA (kty τ)) = true := by decide +kernel
theorem stageA {E : Env} {w : World} {jb len m : Nat} (hp : HeapOk htN E w k15.fp) (hn : ∀ k τ n, E.S k = some (τ, n) → τ ∈ k15.fp) (hs : E.S jb = some (1035, len)) (hm : m ≤ len) (hl : ∀ q A l c, q < m → w.cell? ⟨jb, q * 4 + 3, none⟩ = some (.slice A l c) → l ≤ 6) :
  HeapOk htN (envA E w jb m) w nFp ∧ Rek false pA E (envA E w jb m) ∧ (envA E w jb m).S jb = some (2035, m) ∧ ∀ k τ n, (envA E w jb m).S k = some (τ, n) → τ = 2035 ∨ (τ ∈ k15.fp ∧ τ ≠ 90) := by
 have get : ∀ k t, (envA E w jb m).S k = some t → (k = jb ∧ t = (2035, m)) ∨ (k ≠ jb ∧ E.S k = some t ∧ t.1 ≠ 90) := fun k t h => by
  have h : dropA jb m E.S k = some t := h
  unfold dropA at h
  split at h
  ·rename_i e; injection h with h; exact .inl ⟨e, h.symm⟩
  ·rename_i e
   split at h
   ·rename_i u hu
    split at h
    ·cases h
    ·rename_i h9; injection h with h; subst h; exact .inr ⟨e, hu, h9⟩
   ·cases h
 have rk : Rek false pA E (envA E w jb m) := ⟨fun k τ n hp hk => by
  simp only [pA, Bool.and_eq_true, Bool.not_eq_true'] at hp
  have hp := And.intro (Nat.ne_of_beq_eq_false hp.1) (Nat.ne_of_beq_eq_false hp.2)
  have hne : k ≠ jb := fun e => by rw [e, hs] at hk; injection hk with hk; injection hk with hk _; exact hp.2 hk.symm
  show dropA jb m E.S k = _
  unfold dropA
  rw [if_neg hne, hk]
  show (if τ = 90 then none else some (τ, n)) = _
  rw [if_neg hp.1], rfl, rfl, fun h => by cases h⟩
 refine ⟨⟨fun k τ n hk hτ => ?_, fun k t hk => ?_, fun k hk => hp.an k hk⟩, rk, by show dropA jb m E.S jb = _; unfold dropA; rw [if_pos rfl], fun k τ n hk => ?_⟩
 ·rcases get k _ hk with ⟨rfl, e⟩ | ⟨hne, hk', h9⟩
  ·injection e with e1 e2; subst e1; subst e2
   have h := hp.ok k 1035 len hs (by decide)
   unfold HOk at h ⊢
   rw [show htN 1035 = .row 35 4 (cL [cI, cI, cSl 3, cSl 65]) from rfl] at h
   rw [show htN 2035 = .row 35 4 (cL [.uid, cI, cSl 3, .sl 1065 0 ⟨0, 0, 6⟩]) from rfl]
   obtain ⟨arr, h1, h2, h3⟩ := h
   have h2 := h2.2 rfl
   refine ⟨arr, h1, ⟨by omega, fun h => by cases h⟩, fun q hq => ?_⟩
   have hv := h3 q (by omega)
   have at_ : ∀ i, i < 4 → w.cell? ⟨k, q * 4 + i, none⟩ = ((arr.toList.drop (q * 4)).take 4)[i]? := fun i hi => by
    rw [cell_of h1, List.getElem?_take_of_lt hi, List.getElem?_drop, Array.getElem?_toList]
   generalize (arr.toList.drop (q * 4)).take 4 = cs at hv at_
   obtain ⟨v0, _, rfl, ⟨n0, rfl, _, _, g1, g2⟩, v1, _, rfl, ⟨n1, rfl, k1⟩, v2, _, rfl, k2, v3, r, rfl, k3, hr⟩ := hv
   rw [show r = [] from hr] at at_ ⊢
   refine ⟨_, _, rfl, ⟨n0, rfl, ⟨q, hq, at_ 0 (by omega)⟩, g1, g2⟩, _, _, rfl, ⟨n1, rfl, k1⟩, _, _, rfl, VT.rek rfl rk _ rfl k2, _, _, rfl, ?_, rfl⟩
   have k3' := VT.rek (HT' := htN) rfl rk (cSl 65) rfl k3
   obtain ⟨A, l, c, rfl, ⟨_, _⟩, so⟩ := k3'
   exact ⟨A, l, c, rfl, ⟨Nat.zero_le _, by have := hl q A l c hq (at_ 3 (by omega)); simpa [Bd.ev] using this⟩, so⟩
  ·have hf := hn k τ n hk'
   by_cases h0 : τ = 0
   ·subst h0
    obtain ⟨T, q1, q2⟩ : tN E 0 w k := hp.ok k 0 n hk' hf
    exact (show tN (envA E w jb m) 0 w k from ⟨T, q1, q2.ext (fun i hi => hi)⟩)
   ·have hr := List.all_eq_true.1 refA τ hτ
    simp only [Bool.or_eq_true, Nat.beq_eq, Bool.not_eq_true'] at hr
    rcases hr with (hr | hr) | hr
    ·exact absurd hr h0
    ·rw [List.contains_eq_mem, decide_eq_false_iff_not] at hr; exact absurd hf hr
    ·exact HOk.rek rfl rk hr (hp.ok k τ n hk' hf)
 ·rcases get k _ hk with ⟨rfl, rfl⟩ | ⟨hne, hk', h9⟩
  ·have := hp.dom k _ hs
   exact ⟨this.1, fun h => absurd (this.2.1 h) (show ¬ (htN 1035).isOpq = true by decide), fun h => absurd h (show ¬ (htN 2035).isOpq = true by decide)⟩
  ·exact hp.dom k t hk'
 ·rcases get k _ hk with ⟨rfl, e⟩ | ⟨hne, hk', h9⟩
  ·injection e with e1 e2; exact .inl e1
  ·exact .inr ⟨hn k τ n hk', h9⟩
/-! ### Behind Begin: one world, one table -/
def pB : Nat → Bool := fun τ => !Nat.beq τ 59 && !Nat.beq τ 105 && !Nat.beq τ 0 && !Nat.beq τ 2035
def dropB (b s tb : Nat) (S : Nat → Option (Nat × Nat)) (k : Nat) : Option (Nat × Nat) := if k = b ∨ k = s ∨ k = tb then S k else match S k with
 | some t => if pB t.1 then some t else none
 | none => none
def envB (E : Env) (b s tb : Nat) (T : Tab) : Env := { E with S := dropB b s tb E.S, T0 := some (tb, (quads T, fun _ => none)) }
theorem refB : (k8.fp.all fun τ => !pB τ || (!(k15.fp.contains τ && !Nat.beq τ 90) && !nFp.contains τ) || (nFp.contains τ && refH true pB (kty τ))) = true := by decide +kernel
/-- A world has begun. -/
structure Start (w : World) (E : Env) (b tb jb m : Nat) (us : Nat → Int) (T : Tab) : Prop where
 hp : HeapOk htT E w k8.fp
 sb : ∃ n, E.S b = some (59, n)
 st : ∃ n, E.S tb = some (0, n)
 t0 : ∃ f, E.T0 = some (tb, f)
 a : E.A tb
 tab : TabI E w tb T
 sj : E.S jb = none
 aj : ¬ E.A jb
 jl : jb < w.heap.size
 jobs : ∀ q, q < m → w.cell? ⟨jb, q * 4, none⟩ = some (.int .i64 (us q))
 u : ∀ n, E.U n → ∃ q, q < m ∧ us q = n
theorem Start.fr {w w' : World} {E : Env} {b tb jb m : Nat} {us : Nat → Int} {T : Tab} (h : Start w E b tb jb m us T) (hs : w.heap.size ≤ w'.heap.size) (hk : ∀ k, (∃ t, E.S k = some t) ∨ E.A k ∨ k = jb → w'.heap[k]? = w.heap[k]?) : Start w' E b tb jb m us T := by
 have ag : AgrA E w w' := fun i hi => hk i (.inr (.inl hi))
 exact ⟨⟨fun k τ n h1 h2 => (h.hp.ok k τ n h1 h2).agree (fun _ => hk k (.inl ⟨_, h1⟩)) ag, fun k t h1 => ⟨Nat.lt_of_lt_of_le (h.hp.dom k t h1).1 hs, (h.hp.dom k t h1).2⟩, fun k h1 => Nat.lt_of_lt_of_le (h.hp.an k h1) hs⟩,
  h.sb, h.st, h.t0, h.a, h.tab.st h.a ag, h.sj, h.aj, Nat.lt_of_lt_of_le h.jl hs, fun q hq => by rw [World.cell?_of_block (hk jb (.inr (.inr rfl)))]; exact h.jobs q hq, h.u⟩
theorem stageB {E : Env} {w : World} {b nb jb mj m : Nat} {us : Nat → Int} (hp : HeapOk htN E w nFp) (hn : ∀ k τ n, E.S k = some (τ, n) → τ = 2035 ∨ (τ ∈ k15.fp ∧ τ ≠ 90) ∨ τ ∈ nFp) (hb : E.S b = some (59, nb)) (hj : E.S jb = some (2035, mj))
  (jobs : ∀ q, q < m → w.cell? ⟨jb, q * 4, none⟩ = some (.int .i64 (us q))) (u : ∀ n, E.U n → ∃ q, q < m ∧ us q = n) :
  ∃ s tb T, Start w (envB E b s tb T) b tb jb m us T ∧ (∀ k τ n, pB τ = true → E.S k = some (τ, n) → (envB E b s tb T).S k = some (τ, n)) ∧ ∀ k t, (envB E b s tb T).S k = some t → E.S k = some t := by
 have h59 := hp.ok b 59 nb hb (by decide)
 unfold HOk at h59
 rw [show htN 59 = .obj 59 [(cL [.ptr 105 false, cSl 61], [], none)] from rfl] at h59
 obtain ⟨arr, a1, alt, a2, a3, _⟩ := h59
 have : alt = (cL [.ptr 105 false, cSl 61], [], none) := by simpa using a2
 subst this
 obtain ⟨v0, r0, a4, p0, v1, r1, rfl, p1, p2⟩ := a3
 rw [show r1 = [] from p2] at a4
 rcases p0 with ⟨h, _⟩ | ⟨s, ns, rfl, hs⟩
 ·cases h
 have h105 := hp.ok s 105 ns hs (by decide)
 unfold HOk at h105
 rw [show htN 105 = .obj 105 [(cL [.ptr 0 false, cSl 115], [], none)] from rfl] at h105
 obtain ⟨brr, b1, alt, b2, b3, _⟩ := h105
 have : alt = (cL [.ptr 0 false, cSl 115], [], none) := by simpa using b2
 subst this
 obtain ⟨u0, q0, b4, t0, u1, q1, rfl, t1, t2⟩ := b3
 rw [show q1 = [] from t2] at b4
 rcases t0 with ⟨h, _⟩ | ⟨tb, nt, rfl, ht⟩
 ·cases h
 obtain ⟨T, hA, hT⟩ : tN E 0 w tb := hp.ok tb 0 nt ht (by decide)
 have cb : ∀ k t, (envB E b s tb T).S k = some t → E.S k = some t ∧ (k = b ∨ k = s ∨ k = tb ∨ pB t.1 = true) := fun k t h => by
  have h : dropB b s tb E.S k = some t := h
  unfold dropB at h
  split at h
  ·rename_i e; exact ⟨h, by rcases e with e | e | e; exact .inl e; exact .inr (.inl e); exact .inr (.inr (.inl e))⟩
  ·split at h
   ·rename_i v hv
    split at h
    ·rename_i hpb; injection h with h; subst h; exact ⟨hv, .inr (.inr (.inr hpb))⟩
    ·cases h
   ·cases h
 have own : ∀ k, k = b ∨ k = s ∨ k = tb → (envB E b s tb T).S k = E.S k := fun k hk => by
  show dropB b s tb E.S k = _
  unfold dropB; rw [if_pos hk]
 have keep : ∀ k τ n, pB τ = true → E.S k = some (τ, n) → (envB E b s tb T).S k = some (τ, n) := fun k τ n hpb hk => by
  show dropB b s tb E.S k = _
  unfold dropB
  split
  ·exact hk
  ·rw [hk]; show (if pB τ = true then some (τ, n) else none) = _; rw [if_pos hpb]
 have rk : Rek true pB E (envB E b s tb T) := ⟨keep, rfl, rfl, fun _ => rfl⟩
 have hjn : (envB E b s tb T).S jb = none := by
  show dropB b s tb E.S jb = none
  unfold dropB
  rw [if_neg, hj]
  ·rfl
  ·rintro (e | e | e)
   ·rw [e, hb] at hj; cases hj
   ·rw [e, hs] at hj; cases hj
   ·rw [e, ht] at hj; cases hj
 have hja : ¬ E.A jb := fun h => absurd ((hp.dom jb _ hj).2.1 h) (show ¬ (htN 2035).isOpq = true by decide)
 refine ⟨s, tb, T, ⟨⟨fun k τ n hk hτ => ?_, fun k t hk => hp.dom k t (cb k t hk).1, fun k hk => hp.an k hk⟩, ⟨nb, by rw [own b (.inl rfl)]; exact hb⟩, ⟨nt, by rw [own tb (.inr (.inr rfl))]; exact ht⟩, ⟨_, rfl⟩, hA, hT, hjn, hja, (hp.dom jb _ hj).1, jobs, u⟩, keep, fun k t hk => (cb k t hk).1⟩
 obtain ⟨hk', hc⟩ := cb k _ hk
 rcases hc with rfl | rfl | rfl | hpb
 ·rw [hb] at hk'; injection hk' with hk'; injection hk' with e1 e2; subst e1
  unfold HOk
  rw [show htT 59 = .obj 59 [(cL [.ptr 105 false, cSl 61], [], none)] from rfl]
  exact ⟨arr, a1, _, List.mem_cons_self .., by rw [a4]; exact ⟨_, _, rfl, .inr ⟨s, ns, rfl, by rw [own s (.inr (.inl rfl))]; exact hs⟩, _, _, rfl, VT.rek (HT := htN) rfl rk _ rfl p1, rfl⟩, fun r hr => absurd hr List.not_mem_nil, trivial⟩
 ·rw [hs] at hk'; injection hk' with hk'; injection hk' with e1 e2; subst e1
  unfold HOk
  rw [show htT 105 = .obj 105 [(cL [.ptr 0 false, cSl 115], [], none)] from rfl]
  exact ⟨brr, b1, _, List.mem_cons_self .., by rw [b4]; exact ⟨_, _, rfl, .inr ⟨tb, nt, rfl, by rw [own tb (.inr (.inr rfl))]; exact ht⟩, _, _, rfl, VT.rek (HT := htN) rfl rk _ rfl t1, rfl⟩, fun r hr => absurd hr List.not_mem_nil, trivial⟩
 ·rw [ht] at hk'; injection hk' with hk'; injection hk' with e1 e2; subst e1
  show tO (envB E b s k T) 0 w k
  exact ⟨(quads T, fun _ => none), T, rfl, hA, hT.ext (fun i hi => hi), law_now _ _, fun _ _ h => nomatch h⟩
 ·have hpb : pB τ = true := hpb
  have hr := List.all_eq_true.1 refB τ hτ
  rw [hpb] at hr
  simp only [Bool.not_true, Bool.false_or, Bool.or_eq_true, Bool.and_eq_true, Bool.not_eq_true', List.contains_eq_mem, decide_eq_false_iff_not, decide_eq_true_eq] at hr
  rcases hr with ⟨h1, h2⟩ | ⟨h1, h2⟩
  ·rcases hn k τ n hk' with h | ⟨h3, h4⟩ | h
   ·subst h; cases hpb
   ·rw [Bool.and_eq_false_iff] at h1
    rcases h1 with h1 | h1
    ·rw [decide_eq_false_iff_not] at h1; exact absurd h3 h1
    ·rw [Bool.not_eq_false'] at h1; exact absurd (Nat.eq_of_beq_eq_true h1) h4
   ·exact absurd h h2
  ·exact HOk.rek (HT := htN) (HT' := htT) rfl rk h2 (hp.ok k τ n hk' h1)
end Go.Proofs.YtbjhcjgniciooaaGreatDoor.E.Kt
namespace Go.Proofs.YtbjhcjgniciooaaGreatDoor.It
open Go.RowKit
attribute [local go_sem] Oper.semAt_some
set_option linter.unusedVariables false
set_option linter.unusedSimpArgs false
/-! ### slices.AppendSeq over slices.Values, at texts, by hand -/
def upto {α : Type} (f : Nat → α) (k : Nat) : List α := (List.range k).map f
theorem upto_succ {α : Type} (f : Nat → α) (k : Nat) : upto f (k + 1) = upto f k ++ [f k] := by simp [upto, List.range_succ]
theorem upto_length {α : Type} (f : Nat → α) (k : Nat) : (upto f k).length = k := by simp [upto]
def at0 (zs : List ByteArray) (j : Nat) : ByteArray := zs[j]?.getD ByteArray.empty
theorem upto_all (zs : List ByteArray) : upto (at0 zs) zs.length = zs := by
 apply List.ext_getElem
 ·simp [upto]
 ·intro i h1 h2
  simp [upto, at0, h2]
theorem upto_take (zs : List ByteArray) {k : Nat} (hk : k ≤ zs.length) : upto (at0 zs) k = zs.take k := by
 apply List.ext_getElem
 ·simp [upto, hk]
 ·intro i h1 h2
  have : i < zs.length := by simp [upto] at h1; omega
  simp [upto, at0, this]
set_option maxRecDepth 100000 in
set_option maxHeartbeats 2000000 in
theorem values1_in (F : Fence) (n : Nat) (h7 : F.fn 346) (hro : F.round = none) (hn : 1 ≤ n) (l Bs n₀ b off len cap : Nat) (zs : List ByteArray) (hreach : len ≤ 1000) (hb : b < n₀) (J Jx : List ByteArray → World → Prop)
  (hY : ∀ pre x W, J pre W → pre.length < len → YieldAt F (n - 1) Tryz.prog l #[.string x] W fun e W' =>
   (e = .returned (.bool true) ∧ J (pre ++ [x]) W' ∧ Below n₀ W W') ∨ (e = .returned (.bool false) ∧ Jx (pre ++ [x]) W'))
  (W : World) (hBs : W.cell? ⟨Bs, 0, none⟩ = some (.slice (some ⟨b, off, none⟩) len cap)) (hc : ∀ j, j < len → W.cell? ⟨b, off + j, none⟩ = some (.string (at0 zs j))) (h0 : J [] W) :
  CallsIn F n Tryz.prog 346 #[.func (.yield l) #[] #[], .pointer (some ⟨Bs, 0, none⟩)] W fun e W' => (∃ v, e = .returned v) ∧
   ((∃ ys, ys = upto (at0 zs) len ∧ J ys W') ∨ (∃ pre, (∃ k, k ≤ len ∧ pre = upto (at0 zs) k) ∧ Jx pre W')) := by
 refine callsIn_of_wp Tryz.func346 rfl h7 ?_ hro
 simp only [Tryz.ntmps346, List.size_toArray, List.length_cons, List.length_nil, Nat.reduceAdd, Nat.reduceSub, Array.replicate_succ, Array.replicate_zero, List.push_toArray, List.append_toArray, List.nil_append, List.cons_append]
 gi_wp2
 gi_loopw [7] (fun i wr => ∃ k : Nat, k ≤ len ∧ i = .int .i64 k ∧ J (upto (at0 zs) k) wr ∧ Below n₀ W wr)
  (fun i _ => len - (intOf i).toNat)
 case atStart => exact ⟨0, Nat.zero_le _, rfl, h0, Below.refl _ _⟩
 case round =>
  obtain ⟨k, hk, rfl, hJs, hnx⟩ := hrel
  have hcx : k < len → wr.cell? ⟨b, off + k, none⟩ = some (.string (at0 zs k)) := fun h => (hnx.cell (p := ⟨b, off + k, none⟩) hb).trans (hc k h)
  by_cases hlt : k < len
  ·obtain ⟨fn, tmps, assign, body, hy, hR⟩ := hY _ (at0 zs k) wr hJs (by rw [upto_length]; exact hlt)
   have hcx' := hcx hlt
   gi_wp2
   refine hR.mono ?_
   rintro e W3 (⟨rfl, hJ3, hk3⟩ | ⟨rfl, hJx3⟩)
   ·gi_wp2
    go_roundw
    case rel => exact ⟨k + 1, by omega, by simp, by rw [upto_succ]; exact hJ3, hnx.trans hk3⟩
    case measure => simp [intOf]; omega
   ·gi_wp2
    refine bodyPost_ret (results_none rfl _ _ _) rfl ?_
    exact ⟨⟨_, rfl⟩, .inr ⟨_, ⟨k + 1, by omega, (upto_succ _ _).symm⟩, hJx3⟩⟩
  ·obtain rfl : k = len := by omega
   gi_wp2
   go_end0
   exact ⟨⟨_, rfl⟩, .inl ⟨_, rfl, hJs⟩⟩
set_option maxRecDepth 100000 in
set_option maxHeartbeats 1000000 in
theorem values1_nil_in (F : Fence) (n : Nat) (h7 : F.fn 346) (hro : F.round = none) (l Bs : Nat) (J : List ByteArray → World → Prop) (W : World) (hBs : W.cell? ⟨Bs, 0, none⟩ = some (.slice none 0 0)) (h0 : J [] W) :
  CallsIn F n Tryz.prog 346 #[.func (.yield l) #[] #[], .pointer (some ⟨Bs, 0, none⟩)] W fun e W' => (∃ v, e = .returned v) ∧ J [] W' := by
 refine callsIn_of_wp Tryz.func346 rfl h7 ?_ hro
 simp only [Tryz.ntmps346, List.size_toArray, List.length_cons, List.length_nil, Nat.reduceAdd, Nat.reduceSub, Array.replicate_succ, Array.replicate_zero, List.push_toArray, List.append_toArray, List.nil_append, List.cons_append]
 gi_wp2
 gi_loopw [7] (fun i wr => i = .int .i64 0 ∧ J [] wr) (fun _ _ => 0)
 case atStart => exact ⟨rfl, h0⟩
 case round =>
  obtain ⟨rfl, hJs⟩ := hrel
  gi_wp2
  go_end0
  exact ⟨⟨_, rfl⟩, hJs⟩
/-- The slice holds the texts, in a block below n₀; or it is nil and there are none. -/
def Strs (n₀ : Nat) (W : World) (sv : Value) (zs : List ByteArray) : Prop :=
 (sv = .slice none 0 0 ∧ zs = []) ∨ ∃ b off cap, sv = .slice (some ⟨b, off, none⟩) zs.length cap ∧ b < n₀ ∧ ∀ j, j < zs.length → W.cell? ⟨b, off + j, none⟩ = some (.string (at0 zs j))
theorem Strs.below {n₀ : Nat} {A B : World} (h : Below n₀ A B) {sv : Value} {zs : List ByteArray} : Strs n₀ A sv zs → Strs n₀ B sv zs
 | .inl e => .inl e
 | .inr ⟨b, off, cap, e, hb, hc⟩ => .inr ⟨b, off, cap, e, hb, fun j hj => (h.cell (p := ⟨b, off + j, none⟩) hb).trans (hc j hj)⟩
theorem values_stops (F : Fence) (n : Nat) (h7 : F.fn 346) (hro : F.round = none) (hn : 1 ≤ n) (Bs n₀ : Nat) (sv : Value) (zs : List ByteArray) (hreach : zs.length ≤ 1000) (w : World) (hBs : Bs < w.heap.size) (hn₀ : n₀ ≤ w.heap.size)
  (hc : w.cell? ⟨Bs, 0, none⟩ = some sv) (hI : Strs n₀ w sv zs) :
  SeqStopsK F n Tryz.prog 346 #[.pointer (some ⟨Bs, 0, none⟩)] (fun x : ByteArray => #[Value.string x]) (Below n₀) (fun ys => ys = zs) (fun pre => pre <+: zs) zs.length w := fun l J Jx W hW _ _ hY h0 => by
 have hc' := (hW.cell (p := ⟨Bs, 0, none⟩) hBs).trans hc
 rcases hI.below (hW.mono hn₀) with ⟨rfl, rfl⟩ | ⟨b, off, cap, rfl, hb, hcs⟩
 ·exact (values1_nil_in F n h7 hro l Bs J W hc' h0).mono fun e W' ⟨he, hj⟩ => ⟨he, .inl ⟨_, rfl, hj⟩⟩
 ·refine (values1_in F n h7 hro hn l Bs n₀ b off zs.length cap zs hreach hb J Jx hY W hc' hcs h0).mono ?_
  rintro e W' ⟨he, ⟨ys, rfl, hj⟩ | ⟨pre, ⟨k, hk, rfl⟩, hj⟩⟩
  ·exact ⟨he, .inl ⟨_, upto_all zs, hj⟩⟩
  ·exact ⟨he, .inr ⟨_, by rw [upto_take zs hk]; exact List.take_prefix _ _, hj⟩⟩
theorem info9 : (Tryz.prog.info? 9).map (fun i => (i.zero, i.size, i.bytes)) = some (some (.string ⟨#[]⟩), 1, 16) := by kernel_rfl
set_option maxRecDepth 100000 in
set_option maxHeartbeats 2000000 in
theorem appendSeq_in (F : Fence) (n : Nat) (h3 : F.fn 351) (h5 : F.fn 346) (hro : F.round = none) (hn : 3 ≤ n) (Bs : Nat) (sv : Value) (zs : List ByteArray) (hlen : zs.length ≤ 1000) (w : World) (hBs : Bs < w.heap.size) (hc0 : w.cell? ⟨Bs, 0, none⟩ = some sv) (hL : Strs w.heap.size w sv zs) :
  CallsIn F n Tryz.prog 351 #[.slice none 0 0, .func (.func 346) #[] #[.pointer (some ⟨Bs, 0, none⟩)]] w fun e W' => ∃ v, e = .returned v ∧ W'.ownsRow w.heap.size 9 1 v zs.length (zs.map Value.string) ∧ Below w.heap.size w W' := by
 have h1 : 1 ≤ n := by omega
 obtain ⟨i0, hi, hz0, hz1, hz2⟩ := info_parts info9
 refine callsIn_of_wp_marks Tryz.func351 rfl h3 ?_ hro
 simp only [Tryz.ntmps351, List.size_toArray, List.length_cons, List.length_nil, Nat.reduceAdd, Nat.reduceSub, Array.replicate_succ, Array.replicate_zero, List.push_toArray, List.append_toArray, List.nil_append, List.cons_append]
 gi_wp2
 have bO := Boxed.new w 65 (.slice none 0 0)
 have hB0 : Below w.heap.size w (w.alloc (.cells #[.slice none 0 0] 65)) := (Below.refl _ w).alloc (Nat.le_refl _) _
 have hcB : (w.alloc (.cells #[.slice none 0 0] 65)).cell? ⟨Bs, 0, none⟩ = some sv := (hB0.cell (p := ⟨Bs, 0, none⟩) hBs).trans hc0
 refine wpIn_rangeFunc_ownG hro h1 (gf := 346) (lb := #[.pointer (some ⟨Bs, 0, none⟩)]) rfl h5 (enters_of Tryz.func346 (by kernel_rfl) rfl)
  (values_stops F (n - 1) h5 hro (by omega) Bs w.heap.size sv zs hlen _ (by simp; omega) (by simp) hcB (hL.below hB0)) belowK_t (belowK_b (by simp)) (Below.refl _ _) (fun _ => rfl)
  (fun pre W => (∃ v, Boxed W w.heap.size 65 v ∧ W.ownsRow w.heap.size 9 1 v pre.length (pre.map Value.string) ∧ True) ∧ Below w.heap.size w W)
  (fun _ _ _ => False)
  (OwnFrom.and (Own.from (holdsRow_own w.heap.size w.heap.size 65 9 1 (fun (pre : List ByteArray) => pre.length) (fun (pre : List ByteArray) => pre.map Value.string) (fun (pre : List ByteArray) (v : Value) => True)) _) (ownFrom_below (Nat.le_refl _) (by simp)))
  (fun _ _ _ _ _ hs _ _ => hs)
  ⟨⟨_, bO, World.ownsRow_nil _ _ _ _, trivial⟩, hB0⟩
  (fun x => { tmps := #[.slice none 0 0, .func (.func 346) #[] #[.pointer (some ⟨Bs, 0, none⟩)], .pointer (some ⟨w.heap.size, 0, none⟩), undef, .slice none 0 0, .string x, .func (.func 346) #[] #[.pointer (some ⟨Bs, 0, none⟩)], .string x, undef, undef, undef, undef, undef], defers := [] }) ?assign ?body ?done ?stop
 case assign =>
  intro l x W K hK
  gi_wp2
  exact hK
 case body =>
  rintro l pre x W ⟨⟨v, hv, hrow, _⟩, hB⟩ hlt
  have hc := hv.cell
  have hm : zs.length ≤ maxLen := by simp only [maxLen]; omega
  gi_wp2_with (gi_at_builtin; refine wpListIn_append_own _ rfl _ _ 65 rfl w.heap.size 9 i0 (.string ⟨#[]⟩) 1 16 Tryz.underlying65 hi hz0 hz1 hz2 rfl (by decide) _ _ _ rfl (hrow.alloc _) ⟨W.heap.size, 0, none⟩ 1 1 [.string x] rfl rfl (cell_one_new _ _ _) (by simp [Value.oneCell']) (by omega) (by omega) (by have := hB.size; simp; omega) ?_; intro v' w1 hown' hgrow _; obtain ⟨g', cap', rfl⟩ := ownsRow_succ hown'; obtain ⟨hv1, hv2, hr2, hk2, hb2⟩ := hv.appended (by decide) hrow hB.size (Nat.le_refl _) hown' hgrow; have hc1 := hv1.cell; have hf1 := hv1.frozen)
  exact ⟨hk2.from _, hb2, ⟨_, hv2, by simpa using hr2, trivial⟩, hB.trans hb2⟩
 case done =>
  rintro D ys W hD rfl ⟨⟨v, hv, hrow, _⟩, hB⟩ hK
  have hc := hv.cell
  gi_wp2
  refine ⟨by simp, .inl ⟨_, _, rfl, run_takeDeferred hK, ?_⟩⟩
  exact ⟨_, results_tmp rfl _ _ _, v, rfl, ownsRow_putObj hrow _ hK rfl, hB.trans (belowK_b (w := w) (Nat.le_refl _) W D _ _ (by simp at hD; omega) hK rfl rfl)⟩
 case stop =>
  rintro D c pre W _ _ h _
  exact h.elim
end Go.Proofs.YtbjhcjgniciooaaGreatDoor.It
namespace Go.Proofs.YtbjhcjgniciooaaGreatDoor.E.Kt
open Go.Proofs.YtbjhcjgniciooaaGreatDoor.G (TabAt Tab Nd live zN rightN NdC kE ndCells okx Fr WhB WhR ctB ctE)
open Go.RowKit Go.Proofs.YtbjhcjgniciooaaGreatDoorW.PrintWords Go.Proofs.YtbjhcjgniciooaaGreatDoorW.PrintLast Go.Proofs.YtbjhcjgniciooaaGreatDoorW.PrintMore
attribute [local go_sem] max2_int min2_int max_two min_two
set_option linter.unusedVariables false
set_option linter.unusedSimpArgs false
/-! ### slices.Sorted over slices.Values, by hand -/
theorem HeapOk.belowR {HT : Th} {E : Env} {w w' : World} {fp : List Nat} (h : HeapOk HT E w fp) (hb : Below w.heap.size w w') : HeapOk HT E w' fp :=
 ⟨fun k τ n hk ht => (h.ok k τ n hk ht).agree (fun _ => hb.block k (h.dom k _ hk).1) (fun i hi => hb.block i (h.an i hi)), fun k t hk => ⟨Nat.lt_of_lt_of_le (h.dom k t hk).1 hb.size, (h.dom k t hk).2⟩, fun k hk => Nat.lt_of_lt_of_le (h.an k hk) hb.size⟩
/-- One new row; what lies behind it is no matter, at some kinds. -/
theorem aft_row1R {HT : Th} {K : Con} {E : Env} {w w' : World} {τ e sz c : Nat} {ct : CTs} {A : Option Addr} (hp : HeapOk HT E w K.fp) (hb : Below w.heap.size w w') (hty : HT τ = .row e sz ct)
  (hA : ∀ b, A = some ⟨b, 0, none⟩ → w.heap.size ≤ b ∧ ∃ cur : Array Value, w'.heap[b]? = some (.cells cur e (0, 0)) ∧ (c * sz ≤ cur.size ∧ (roK τ = false → cur.size = c * sz)) ∧ ∀ j, j < c → VTs HT E ct ((cur.toList.drop (j * sz)).take sz)) (h5 : τ ∈ K.fp) (h0 : K.dg = 0 ∧ K.ha = 0 ∧ K.hb = 0) :
  K.Aft HT E w (Env.row1 E τ A c) w' ∧ Ext { E with N := fun _ => False } { Env.row1 E τ A c with N := fun _ => False } := by
 have old : ∀ k, k < w.heap.size → (Env.row1 E τ A c).S k = E.S k := fun k hk => by
  show (if A = some ⟨k, 0, none⟩ then _ else E.S k) = _
  rw [if_neg (fun e => by have := (hA k e).1; omega)]
 have get : ∀ k t, (Env.row1 E τ A c).S k = some t → (A = some ⟨k, 0, none⟩ ∧ t = (τ, c)) ∨ E.S k = some t := fun k t h => by
  have h : (if A = some ⟨k, 0, none⟩ then some (τ, c) else E.S k) = some t := h
  split at h
  ·rename_i e; injection h with h; exact .inl ⟨e, h.symm⟩
  ·exact .inr h
 have nA : ∀ k, w.heap.size ≤ k → ¬ E.A k := fun k hk hA => by have := hp.an k hA; omega
 have mono : ∀ k t, E.S k = some t → (Env.row1 E τ A c).S k = some t := fun k t h => by rw [old k (hp.dom k t h).1]; exact h
 have x0 : Ext { E with N := fun _ => False } { Env.row1 E τ A c with N := fun _ => False } :=
  ⟨Nat.le_refl _, fun _ _ => rfl, fun _ _ => rfl, fun _ _ => rfl, fun _ _ => rfl, fun k t h => mono k t h, fun _ h => h, fun b hN _ => hN.elim, rfl, rfl, rfl, fun k hk => hk.elim (fun h => h.elim) (fun h => old k (hp.an k h)), Nat.le_refl _, Nat.le_refl _, rfl, rfl⟩
 have opq : (HT τ).isOpq = false := by rw [hty]; rfl
 have up : ∀ {ts vs}, VTs HT E ts vs → VTs HT (Env.row1 E τ A c) ts vs := fun {ts vs} h =>
  VTs.core (E := { Env.row1 E τ A c with N := fun _ => False }) (F := Env.row1 E τ A c) ⟨rfl, rfl, rfl, rfl, rfl, rfl⟩ _ (VTs.ext HT x0 _ (VTs.core (E := E) (F := { E with N := fun _ => False }) ⟨rfl, rfl, rfl, rfl, rfl, rfl⟩ _ h))
 refine ⟨⟨⟨fun k υ n hk ht => ?_, fun k t hk => ?_, fun k hk => Nat.lt_of_lt_of_le (hp.an k hk) hb.size⟩, mono, fun _ h => h, fun k hk => ⟨old k hk, fun h => h⟩, fun k υ n h1 h2 => ?_, by rw [h0.1]; rfl, by rw [h0.2.1, h0.2.2]; simp [Env.row1], rfl, rfl, hb.os, hb.tape, hb.output, hb.size, fun k hk _ _ => hb.block k hk, fun k υ n hk _ => hb.block k (hp.dom k _ hk).1, fun _ k hk => hb.block k (hp.an k hk)⟩, x0⟩
 ·rcases get k _ hk with ⟨e, e2⟩ | hk'
  ·injection e2 with e2 e3; subst e2; subst e3
   obtain ⟨_, cur, q1, q2, q3⟩ := hA k e
   unfold HOk
   rw [hty]
   exact ⟨cur, q1, q2, fun j hj => up (q3 j hj)⟩
  ·have h1 := (HeapOk.belowR hp hb).ok k υ n hk' ht
   have h2 : HOk HT { E with N := fun _ => False } w' k υ n := HOk.core (E := E) (F := { E with N := fun _ => False }) (show Core E { E with N := fun _ => False } from ⟨rfl, rfl, rfl, rfl, rfl, rfl⟩) h1
   exact HOk.core (E := { Env.row1 E τ A c with N := fun _ => False }) (F := Env.row1 E τ A c) (show Core { Env.row1 E τ A c with N := fun _ => False } (Env.row1 E τ A c) from ⟨rfl, rfl, rfl, rfl, rfl, rfl⟩) (h2.ext x0)
 ·rcases get k _ hk with ⟨e, rfl⟩ | hk'
  ·obtain ⟨q0, cur, q1, _⟩ := hA k e
   exact ⟨(Array.getElem?_eq_some_iff.1 q1).1, fun h => absurd h (nA k q0), fun h => by rw [opq] at h; cases h⟩
  ·have := hp.dom k t hk'
   exact ⟨Nat.lt_of_lt_of_le this.1 hb.size, this.2⟩
 ·rcases get k _ h1 with ⟨_, e⟩ | h
  ·injection e with e _; rw [e]; exact h5
  ·rw [h2] at h; cases h
theorem row_strsR {HT : Th} {E : Env} {w : World} {fp : List Nat} {τ b j len m lo : Nat} {d : Bd} (hp : HeapOk HT E w fp) (hτ : τ ∈ fp) (hty : HT τ = .row 9 1 (cL [.str lo d])) (hs : E.S b = some (τ, len)) (h : j + m ≤ len) :
  ∃ xs : List ByteArray, xs.length = m ∧ (∀ x ∈ xs, x.size ≤ d.ev E.g E.h) ∧ ∀ q, q < m → w.cell? ⟨b, j + q, none⟩ = some (.string (It.at0 xs q)) := by
 have hk := hp.ok b τ len hs hτ
 unfold HOk at hk
 rw [hty] at hk
 obtain ⟨arr, ha, hl, hv⟩ := hk
 have key : ∀ q, q < m → ∃ s : ByteArray, arr.toList[j + q]? = some (.string s) ∧ s.size ≤ d.ev E.g E.h := fun q hq => by
  obtain ⟨v, r, e, ⟨s, rfl, _, h2⟩, _⟩ := hv (j + q) (by omega)
  refine ⟨s, ?_, h2⟩
  have := congrArg (·[0]?) e
  simpa using this
 have : ∃ f : Nat → ByteArray, ∀ q, q < m → arr.toList[j + q]? = some (.string (f q)) ∧ (f q).size ≤ d.ev E.g E.h :=
  ⟨fun q => if h : q < m then Classical.choose (key q h) else ByteArray.empty, fun q hq => by dsimp only; rw [dif_pos hq]; exact Classical.choose_spec (key q hq)⟩
 obtain ⟨f, hf⟩ := this
 refine ⟨(List.range m).map f, by simp, fun x hx => ?_, fun q hq => ?_⟩
 ·obtain ⟨q, hq, rfl⟩ := List.mem_map.1 hx
  exact (hf q (List.mem_range.1 hq)).2
 ·rw [cell_of ha, ← Array.getElem?_toList, (hf q hq).1]
  simp [It.at0, hq]
set_option maxHeartbeats 1600000 in
set_option maxRecDepth 100000 in
theorem collect2 (Bs : Nat) (sv : Value) (zs : List ByteArray) (hlen : zs.length ≤ 1000) (w : World) (hBs : Bs < w.heap.size) (hc0 : w.cell? ⟨Bs, 0, none⟩ = some sv) (hL : It.Strs w.heap.size w sv zs) :
  Calls Tryz.prog 345 #[.func (.func 346) #[] #[.pointer (some ⟨Bs, 0, none⟩)]] w fun e W' => ∃ v, e = .returned v ∧ W'.ownsRow w.heap.size 9 1 v zs.length (zs.map Value.string) ∧ Below w.heap.size w W' := by
 have h := callsIn_wide.1 (It.appendSeq_in Fence.wide 5 trivial trivial rfl (by omega) Bs sv zs hlen w hBs hc0 hL)
 go_enter Tryz.func345, Tryz.ntmps345
 go_wp2_with fail
 refine h.mono ?_
 rintro e w1 ⟨v, rfl, ho, hb⟩
 dsimp only
 go_wp2
 go_ret
 exact ⟨v, rfl, ho, hb⟩
theorem R_of_own {w : World} {base : Nat} {A : Option Addr} {n c : Nat} {zs : List ByteArray} (h : w.ownsRow base 9 1 (.slice A n c) zs.length (zs.map Value.string)) : Kd.R Kd.string 9 w base (fun _ => True) (.slice A n c) zs := ⟨fun _ _ => trivial, _, h, Kd.reps_scalar zs⟩
set_option maxHeartbeats 1600000 in
set_option maxRecDepth 100000 in
theorem sorted2 (Bs : Nat) (sv : Value) (zs : List ByteArray) (hlen : zs.length ≤ 1000) (w : World) (hBs : Bs < w.heap.size) (hc0 : w.cell? ⟨Bs, 0, none⟩ = some sv) (hL : It.Strs w.heap.size w sv zs) :
  Calls Tryz.prog 338 #[.func (.func 346) #[] #[.pointer (some ⟨Bs, 0, none⟩)]] w fun e W' => ∃ A c ts, e = .returned (.slice A zs.length c) ∧ ts.length = zs.length ∧ (∀ s ∈ ts, s ∈ zs) ∧ Kd.R Kd.string 9 W' w.heap.size (fun _ => True) (.slice A ts.length c) ts ∧ Below w.heap.size w W' := by
 go_enter Tryz.func338, Tryz.ntmps338
 go_wp2_with fail
 refine (collect2 Bs sv zs hlen w hBs hc0 hL).mono ?_
 rintro e w1 ⟨v, rfl, ho, hb⟩
 have HB := Aside0.mk hb
 have HL := Aside0.mk hlen
 obtain ⟨A, c, rfl⟩ : ∃ A c, v = .slice A zs.length c := by
  rcases ho.2 with ⟨rfl, h0⟩ | ⟨g, cap, cur, rfl, _⟩
  ·exact ⟨none, 0, by rw [h0]⟩
  ·exact ⟨_, _, rfl⟩
 have HR := Aside0.mk (R_of_own ho)
 clear ho hb hlen
 dsimp only
 go_wp2_with fail
 refine (G.Sort.calls A c zs w.heap.size _ w1 HR.out (by have := HL.out; omega)).mono ?_
 rintro e w2 ⟨rfl, ts, h1, h2, h3, h4⟩
 have HE := Aside0.mk (And.intro h1 (And.intro h2 (And.intro h3 h4)))
 clear h1 h2 h3 h4
 dsimp only
 go_wp2
 go_ret
 obtain ⟨h1, h2, h3, h4⟩ := HE.out
 exact ⟨A, c, ts, rfl, h1, h2, h3, HB.out.grown h4 HB.out.size (own_base (Kd.own_of_R HR.out))⟩
theorem k338_ok : Hld k338 := by
 intro E w vs pre
 obtain ⟨v, r, e, hv, hn⟩ := pre.args
 have ev : vs = #[v] := by rw [← Array.toArray_toList (xs := vs), e, show r = [] from hn]
 rcases hv with ⟨h, _⟩ | hv
 ·cases h
 rcases hv with ⟨x, y, rfl, h1, ⟨u, r2, e2, hu, h2⟩⟩ | hv
 case inr => exact hv.elim
 rcases hu with ⟨h, _⟩ | ⟨Bs, nb, rfl, hS⟩
 ·cases h
 have ex : x = #[] := by rw [← Array.toArray_toList (xs := x), show x.toList = [] from h1]
 have ey : y = #[.pointer (some ⟨Bs, 0, none⟩)] := by rw [← Array.toArray_toList (xs := y), e2, show r2 = [] from h2]
 subst ex; subst ey; subst ev
 have hk := pre.heap.ok Bs 65 nb hS (by decide)
 unfold HOk at hk
 rw [show (CT0 rkF).HT 65 = .obj 65 [(cL [cNames], [], none)] from rfl] at hk
 obtain ⟨arr, ha, alt, hm, ht, _⟩ := hk
 have : alt = (cL [cNames], [], none) := by simpa using hm
 subst this
 obtain ⟨sv, r3, e3, ⟨A, m, c, rfl, ⟨_, hm8⟩, so⟩, h3⟩ := ht
 have hm8 : m ≤ 8 := by simpa [Bd.ev] using hm8
 have hc0 : w.cell? ⟨Bs, 0, none⟩ = some (.slice A m c) := by
  rw [cell_of ha, ← Array.getElem?_toList, e3]; rfl
 have hBs := (pre.heap.dom Bs _ hS).1
 obtain ⟨zs, hl, hz, hst⟩ : ∃ zs : List ByteArray, zs.length = m ∧ (∀ x ∈ zs, x.size ≤ 12) ∧ It.Strs w.heap.size w (.slice A m c) zs := by
  rcases so with ⟨rfl, rfl, rfl⟩ | ⟨b, j, len, rfl, hs, h1, h2, _⟩
  ·exact ⟨[], rfl, fun x hx => absurd hx List.not_mem_nil, .inl ⟨rfl, rfl⟩⟩
  ·obtain ⟨xs, g1, g2, g3⟩ := row_strsR pre.heap (show 3009 ∈ k338.fp by decide) (show (CT0 rkF).HT 3009 = .row 9 1 (cL [.str 0 ⟨0, 0, 12⟩]) from rfl) hs h2
   have esz : j * ((CT0 rkF).HT.ty 3009).size = j := Nat.mul_one j
   refine ⟨xs, g1, fun x hx => by simpa [Bd.ev] using g2 x hx, .inr ⟨b, j, c, by rw [g1, esz], (pre.heap.dom b _ hs).1, fun q hq => g3 q (by omega)⟩⟩
 subst hl
 refine (sorted2 Bs _ zs (by omega) w hBs hc0 hst).mono ?_
 rintro e w' ⟨A', c', ts, rfl, t1, t2, t3, hb⟩
 have own := Kd.own_of_R t3
 have hcur : ∀ b, A' = some ⟨b, 0, none⟩ → w.heap.size ≤ b ∧ ∃ cur : Array Value, w'.heap[b]? = some (.cells cur 9 (0, 0)) ∧ (zs.length * 1 ≤ cur.size ∧ (roK 7009 = false → cur.size = zs.length * 1)) ∧ ∀ j, j < zs.length → VTs htT E (cL [cNm]) ((cur.toList.drop (j * 1)).take 1) := fun b hb' => by
  subst hb'
  rcases own.2 with ⟨h, _⟩ | ⟨g, cap, cur, hv, hg, hgb, hn, hcap, hsz, htk⟩
  ·cases h
  ·injection hv with q1 _ q3
   injection q1 with q1; injection q1 with q1
   subst q1; subst q3
   refine ⟨hg, cur, hgb, ⟨by omega, fun h => by cases h⟩, fun j hj => ?_⟩
   have hj2 : j < ts.length := by omega
   have hcj : cur.toList[j]? = some (.string (ts[j])) := by
    have h5 : (cur.toList.take (ts.length * 1))[j]? = some (.string (ts[j])) := by
     have : cur.toList.take (ts.length * 1) = ts.map Value.string := by rw [Nat.mul_one]; simpa [encs] using htk
     rw [this, List.getElem?_map, List.getElem?_eq_getElem hj2]; rfl
    rw [List.getElem?_take_of_lt (by omega)] at h5
    exact h5
   have : (cur.toList.drop (j * 1)).take 1 = [.string (ts[j])] := by
    rw [Nat.mul_one]
    obtain ⟨hlt, hval⟩ := List.getElem?_eq_some_iff.1 hcj
    rw [List.drop_eq_getElem_cons hlt, hval]; rfl
   rw [this]
   exact ⟨_, [], rfl, ⟨ts[j], rfl, Nat.zero_le _, by have := hz _ (t2 _ (List.getElem_mem hj2)); simpa [Bd.ev] using this⟩, rfl⟩
 obtain ⟨aft, _⟩ := aft_row1R (K := k338) (A := A') (c := zs.length) pre.heap hb (show htT 7009 = .row 9 1 (cL [cNm]) from rfl) hcur (by decide) ⟨rfl, rfl, rfl⟩
 refine ⟨[.slice A' zs.length c'], _, rfl, aft, _, List.mem_cons_self .., ⟨_, [], rfl, ⟨A', zs.length, c', rfl, ⟨Nat.zero_le _, by simpa [Bd.ev] using hm8⟩, ?_⟩, rfl⟩, fun q hq' => absurd hq' List.not_mem_nil, fun f hf => absurd hf List.not_mem_nil⟩
 rcases own.2 with ⟨h, h0⟩ | ⟨g, cap, cur, hv, hg, hgb, hn, hcap, hsz, htk⟩
 ·injection h with q1 q2 q3
  subst q1
  rw [t1] at h0
  exact .inl ⟨rfl, h0, q3⟩
 ·injection hv with q1 _ q3
  subst q1; subst q3
  refine .inr ⟨g, 0, zs.length, by simp, ?_, by omega, by omega, fun h => (by cases h), fun h => (by cases h)⟩
  show (if some (⟨g, 0, none⟩ : Addr) = some ⟨g, 0, none⟩ then _ else _) = _
  rw [if_pos rfl]
end Go.Proofs.YtbjhcjgniciooaaGreatDoor.E.Kt
namespace Go.Proofs.YtbjhcjgniciooaaGreatDoor.E
set_option linter.unusedVariables false
set_option linter.unusedSimpArgs false
def outsE : Outs → List (AV × St) → Bool
 | some a, b => lstE outE a b
 | none, _ => false
theorem outsE_ok {a : Outs} {b : List (AV × St)} (h : outsE a b = true) : a = some b := by
 cases a with
 | none => cases h
 | some a => rw [lstE_ok outE_ok _ _ h]
/-! ### Calls that were run before -/
structure Memo where
 id : Nat
 st : St
 args : List AV
 outs : List (AV × St)
def memoH (ms : List Memo) : Callee := fun id st args =>
 match ms.find? fun m => Nat.beq m.id id && Nat.beq m.st.nx st.nx && avsE m.args args && stE m.st st with
 | some m => some m.outs
 | none => none
theorem memo_ok {C : Cx} {F : Fx} {ms : List Memo} (h : ∀ m ∈ ms, ∃ call, CallOk C F call ∧ call m.id m.st m.args = some m.outs) : CallOk C F (memoH ms) := by
 intro id st args outs ho
 unfold memoH at ho
 split at ho
 ·rename_i m hm
  injection ho with ho; subst ho
  have h1 := List.mem_of_find?_eq_some hm
  have h2 := List.find?_some hm
  simp only [Bool.and_eq_true, Nat.beq_eq] at h2
  obtain ⟨⟨⟨e1, _⟩, e2⟩, e3⟩ := h2
  have e2 := avsE_ok _ _ e2
  have e3 := stE_ok e3
  subst e1; subst e2; subst e3
  obtain ⟨call, hc, he⟩ := h m h1
  exact hc _ _ _ _ he
 ·cases ho
end Go.Proofs.YtbjhcjgniciooaaGreatDoor.E
