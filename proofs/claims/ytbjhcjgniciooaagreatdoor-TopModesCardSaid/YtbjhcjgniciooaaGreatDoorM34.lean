/- TopModes: a part of the proof, merged. -/
import Derived.Test.YtbjhcjgniciooaaGreatDoorM16
import Derived.Test.YtbjhcjgniciooaaGreatDoorM18
import Derived.Test.YtbjhcjgniciooaaGreatDoorM19
import Derived.Test.YtbjhcjgniciooaaGreatDoorM20
import Derived.Test.YtbjhcjgniciooaaGreatDoorM21
import Derived.Test.YtbjhcjgniciooaaGreatDoorM22
import Derived.Test.YtbjhcjgniciooaaGreatDoorM23
import Derived.Test.YtbjhcjgniciooaaGreatDoorM24
import Derived.Test.YtbjhcjgniciooaaGreatDoorM25
import Derived.Test.YtbjhcjgniciooaaGreatDoorM26
import Derived.Test.YtbjhcjgniciooaaGreatDoorM27
import Derived.Test.YtbjhcjgniciooaaGreatDoorM28
import Derived.Test.YtbjhcjgniciooaaGreatDoorM29
import Derived.Test.YtbjhcjgniciooaaGreatDoorM30
import Derived.Test.YtbjhcjgniciooaaGreatDoorM31
import Derived.Test.YtbjhcjgniciooaaGreatDoorM32
namespace Go.Proofs.YtbjhcjgniciooaaGreatDoor.E.Kt
set_option linter.unusedVariables false
/-! ### They hold -/
theorem nN : ∀ k ∈ ([] : List Con), HldN k := fun k h => absurd h List.not_mem_nil
theorem nC {a : Con} {l : List Con} (h : HldN a) (t : ∀ k ∈ l, HldN k) : ∀ k ∈ a :: l, HldN k := fun k hk => by
 rcases List.mem_cons.1 hk with rfl | hk
 ·exact h
 ·exact t k hk
theorem hn_k87 : HldN k87 := chkN_ok n_k87 nN
theorem hn_k85 : HldN k85 := chkN_ok n_k85 nN
theorem hn_k233 : HldN k233 := chkN_ok n_k233 nN
theorem hn_k188 : HldN k188 := chkN_ok n_k188 (nC hn_k233 nN)
theorem hn_k175 : HldN k175 := chkN_ok n_k175 (nC hn_k233 nN)
theorem hn_k146 : HldN k146 := chkN_ok n_k146 (nC hn_k175 (nC hn_k188 nN))
theorem hn_k147p : HldN k147p := chkN_ok n_k147p (nC k212p_ok nN)
theorem hn_k94p : HldN k94p := chkN_ok n_k94p (nC hn_k85 nN)
theorem hn_k91 : HldN k91 := chkN_ok n_k91 (nC hn_k146 nN)
theorem hn_k90 : HldN k90 := chkN_ok n_k90 nN
theorem hn_k95 : HldN k95 := chkN_ok n_k95 nN
theorem hn_k89 : HldN k89 := chkN_ok n_k89 (nC k93_ok (nC hn_k147p nN))
theorem hn_k49 : HldN k49 := chkN_ok n_k49 (nC hn_k85 nN)
theorem hn_k50 : HldN k50 := chkN_ok n_k50 (nC hn_k87 nN)
theorem hn_k51 : HldN k51 := chkN_ok n_k51 (nC hn_k87 (nC hn_k91 nN))
theorem hn_k52 : HldN k52 := chkN_ok n_k52 (nC hn_k87 (nC hn_k89 (nC hn_k91 nN)))
theorem hn_k53 : HldN k53 := chkN_ok n_k53 (nC hn_k87 (nC hn_k89 (nC hn_k90 (nC hn_k91 nN))))
theorem hn_k54 : HldN k54 := chkN_ok n_k54 (nC hn_k89 (nC hn_k91 nN))
theorem hn_k55 : HldN k55 := chkN_ok n_k55 (nC hn_k89 (nC k93_ok (nC hn_k147p nN)))
theorem hn_k56 : HldN k56 := chkN_ok n_k56 (nC hn_k91 (nC hn_k94p nN))
theorem hn_k57 : HldN k57 := chkN_ok n_k57 (nC hn_k95 nN)
theorem hn_k58 : HldN k58 := chkN_ok n_k58 (nC hn_k94p nN)
theorem hn_k28p : HldN k28p := chkN_ok n_k28p nN
theorem hn_k15 : HldN k15 := chkN_ok n_k15 (nC hn_k28p (nC k29_ok (nC k31_ok (nC hn_k49 (nC hn_k50 (nC hn_k51 (nC hn_k52 (nC hn_k53 (nC hn_k54 (nC hn_k55 (nC hn_k56 (nC hn_k57 (nC hn_k58 nN)))))))))))))
theorem hn_k64 : HldN k64 := chkN_ok n_k64 nN
theorem hn_k32_1 : HldN (k32 1) := chkN_ok n_k32_1 (nC k33_ok (nC hn_k64 nN))
theorem hn_k32_2 : HldN (k32 2) := chkN_ok n_k32_2 (nC k33_ok (nC hn_k64 nN))
theorem hn_k32_3 : HldN (k32 3) := chkN_ok n_k32_3 (nC k33_ok (nC hn_k64 nN))
theorem hn_k32_4 : HldN (k32 4) := chkN_ok n_k32_4 (nC k33_ok (nC hn_k64 nN))
theorem hn_k16_1 : HldN (k16 1) := chkN_ok n_k16_1 (nC k31_ok (nC hn_k32_1 nN))
theorem hn_k16_2 : HldN (k16 2) := chkN_ok n_k16_2 (nC k31_ok (nC hn_k32_2 nN))
theorem hn_k16_3 : HldN (k16 3) := chkN_ok n_k16_3 (nC k31_ok (nC hn_k32_3 nN))
theorem hn_k16_4 : HldN (k16 4) := chkN_ok n_k16_4 (nC k31_ok (nC hn_k32_4 nN))
end Go.Proofs.YtbjhcjgniciooaaGreatDoor.E.Kt
namespace Go.Proofs.YtbjhcjgniciooaaGreatDoor.E.Kt
open Go.Proofs.YtbjhcjgniciooaaGreatDoor.G (TabAt Tab Nd live zN rightN NdC kE ndCells okx Fr WhB WhR ctB ctE)
open Go.RowKit Go.Proofs.YtbjhcjgniciooaaGreatDoorW.PrintWords Go.Proofs.YtbjhcjgniciooaaGreatDoorW.PrintLast Go.Proofs.YtbjhcjgniciooaaGreatDoorW.PrintMore
attribute [local go_sem] max2_int min2_int max_two min_two
set_option linter.unusedVariables false
set_option linter.unusedSimpArgs false
/-! ### begun -/
/-- What Parse hands back. -/
def scV (r um : Int) (ta : Option Addr) (tn tc : Nat) (ja : Option Addr) (jn jc : Nat) (pa : Option Addr) (pn pc : Nat) : Value := .agg #[.int .i64 r, .int .i64 um, .slice ta tn tc, .slice ja jn jc, .slice pa pn pc]
def GoodS (w' : World) (ja : Option Addr) (jn jc : Nat) (pa : Option Addr) (pn pc : Nat) (wp : Option Addr) (free : Nat → Prop) : Prop :=
 ∃ b jb us E tb T, (∀ k, free k → E.S k = none ∧ ¬ E.A k ∧ k ≠ jb) ∧ wp = some ⟨b, 0, none⟩ ∧ ja = some ⟨jb, 0, none⟩ ∧ 1 ≤ jn ∧ jn ≤ 4 ∧ jn ≤ jc ∧ pn ≤ 3000000 ∧ SlOk htT E 1003 pa pn pc ∧ Start w' E b tb jb jn us T ∧ E.g ≤ 3980 ∧ E.h ≤ 23550000
def BegunQ (w : World) (e : Ending) (w' : World) : Prop := ∃ r um ta tn tc ja jn jc pa pn pc wp ok, e = .returned (.tuple #[scV r um ta tn tc ja jn jc pa pn pc, .pointer wp, .bool ok]) ∧ Below w.heap.size w w' ∧ (ok = true → GoodS w' ja jn jc pa pn pc wp fun k => k < w.heap.size)
def env00 : Env := { n := 0, ρ := fun _ => 0, ν := fun _ => undef, β := fun _ => 0, κ := fun _ => 0, S := fun _ => none, A := fun _ => False, N := fun _ => False, B := fun _ => False, A0 := fun _ => False, g := 0, h := 0, U := fun _ => False, T0 := none }
theorem cScript_is {HT : Th} {E : Env} {j t p : CT} {v : Value} (h : VT HT E (ag [cI, cI, t, j, p]) v) : ∃ r um tv jv pv, v = .agg #[.int .i64 r, .int .i64 um, tv, jv, pv] ∧ VT HT E t tv ∧ VT HT E j jv ∧ VT HT E p pv ∧ VT HT E cI (.int .i64 r) ∧ VT HT E cI (.int .i64 um) := by
 obtain ⟨vs, rfl, v0, r0, e0, ⟨n0, rfl, h0⟩, v1, r1, rfl, ⟨n1, rfl, h1⟩, v2, r2, rfl, h2, v3, r3, rfl, h3, v4, r4, rfl, h4, h5⟩ := h
 rw [show r4 = [] from h5] at e0
 exact ⟨n0, n1, v2, v3, v4, by rw [← Array.toArray_toList (xs := vs), e0], h2, h3, h4, ⟨n0, rfl, h0⟩, ⟨n1, rfl, h1⟩⟩
/-- Parse's contract, at the start of all. -/
theorem parse_ok (text : ByteArray) (ht : text.size ≤ 1500) (w : World) : Calls Tryz.prog 15 #[.string text] w fun e w' => ∃ r um ta tn tc ja jn jc pa pn pc ln er E, e = .returned (.tuple #[scV r um ta tn tc ja jn jc pa pn pc, .int .i64 ln, .int .i64 er]) ∧
  HeapOk htN E w' k15.fp ∧ (∀ k τ n, E.S k = some (τ, n) → τ ∈ k15.fp) ∧ E.g = 1700 ∧ E.h = 2500000 ∧ Below w.heap.size w w' ∧ (∀ k, k < w.heap.size → E.S k = none ∧ ¬ E.A k) ∧
  VT htN E cI (.int .i64 r) ∧ VT htN E cI (.int .i64 um) ∧ jn ≤ jc ∧ (er = 0 → jn = 0 ∨ (VT htN E (.sl 1087 1 ⟨0, 0, 2000⟩) (.slice ta tn tc) ∧ SlOk htN E 1035 ja jn jc ∧ VT htN E (.sl 1003 0 dH) (.slice pa pn pc))) := by
 have h := hn_k15 env00 w #[.string text] ⟨⟨fun k τ n hk _ => (by cases hk), fun k t hk => (by cases hk), fun k hk => hk.elim⟩, Nat.zero_le _, Nat.zero_le _, ⟨_, [], rfl, ⟨text, rfl, Nat.zero_le _, by simpa [Bd.ev] using ht⟩, rfl⟩, fun r hr => absurd hr List.not_mem_nil, fun f hf => absurd hf List.not_mem_nil⟩
 refine h.mono ?_
 rintro e w' ⟨rs, E, rfl, aft, q, hq, hres, _, _⟩
 have new : ∀ k τ n, E.S k = some (τ, n) → τ ∈ k15.fp := fun k τ n hk => aft.new k τ n hk rfl
 have slc : ∀ {τ : Nat} {A : Option Addr} {m c : Nat}, SlOk htN E τ A m c → m ≤ c := fun h => by
  rcases h with ⟨_, h1, h2⟩ | ⟨_, _, _, _, _, h, _⟩
  ·omega
  ·exact h
 have hbl : Below w.heap.size w w' := ⟨aft.os, aft.tape, aft.output, aft.size, fun k hk => aft.keep k hk rfl (fun h => h)⟩
 have hfr : ∀ k, k < w.heap.size → E.S k = none ∧ ¬ E.A k := fun k hk => ⟨(aft.old k hk).1, fun h => (aft.old k hk).2 h⟩
 have hg : E.g = 1700 := aft.g
 have hh : E.h = 2500000 := aft.h
 rcases List.mem_cons.1 hq with rfl | hq
 ·obtain ⟨v0, _, rfl, h0, v1, _, rfl, ⟨ln, rfl, _⟩, v2, r2, rfl, ⟨er, rfl, e1, e2, _⟩, hz⟩ := hres
  rw [show r2 = [] from hz]
  obtain ⟨r, um, tv, jv, pv, rfl, ht', hj, hp, hr, hu⟩ := cScript_is h0
  obtain ⟨ta, tn, tc, rfl, t1, t2⟩ := ht'
  obtain ⟨ja, jn, jc, rfl, j1, j2⟩ := hj
  obtain ⟨pa, pn, pc, rfl, p1, p2⟩ := hp
  exact ⟨r, um, ta, tn, tc, ja, jn, jc, pa, pn, pc, ln, er, E, rfl, aft.heap, new, hg, hh, hbl, hfr, hr, hu, slc j2, fun _ => .inr ⟨⟨_, _, _, rfl, t1, t2⟩, j2, ⟨_, _, _, rfl, p1, p2⟩⟩⟩
 ·have hq := List.mem_singleton.1 hq
  subst hq
  obtain ⟨v0, _, rfl, h0, v1, _, rfl, ⟨ln, rfl, _⟩, v2, r2, rfl, ⟨er, rfl, e1, e2, _⟩, hz⟩ := hres
  rw [show r2 = [] from hz]
  obtain ⟨r, um, tv, jv, pv, rfl, ht', hj, hp, hr, hu⟩ := cScript_is h0
  obtain ⟨ta, tn, tc, rfl, t1, t2⟩ := ht'
  obtain ⟨ja, jn, jc, rfl, j1, j2⟩ := hj
  obtain ⟨pa, pn, pc, rfl, p1, p2⟩ := hp
  exact ⟨r, um, ta, tn, tc, ja, jn, jc, pa, pn, pc, ln, er, E, rfl, aft.heap, new, hg, hh, hbl, hfr, hr, hu, slc j2, fun _ => .inl (by have := j1.2; simpa [Bd.ev] using this)⟩
/-! ### The jobs in memory -/
theorem jobs_at {E : Env} {w : World} {fp : List Nat} {jb len m : Nat} (hp : HeapOk htN E w fp) (hf : 1035 ∈ fp) (hs : E.S jb = some (1035, len)) (hm : m ≤ len) :
  ∃ (us : Nat → Int) (ls : Nat → Option Addr × Nat × Nat), ∀ q, q < m → w.cell? ⟨jb, q * 4, none⟩ = some (.int .i64 (us q)) ∧ (IntKind.i64.min ≤ us q ∧ us q ≤ IntKind.i64.max) ∧ w.cell? ⟨jb, q * 4 + 3, none⟩ = some (.slice (ls q).1 (ls q).2.1 (ls q).2.2) ∧ (ls q).2.1 ≤ 20 * E.g + 4000 := by
 have h := hp.ok jb 1035 len hs hf
 unfold HOk at h
 rw [show htN 1035 = .row 35 4 (cL [cI, cI, cSl 3, cSl 65]) from rfl] at h
 obtain ⟨arr, h1, _, h3⟩ := h
 have key : ∀ q, q < m → ∃ (u : Int) (l : Option Addr × Nat × Nat), w.cell? ⟨jb, q * 4, none⟩ = some (.int .i64 u) ∧ (IntKind.i64.min ≤ u ∧ u ≤ IntKind.i64.max) ∧ w.cell? ⟨jb, q * 4 + 3, none⟩ = some (.slice l.1 l.2.1 l.2.2) ∧ l.2.1 ≤ 20 * E.g + 4000 := fun q hq => by
  have hv := h3 q (by omega)
  have at_ : ∀ i, i < 4 → w.cell? ⟨jb, q * 4 + i, none⟩ = ((arr.toList.drop (q * 4)).take 4)[i]? := fun i hi => by
   rw [cell_of h1, List.getElem?_take_of_lt hi, List.getElem?_drop, Array.getElem?_toList]
  generalize (arr.toList.drop (q * 4)).take 4 = cs at hv at_
  obtain ⟨v0, _, rfl, ⟨n0, rfl, _, _, g1, g2⟩, v1, _, rfl, ⟨n1, rfl, k1⟩, v2, _, rfl, k2, v3, r, rfl, ⟨A, l, c, rfl, ⟨_, hl⟩, _⟩, hr⟩ := hv
  exact ⟨n0, (A, l, c), at_ 0 (by omega), ⟨g1, g2⟩, at_ 3 (by omega), by simpa [Bd.ev, dD] using hl⟩
 exact ⟨fun q => if h : q < m then Classical.choose (key q h) else 0, fun q => if h : q < m then Classical.choose (Classical.choose_spec (key q h)) else (none, 0, 0), fun q hq => by
  dsimp only; rw [dif_pos hq, dif_pos hq]; exact Classical.choose_spec (Classical.choose_spec (key q hq))⟩
theorem k16_holds {m : Nat} (h1 : 1 ≤ m) (h4 : m ≤ 4) : HldN (k16 m) := by
 have : m = 1 ∨ m = 2 ∨ m = 3 ∨ m = 4 := by omega
 rcases this with rfl | rfl | rfl | rfl
 ·exact hn_k16_1
 ·exact hn_k16_2
 ·exact hn_k16_3
 ·exact hn_k16_4
/-- Begin, behind Parse. -/
theorem begin_ok {E : Env} {w : World} {r um : Int} {ta : Option Addr} {tn tc jb len jn jc : Nat} {pa : Option Addr} {pn pc : Nat} {us : Nat → Int} (hp : HeapOk htN E w k15.fp) (hn : ∀ k τ n, E.S k = some (τ, n) → τ ∈ k15.fp) (hg : E.g = 1700) (hh : E.h = 2500000)
  (hr : VT htN E cI (.int .i64 r)) (hu : VT htN E cI (.int .i64 um)) (ht : VT htN E (.sl 1087 1 ⟨0, 0, 2000⟩) (.slice ta tn tc)) (hs : E.S jb = some (1035, len)) (hj1 : 1 ≤ jn) (hj4 : jn ≤ 4) (hjl : jn ≤ len) (hjc : jn ≤ jc) (hpk : VT htN E (.sl 1003 0 dH) (.slice pa pn pc))
  (hl : ∀ q A l c, q < jn → w.cell? ⟨jb, q * 4 + 3, none⟩ = some (.slice A l c) → l ≤ 6) (hus : ∀ q, q < jn → w.cell? ⟨jb, q * 4, none⟩ = some (.int .i64 (us q))) :
  Calls Tryz.prog 16 #[scV r um ta tn tc (some ⟨jb, 0, none⟩) jn jc pa pn pc] w fun e w' => ∃ wp er, e = .returned (.tuple #[.pointer wp, .int .i64 er]) ∧ (er = 0 → GoodS w' (some ⟨jb, 0, none⟩) jn jc pa pn pc wp fun k => k < w.heap.size ∧ E.S k = none ∧ ¬ E.A k) ∧ (w'.os = w.os ∧ w'.tape = w.tape ∧ w'.output = w.output) ∧ w.heap.size ≤ w'.heap.size ∧ ∀ k, k < w.heap.size → E.S k = none → ¬ E.A k → w'.heap[k]? = w.heap[k]? := by
 obtain ⟨a1, a2, a3, a4⟩ := stageA hp hn hs hjl hl
 have eg : (envA E w jb jn).g = 1700 := hg
 have eh : (envA E w jb jn).h = 2500000 := hh
 have hid : (k16 jn).id = 16 := rfl
 have args : VTl htN (envA E w jb jn) (k16 jn).args #[scV r um ta tn tc (some ⟨jb, 0, none⟩) jn jc pa pn pc].toList :=
  ⟨_, [], rfl, ⟨_, rfl, _, _, rfl, VT.rek rfl a2 _ rfl hr, _, _, rfl, VT.rek rfl a2 _ rfl hu, _, _, rfl, VT.rek rfl a2 _ rfl ht, _, _, rfl, ⟨_, _, _, rfl, ⟨Nat.le_refl _, by simp [Bd.ev]⟩, .inr ⟨jb, 0, jn, by simp, a3, hjc, by omega, fun h => (by cases h), fun h => (by cases h)⟩⟩, _, _, rfl, VT.rek rfl a2 _ rfl hpk, rfl⟩, rfl⟩
 refine (k16_holds hj1 hj4 (envA E w jb jn) w #[scV r um ta tn tc (some ⟨jb, 0, none⟩) jn jc pa pn pc] ⟨a1, by rw [eg]; exact (show (1700 : Nat) ≤ 4000 by decide), by rw [eh]; exact (show (2500000 : Nat) ≤ 20000000 by decide), args, fun r hr => absurd hr List.not_mem_nil, fun f hf => absurd hf List.not_mem_nil⟩).mono ?_
 rintro e w' ⟨rs, E4, rfl, aft, q, hq, hres, _, _⟩
 have frame : ∀ k, k < w.heap.size → E.S k = none → ¬ E.A k → w'.heap[k]? = w.heap[k]? := fun k hk h1 h2 => aft.keep k hk (by
  show dropA jb jn E.S k = none
  unfold dropA
  rw [if_neg (fun e => by rw [e, hs] at h1; cases h1), h1]) h2
 have shape : ∃ v0 v1, rs = [v0, v1] ∧ ((VT htN E4 (.ptr 59 false) v0) ∨ ∃ er, v1 = .int .i64 er ∧ er ≠ 0) ∧ (∃ wp, v0 = .pointer wp) ∧ ∃ er, v1 = .int .i64 er := by
  have ptr : ∀ {nul : Bool} {v : Value}, VT htN E4 (.ptr 59 nul) v → ∃ wp, v = .pointer wp := fun h => by
   rcases h with ⟨_, rfl⟩ | ⟨k, n, rfl, _⟩
   ·exact ⟨_, rfl⟩
   ·exact ⟨_, rfl⟩
  have hq : q = ps [.ptr 59 false, cB 0 0] ∨ q = ps [.ptr 59 true, cErr] ∨ q = ps [.ptr 59 true, cErm] := by simpa [k16, lowN, mkC] using hq
  rcases hq with rfl | rfl | rfl
  ·obtain ⟨v0, _, rfl, h0, v1, r1, rfl, ⟨er, rfl, e1, e2, _⟩, hz⟩ := hres
   exact ⟨v0, _, by rw [show r1 = [] from hz], .inl h0, ptr h0, er, rfl⟩
  ·obtain ⟨v0, _, rfl, h0, v1, r1, rfl, ⟨er, rfl, e1, e2, _⟩, hz⟩ := hres
   exact ⟨v0, _, by rw [show r1 = [] from hz], .inr ⟨er, rfl, by omega⟩, ptr h0, er, rfl⟩
  ·obtain ⟨v0, _, rfl, h0, v1, r1, rfl, ⟨er, rfl, e1, e2, _⟩, hz⟩ := hres
   exact ⟨v0, _, by rw [show r1 = [] from hz], .inr ⟨er, rfl, by omega⟩, ptr h0, er, rfl⟩
 obtain ⟨v0, v1, rfl, hc, ⟨wp, rfl⟩, er, rfl⟩ := shape
 refine ⟨wp, er, rfl, fun h0 => ?_, ⟨aft.os, aft.tape, aft.output⟩, aft.size, frame⟩
 rcases hc with hc | ⟨er', h1, h2⟩
 case inr => injection h1 with _ h1; exact absurd (h1 ▸ h0) h2
 rcases hc with ⟨h, _⟩ | ⟨b, nb, e1, hb⟩
 ·cases h
 injection e1 with e1; subst e1
 have hj4' := aft.S jb _ a3
 have hU : E4.U = (envA E w jb jn).U := aft.U
 have hjob : ∀ q, q < jn → w'.cell? ⟨jb, q * 4, none⟩ = some (.int .i64 (us q)) := fun q hq => by
  rw [World.cell?_of_block (aft.typ jb 2035 jn a3 (show 2035 ∉ nTm by decide))]
  exact hus q hq
 obtain ⟨s, tb, T, hst, hk, hk2⟩ := stageB (us := us) (m := jn) aft.heap (fun k τ n hk => by
  cases h2 : (envA E w jb jn).S k with
  | none => exact .inr (.inr (aft.new k τ n hk h2))
  | some t =>
   have := aft.S k t h2
   rw [hk] at this; injection this with this; subst this
   rcases a4 k τ n h2 with h | h
   ·exact .inl h
   ·exact .inr (.inl h)) hb hj4' hjob (fun n hn => by
  rw [hU] at hn
  obtain ⟨q, hq, hc⟩ := hn
  refine ⟨q, hq, ?_⟩
  rw [hus q hq] at hc
  injection hc with hc; injection hc)
 obtain ⟨pa', pn', pc', ep, ⟨_, hpn⟩, hps⟩ := hpk
 injection ep with ep1 ep2 ep3
 subst ep1; subst ep2; subst ep3
 refine ⟨b, jb, us, envB E4 b s tb T, tb, T, fun k hf => ?_, rfl, rfl, hj1, hj4, hjc, ?_, ?_, hst, ?_, ?_⟩
 ·obtain ⟨f1, f2, f3⟩ := hf
  have hne : k ≠ jb := fun e => by rw [e, hs] at f2; cases f2
  have h2 : (envA E w jb jn).S k = none := by
   show dropA jb jn E.S k = none
   unfold dropA
   rw [if_neg hne, f2]
  refine ⟨?_, fun h => f3 ((aft.old k f1).2 h), hne⟩
  cases h5 : (envB E4 b s tb T).S k with
  | none => rfl
  | some t =>
   have := hk2 k t h5
   rw [(aft.old k f1).1, h2] at this
   cases this
 ·have : pn ≤ E.h := by simpa [Bd.ev, dH] using hpn
  omega
 ·rcases hps with h | ⟨pb, j, ln, h1, h2, h3⟩
  ·exact .inl h
  ·exact .inr ⟨pb, j, ln, h1, hk _ _ _ rfl (aft.S _ _ (a2.S _ _ _ rfl h2)), h3⟩
 ·have : E4.g = 1700 + 0 := by rw [aft.g, eg]; rfl
  show E4.g ≤ 3980
  omega
 ·have : E4.h = (envA E w jb jn).h + ((k16 jn).ha * (envA E w jb jn).g + (k16 jn).hb) := aft.h
  have z1 : (k16 jn).ha = 0 := rfl
  have z2 : (k16 jn).hb = 0 := rfl
  rw [eh, z1, z2] at this
  show E4.h ≤ 23550000
  omega
/-! ### begun, walked -/
theorem cell_al {w : World} {o : Obj} {a : Addr} {v : Value} (h : w.cell? a = some v) : (w.alloc o).cell? a = some v := ((Below.refl w.heap.size w).alloc (Nat.le_refl _) o).cell (World.block_lt_of_cell? w a h) ▸ h
theorem below_set5 {w W : World} {g : Nat} (h : Below g w W) (v0 v1 v2 v3 v4 : Value) : Below g w (((((W.setCell ⟨g, 0, none⟩ v0).setCell ⟨g, 1, none⟩ v1).setCell ⟨g, 2, none⟩ v2).setCell ⟨g, 3, none⟩ v3).setCell ⟨g, 4, none⟩ v4) :=
 ((((h.setCell (p := ⟨g, 0, none⟩) (Nat.le_refl _) _).setCell (p := ⟨g, 1, none⟩) (Nat.le_refl _) _).setCell (p := ⟨g, 2, none⟩) (Nat.le_refl _) _).setCell (p := ⟨g, 3, none⟩) (Nat.le_refl _) _).setCell (p := ⟨g, 4, none⟩) (Nat.le_refl _) _
theorem put5 {W : World} {g : Nat} {a0 a1 a2 a3 a4 : Value} (h : W.heap[g]? = some (.cells #[a0, a1, a2, a3, a4] 27 (0, 0))) (v0 v1 v2 v3 v4 : Value) :
  (((((W.setCell ⟨g, 0, none⟩ v0).setCell ⟨g, 1, none⟩ v1).setCell ⟨g, 2, none⟩ v2).setCell ⟨g, 3, none⟩ v3).setCell ⟨g, 4, none⟩ v4).heap[g]? = some (.cells #[v0, v1, v2, v3, v4] 27 (0, 0)) :=
 blk_put (blk_put (blk_put (blk_put (blk_put h 0 v0 rfl) 1 v1 rfl) 2 v2 rfl) 3 v3 rfl) 4 v4 rfl
set_option maxHeartbeats 3200000 in
set_option maxRecDepth 100000 in
theorem begun_ok (text : ByteArray) (hbig : text.size ≤ 9223372036854775807) (w : World) : Calls Tryz.prog 5 #[.string text] w (BegunQ w) := by
 have bad : ∀ (r um : Int) (ta : Option Addr) (tn tc : Nat) (ja : Option Addr) (jn jc : Nat) (pa : Option Addr) (pn pc : Nat) (wp : Option Addr) (W : World), Below w.heap.size w W → BegunQ w (.returned (.tuple #[scV r um ta tn tc ja jn jc pa pn pc, .pointer wp, .bool false])) W := fun r um ta tn tc ja jn jc pa pn pc wp W hb => ⟨r, um, ta, tn, tc, ja, jn, jc, pa, pn, pc, wp, false, rfl, hb, fun h => by cases h⟩
 unfold scV at bad
 by_cases hlen : 1500 < text.size
 ·have h1 : decide ((1500 : Int) < (text.size : Int)) = true := by simp; omega
  go_enter Tryz.func5, Tryz.ntmps5
  go_wp2_with fail
  exact bodyPost_ret (v := .tuple #[.agg #[.int .i64 0, .int .i64 0, .slice none 0 0, .slice none 0 0, .slice none 0 0], .pointer none, .bool false]) (by simp [results, Tryz.results5, go_sem]) rfl (bad _ _ _ _ _ _ _ _ _ _ _ _ _ (below_alloc (Below.refl _ _) _))
 ·have h1 : decide ((1500 : Int) < (text.size : Int)) = false := by simp; omega
  have b0 := blk_new w (.cells #[.int .i64 0, .int .i64 0, .slice none 0 0, .slice none 0 0, .slice none 0 0] 27)
  have PO := Aside0.mk (parse_ok text (by omega) (w.alloc (.cells #[.int .i64 0, .int .i64 0, .slice none 0 0, .slice none 0 0, .slice none 0 0] 27)))
  have B0 := Aside0.mk b0
  clear b0
  go_enter Tryz.func5, Tryz.ntmps5
  go_wp2_with fail
  refine PO.out.mono ?_
  rintro e w1 ⟨r, um, ta, tn, tc, ja, jn, jc, pa, pn, pc, ln, er, E, rfl, hp, hn, hg, hh, hb, hfr, hr, hu, hjc, hgood⟩
  unfold scV
  have b0 := blk_below B0.out hb
  have hsz := hb.size
  rw [World.size_alloc] at hsz
  have HB := Aside0.mk ((below_alloc (Below.refl w.heap.size w) (.cells #[.int .i64 0, .int .i64 0, .slice none 0 0, .slice none 0 0, .slice none 0 0] 27)).trans (hb.mono (by rw [World.size_alloc]; omega)))
  have HX := Aside0.mk (And.intro hp (And.intro hn (And.intro hg (And.intro hh (And.intro hb (And.intro hfr (And.intro hr (And.intro hu (And.intro hjc hgood)))))))))
  have p := blk_cell b0
  have q := blk_frozen b0
  have pal := fun o => blk_cell (blk_alloc b0 o)
  have qal := fun o => blk_frozen (blk_alloc b0 o)
  clear hp hn hg hh hb hfr hr hu hjc hgood PO
  dsimp only
  by_cases he : er = 0
  case neg =>
   have he2 : (er != 0) = true := by simp [he]
   go_wp2_with fail
   have pf := blk_cell (put5 (blk_alloc b0 (.cells #[.int .i64 r, .int .i64 um, .slice ta tn tc, .slice ja jn jc, .slice pa pn pc] 27)) (.int .i64 r) (.int .i64 um) (.slice ta tn tc) (.slice ja jn jc) (.slice pa pn pc))
   exact bodyPost_ret (v := .tuple #[.agg #[.int .i64 r, .int .i64 um, .slice ta tn tc, .slice ja jn jc, .slice pa pn pc], .pointer none, .bool false]) (by simp [results, Tryz.results5, go_sem, pf]) rfl (bad _ _ _ _ _ _ _ _ _ _ _ _ _ (below_set5 (HB.out.alloc HB.out.size _) _ _ _ _ _))
  subst he
  by_cases hj0 : jn = 0
  ·subst hj0
   have hj2 : (((0 : Nat) : Int) == 0) = true := rfl
   go_wp2_with fail
   have pf := blk_cell (put5 (blk_alloc b0 (.cells #[.int .i64 r, .int .i64 um, .slice ta tn tc, .slice ja 0 jc, .slice pa pn pc] 27)) (.int .i64 r) (.int .i64 um) (.slice ta tn tc) (.slice ja 0 jc) (.slice pa pn pc))
   exact bodyPost_ret (v := .tuple #[.agg #[.int .i64 r, .int .i64 um, .slice ta tn tc, .slice ja 0 jc, .slice pa pn pc], .pointer none, .bool false]) (by simp [results, Tryz.results5, go_sem, pf]) rfl (bad _ _ _ _ _ _ _ _ _ _ _ _ _ (below_set5 (HB.out.alloc HB.out.size _) _ _ _ _ _))
  have hj2 : ((jn : Int) == 0) = false := by simp; omega
  by_cases hj4 : 4 < jn
  ·have hj3 : decide ((4 : Int) < (jn : Int)) = true := by simp; omega
   go_wp2_with fail
   have pf := blk_cell (put5 (blk_alloc b0 (.cells #[.int .i64 r, .int .i64 um, .slice ta tn tc, .slice ja jn jc, .slice pa pn pc] 27)) (.int .i64 r) (.int .i64 um) (.slice ta tn tc) (.slice ja jn jc) (.slice pa pn pc))
   exact bodyPost_ret (v := .tuple #[.agg #[.int .i64 r, .int .i64 um, .slice ta tn tc, .slice ja jn jc, .slice pa pn pc], .pointer none, .bool false]) (by simp [results, Tryz.results5, go_sem, pf]) rfl (bad _ _ _ _ _ _ _ _ _ _ _ _ _ (below_set5 (HB.out.alloc HB.out.size _) _ _ _ _ _))
  have hj3 : decide ((4 : Int) < (jn : Int)) = false := by simp; omega
  obtain ⟨hp, hn, hg, hh, hb, hfr, hr, hu, hjc, hgood⟩ := HX.out
  rcases hgood rfl with h | ⟨ht, ⟨_, h, _⟩ | ⟨jb, j, len, rfl, hs, h1j, h2j, hx⟩, hpk⟩
  ·exact absurd h hj0
  ·exact absurd h hj0
  have hj00 : j = 0 := hx.2 rfl
  subst hj00
  rw [Nat.zero_mul] at *
  obtain ⟨us, ls, hjobs⟩ := jobs_at (m := jn) hp (by decide) hs (by omega)
  have hjbl := (hp.dom jb _ hs).1
  have JO := Aside0.mk hjobs
  have HY := Aside0.mk (And.intro hp (And.intro hn (And.intro hg (And.intro hh (And.intro hr (And.intro hu (And.intro hjc (And.intro ht (And.intro hs (And.intro h2j (And.intro hpk (And.intro hb hfr))))))))))))
  have G0 := Aside0.mk hg
  clear hp hn hg hh hb hfr hr hu hjc hgood ht hs h1j h2j hx hpk hjobs HX
  go_wp2_with fail
  go_loopg [8] jn (fun gk i wr => ∃ k : Nat, k ≤ jn ∧ i = .int .i64 k ∧ jn ≤ k + gk ∧ wr = w1.alloc (.cells #[.int .i64 r, .int .i64 um, .slice ta tn tc, .slice (some ⟨jb, 0, none⟩) jn jc, .slice pa pn pc] 27) ∧ ∀ q, q < k → (ls q).2.1 ≤ 6)
  case atStart => exact ⟨0, Nat.zero_le _, rfl, by omega, rfl, fun q hq => by omega⟩
  case round =>
   obtain ⟨k, hk, rfl, hgk, rfl, hok⟩ := hrel
   have HG := Aside0.mk hgk
   have HO := Aside0.mk hok
   clear hgk hok
   by_cases hlt : k < jn
   ·obtain ⟨g', rfl⟩ : ∃ g', gk = g' + 1 := ⟨gk - 1, by have := HG.out; omega⟩
    have hlt2 : decide ((k : Int) < (jn : Int)) = true := by simp; omega
    obtain ⟨_, _, hc3, hb3⟩ := JO.out k hlt
    have c3 := cell_al (o := .cells #[.int .i64 r, .int .i64 um, .slice ta tn tc, .slice (some ⟨jb, 0, none⟩) jn jc, .slice pa pn pc] 27) hc3
    by_cases h6 : 6 < (ls k).2.1
    ·have h62 : decide ((6 : Int) < ((ls k).2.1 : Int)) = true := by simp; omega
     go_wp2_with fail
     have pf := blk_cell (put5 (blk_alloc b0 (.cells #[.int .i64 r, .int .i64 um, .slice ta tn tc, .slice (some ⟨jb, 0, none⟩) jn jc, .slice pa pn pc] 27)) (.int .i64 r) (.int .i64 um) (.slice ta tn tc) (.slice (some ⟨jb, 0, none⟩) jn jc) (.slice pa pn pc))
     exact bodyPost_ret (v := .tuple #[.agg #[.int .i64 r, .int .i64 um, .slice ta tn tc, .slice (some ⟨jb, 0, none⟩) jn jc, .slice pa pn pc], .pointer none, .bool false]) (by simp [results, Tryz.results5, go_sem, pf]) rfl (bad _ _ _ _ _ _ _ _ _ _ _ _ _ (below_set5 (HB.out.alloc HB.out.size _) _ _ _ _ _))
    ·have h62 : decide ((6 : Int) < ((ls k).2.1 : Int)) = false := by simp; omega
     go_wp2_with fail
     go_roundg g'
     case measure => have := HG.out; omega
     case rel => exact ⟨k + 1, by omega, by go_num, by have := HG.out; omega, rfl, fun q hq => by
      by_cases e : q = k
      ·subst e; omega
      ·exact HO.out q (by omega)⟩
   ·have hk2 : k = jn := by omega
    subst hk2
    have hlt2 : decide ((k : Int) < (k : Int)) = false := by simp
    obtain ⟨hp, hn, hg, hh, hr, hu, hjc, ht, hs, h2j, hpk, hb, hfr⟩ := HY.out
    have hba := below_alloc (Below.refl w1.heap.size w1) (.cells #[.int .i64 r, .int .i64 um, .slice ta tn tc, .slice (some ⟨jb, 0, none⟩) k jc, .slice pa pn pc] 27)
    have BO := Aside0.mk (begin_ok (us := us) (HeapOk.belowG hp hba) hn hg hh hr hu ht hs (by omega) (by omega) (by omega) hjc hpk (fun q A l c hq hc => by
     obtain ⟨_, _, h3, _⟩ := JO.out q hq
     have h3 := cell_al (o := .cells #[.int .i64 r, .int .i64 um, .slice ta tn tc, .slice (some ⟨jb, 0, none⟩) k jc, .slice pa pn pc] 27) h3
     rw [h3] at hc
     injection hc with hc
     injection hc with _ h _
     rw [← h]; exact HO.out q hq) (fun q hq => cell_al (JO.out q hq).1))
    have f0 : E.S w.heap.size = none ∧ ¬ E.A w.heap.size := hfr _ (by rw [World.size_alloc]; omega)
    have f1 : E.S w1.heap.size = none ∧ ¬ E.A w1.heap.size := ⟨by
     cases h : E.S w1.heap.size with
     | none => rfl
     | some t => have := (hp.dom _ _ h).1; omega, fun h => by have := hp.an _ h; omega⟩
    have F0 := Aside0.mk f0
    have F1 := Aside0.mk f1
    have hlt0 : w.heap.size < w1.heap.size := hsz
    clear hp hn hg hh hr hu hjc ht hs h2j hpk hb hfr hba f0 f1
    unfold scV at BO
    go_wp2_with fail
    refine BO.out.mono ?_
    rintro e w2 ⟨wp, er, rfl, hgd, ⟨ho1, ho2, ho3⟩, hsz2, hkp⟩
    rw [World.size_alloc] at hsz2
    have b1 := (hkp w.heap.size (by rw [World.size_alloc]; omega) F0.out.1 F0.out.2).trans (blk_alloc b0 _)
    have b2 := (hkp w1.heap.size (by rw [World.size_alloc]; omega) F1.out.1 F1.out.2).trans (blk_new w1 _)
    have HD := Aside0.mk hgd
    have HF := Aside0.mk (HY.out.2.2.2.2.2.2.2.2.2.2.2.2)
    have hbw := HB.out.alloc HB.out.size (.cells #[.int .i64 r, .int .i64 um, .slice ta tn tc, .slice (some ⟨jb, 0, none⟩) k jc, .slice pa pn pc] 27)
    have HB2 := Aside0.mk (show Below w.heap.size w w2 from ⟨ho1.trans hbw.os, ho2.trans hbw.tape, ho3.trans hbw.output, Nat.le_trans hbw.size (by rw [World.size_alloc]; exact hsz2), fun i hi => (hkp i (by rw [World.size_alloc]; omega) (HF.out i (by rw [World.size_alloc]; omega)).1 (HF.out i (by rw [World.size_alloc]; omega)).2).trans (hbw.block i hi)⟩)
    clear hkp hgd hbw ho1 ho2 ho3 p q pal qal BO
    have p := blk_cell b1
    have q := blk_frozen b1
    have p2 := blk_cell b2
    have q2 := blk_frozen b2
    dsimp only
    by_cases he : er = 0
    ·subst he
     have he2 : ((0 : Int) == 0) = true := rfl
     go_wp2_with fail
     have pb := put5 b1 (.int .i64 r) (.int .i64 um) (.slice ta tn tc) (.slice (some ⟨jb, 0, none⟩) k jc) (.slice pa pn pc)
     have pf := blk_cell pb
     refine bodyPost_ret (v := .tuple #[.agg #[.int .i64 r, .int .i64 um, .slice ta tn tc, .slice (some ⟨jb, 0, none⟩) k jc, .slice pa pn pc], .pointer wp, .bool true]) (by simp [results, Tryz.results5, go_sem, pf]) rfl ⟨r, um, ta, tn, tc, _, k, jc, pa, pn, pc, wp, true, rfl, below_set5 HB2.out _ _ _ _ _, fun _ => ?_⟩
     obtain ⟨b, jb', us', E5, tb, T, hfree, e1, e2, h1, h4, h5, h6, h7, hst, h8, h9⟩ := HD.out trivial
     have fr := hfree w.heap.size ⟨by rw [World.size_alloc]; omega, F0.out⟩
     have oth : ∀ i, i ≠ w.heap.size → (((((w2.setCell ⟨w.heap.size, 0, none⟩ (.int .i64 r)).setCell ⟨w.heap.size, 1, none⟩ (.int .i64 um)).setCell ⟨w.heap.size, 2, none⟩ (.slice ta tn tc)).setCell ⟨w.heap.size, 3, none⟩ (.slice (some ⟨jb, 0, none⟩) k jc)).setCell ⟨w.heap.size, 4, none⟩ (.slice pa pn pc)).heap[i]? = w2.heap[i]? := fun i hi => by
      rw [Below.heap_setCell _ _ _ i hi, Below.heap_setCell _ _ _ i hi, Below.heap_setCell _ _ _ i hi, Below.heap_setCell _ _ _ i hi, Below.heap_setCell _ _ _ i hi]
     refine ⟨b, jb', us', E5, tb, T, fun i hi => hfree i ⟨by rw [World.size_alloc]; omega, HF.out i (by rw [World.size_alloc]; omega)⟩, e1, e2, h1, h4, h5, h6, h7, hst.fr (by simp) (fun i hi => oth i (fun e => ?_)), h8, h9⟩
     subst e
     rcases hi with ⟨t, hi⟩ | hi | hi
     ·rw [fr.1] at hi; cases hi
     ·exact fr.2.1 hi
     ·exact fr.2.2 hi
    ·have he2 : (er == 0) = false := by simp [he]
     go_wp2_with fail
     have pf := blk_cell (put5 b1 (.int .i64 r) (.int .i64 um) (.slice ta tn tc) (.slice (some ⟨jb, 0, none⟩) k jc) (.slice pa pn pc))
     exact bodyPost_ret (v := .tuple #[.agg #[.int .i64 r, .int .i64 um, .slice ta tn tc, .slice (some ⟨jb, 0, none⟩) k jc, .slice pa pn pc], .pointer wp, .bool false]) (by simp [results, Tryz.results5, go_sem, pf]) rfl (bad _ _ _ _ _ _ _ _ _ _ _ _ _ (below_set5 HB2.out _ _ _ _ _))
/-! ### The round's law, plain; and which job is next -/
/-- What TopModes asks of a node that was x and is y. -/
theorem big_law {x y : Nd} (hx : 0 ≤ x.mode ∧ x.mode ≤ 4095) (hy : 0 ≤ y.mode ∧ y.mode ≤ 4095) (hg : y.gid = x.gid) (h : weak x.kind x.mode y.mode) :
  (x.gid != y.gid) = false ∧ (bitsV .or .i64 (bitsV .or .i64 x.mode 2048) 1024 != bitsV .or .i64 (bitsV .or .i64 y.mode 2048) 1024) = false ∧ (bitsV .or .i64 y.mode x.mode != x.mode) = false ∧ ((x.mode != y.mode) = true → (x.kind != 1) = false) := by
 obtain ⟨h1, h2, h3⟩ := h
 have lt : ∀ a b : Int, 0 ≤ a ∧ a ≤ 4095 → 0 ≤ b ∧ b ≤ 4095 → 0 ≤ bitsV .or .i64 a b ∧ bitsV .or .i64 a b ≤ 4095 := fun a b ha hb => by
  rw [or_nat a b ha hb]
  have : a.toNat ||| b.toNat < 2 ^ 12 := Nat.or_lt_two_pow (by omega) (by omega)
  omega
 have two : ∀ a : Int, 0 ≤ a ∧ a ≤ 4095 → bitsV .or .i64 (bitsV .or .i64 a 2048) 1024 = ((a.toNat ||| 3072 : Nat) : Int) := fun a ha => by
  rw [or_nat _ _ (lt _ _ ha (by decide)) (by decide), or_nat _ _ ha (by decide)]
  simp only [Int.toNat_natCast]
  rw [Nat.or_assoc]
  rfl
 refine ⟨by rw [hg]; simp, by rw [two _ hx, two _ hy, h1]; simp, by rw [or_nat _ _ hy hx, h2]; simp; omega, fun hne => ?_⟩
 rcases h3 with h3 | h3
 ·rw [h3] at hne; simp at hne
 ·rw [h3]; rfl
/-- Numbers that a slice leads to. -/
def PickOk (w : World) (pa : Option Addr) (pn : Nat) : Prop := ∀ q, q < pn → ∃ b o n, pa = some ⟨b, o, none⟩ ∧ w.cell? ⟨b, o + q, none⟩ = some (.int .i64 n) ∧ IntKind.i64.min ≤ n ∧ n ≤ IntKind.i64.max
theorem pick_of {E : Env} {w : World} {pa : Option Addr} {pn pc : Nat} (hp : HeapOk htT E w k8.fp) (h : SlOk htT E 1003 pa pn pc) : PickOk w pa pn := fun q hq => by
 rcases h with ⟨_, h, _⟩ | ⟨b, o, len, rfl, hs, h1, h2, _⟩
 ·omega
 have h := hp.ok b 1003 len hs (by decide)
 unfold HOk at h
 rw [show htT 1003 = .row 3 1 (cL [cI]) from rfl] at h
 obtain ⟨arr, a1, _, a3⟩ := h
 obtain ⟨v0, r, e, ⟨n0, rfl, _, _, g1, g2⟩, hr⟩ := a3 (o + q) (by omega)
 refine ⟨b, o, n0, (by rw [show o * (htT.ty 1003).size = o from Nat.mul_one o]), ?_, g1, g2⟩
 have e0 : ((arr.toList.drop ((o + q) * 1)).take 1)[0]? = some (.int .i64 n0) := by rw [e]; rfl
 rw [List.getElem?_take_of_lt (by decide), List.getElem?_drop, Array.getElem?_toList] at e0
 rw [cell_of a1, ← e0]; congr 1; omega
set_option maxHeartbeats 800000 in
set_option maxRecDepth 100000 in
theorem next9 (r um : Int) (ta : Option Addr) (tn tc : Nat) (ja : Option Addr) (jn jc : Nat) (pa : Option Addr) (pn pc k : Nat) (w : World) (hj : 1 ≤ jn) (hj4 : jn ≤ 4) (hpn : pn ≤ 3000000) (hk : k < 1500) (hp : PickOk w pa pn) :
  Calls Tryz.prog 9 #[scV r um ta tn tc ja jn jc pa pn pc, .int .i64 k] w fun e w' => ∃ n, e = .returned (.int .i64 n) ∧ (IntKind.i64.min ≤ n ∧ n ≤ IntKind.i64.max) ∧ Below w.heap.size w w' := by
 unfold scV
 by_cases hlt : k < pn
 ·have hlt2 : decide ((k : Int) < (pn : Int)) = true := by simp; omega
  obtain ⟨b, o, n, rfl, hc, h1, h2⟩ := hp k hlt
  have c := cell_al (o := .cells #[.int .i64 r, .int .i64 um, .slice ta tn tc, .slice ja jn jc, .slice (some ⟨b, o, none⟩) pn pc] 27) hc
  have HN := Aside0.mk (And.intro h1 h2)
  have b0 := blk_new w (.cells #[.int .i64 r, .int .i64 um, .slice ta tn tc, .slice ja jn jc, .slice (some ⟨b, o, none⟩) pn pc] 27)
  have p := blk_cell b0
  have q := blk_frozen b0
  clear hp h1 h2 b0 hc
  go_enter Tryz.func9, Tryz.ntmps9
  go_wp2_with fail
  go_ret
  exact ⟨n, rfl, HN.out, below_alloc (Below.refl _ _) _⟩
 ·have hlt2 : decide ((k : Int) < (pn : Int)) = false := by simp; omega
  have b0 := blk_new w (.cells #[.int .i64 r, .int .i64 um, .slice ta tn tc, .slice ja jn jc, .slice pa pn pc] 27)
  have p := blk_cell b0
  have q := blk_frozen b0
  have hz : ((jn : Int) == 0) = false := by simp; omega
  clear hp b0
  go_enter Tryz.func9, Tryz.ntmps9
  go_wp2_with fail
  go_ret
  have m1 : (0 : Int) ≤ (k : Int) % (jn : Int) := Int.emod_nonneg _ (by omega)
  have m2 : (k : Int) % (jn : Int) < (jn : Int) := Int.emod_lt_of_pos _ (by omega)
  exact ⟨_, rfl, ⟨by show (-9223372036854775808 : Int) ≤ _; omega, by show _ ≤ (9223372036854775807 : Int); omega⟩, below_alloc (Below.refl _ _) _⟩
/-! ### The round's frame -/
/-- What an unwritten call leaves. -/
theorem done7 (h7 : Hld k7) {w : World} {E : Env} {b tb jb m : Nat} {us : Nat → Int} {T : Tab} (h : Start w E b tb jb m us T) (hg : E.g ≤ 25000) (hh : E.h ≤ 550000000) :
  Calls Tryz.prog 7 #[.pointer (some ⟨b, 0, none⟩)] w fun e w' => ∃ r, e = .returned (.bool r) ∧ Below w.heap.size w w' := by
 obtain ⟨n, hb⟩ := h.sb
 have pre : k7.Pre htT E w #[.pointer (some ⟨b, 0, none⟩)].toList :=
  ⟨⟨fun k τ m hk hτ => h.hp.ok k τ m hk (List.mem_append_left _ (List.mem_append_left _ hτ)), h.hp.dom, h.hp.an⟩, by show E.g ≤ 30000; omega, by show E.h ≤ 600000000; omega, ⟨_, [], rfl, .inr ⟨b, n, rfl, hb⟩, rfl⟩, fun r hr => absurd hr List.not_mem_nil, fun q hq => absurd hq List.not_mem_nil⟩
 refine (h7 _ w _ pre).mono ?_
 rintro e w' ⟨rs, E', rfl, aft, q, hq, t1, _⟩
 have hq' : q = ps [.bool] := by simpa [k7, mkC] using hq
 subst hq'
 obtain ⟨v, r, rfl, ⟨x, rfl⟩, h2⟩ := t1
 rw [show r = [] from h2]
 refine ⟨x, rfl, aft.os, aft.tape, aft.output, aft.size, fun k hk => ?_⟩
 by_cases hA : E.A k
 ·exact aft.agr (by decide) k hA
 ·cases hS : E.S k with
  | none => exact aft.keep k hk hS hA
  | some t => exact aft.typ k t.1 t.2 hS List.not_mem_nil
/-- The world's table, told again. -/
theorem table_of {w : World} {E : Env} {b tb jb m : Nat} {us : Nat → Int} {T : Tab} (h : Start w E b tb jb m us T) :
  Calls Tryz.prog 6 #[.pointer (some ⟨b, 0, none⟩)] w fun e w' => e = .returned (.pointer (some ⟨w.heap.size, 0, none⟩)) ∧ TabAt w' w.heap.size (G.okc (fun k => E.A k ∧ k ≠ tb) w) T ∧ Below w.heap.size w w' := by
 obtain ⟨n, hb⟩ := h.sb
 obtain ⟨f, hT0⟩ := h.t0
 obtain ⟨arr, a1, v0, r0, a4, p0, _⟩ := box_of h.hp (τ := 59) (by decide) rfl hb
 rcases p0 with ⟨h, _⟩ | ⟨s, ns, rfl, hs⟩
 ·cases h
 obtain ⟨brr, b1, u0, q0, b4, t0, _⟩ := box_of h.hp (τ := 105) (by decide) rfl hs
 rcases t0 with ⟨h, _⟩ | ⟨g, nt, rfl, ht⟩
 ·cases h
 obtain ⟨f', T', q1, _⟩ : tO E 0 w g := h.hp.ok g 0 nt ht (by decide)
 rw [hT0] at q1; injection q1 with q1; injection q1 with q1 _
 subst q1
 exact table6 b s tb _ T w (by rw [blk_cell a1, ← Array.getElem?_toList, a4]; rfl) (by rw [blk_cell b1, ← Array.getElem?_toList, b4]; rfl) h.tab.1 (TabI.small h.tab)
/-- What TopModes holds from round to round: the world, its table, and the table as it was told last. -/
structure Top (n0 gs : Nat) (o : Obj) (w : World) (E : Env) (b tb jb m : Nat) (us : Nat → Int) (T : Tab) (gl : Nat) (Tl : Tab) (pa : Option Addr) (pn pc k : Nat) : Prop where
 st : Start w E b tb jb m us T
 law : LawT E.U (quads Tl) T
 free : ∀ i, i < n0 ∨ i = gs ∨ i = gl → E.S i = none ∧ ¬ E.A i ∧ i ≠ jb
 box : w.heap[gs]? = some o
 last : TabAt w gl (fun i => i ≠ gl ∧ i < w.heap.size ∧ ((E.A i ∧ i ≠ tb) ∨ (E.S i = none ∧ ¬ E.A i))) Tl
 small : ∀ i, i < 24 → RightZ (Tl.nd i)
 pick : SlOk htT E 1003 pa pn pc
 g : E.g ≤ 3980 + 14 * k
 h : E.h ≤ 23550000 + 350700 * k
theorem right_small {T : Tab} (h : ∀ i, i < 24 → RightZ (T.nd i)) : ∀ i, i < 24 → (T.nd i).data.length ≤ 1000 ∧ (T.nd i).ents.length ≤ 1000 := fun i hi => by
 rcases (h i hi).1 with h | h
 ·rw [h]; exact ⟨by decide, by decide⟩
 ·have := right_bounds h; omega
theorem Top.below {n0 gs : Nat} {o : Obj} {w w' : World} {E : Env} {b tb jb m : Nat} {us : Nat → Int} {T : Tab} {gl : Nat} {Tl : Tab} {pa : Option Addr} {pn pc k : Nat} (h : Top n0 gs o w E b tb jb m us T gl Tl pa pn pc k) (hb : Below w.heap.size w w') : Top n0 gs o w' E b tb jb m us T gl Tl pa pn pc k :=
 ⟨h.st.fr hb.size (fun i hi => hb.block i (by
  rcases hi with ⟨t, hi⟩ | hi | hi
  ·exact (h.st.hp.dom i t hi).1
  ·exact h.st.hp.an i hi
  ·rw [hi]; exact h.st.jl)), h.law, h.free, (hb.block gs (blk_lt h.box)).trans h.box, (h.last.below hb).mono (fun i hi => ⟨hi.1, Nat.lt_of_lt_of_le hi.2.1 hb.size, hi.2.2⟩) (fun i hi => hi.1), h.small, h.pick, h.g, h.h⟩
/-- The table is told. -/
theorem Top.first {n0 gs : Nat} {o : Obj} {w w' : World} {E : Env} {b tb jb m : Nat} {us : Nat → Int} {T : Tab} {pa : Option Addr} {pn pc k : Nat} (h : Start w E b tb jb m us T) (free : ∀ i, i < n0 ∨ i = gs → E.S i = none ∧ ¬ E.A i ∧ i ≠ jb) (box : w.heap[gs]? = some o) (pick : SlOk htT E 1003 pa pn pc) (g : E.g ≤ 3980 + 14 * k) (hh : E.h ≤ 23550000 + 350700 * k) (hb : Below w.heap.size w w') (hg : TabAt w' w.heap.size (G.okc (fun i => E.A i ∧ i ≠ tb) w) T) : Top n0 gs o w' E b tb jb m us T w.heap.size T pa pn pc k :=
 ⟨h.fr hb.size (fun i hi => hb.block i (by
  rcases hi with ⟨t, hi⟩ | hi | hi
  ·exact (h.hp.dom i t hi).1
  ·exact h.hp.an i hi
  ·rw [hi]; exact h.jl)), law_now _ _, fun i hi => by
  rcases hi with hi | hi | hi
  ·exact free i (.inl hi)
  ·exact free i (.inr hi)
  ·subst hi
   refine ⟨?_, fun hA => by have := h.hp.an _ hA; omega, fun e => by have := h.jl; omega⟩
   cases hS : E.S w.heap.size with
   | none => rfl
   | some t => have := (h.hp.dom _ t hS).1; omega, (hb.block gs (blk_lt box)).trans box, (G.TabAt.bound hg).mono (fun i hi => by
   obtain ⟨hi, hlt⟩ := hi
   rcases hi with ⟨⟨h1, h2⟩, h3⟩ | hi
   ·exact ⟨by omega, hlt, .inl ⟨h1, h2⟩⟩
   ·refine ⟨by omega, hlt, .inr ⟨?_, fun hA => by have := h.hp.an _ hA; omega⟩⟩
    cases hS : E.S i with
    | none => rfl
    | some t => have := (h.hp.dom _ t hS).1; omega) (fun i hi => hi.1), h.tab.2, pick, g, hh⟩
/-- The table is told anew. -/
theorem Top.next {n0 gs : Nat} {o : Obj} {w w' : World} {E : Env} {b tb jb m : Nat} {us : Nat → Int} {T : Tab} {gl : Nat} {Tl : Tab} {pa : Option Addr} {pn pc k : Nat} (h : Top n0 gs o w E b tb jb m us T gl Tl pa pn pc k) (hb : Below w.heap.size w w') (hg : TabAt w' w.heap.size (G.okc (fun i => E.A i ∧ i ≠ tb) w) T) : Top n0 gs o w' E b tb jb m us T w.heap.size T pa pn pc k :=
 Top.first h.st (fun i hi => h.free i (hi.imp id .inl)) h.box h.pick h.g h.h hb hg
/-- One step. -/
theorem Top.step (h8 : Hld k8) {n0 gs : Nat} {o : Obj} {w : World} {E : Env} {b tb jb m : Nat} {us : Nat → Int} {T : Tab} {gl : Nat} {pa : Option Addr} {pn pc k : Nat} (h : Top n0 gs o w E b tb jb m us T gl T pa pn pc k) (hn : n0 ≤ w.heap.size) (hk : k < 1500) (i : Int) (hi : IntKind.i64.min ≤ i ∧ i ≤ IntKind.i64.max) :
  Calls Tryz.prog 8 #[.pointer (some ⟨b, 0, none⟩), .int .i64 i] w fun e w' => ∃ r E' T', e = .returned (.bool r) ∧ Top n0 gs o w' E' b tb jb m us T' gl T pa pn pc (k + 1) ∧ Below n0 w w' := by
 obtain ⟨n, hb⟩ := h.st.sb
 obtain ⟨nt, hs⟩ := h.st.st
 obtain ⟨f, hT0⟩ := h.st.t0
 have hg := h.g
 have hh := h.h
 refine (step8 h8 h.st.hp hb hs hT0 h.st.a h.st.tab (by omega) (by omega) i hi).mono ?_
 rintro e w' ⟨r, E', T', rfl, hp, s1, s2, t0, a, ht, law, hU, eg, eh, hS, hA, o1, o2, o3, sz, keep⟩
 have free : ∀ i, i < n0 ∨ i = gs ∨ i = gl → (i < w.heap.size ∧ w'.heap[i]? = w.heap[i]?) ∧ E'.S i = none ∧ ¬ E'.A i ∧ i ≠ jb := fun i hi => by
  obtain ⟨f1, f2, f3⟩ := h.free i hi
  have hlt : i < w.heap.size := by
   rcases hi with hi | hi | hi
   ·omega
   ·rw [hi]; exact blk_lt h.box
   ·rw [hi]; exact h.last.lt
  obtain ⟨k1, k2, k3⟩ := keep i hlt f1 f2
  exact ⟨⟨hlt, k1⟩, k2, k3, f3⟩
 obtain ⟨j1, j2, j3⟩ := keep jb h.st.jl h.st.sj h.st.aj
 refine ⟨r, E', T', rfl, ⟨⟨hp, ⟨_, s1⟩, ⟨_, s2⟩, ⟨_, t0⟩, a, ht, j2, j3, Nat.lt_of_lt_of_le h.st.jl sz, fun q hq => by rw [World.cell?_of_block j1]; exact h.st.jobs q hq, fun n hn => h.st.u n (by rw [← hU]; exact hn)⟩, by rw [hU]; exact law, fun i hi => (free i hi).2, (free gs (.inr (.inl rfl))).1.2.trans h.box, ?_, h.st.tab.2, ?_, by omega, by omega⟩, o1, o2, o3, by omega, fun i hi => (free i (.inl hi)).1.2⟩
 ·have old : ∀ i, i < w.heap.size → ((E.A i ∧ i ≠ tb) ∨ (E.S i = none ∧ ¬ E.A i)) → w'.heap[i]? = w.heap[i]? ∧ ((E'.A i ∧ i ≠ tb) ∨ (E'.S i = none ∧ ¬ E'.A i)) := fun i hlt hi => by
   rcases hi with ⟨h1, h2⟩ | ⟨h1, h2⟩
   ·exact ⟨(hA i h1 h2).2, .inl ⟨(hA i h1 h2).1, h2⟩⟩
   ·exact ⟨(keep i hlt h1 h2).1, .inr (keep i hlt h1 h2).2⟩
  exact (h.last.step (free gl (.inr (.inr rfl))).1.2 (fun i hi hlt => (old i hi.2.1 hi.2.2).1)).mono (fun i hi => ⟨hi.1, Nat.lt_of_lt_of_le hi.2.1 sz, (old i hi.2.1 hi.2.2).2⟩) (fun i hi => hi.1)
 ·rcases h.pick with h | ⟨b, j, len, h1, h2, h3⟩
  ·exact .inl h
  ·exact .inr ⟨b, j, len, h1, hS b _ h2, h3⟩
/-- A node that both tables hold. -/
theorem Top.node {n0 gs : Nat} {o : Obj} {w : World} {E : Env} {b tb jb m : Nat} {us : Nat → Int} {T : Tab} {gl : Nat} {Tl : Tab} {pa : Option Addr} {pn pc k : Nat} (h : Top n0 gs o w E b tb jb m us T gl Tl pa pn pc k) (hus : ∀ q, q < m → us q ≠ 0) (i : Int) (h1 : live Tl i = true) (h2 : live T i = true) (h3 : ∀ q, q < m → us q ≠ (Tl.get i).uid) :
  ((Tl.get i).gid != (T.get i).gid) = false ∧ (bitsV .or .i64 (bitsV .or .i64 (Tl.get i).mode 2048) 1024 != bitsV .or .i64 (bitsV .or .i64 (T.get i).mode 2048) 1024) = false ∧ (bitsV .or .i64 (T.get i).mode (Tl.get i).mode != (Tl.get i).mode) = false ∧ (((Tl.get i).mode != (T.get i).mode) = true → ((Tl.get i).kind != 1) = false) := by
 have nU : ∀ n, (∀ q, q < m → us q ≠ n) → ¬ E.U n := fun n hn hu => by
  obtain ⟨q, hq, e⟩ := h.st.u n hu
  exact hn q hq e
 have e1 : Tl.get i = Tl.nd (i.toNat - 1) := by unfold G.Tab.get; rw [h1]; rfl
 have e2 : T.get i = T.nd (i.toNat - 1) := by unfold G.Tab.get; rw [h2]; rfl
 rw [e1] at h3
 rw [e1, e2]
 obtain ⟨l1, l2⟩ := law_end h.law (nU 0 hus) i h1 h2 (nU _ h3)
 have bd : ∀ {T : Tab}, (∀ i, i < 24 → RightZ (T.nd i)) → T.room ≤ 24 → live T i = true → 0 ≤ (T.nd (i.toNat - 1)).mode ∧ (T.nd (i.toNat - 1)).mode ≤ 4095 := fun {T} hr hroom hl => by
  have := G.live_lt hl
  rcases (hr (i.toNat - 1) (by omega)).1 with e | e
  ·rw [e]; decide
  ·have := right_bounds e; omega
 exact big_law (bd h.small h.last.r2 h1) (bd h.st.tab.2 h.st.tab.1.r2 h2) l1 l2
end Go.Proofs.YtbjhcjgniciooaaGreatDoor.E.Kt
namespace Go.Proofs.YtbjhcjgniciooaaGreatDoor.E.Kt
set_option linter.unusedVariables false
/-! ### All contracts hold -/
theorem aN : ∀ k ∈ ([] : List Con), Hld k := fun k h => absurd h List.not_mem_nil
theorem aC {a : Con} {l : List Con} (h : Hld a) (t : ∀ k ∈ l, Hld k) : ∀ k ∈ a :: l, Hld k := fun k hk => by
 rcases List.mem_cons.1 hk with rfl | hk
 ·exact h
 ·exact t k hk
theorem h_k145 : Hld k145 := chkK_ok c_k145 aN
theorem h_k202 : Hld k202 := chkK_ok c_k202 aN
theorem h_k204 : Hld k204 := chkK_ok c_k204 aN
theorem h_k342 : Hld k342 := chkK_ok c_k342 aN
theorem h_k341 : Hld k341 := chkK_ok c_k341 aN
theorem h_k312 : Hld k312 := chkK_ok c_k312 aN
theorem h_k313 : Hld k313 := chkK_ok c_k313 (aC k212_ok aN)
theorem h_k282 : Hld k282 := chkK_ok c_k282 (aC h_k312 (aC h_k313 aN))
theorem h_k328 : Hld k328 := chkK_ok c_k328 (aC h_k282 aN)
theorem h_hC_0_186 : Hld (hC 0 186) := chkK_ok c_hC_0_186 aN
theorem h_hC_1_240 : Hld (hC 1 240) := chkK_ok c_hC_1_240 (aC h_k282 aN)
theorem h_hC_1_314 : Hld (hC 1 314) := chkK_ok c_hC_1_314 (aC h_k328 aN)
theorem h_hC_1_336 : Hld (hC 1 336) := chkK_ok c_hC_1_336 (aC h_k282 (aC h_k328 (aC h_k341 (aC h_k342 aN))))
theorem h_hC_1_329 : Hld (hC 1 329) := chkK_ok c_hC_1_329 (aC h_k328 (aC h_hC_1_336 aN))
theorem h_hC_0_343 : Hld (hC 0 343) := chkK_ok c_hC_0_343 aN
theorem h_hC_1_349 : Hld (hC 1 349) := chkK_ok c_hC_1_349 (aC h_k282 (aC h_k328 aN))
theorem h_k389 : Hld k389 := chkK_ok c_k389 (aC h_hC_0_186 (aC h_hC_1_240 (aC h_hC_1_314 (aC h_hC_1_329 (aC h_hC_1_336 (aC h_hC_0_343 (aC h_hC_1_349 aN)))))))
theorem h_k283 : Hld k283 := chkK_ok c_k283 (aC h_k312 (aC h_k313 aN))
theorem h_k330 : Hld k330 := chkK_ok c_k330 (aC h_k283 aN)
theorem h_hF_0_189 : Hld (hF 0 189) := chkK_ok c_hF_0_189 aN
theorem h_hF_1_244 : Hld (hF 1 244) := chkK_ok c_hF_1_244 (aC h_k283 aN)
theorem h_hF_1_315 : Hld (hF 1 315) := chkK_ok c_hF_1_315 (aC h_k330 aN)
theorem h_hF_1_331 : Hld (hF 1 331) := chkK_ok c_hF_1_331 (aC h_k330 aN)
theorem h_hF_1_350 : Hld (hF 1 350) := chkK_ok c_hF_1_350 (aC h_k330 aN)
theorem h_hF_1_344 : Hld (hF 1 344) := chkK_ok c_hF_1_344 (aC h_k330 (aC h_k341 (aC h_k342 (aC h_hF_1_350 aN))))
theorem h_hF_1_337 : Hld (hF 1 337) := chkK_ok c_hF_1_337 (aC h_k330 (aC h_hF_1_344 aN))
theorem h_hF_1_354 : Hld (hF 1 354) := chkK_ok c_hF_1_354 (aC h_k283 (aC h_k330 aN))
theorem h_k390 : Hld k390 := chkK_ok c_k390 (aC h_hF_0_189 (aC h_hF_1_244 (aC h_hF_1_315 (aC h_hF_1_331 (aC h_hF_1_337 (aC h_hF_1_344 (aC h_hF_1_350 (aC h_hF_1_354 aN))))))))
theorem h_k235 : Hld k235 := chkK_ok c_k235 aN
theorem h_hM_1_180 : Hld (hM 1 180) := chkK_ok c_hM_1_180 (aC h_k235 aN)
theorem h_k280 : Hld k280 := chkK_ok c_k280 aN
theorem h_k279 : Hld k279 := chkK_ok c_k279 aN
theorem h_k136 : Hld k136 := chkK_ok c_k136 aN
theorem h_k278 : Hld k278 := chkK_ok c_k278 (aC h_k136 aN)
theorem h_k236 : Hld k236 := chkK_ok c_k236 (aC h_k278 (aC h_k279 (aC h_k280 aN)))
theorem h_hM_1_185 : Hld (hM 1 185) := chkK_ok c_hM_1_185 (aC h_k236 aN)
theorem h_hM_1_238 : Hld (hM 1 238) := chkK_ok c_hM_1_238 aN
theorem h_hM_1_326 : Hld (hM 1 326) := chkK_ok c_hM_1_326 (aC h_k235 aN)
theorem h_hM_1_307 : Hld (hM 1 307) := chkK_ok c_hM_1_307 (aC h_k236 (aC h_hM_1_326 aN))
theorem h_hM_1_327 : Hld (hM 1 327) := chkK_ok c_hM_1_327 (aC h_hM_1_326 aN)
theorem h_k388 : Hld k388 := chkK_ok c_k388 (aC h_hM_1_180 (aC h_hM_1_185 (aC h_k235 (aC h_hM_1_238 (aC h_hM_1_307 (aC h_hM_1_326 (aC h_hM_1_327 aN)))))))
theorem h_k271 : Hld k271 := chkK_ok c_k271 aN
theorem h_hD_0_172 : Hld (hD 0 172) := chkK_ok c_hD_0_172 (aC h_k271 aN)
theorem h_k303 : Hld k303 := chkK_ok c_k303 aN
theorem h_hD_1_273 : Hld (hD 1 273) := chkK_ok c_hD_1_273 (aC h_k236 (aC h_k271 (aC h_k303 aN)))
theorem h_hD_1_304 : Hld (hD 1 304) := chkK_ok c_hD_1_304 (aC h_k271 aN)
theorem h_k333 : Hld k333 := chkK_ok c_k333 (aC h_k312 (aC k338_ok aN))
theorem h_hD_2_322 : Hld (hD 2 322) := chkK_ok c_hD_2_322 (aC h_k271 (aC h_k333 aN))
theorem h_k386 : Hld k386 := chkK_ok c_k386 (aC h_hD_0_172 (aC h_hD_1_273 (aC h_hD_1_304 (aC h_hD_2_322 aN))))
theorem h_hO_0_232 : Hld (hO 0 232) := chkK_ok c_hO_0_232 (aC h_k271 aN)
theorem h_hO_1_305 : Hld (hO 1 305) := chkK_ok c_hO_1_305 (aC h_k271 (aC h_k303 aN))
theorem h_hO_1_324 : Hld (hO 1 324) := chkK_ok c_hO_1_324 (aC h_k271 aN)
theorem h_hO_2_334 : Hld (hO 2 334) := chkK_ok c_hO_2_334 (aC h_k271 (aC h_k333 aN))
theorem h_k387 : Hld k387 := chkK_ok c_k387 (aC h_hO_0_232 (aC h_hO_1_305 (aC h_hO_1_324 (aC h_hO_2_334 aN))))
theorem h_k167 : Hld k167 := chkK_ok c_k167 aN
theorem h_k178 : Hld k178 := chkK_ok c_k178 aN
theorem h_k169 : Hld k169 := chkK_ok c_k169 (aC h_k178 aN)
theorem h_k171 : Hld k171 := chkK_ok c_k171 (aC h_k136 aN)
theorem h_k87 : Hld k87 := chkK_ok c_k87 aN
theorem h_k183 : Hld k183 := chkK_ok c_k183 aN
theorem h_k28 : Hld k28 := chkK_ok c_k28 aN
theorem h_k299 : Hld k299 := chkK_ok c_k299 aN
theorem h_k300 : Hld k300 := chkK_ok c_k300 (aC h_k136 aN)
theorem h_k270 : Hld k270 := chkK_ok c_k270 (aC h_k299 (aC h_k300 aN))
theorem h_k229 : Hld k229 := chkK_ok c_k229 (aC h_k28 (aC h_k270 aN))
theorem h_k168 : Hld k168 := chkK_ok c_k168 (aC h_k87 (aC h_k229 aN))
theorem h_k241 : Hld k241 := chkK_ok c_k241 (aC h_k236 aN)
theorem h_k187 : Hld k187 := chkK_ok c_k187 (aC h_k168 (aC h_k241 aN))
theorem h_k233 : Hld k233 := chkK_ok c_k233 aN
theorem h_k188 : Hld k188 := chkK_ok c_k188 (aC h_k233 aN)
theorem h_k175 : Hld k175 := chkK_ok c_k175 (aC h_k233 aN)
theorem h_k146 : Hld k146 := chkK_ok c_k146 (aC h_k175 (aC h_k188 aN))
theorem h_k170 : Hld k170 := chkK_ok c_k170 aN
theorem h_k104 : Hld k104 := chkK_ok c_k104 (aC h_k167 (aC h_k168 (aC h_k169 (aC h_k170 (aC h_k171 aN)))))
theorem h_k106 : Hld k106 := chkK_ok c_k106 (aC h_k146 (aC h_k167 (aC h_k169 (aC h_k170 (aC h_k171 aN)))))
theorem h_k108 : Hld k108 := chkK_ok c_k108 (aC h_k167 (aC h_k169 (aC h_k170 (aC h_k171 (aC h_k175 aN)))))
theorem h_k110 : Hld k110 := chkK_ok c_k110 (aC h_k167 (aC h_k168 (aC h_k169 (aC h_k178 aN))))
theorem h_k112 : Hld k112 := chkK_ok c_k112 (aC h_k167 (aC h_k168 (aC h_k169 (aC h_k183 aN))))
theorem h_k114 : Hld k114 := chkK_ok c_k114 (aC h_k167 (aC h_k169 aN))
theorem h_k116 : Hld k116 := chkK_ok c_k116 (aC h_k167 (aC h_k175 (aC h_k178 (aC h_k187 (aC h_k188 aN)))))
theorem h_k35 : Hld k35 := chkK_ok c_k35 (aC h_k104 (aC h_k106 (aC h_k108 (aC h_k110 (aC h_k112 (aC h_k114 (aC h_k116 aN)))))))
theorem h_rpK_141_getD_0_k7 : Hld ((rpK 141).getD 0 k7) := chkK_ok c_rpK_141_getD_0_k7 aN
theorem h_rpK_141_getD_1_k7 : Hld ((rpK 141).getD 1 k7) := chkK_ok c_rpK_141_getD_1_k7 aN
theorem h_rpK_270_getD_0_k7 : Hld ((rpK 270).getD 0 k7) := chkK_ok c_rpK_270_getD_0_k7 aN
theorem h_rpK_337_getD_0_k7 : Hld ((rpK 337).getD 0 k7) := chkK_ok c_rpK_337_getD_0_k7 aN
theorem h_rpK_288_getD_0_k7 : Hld ((rpK 288).getD 0 k7) := chkK_ok c_rpK_288_getD_0_k7 aN
theorem h_rpK_294_getD_0_k7 : Hld ((rpK 294).getD 0 k7) := chkK_ok c_rpK_294_getD_0_k7 aN
theorem h_rpK_298_getD_0_k7 : Hld ((rpK 298).getD 0 k7) := chkK_ok c_rpK_298_getD_0_k7 aN
theorem h_rpK_141_getD_2_k7 : Hld ((rpK 141).getD 2 k7) := chkK_ok c_rpK_141_getD_2_k7 (aC h_rpK_141_getD_0_k7 (aC h_rpK_270_getD_0_k7 (aC h_rpK_337_getD_0_k7 (aC h_rpK_288_getD_0_k7 (aC h_rpK_294_getD_0_k7 (aC h_rpK_298_getD_0_k7 aN))))))
theorem h_rpK_270_getD_1_k7 : Hld ((rpK 270).getD 1 k7) := chkK_ok c_rpK_270_getD_1_k7 aN
theorem h_rpK_270_getD_2_k7 : Hld ((rpK 270).getD 2 k7) := chkK_ok c_rpK_270_getD_2_k7 (aC h_rpK_141_getD_0_k7 (aC h_rpK_270_getD_0_k7 (aC h_rpK_337_getD_0_k7 (aC h_rpK_288_getD_0_k7 (aC h_rpK_294_getD_0_k7 (aC h_rpK_298_getD_0_k7 aN))))))
theorem h_rpK_337_getD_1_k7 : Hld ((rpK 337).getD 1 k7) := chkK_ok c_rpK_337_getD_1_k7 aN
theorem h_rpK_337_getD_2_k7 : Hld ((rpK 337).getD 2 k7) := chkK_ok c_rpK_337_getD_2_k7 (aC h_rpK_141_getD_0_k7 (aC h_rpK_270_getD_0_k7 (aC h_rpK_337_getD_0_k7 (aC h_rpK_288_getD_0_k7 (aC h_rpK_294_getD_0_k7 (aC h_rpK_298_getD_0_k7 aN))))))
theorem h_rpK_288_getD_1_k7 : Hld ((rpK 288).getD 1 k7) := chkK_ok c_rpK_288_getD_1_k7 aN
theorem h_rpK_288_getD_2_k7 : Hld ((rpK 288).getD 2 k7) := chkK_ok c_rpK_288_getD_2_k7 (aC h_rpK_141_getD_0_k7 (aC h_rpK_270_getD_0_k7 (aC h_rpK_337_getD_0_k7 (aC h_rpK_288_getD_0_k7 (aC h_rpK_294_getD_0_k7 (aC h_rpK_298_getD_0_k7 aN))))))
theorem h_rpK_294_getD_1_k7 : Hld ((rpK 294).getD 1 k7) := chkK_ok c_rpK_294_getD_1_k7 aN
theorem h_rpK_294_getD_2_k7 : Hld ((rpK 294).getD 2 k7) := chkK_ok c_rpK_294_getD_2_k7 (aC h_rpK_141_getD_0_k7 (aC h_rpK_270_getD_0_k7 (aC h_rpK_337_getD_0_k7 (aC h_rpK_288_getD_0_k7 (aC h_rpK_294_getD_0_k7 (aC h_rpK_298_getD_0_k7 aN))))))
theorem h_rpK_298_getD_1_k7 : Hld ((rpK 298).getD 1 k7) := chkK_ok c_rpK_298_getD_1_k7 aN
theorem h_rpK_298_getD_2_k7 : Hld ((rpK 298).getD 2 k7) := chkK_ok c_rpK_298_getD_2_k7 (aC h_rpK_141_getD_0_k7 (aC h_rpK_270_getD_0_k7 (aC h_rpK_337_getD_0_k7 (aC h_rpK_288_getD_0_k7 (aC h_rpK_294_getD_0_k7 (aC h_rpK_298_getD_0_k7 aN))))))
theorem h_k384 : Hld k384 := chkK_ok c_k384 aN
theorem h_k21 : Hld k21 := chkK_ok c_k21 (aC h_k35 (aC h_rpK_141_getD_0_k7 (aC h_rpK_270_getD_0_k7 (aC h_rpK_337_getD_0_k7 (aC h_rpK_288_getD_0_k7 (aC h_rpK_294_getD_0_k7 (aC h_rpK_298_getD_0_k7 (aC h_rpK_141_getD_1_k7 (aC h_rpK_270_getD_1_k7 (aC h_rpK_337_getD_1_k7 (aC h_rpK_288_getD_1_k7 (aC h_rpK_294_getD_1_k7 (aC h_rpK_298_getD_1_k7 (aC h_rpK_141_getD_2_k7 (aC h_rpK_270_getD_2_k7 (aC h_rpK_337_getD_2_k7 (aC h_rpK_288_getD_2_k7 (aC h_rpK_294_getD_2_k7 (aC h_rpK_298_getD_2_k7 (aC h_k384 (aC h_k386 (aC h_k387 (aC h_k388 (aC h_k389 (aC h_k390 aN)))))))))))))))))))))))))
theorem h_k191 : Hld k191 := chkK_ok c_k191 (aC k11_ok (aC h_k136 aN))
theorem h_k196 : Hld k196 := chkK_ok c_k196 aN
theorem h_k121 : Hld k121 := chkK_ok c_k121 (aC k11_ok (aC h_k196 aN))
theorem h_k200 : Hld k200 := chkK_ok c_k200 (aC k11_ok (aC k124_ok aN))
theorem h_k147 : Hld k147 := chkK_ok c_k147 (aC k212b_ok aN)
theorem h_k119 : Hld k119 := chkK_ok c_k119 (aC k11_ok (aC h_k121 (aC h_k147 (aC h_k191 (aC k194_ok aN)))))
theorem h_k127 : Hld k127 := chkK_ok c_k127 (aC h_k119 (aC h_k200 aN))
theorem h_k201 : Hld k201 := chkK_ok c_k201 aN
theorem h_k128 : Hld k128 := chkK_ok c_k128 (aC h_k201 aN)
theorem h_k77 : Hld k77 := chkK_ok c_k77 (aC k11_ok (aC h_k121 (aC h_k127 (aC h_k128 aN))))
theorem h_k101 : Hld k101 := chkK_ok c_k101 aN
theorem h_k208 : Hld k208 := chkK_ok c_k208 aN
theorem h_k140 : Hld k140 := chkK_ok c_k140 (aC k11_ok (aC h_k119 aN))
theorem h_k138 : Hld k138 := chkK_ok c_k138 (aC h_k121 (aC h_k140 aN))
theorem h_k139 : Hld k139 := chkK_ok c_k139 (aC k11_ok (aC k102_ok (aC k102m_ok (aC h_k208 aN))))
theorem h_k142 : Hld k142 := chkK_ok c_k142 aN
theorem h_k141 : Hld k141 := chkK_ok c_k141 (aC k194_ok aN)
theorem h_k78 : Hld k78 := chkK_ok c_k78 (aC k11_ok (aC k102_ok (aC k102m_ok (aC h_k119 (aC h_k202 (aC h_k204 aN))))))
theorem h_k84 : Hld k84 := chkK_ok c_k84 (aC k11_ok (aC k102_ok (aC k102m_ok (aC h_k119 (aC h_k145 (aC h_k202 (aC h_k204 aN)))))))
theorem h_k79 : Hld k79 := chkK_ok c_k79 (aC k10_ok (aC k11_ok (aC k61_ok (aC h_k101 (aC k102_ok (aC k102m_ok (aC h_k119 (aC h_k121 (aC k126_ok (aC k205_ok aN))))))))))
theorem h_k80 : Hld k80 := chkK_ok c_k80 (aC k10_ok (aC k11_ok (aC k61_ok (aC h_k101 (aC k102_ok (aC k102m_ok (aC h_k119 (aC h_k121 (aC k126_ok (aC h_k136 (aC k205_ok aN)))))))))))
theorem h_k120 : Hld k120 := chkK_ok c_k120 (aC k10_ok (aC k11_ok (aC k61_ok (aC h_k101 (aC k102_ok (aC k102m_ok (aC h_k119 (aC h_k121 (aC k126_ok (aC k205_ok aN))))))))))
theorem h_k72 : Hld k72 := chkK_ok c_k72 (aC k124_ok (aC k126_ok aN))
theorem h_k81 : Hld k81 := chkK_ok c_k81 (aC h_k72 (aC h_k138 (aC h_k139 aN)))
theorem h_k82 : Hld k82 := chkK_ok c_k82 (aC k126_ok (aC h_k138 (aC h_k139 aN)))
theorem h_k76 : Hld k76 := chkK_ok c_k76 (aC k11_ok (aC h_k127 aN))
theorem h_k70 : Hld k70 := chkK_ok c_k70 (aC k11_ok aN)
theorem h_k71 : Hld k71 := chkK_ok c_k71 (aC k11_ok (aC k102_ok (aC k102m_ok (aC h_k145 aN))))
theorem h_k73 : Hld k73 := chkK_ok c_k73 aN
theorem h_k83 : Hld k83 := chkK_ok c_k83 (aC k11_ok (aC h_k72 (aC h_k101 (aC k102_ok (aC k102m_ok (aC h_k121 (aC h_k138 (aC h_k139 (aC h_k140 (aC h_k141 (aC h_k142 aN)))))))))))
theorem h_k68 : Hld k68 := chkK_ok c_k68 (aC k11_ok (aC k102_ok (aC k102m_ok (aC h_k119 (aC h_k120 (aC h_k121 (aC h_k145 aN)))))))
theorem h_k36 : Hld k36 := chkK_ok c_k36 aN
theorem h_k38 : Hld k38 := chkK_ok c_k38 (aC h_k68 aN)
theorem h_sC_39 : Hld (sC 39) := chkK_ok c_sC_39 (aC h_k70 aN)
theorem h_sC_40 : Hld (sC 40) := chkK_ok c_sC_40 (aC h_k71 aN)
theorem h_sC_41 : Hld (sC 41) := chkK_ok c_sC_41 (aC h_k72 (aC h_k73 aN))
theorem h_sC_42 : Hld (sC 42) := chkK_ok c_sC_42 aN
theorem h_sC_43 : Hld (sC 43) := chkK_ok c_sC_43 (aC h_sC_41 aN)
theorem h_sC_44 : Hld (sC 44) := chkK_ok c_sC_44 (aC h_k76 (aC h_k77 (aC h_k127 aN)))
theorem h_k45 : Hld k45 := chkK_ok c_k45 (aC h_k73 (aC h_k78 (aC h_k79 (aC h_k80 (aC h_k81 (aC h_k82 (aC h_k83 (aC h_k84 aN))))))))
theorem h_k22 : Hld k22 := chkK_ok c_k22 (aC h_k36 (aC h_k38 (aC h_sC_39 (aC h_sC_40 (aC h_sC_41 (aC h_sC_42 (aC h_sC_43 (aC h_sC_44 (aC h_k45 aN)))))))))
theorem h_k7 : Hld k7 := chkK_ok c_k7 aN
theorem h_k8 : Hld k8 := chkK_ok c_k8 (aC h_k21 (aC h_k22 aN))
end Go.Proofs.YtbjhcjgniciooaaGreatDoor.E.Kt
