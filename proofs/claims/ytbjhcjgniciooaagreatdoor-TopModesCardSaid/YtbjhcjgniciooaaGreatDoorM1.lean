/- TopModes: a part of the proof, merged. -/
import Derived.IntWalk
import Derived.Laws.StructEq
import Derived.WalkSpells
import Derived.Test.YtbjhcjgniciooaaGreatDoorM0
namespace Go.Proofs.YtbjhcjgniciooaaGreatDoor.E
set_option linter.unusedVariables false
set_option linter.unusedSimpArgs false
section
variable {HT : Th}
theorem M.newD {E : Env} {st : St} {w : World} (h : M HT E st w) (k : Blk) (i : Int) (v : Value) (a : Nat) (hk : BlkOk HT (E.fr i v a) w E.n k) (hc : k.solid = false) : M HT (E.fr i v a) (st.newB k) w := by
 have h' := h.fr i v a
 have bget : ∀ b z, (st.newB k).bk.get b = some z → (b = st.nx ∧ z = k) ∨ (b ≠ st.nx ∧ st.bk.get b = some z) := fun b z hz => by
  have hz : (st.bk.set st.nx k).get b = some z := hz
  rw [PT.get_set] at hz
  by_cases hb : b = st.nx
  ·rw [if_pos hb] at hz; injection hz with hz; exact .inl ⟨hb, hz.symm⟩
  ·rw [if_neg hb] at hz; exact .inr ⟨hb, hz⟩
 refine ⟨h'.nx, h'.g, h'.cs, h'.vt, h'.vs, fun b z hb => ?_, fun b b' z z' hb hb' hs hs' hβ => ?_, h'.heap, h'.dom, h'.an, h'.bt, h'.born, h'.md, fun b τ => ?_, h'.gh⟩
 ·rcases bget b z hb with ⟨rfl, rfl⟩ | ⟨_, hb⟩
  ·rw [← h.nx]; exact ⟨hk, Nat.lt_succ_self _⟩
  ·exact h'.bk b z hb
 ·rcases bget b z hb with ⟨e1, e2⟩ | ⟨hne, gb⟩
  ·rw [e2, hc] at hs; cases hs
  ·rcases bget b' z' hb' with ⟨e3, e4⟩ | ⟨hne', gb'⟩
   ·rw [e4, hc] at hs'; cases hs'
   ·exact h'.inj b b' z z' gb gb' hs hs' hβ
 ·have ho : (b, τ) ∈ (st.newB k).op ↔ (b, τ) ∈ st.op := Iff.rfl
  rw [ho, h.op b τ]
  constructor
  ·rintro ⟨el, cs, f, hb⟩
   have : b ≠ st.nx := by have := (h.bk _ _ hb).2; rw [h.nx] at this; omega
   exact ⟨el, cs, f, by show (st.bk.set st.nx k).get b = _; rw [PT.get_set, if_neg this]; exact hb⟩
  ·rintro ⟨el, cs, f, hb⟩
   rcases bget b _ hb with ⟨rfl, he⟩ | ⟨_, hb⟩
   ·rw [← he] at hc; cases hc
   ·exact ⟨el, cs, f, hb⟩
/-- A new number between two. -/
def St.newI (st : St) (lo hi : Lin) : St := (st.fr.know ((Lin.v st.nx).sub lo)).know (hi.sub (Lin.v st.nx))
theorem Up.newI {E : Env} {st : St} {w : World} (h : M HT E st w) {lo hi : Lin} (i : Int) (h1 : lo.ev E.ρ ≤ i) (h2 : i ≤ hi.ev E.ρ) (b1 : lo.below E.n) (b2 : hi.below E.n) :
  Up HT E st w (E.fr i (.bool false) 0) (st.newI lo hi) := by
 have e := E.fr_ext i (.bool false) 0
 have hn : (E.fr i (.bool false) 0).ρ st.nx = i := by rw [← h.nx]; simp
 have bn : (Lin.v st.nx).below (E.fr i (.bool false) 0).n := below_v (by rw [← h.nx]; exact Nat.lt_succ_self _)
 have m1 := (h.fr i (.bool false) 0).know (c := (Lin.v st.nx).sub lo) (by rw [Lin.ev_sub, Lin.ev_v, hn, e.ev b1]; omega) (below_sub bn (b1.mono e.n))
 have m2 := m1.know (c := hi.sub (Lin.v st.nx)) (by rw [Lin.ev_sub, Lin.ev_v, hn, e.ev b2]; omega) (below_sub (b2.mono e.n) bn)
 exact ⟨e, m2, rfl, rfl, rfl, rfl, E.fr_sam i (.bool false) 0⟩
/-- A fact more. -/
def St.fact (st : St) (t : Nat) (vs : List AV) : St := { st with gh := (t, vs) :: st.gh }
theorem M.fact {E : Env} {st : St} {w : World} (h : M HT E st w) {t : Nat} {as : List AV} {vs : List Value} (hv : Vs HT E as vs) (hf : HT.F E t w vs) : M HT E (st.fact t as) w :=
 ⟨h.nx, h.g, h.cs, h.vt, h.vs, h.bk, h.inj, h.heap, h.dom, h.an, h.bt, h.born, h.md, h.op, fun f hf' => by
  rcases List.mem_cons.1 hf' with rfl | hf'
  ·exact ⟨vs, hv, hf⟩
  ·exact h.gh f hf'⟩
theorem Up.fact {E : Env} {st : St} {w : World} (h : M HT E st w) {t : Nat} {as : List AV} {vs : List Value} (hv : Vs HT E as vs) (hf : HT.F E t w vs) : Up HT E st w E (st.fact t as) := ⟨Ext.refl E, h.fact hv hf, rfl, rfl, rfl, rfl, Sam.refl E⟩
mutual
def inst : CT → St → AV × St
 | .int k lo hi, st => if lo = hi then (.int k (.k lo), st) else if lo = k.min ∧ hi = k.max then (.int k (.v st.nx), st.fr) else (.int k (.v st.nx), st.newI (.k lo) (.k hi))
 | .uid, st => (.int .i64 (.v st.nx), st.fr.fact 0 [.int .i64 (.v st.nx)])
 | .bool, st => (.cond (.ge ((Lin.v st.nx).addk (-1))), st.newI (.k 0) (.k 1))
 | .str lo d, st => (.strv (.v st.nx), st.newI (.k lo) (st.bd d))
 | .sl τ lo d, st => (.tsl τ (.v st.nx), st.newI (.k lo) (st.bd d))
 | .ptr τ nul, st => if nul then (.var st.nx, st.newV (.ptr τ nul)) else (.ptr st.nx 0, st.newB (.sealed τ))
 | .map τ nul, st => if nul then (.var st.nx, st.newV (.map τ nul)) else (.map st.nx, st.newB (.sealed τ))
 | .fn nul fs, st => (.var st.nx, st.newV (.fn nul fs))
 | .iface nul ts, st => (.var st.nx, st.newV (.iface nul ts))
 | .agg cs, st => match insts cs st with | (l, st') => (.agg l, st')
def insts : CTs → St → List AV × St
 | .nil, st => ([], st)
 | .cons t ts, st => match inst t st with | (a, st1) => match insts ts st1 with | (l, st2) => (a :: l, st2)
end
theorem inst_v {E : Env} {st : St} {w : World} (h : M HT E st w) {t : CT} {v : Value} (hv : VT HT E t v) : ∃ E', Up HT E st w E' (st.newV t) ∧ V HT E' (.var st.nx) v :=
 ⟨E.fr 0 v 0, ⟨E.fr_ext _ _ _, h.newV hv 0 0, rfl, rfl, rfl, rfl, E.fr_sam _ _ _⟩, by rw [← h.nx]; exact ⟨by simp, Nat.lt_succ_self _⟩⟩
theorem inst_p {E : Env} {st : St} {w : World} (h : M HT E st w) {τ k n : Nat} (hs : E.S k = some (τ, n)) : ∃ E', Up HT E st w E' (st.newB (.sealed τ)) ∧ E'.β st.nx = k ∧ st.nx < E'.n :=
 ⟨E.fr 0 (.bool false) k, ⟨E.fr_ext _ _ _, h.newD _ 0 _ k ⟨n, by simpa using hs, .inr (.inr (by rw [show (E.fr 0 (.bool false) k).κ E.n = 0 by simp [Env.fr]]; exact Nat.zero_le _))⟩ rfl, rfl, rfl, rfl, rfl, E.fr_sam _ _ _⟩, by rw [← h.nx]; simp, by rw [← h.nx]; exact Nat.lt_succ_self _⟩
mutual
theorem inst_ok : ∀ (t : CT) {E : Env} {st : St} {w : World} {v : Value}, M HT E st w → VT HT E t v → ∃ E', Up HT E st w E' (inst t st).2 ∧ V HT E' (inst t st).1 v
 | .int k lo hi, E, st, w, _, h, ⟨n, rfl, h1, h2, h3⟩ => by
  unfold inst
  split
  ·rename_i e
   exact ⟨E, Up.refl h, by simp only [V, Lin.ev_k]; exact ⟨by rw [show n = lo by omega], below_k _ _, by rw [show lo = n by omega]; exact h3⟩⟩
  split
  ·have hv : V HT (E.fr n (.bool false) 0) (.int k (.v st.nx)) (.int k n) := by
    rw [← h.nx]; simp only [V, Lin.ev_v, Env.fr_ρ]; exact ⟨trivial, below_v (Nat.lt_succ_self _), h3⟩
   exact ⟨_, Up.fr h n (.bool false) 0, hv⟩
  ·exact ⟨_, Up.newI h n (by simpa using h1) (by simpa using h2) (below_k _ _) (below_k _ _), by rw [← h.nx]; simp only [V, Lin.ev_v, Env.fr_ρ]; exact ⟨trivial, below_v (Nat.lt_succ_self _), h3⟩⟩
 | .uid, E, st, w, _, h, ⟨n, rfl, h1, h2⟩ => by
  unfold inst
  have hv : V HT (E.fr n (.bool false) 0) (.int .i64 (.v st.nx)) (.int .i64 n) := by
   rw [← h.nx]; simp only [V, Lin.ev_v, Env.fr_ρ]; exact ⟨trivial, below_v (Nat.lt_succ_self _), h2⟩
  have u := Up.fr h n (.bool false) 0
  exact ⟨_, u.trans (Up.fact u.m (vs := [.int .i64 n]) ⟨_, _, rfl, hv, rfl⟩ (HT.F_uid.2 h1)), hv⟩
 | .bool, E, st, w, _, h, ⟨b, rfl⟩ => by
  unfold inst
  refine ⟨_, Up.newI h (if b then 1 else 0) (by simp; split <;> decide) (by simp; split <;> decide) (below_k _ _) (below_k _ _), ?_⟩
  rw [← h.nx]
  refine ⟨?_, below_addk (below_v (Nat.lt_succ_self _)) _⟩
  simp only [Cnd.holds, Lin.ev_addk, Lin.ev_v, Env.fr_ρ]
  cases b <;> rfl
 | .str lo d, E, st, w, _, h, ⟨s, rfl, hl, hs⟩ => by
  unfold inst
  exact ⟨_, Up.newI h s.size (by rw [Lin.ev_k]; exact_mod_cast hl) (by rw [ev_bd h]; exact_mod_cast hs) (below_k _ _) (below_bd h _), by rw [← h.nx]; exact ⟨s, rfl, by simp, below_v (Nat.lt_succ_self _)⟩⟩
 | .sl τ lo d, E, st, w, _, h, ⟨ad, m, c, rfl, ⟨hl, hm⟩, ho⟩ => by
  unfold inst
  exact ⟨_, Up.newI h m (by rw [Lin.ev_k]; exact_mod_cast hl) (by rw [ev_bd h]; exact_mod_cast hm) (below_k _ _) (below_bd h _), by rw [← h.nx]; exact ⟨ad, m, c, rfl, by simp, below_v (Nat.lt_succ_self _), ho.ext (E.fr_ext _ _ _)⟩⟩
 | .ptr τ nul, E, st, w, v, h, hv => by
  unfold inst
  cases nul with
  | true => exact inst_v h hv
  | false =>
   rcases hv with ⟨e, _⟩ | ⟨k, n, rfl, hs⟩
   ·cases e
   ·obtain ⟨E', h1, h2, h3⟩ := inst_p h hs
    exact ⟨E', h1, by simp only [Bool.false_eq_true, if_false, V, h2]; exact ⟨trivial, h3⟩⟩
 | .map τ nul, E, st, w, v, h, hv => by
  unfold inst
  cases nul with
  | true => exact inst_v h hv
  | false =>
   rcases hv with ⟨e, _⟩ | ⟨k, n, rfl, hs⟩
   ·cases e
   ·obtain ⟨E', h1, h2, h3⟩ := inst_p h hs
    exact ⟨E', h1, by simp only [Bool.false_eq_true, if_false, V, h2]; exact ⟨trivial, h3⟩⟩
 | .fn nul fs, E, st, w, v, h, hv => inst_v h hv
 | .iface nul ts, E, st, w, v, h, hv => inst_v h hv
 | .agg cs, E, st, w, v, h, ⟨vs, e, hv⟩ => by
  obtain ⟨E', h1, h2⟩ := insts_ok cs h hv
  exact ⟨E', h1, vs, e, h2⟩
theorem insts_ok : ∀ (ts : CTs) {E : Env} {st : St} {w : World} {vs : List Value}, M HT E st w → VTs HT E ts vs → ∃ E', Up HT E st w E' (insts ts st).2 ∧ Vs HT E' (insts ts st).1 vs
 | .nil, E, st, w, vs, h, hv => ⟨E, Up.refl h, hv⟩
 | .cons t ts, E, st, w, vs, h, ⟨v, r, e, h1, h2⟩ => by
  obtain ⟨E1, u1, v1⟩ := inst_ok t h h1
  obtain ⟨E2, u2, v2⟩ := insts_ok ts u1.m (VTs.ext HT u1.ext ts h2)
  exact ⟨E2, u1.trans u2, v, r, e, V.ext HT u2.ext _ v1, v2⟩
end
end
end Go.Proofs.YtbjhcjgniciooaaGreatDoor.E
namespace Go.Proofs.YtbjhcjgniciooaaGreatDoor.E
set_option linter.unusedVariables false
set_option linter.unusedSimpArgs false
/-! ### Numbers -/
theorem wrap_in (k : IntKind) (n : Int) (h1 : k.min ≤ n) (h2 : n ≤ k.max) : k.wrap n = n := by
 cases k
 ·exact IntWalk.i8_in n ⟨h1, h2⟩
 ·exact IntWalk.i16_in n ⟨h1, h2⟩
 ·exact IntWalk.i32_in n ⟨h1, h2⟩
 ·exact IntWalk.i64_in n ⟨h1, h2⟩
 ·exact IntWalk.u8_in n ⟨h1, h2⟩
 ·exact IntWalk.u16_in n ⟨h1, h2⟩
 ·exact IntWalk.u32_in n ⟨h1, h2⟩
 ·exact IntWalk.u64_in n ⟨h1, h2⟩
theorem wrap_range (k : IntKind) (n : Int) : k.min ≤ k.wrap n ∧ k.wrap n ≤ k.max := by
 have e7 : (2:Int)^(8-1) = 128 := rfl
 have e8 : (2:Int)^8 = 256 := rfl
 have e15 : (2:Int)^(16-1) = 32768 := rfl
 have e16 : (2:Int)^16 = 65536 := rfl
 have e31 : (2:Int)^(32-1) = 2147483648 := rfl
 have e32 : (2:Int)^32 = 4294967296 := rfl
 have e63 : (2:Int)^(64-1) = 9223372036854775808 := rfl
 have e64 : (2:Int)^64 = 18446744073709551616 := rfl
 unfold IntKind.wrap IntKind.min IntKind.max
 cases k <;> simp only [IntKind.bits, IntKind.signed, Bool.true_and, Bool.false_and, Bool.false_eq_true, if_true, if_false, e7, e8, e15, e16, e31, e32, e63, e64, decide_eq_true_eq] <;> (try split) <;> omega
theorem min_nonpos (k : IntKind) : k.min ≤ 0 := by cases k <;> decide
theorem max_nonneg (k : IntKind) : 0 ≤ k.max := by cases k <;> decide
def St.ge (st : St) (e : Lin) : Bool := proves st.cs 2 e || proves st.cs 4 e || provesN st.cs 9 e
def St.dec (st : St) : Cnd → Option Bool
 | .ge e => if st.ge e then some true else if st.ge ((e.sc (-1)).addk (-1)) then some false else none
 | .eq e => if st.ge e then (if st.ge (e.sc (-1)) then some true else if st.ge (e.addk (-1)) then some false else none) else if st.ge ((e.sc (-1)).addk (-1)) then some false else none
 | .ne e => if st.ge e then (if st.ge (e.sc (-1)) then some false else if st.ge (e.addk (-1)) then some true else none) else if st.ge ((e.sc (-1)).addk (-1)) then some true else none
section
variable {HT : Th} {E : Env} {st : St} {w : World}
theorem M.ge (h : M HT E st w) {e : Lin} (hp : st.ge e = true) : 0 ≤ e.ev E.ρ := by
 simp only [St.ge, Bool.or_eq_true] at hp
 rcases hp with (hp | hp) | hp
 ·exact proves_sound h.knows _ e hp
 ·exact proves_sound h.knows _ e hp
 ·exact provesN_sound h.knows _ e hp
theorem M.dec (h : M HT E st w) {c : Cnd} {b : Bool} (hd : st.dec c = some b) : c.holds E.ρ = b := by
 cases c with
 | ge e =>
  simp only [St.dec] at hd
  split at hd
  ·rename_i g; injection hd with hd; have := h.ge g; rw [← hd]; simp [Cnd.holds, this]
  ·split at hd
   ·rename_i g; injection hd with hd; have := h.ge g; rw [← hd]; simp only [Lin.ev_addk, Lin.ev_sc] at this; simp [Cnd.holds]; omega
   ·cases hd
 | eq e =>
  simp only [St.dec] at hd
  split at hd
  ·rename_i g
   have g1 := h.ge g
   split at hd
   ·rename_i g2; injection hd with hd; have := h.ge g2; rw [← hd]; simp only [Lin.ev_addk, Lin.ev_sc] at this; simp [Cnd.holds]; omega
   ·split at hd
    ·rename_i g2; injection hd with hd; have := h.ge g2; rw [← hd]; simp only [Lin.ev_addk, Lin.ev_sc] at this; simp [Cnd.holds]; omega
    ·cases hd
  ·split at hd
   ·rename_i g; injection hd with hd; have := h.ge g; rw [← hd]; simp only [Lin.ev_addk, Lin.ev_sc] at this; simp [Cnd.holds]; omega
   ·cases hd
 | ne e =>
  simp only [St.dec] at hd
  split at hd
  ·rename_i g
   have g1 := h.ge g
   split at hd
   ·rename_i g2; injection hd with hd; have := h.ge g2; rw [← hd]; simp only [Lin.ev_addk, Lin.ev_sc] at this; simp [Cnd.holds]; omega
   ·split at hd
    ·rename_i g2; injection hd with hd; have := h.ge g2; rw [← hd]; simp only [Lin.ev_addk, Lin.ev_sc] at this; simp [Cnd.holds]; omega
    ·cases hd
  ·split at hd
   ·rename_i g; injection hd with hd; have := h.ge g; rw [← hd]; simp only [Lin.ev_addk, Lin.ev_sc] at this; simp [Cnd.holds]; omega
   ·cases hd
/-- A condition that holds: what it tells; none: it can't. -/
def St.assume (st : St) (c : Cnd) : Option St :=
 match st.dec c with
 | some true => some st
 | some false => none
 | none => match c with
  | .ge e => some (st.know e)
  | .eq e => some ((st.know e).know (e.sc (-1)))
  | .ne e => if st.ge e then some (st.know (e.addk (-1))) else if st.ge (e.sc (-1)) then some (st.know ((e.sc (-1)).addk (-1))) else some st
theorem M.assume (h : M HT E st w) {c : Cnd} (hb : c.lin.below E.n) (hc : c.holds E.ρ = true) : ∃ st', st.assume c = some st' ∧ Up HT E st w E st' := by
 unfold St.assume
 split
 ·exact ⟨_, rfl, Up.refl h⟩
 ·rename_i hd; rw [h.dec hd] at hc; cases hc
 ·cases c with
  | ge e =>
   have : 0 ≤ e.ev E.ρ := by simpa [Cnd.holds] using hc
   exact ⟨_, rfl, Up.know h this hb⟩
  | eq e =>
   have : e.ev E.ρ = 0 := by simpa [Cnd.holds] using hc
   have u := Up.know h (c := e) (by omega) hb
   exact ⟨_, rfl, u.trans (Up.know u.m (by rw [Lin.ev_sc]; omega) (below_sc hb _))⟩
  | ne e =>
   have : e.ev E.ρ ≠ 0 := by simpa [Cnd.holds] using hc
   dsimp only
   split
   ·rename_i g
    have := h.ge g
    exact ⟨_, rfl, Up.know h (by rw [Lin.ev_addk]; omega) (below_addk hb _)⟩
   ·split
    ·rename_i g
     have := h.ge g
     rw [Lin.ev_sc] at this
     exact ⟨_, rfl, Up.know h (by rw [Lin.ev_addk, Lin.ev_sc]; omega) (below_addk (below_sc hb _) _)⟩
    ·exact ⟨_, rfl, Up.refl h⟩
def mkC (st : St) (c : Cnd) : AV := match st.dec c with | some b => .bool b | none => .cond c
theorem mkC_ok (h : M HT E st w) {c : Cnd} (hb : c.lin.below E.n) : V HT E (mkC st c) (.bool (c.holds E.ρ)) := by
 unfold mkC
 split
 ·rename_i b hd; rw [h.dec hd]; rfl
 ·exact ⟨rfl, hb⟩
/-- A new bool of which nothing is known. -/
def newC (st : St) : AV × St := (.cond (.ge ((Lin.v st.nx).addk (-1))), st.newI (.k 0) (.k 1))
theorem newC_ok (h : M HT E st w) (b : Bool) : ∃ E', Up HT E st w E' (newC st).2 ∧ V HT E' (newC st).1 (.bool b) := inst_ok .bool h ⟨b, rfl⟩
/-- A new number of a kind, between two. -/
def rng (st : St) (k : IntKind) (lo hi : Lin) : AV × St := (.int k (.v st.nx), st.newI lo hi)
theorem rng_ok (h : M HT E st w) (k : IntKind) {lo hi : Lin} (i : Int) (h1 : lo.ev E.ρ ≤ i) (h2 : i ≤ hi.ev E.ρ) (b1 : lo.below E.n) (b2 : hi.below E.n) (h3 : k.min ≤ i) (h4 : i ≤ k.max) :
  ∃ E', Up HT E st w E' (rng st k lo hi).2 ∧ V HT E' (rng st k lo hi).1 (.int k i) ∧ E'.ρ st.nx = i :=
 ⟨_, Up.newI h i h1 h2 b1 b2, by unfold rng; rw [← h.nx]; exact ⟨by simp, below_v (Nat.lt_succ_self _), by simpa using h3, by simpa using h4⟩, by rw [← h.nx]; simp⟩
def anyI (st : St) (k : IntKind) : AV × St := rng st k (.k k.min) (.k k.max)
theorem anyI_ok (h : M HT E st w) (k : IntKind) (i : Int) (h3 : k.min ≤ i) (h4 : i ≤ k.max) : ∃ E', Up HT E st w E' (anyI st k).2 ∧ V HT E' (anyI st k).1 (.int k i) := by
 obtain ⟨E', h1, h2, _⟩ := rng_ok (lo := .k k.min) (hi := .k k.max) h k i (by simpa using h3) (by simpa using h4) (below_k _ _) (below_k _ _) h3 h4
 exact ⟨E', h1, h2⟩
def mkI (st : St) (k : IntKind) (e : Lin) : AV × St :=
 if e.ts.isEmpty then (.int k (.k (k.wrap e.c)), st)
 else if st.ge (e.addk (-k.min)) && st.ge ((e.sc (-1)).addk k.max) then (.int k e, st)
 else anyI st k
theorem ev_const {e : Lin} (h : e.ts.isEmpty = true) (ρ : Nat → Int) : e.ev ρ = e.c := by
 unfold Lin.ev; rw [List.isEmpty_iff.1 h]; simp [Lin.evT]
theorem mkI_ok (h : M HT E st w) (k : IntKind) {e : Lin} (hb : e.below E.n) : ∃ E', Up HT E st w E' (mkI st k e).2 ∧ V HT E' (mkI st k e).1 (.int k (k.wrap (e.ev E.ρ))) := by
 unfold mkI
 split
 ·rename_i he
  refine ⟨E, Up.refl h, ?_, below_k _ _, ?_⟩
  ·rw [ev_const he, Lin.ev_k]
  ·rw [Lin.ev_k]; exact wrap_range _ _
 ·split
  ·rename_i hg
   simp only [Bool.and_eq_true] at hg
   have h1 := h.ge hg.1
   have h2 := h.ge hg.2
   rw [Lin.ev_addk] at h1
   rw [Lin.ev_addk, Lin.ev_sc] at h2
   have h3 : k.min ≤ e.ev E.ρ := by omega
   have h4 : e.ev E.ρ ≤ k.max := by omega
   exact ⟨E, Up.refl h, by rw [wrap_in k _ h3 h4], hb, h3, h4⟩
  ·exact anyI_ok h k _ (wrap_range _ _).1 (wrap_range _ _).2
/-! ### Bits -/
def bitsV (op : BinOp) (k : IntKind) (x y : Int) : Int :=
 let a := BitVec.ofInt k.bits x
 let b := BitVec.ofInt k.bits y
 match op with
 | .and => k.wrap (a &&& b).toNat
 | .or => k.wrap (a ||| b).toNat
 | .xor => k.wrap (a ^^^ b).toNat
 | _ => k.wrap (a &&& ~~~b).toNat
theorem intBits_run (op : BinOp) (k : IntKind) (x y : Int) (P : Program) (w : World) (h : op = .and ∨ op = .or ∨ op = .xor ∨ op = .andNot) :
  (Op.intBits op k x y).run P w = .ok (.int k (bitsV op k x y)) w := by
 rcases h with rfl | rfl | rfl | rfl <;> rfl
theorem bitsV_range (op : BinOp) (k : IntKind) (x y : Int) : k.min ≤ bitsV op k x y ∧ bitsV op k x y ≤ k.max := by
 unfold bitsV
 dsimp only
 split <;> exact wrap_range _ _
/-- And a small number: no more than it. -/
theorem and_le (k : IntKind) (x m : Int) (h0 : 0 ≤ m) (hm : m ≤ k.max) : 0 ≤ bitsV .and k x m ∧ bitsV .and k x m ≤ m := by
 have hb : (BitVec.ofInt k.bits m).toNat = m.toNat := by
  rw [BitVec.toNat_ofInt]
  have : m < (2 ^ k.bits : Nat) := by
   refine Int.lt_of_le_of_lt hm ?_
   cases k <;> decide
  rw [Int.emod_eq_of_lt h0 this]
 have hle : (BitVec.ofInt k.bits x &&& BitVec.ofInt k.bits m).toNat ≤ m.toNat := by
  rw [BitVec.toNat_and, hb]; exact Nat.and_le_right
 unfold bitsV
 dsimp only
 have := min_nonpos k
 rw [wrap_in k _ (by omega) (by omega)]
 omega
theorem and_4095 (x : Int) (h0 : 0 ≤ x) (h1 : x ≤ 4095) : bitsV .and .i64 x 4095 = x := by
 have hx : (BitVec.ofInt 64 x).toNat = x.toNat := by
  rw [BitVec.toNat_ofInt]
  rw [Int.emod_eq_of_lt h0 (by have : ((2 ^ 64 : Nat) : Int) = 18446744073709551616 := by decide
                               omega)]
 unfold bitsV
 show IntKind.i64.wrap (BitVec.ofInt 64 x &&& BitVec.ofInt 64 4095).toNat = x
 have : (BitVec.ofInt 64 x &&& BitVec.ofInt 64 4095).toNat = x.toNat := by
  rw [BitVec.toNat_and, hx, show (BitVec.ofInt 64 4095).toNat = 2 ^ 12 - 1 from by decide, Nat.and_two_pow_sub_one_eq_mod]
  omega
 rw [this, Int.toNat_of_nonneg h0]
 exact wrap_in .i64 x (by show (-9223372036854775808 : Int) ≤ x; omega) (by show x ≤ (9223372036854775807 : Int); omega)
theorem andNot_le (x c : Int) (h0 : 0 ≤ x) (h1 : x ≤ 4095) : 0 ≤ bitsV .andNot .i64 x c ∧ bitsV .andNot .i64 x c ≤ x := by
 have hx : (BitVec.ofInt 64 x).toNat = x.toNat := by
  rw [BitVec.toNat_ofInt]
  rw [Int.emod_eq_of_lt h0 (by have : ((2 ^ 64 : Nat) : Int) = 18446744073709551616 := by decide
                               omega)]
 have hle : (BitVec.ofInt 64 x &&& ~~~BitVec.ofInt 64 c).toNat ≤ x.toNat := by
  rw [BitVec.toNat_and, hx]; exact Nat.and_le_left
 show 0 ≤ IntKind.i64.wrap (BitVec.ofInt 64 x &&& ~~~BitVec.ofInt 64 c).toNat ∧ IntKind.i64.wrap (BitVec.ofInt 64 x &&& ~~~BitVec.ofInt 64 c).toNat ≤ x
 rw [wrap_in .i64 _ (by show (-9223372036854775808 : Int) ≤ _; omega) (by show _ ≤ (9223372036854775807 : Int); omega)]
 omega
theorem fdiv_range (k : IntKind) (x : Int) (n : Nat) (h1 : k.min ≤ x) (h2 : x ≤ k.max) : k.min ≤ x.fdiv (2 ^ n) ∧ x.fdiv (2 ^ n) ≤ k.max ∧ (0 ≤ x → 0 ≤ x.fdiv (2 ^ n) ∧ x.fdiv (2 ^ n) ≤ x) := by
 have hp : (0 : Int) < 2 ^ n := Int.pow_pos (by decide)
 rw [Int.fdiv_eq_ediv_of_nonneg _ (Int.le_of_lt hp)]
 have a := min_nonpos k
 have b := max_nonneg k
 by_cases hx : 0 ≤ x
 ·have h3 := Int.ediv_nonneg hx (Int.le_of_lt hp)
  have h4 := Int.ediv_le_self (2 ^ n) hx
  exact ⟨by omega, by omega, fun _ => ⟨h3, h4⟩⟩
 ·have h3 : x ≤ x / 2 ^ n := by
   have : x * 2 ^ n ≤ x * 1 := Int.mul_le_mul_of_nonpos_left (by omega) (by omega)
   exact (Int.le_ediv_iff_mul_le hp).2 (by omega)
  have h4 : x / 2 ^ n < 0 := Int.ediv_neg_of_neg_of_pos (by omega) hp
  exact ⟨by omega, by omega, fun h => absurd h hx⟩
end
end Go.Proofs.YtbjhcjgniciooaaGreatDoor.E
namespace Go.Proofs.YtbjhcjgniciooaaGreatDoor.E
set_option linter.unusedVariables false
set_option linter.unusedSimpArgs false
section
variable {HT : Th} {E : Env} {st : St} {w : World}
/-- One outcome that asks nothing of the world. -/
def One (HT : Th) (E : Env) (st : St) (w : World) (f : World → Result Value) (r : AV × St) : Prop :=
 ∃ v, (∀ w', f w' = .ok v w') ∧ ∃ E', Up HT E st w E' r.2 ∧ V HT E' r.1 v
theorem One.same (h : M HT E st w) {f : World → Result Value} {a : AV} {v : Value} (hf : ∀ w', f w' = .ok v w') (hv : V HT E a v) : One HT E st w f (a, st) :=
 ⟨v, hf, E, Up.refl h, hv⟩
/-- A letter that is told to be a number's part, whole. -/
def divF (st : St) (a : Lin) (d : Int) : List Lin → Option Nat
 | [] => none
 | c :: r => match a.sub c with
  | ⟨n, [(x, k)]⟩ => if n == 0 && k == d && st.ge c && st.ge ((((Lin.v x).sc d).addk (d - 1)).sub a) then some x else divF st a d r
  | _ => divF st a d r
def bopI (st : St) (op : BinOp) (k : IntKind) (a b : Lin) : Option (AV × St) :=
 match op with
 | .add => some (mkI st k (a.add b))
 | .sub => some (mkI st k (a.sub b))
 | .mul => if a.ts.isEmpty then some (mkI st k (b.sc a.c)) else if b.ts.isEmpty then some (mkI st k (a.sc b.c)) else some (anyI st k)
 | .and =>
  if a.ts.isEmpty && b.ts.isEmpty then some (.int k (.k (bitsV .and k a.c b.c)), st)
  else if b.ts.isEmpty && b.c == 4095 && k == .i64 && st.ge a && st.ge ((Lin.k 4095).sub a) then some (.int k a, st)
  else if b.ts.isEmpty && decide (0 ≤ b.c) && decide (b.c ≤ k.max) then some (rng st k (.k 0) (.k b.c))
  else some (anyI st k)
 | .or => if a.ts.isEmpty && b.ts.isEmpty then some (.int k (.k (bitsV .or k a.c b.c)), st) else some (anyI st k)
 | .xor => if a.ts.isEmpty && b.ts.isEmpty then some (.int k (.k (bitsV .xor k a.c b.c)), st) else some (anyI st k)
 | .andNot => if a.ts.isEmpty && b.ts.isEmpty then some (.int k (.k (bitsV .andNot k a.c b.c)), st)
  else if b.ts.isEmpty && (b.c == 2048 || b.c == 1024) && k == .i64 && st.ge a && st.ge ((Lin.k 4095).sub a) then match rng st k (.k 0) a with
   | (r, s) => some (r, s.fact 1 [.int .i64 (.k 1), .int .i64 a, .int .i64 (.v st.nx)])
  else some (anyI st k)
 | .quo =>
  if b.ts.isEmpty && decide (0 < b.c) then
   if a.ts.isEmpty then some (.int k (.k (k.wrap (a.c.tdiv b.c))), st)
   else if st.ge a then match rng st k (.k 0) a with
    | (q, s) => some (q, (s.know (a.sub ((Lin.v st.nx).sc b.c))).know ((((Lin.v st.nx).sc b.c).addk (b.c - 1)).sub a))
   else some (anyI st k)
  else none
 | .rem =>
  if a.ts.isEmpty && b.ts.isEmpty && decide (0 < b.c) then some (.int k (.k (a.c.tmod b.c)), st)
  else if st.ge (b.addk (-1)) && st.ge a then
   if b.ts.isEmpty then match divF st a b.c st.cs with
    | some x => some (.int k (a.sub ((Lin.v x).sc b.c)), st)
    | none => some (rng st k (.k 0) (b.addk (-1)))
   else some (rng st k (.k 0) (b.addk (-1)))
  else none
 | .eql => some (mkC st (.eq (a.sub b)), st)
 | .neq => some (mkC st (.ne (a.sub b)), st)
 | .lss => some (mkC st (.ge ((b.sub a).addk (-1))), st)
 | .leq => some (mkC st (.ge (b.sub a)), st)
 | .gtr => some (mkC st (.ge ((a.sub b).addk (-1))), st)
 | .geq => some (mkC st (.ge (a.sub b)), st)
 | _ => none
theorem tmod_abs (n : Nat) (y : Int) : 0 ≤ (n : Int).tmod y ∧ (n : Int).tmod y ≤ n := by
 cases y with
 | ofNat m =>
  show 0 ≤ ((n % m : Nat) : Int) ∧ ((n % m : Nat) : Int) ≤ n
  have := Nat.mod_le n m
  omega
 | negSucc m =>
  show 0 ≤ ((n % (m + 1) : Nat) : Int) ∧ ((n % (m + 1) : Nat) : Int) ≤ n
  have := Nat.mod_le n (m + 1)
  omega
theorem tmod_range (k : IntKind) (x y : Int) (hx : k.min ≤ x) (hx2 : x ≤ k.max) : k.min ≤ x.tmod y ∧ x.tmod y ≤ k.max := by
 have a := min_nonpos k
 have b := max_nonneg k
 by_cases h : 0 ≤ x
 ·obtain ⟨n, rfl⟩ := Int.eq_ofNat_of_zero_le h
  have := tmod_abs n y
  omega
 ·obtain ⟨n, hn⟩ : ∃ n : Nat, x = -(n : Int) := ⟨(-x).toNat, by omega⟩
  have := tmod_abs n y
  rw [hn, Int.neg_tmod]
  omega
theorem eq_dec (x y : Int) : (x == y) = decide (x - y = 0) := by rw [Bool.eq_iff_iff]; simp; omega
theorem ne_dec (x y : Int) : (x != y) = decide (x - y ≠ 0) := by rw [Bool.eq_iff_iff]; simp; omega
theorem divF_ok (h : M HT E st w) {a : Lin} (ba : a.below E.n) {d : Int} {x : Nat} : ∀ {l : List Lin}, (∀ c ∈ l, c.below E.n) → divF st a d l = some x → 0 ≤ a.ev E.ρ - d * E.ρ x ∧ a.ev E.ρ - d * E.ρ x ≤ d - 1 ∧ x < E.n
 | [], _, hd => by cases hd
 | c :: r, hl, hd => by
  have next := divF_ok h ba (x := x) (d := d) (l := r) (fun c hc => hl c (List.mem_cons_of_mem _ hc))
  unfold divF at hd
  split at hd
  ·rename_i n y k he
   split at hd
   ·rename_i hc
    injection hd with hd; subst hd
    simp only [Bool.and_eq_true, beq_iff_eq] at hc
    obtain ⟨⟨⟨rfl, rfl⟩, h3⟩, h4⟩ := hc
    have g3 := h.ge h3
    have g4 := h.ge h4
    rw [Lin.ev_sub, Lin.ev_addk, Lin.ev_sc, Lin.ev_v] at g4
    have e1 := Lin.ev_sub E.ρ a c
    rw [he] at e1
    have e2 : Lin.ev E.ρ ⟨0, [(y, k)]⟩ = k * E.ρ y := by simp [Lin.ev, Lin.evT]
    rw [e2] at e1
    have hb := below_sub ba (hl c (List.mem_cons_self ..))
    rw [he] at hb
    exact ⟨by omega, by omega, hb (y, k) (List.mem_cons_self ..)⟩
   ·exact next hd
  ·exact next hd
theorem bopI_ok (h : M HT E st w) (P : Program) {op : BinOp} {k : IntKind} {a b : Lin} {r : AV × St} (hr : bopI st op k a b = some r) (t : TypeId)
  (va : V HT E (.int k a) (.int k (a.ev E.ρ))) (vb : V HT E (.int k b) (.int k (b.ev E.ρ))) :
  One HT E st w (fun w' => (binOp op t (.int k (a.ev E.ρ)) (.int k (b.ev E.ρ))).run P w') r := by
 obtain ⟨_, ba, a1, a2⟩ := va
 obtain ⟨_, bb, b1, b2⟩ := vb
 have fresh : ∀ (f : World → Result Value) (n : Int), (∀ w', f w' = .ok (.int k n) w') → k.min ≤ n → n ≤ k.max → One HT E st w f (anyI st k) := fun f n hf g1 g2 => by
  obtain ⟨E', u, v⟩ := anyI_ok h k n g1 g2
  exact ⟨_, hf, E', u, v⟩
 have lin : ∀ (f : World → Result Value) (e : Lin), (∀ w', f w' = .ok (.int k (k.wrap (e.ev E.ρ))) w') → e.below E.n → One HT E st w f (mkI st k e) := fun f e hf hb => by
  obtain ⟨E', u, v⟩ := mkI_ok h k hb
  exact ⟨_, hf, E', u, v⟩
 have cst : ∀ (f : World → Result Value) (n : Int), (∀ w', f w' = .ok (.int k n) w') → k.min ≤ n → n ≤ k.max → One HT E st w f (.int k (.k n), st) := fun f n hf g1 g2 =>
  One.same h hf ⟨by rw [Lin.ev_k], below_k _ _, by rw [Lin.ev_k]; exact g1, by rw [Lin.ev_k]; exact g2⟩
 have cnd : ∀ (f : World → Result Value) (c : Cnd), (∀ w', f w' = .ok (.bool (c.holds E.ρ)) w') → c.lin.below E.n → One HT E st w f (mkC st c, st) := fun f c hf hb =>
  One.same h hf (mkC_ok h hb)
 cases op <;> simp only [bopI, Option.some.injEq] at hr
 case add => subst hr; exact lin _ _ (fun w' => by simp [binOp, Op.intArith, Lin.ev_add]) (below_add ba bb)
 case sub => subst hr; exact lin _ _ (fun w' => by simp [binOp, Op.intArith, Lin.ev_sub]) (below_sub ba bb)
 case mul =>
  split at hr
  ·rename_i ha
   injection hr with hr; subst hr
   exact lin _ _ (fun w' => by simp [binOp, Op.intArith, Lin.ev_sc, ev_const ha]) (below_sc bb _)
  ·split at hr
   ·rename_i hb
    injection hr with hr; subst hr
    exact lin _ _ (fun w' => by simp [binOp, Op.intArith, Lin.ev_sc, ev_const hb, Int.mul_comm]) (below_sc ba _)
   ·injection hr with hr; subst hr
    exact fresh _ (k.wrap (a.ev E.ρ * b.ev E.ρ)) (fun w' => by simp [binOp, Op.intArith]) (wrap_range _ _).1 (wrap_range _ _).2
 case and =>
  have run : ∀ w', (binOp .and t (.int k (a.ev E.ρ)) (.int k (b.ev E.ρ))).run P w' = .ok (.int k (bitsV .and k (a.ev E.ρ) (b.ev E.ρ))) w' := fun w' => by
   simp only [binOp, ne_eq, not_true, if_false]; exact intBits_run _ _ _ _ _ _ (by simp)
  split at hr
  ·rename_i hc
   simp only [Bool.and_eq_true] at hc
   injection hr with hr; subst hr
   rw [ev_const hc.1, ev_const hc.2] at run ⊢
   exact cst _ _ run (bitsV_range _ _ _ _).1 (bitsV_range _ _ _ _).2
  split at hr
  ·rename_i hc
   simp only [Bool.and_eq_true, beq_iff_eq] at hc
   obtain ⟨⟨⟨⟨c1, c2⟩, rfl⟩, c3⟩, c4⟩ := hc
   injection hr with hr; subst hr
   have g3 := h.ge c3
   have g4 := h.ge c4
   rw [Lin.ev_sub, Lin.ev_k] at g4
   rw [ev_const c1, c2] at run ⊢
   rw [and_4095 _ g3 (by omega)] at run
   exact One.same h run ⟨rfl, ba, a1, a2⟩
  ·split at hr
   ·rename_i hc
    simp only [Bool.and_eq_true, decide_eq_true_eq] at hc
    injection hr with hr; subst hr
    rw [ev_const hc.1.1] at run ⊢
    have g := and_le k (a.ev E.ρ) b.c hc.1.2 hc.2
    have m := min_nonpos k
    obtain ⟨E', u, v, _⟩ := rng_ok (lo := .k 0) (hi := .k b.c) h k _ (by simpa using g.1) (by simpa using g.2) (below_k _ _) (below_k _ _) (bitsV_range _ _ _ _).1 (bitsV_range _ _ _ _).2
    exact ⟨_, run, E', u, v⟩
   ·injection hr with hr; subst hr
    exact fresh _ _ run (bitsV_range _ _ _ _).1 (bitsV_range _ _ _ _).2
 case or =>
  have run : ∀ w', (binOp .or t (.int k (a.ev E.ρ)) (.int k (b.ev E.ρ))).run P w' = .ok (.int k (bitsV .or k (a.ev E.ρ) (b.ev E.ρ))) w' := fun w' => by
   simp only [binOp, ne_eq, not_true, if_false]; exact intBits_run _ _ _ _ _ _ (by simp)
  split at hr
  ·rename_i hc
   simp only [Bool.and_eq_true] at hc
   injection hr with hr; subst hr
   rw [ev_const hc.1, ev_const hc.2] at run ⊢
   exact cst _ _ run (bitsV_range _ _ _ _).1 (bitsV_range _ _ _ _).2
  ·injection hr with hr; subst hr
   exact fresh _ _ run (bitsV_range _ _ _ _).1 (bitsV_range _ _ _ _).2
 case xor =>
  have run : ∀ w', (binOp .xor t (.int k (a.ev E.ρ)) (.int k (b.ev E.ρ))).run P w' = .ok (.int k (bitsV .xor k (a.ev E.ρ) (b.ev E.ρ))) w' := fun w' => by
   simp only [binOp, ne_eq, not_true, if_false]; exact intBits_run _ _ _ _ _ _ (by simp)
  split at hr
  ·rename_i hc
   simp only [Bool.and_eq_true] at hc
   injection hr with hr; subst hr
   rw [ev_const hc.1, ev_const hc.2] at run ⊢
   exact cst _ _ run (bitsV_range _ _ _ _).1 (bitsV_range _ _ _ _).2
  ·injection hr with hr; subst hr
   exact fresh _ _ run (bitsV_range _ _ _ _).1 (bitsV_range _ _ _ _).2
 case andNot =>
  have run : ∀ w', (binOp .andNot t (.int k (a.ev E.ρ)) (.int k (b.ev E.ρ))).run P w' = .ok (.int k (bitsV .andNot k (a.ev E.ρ) (b.ev E.ρ))) w' := fun w' => by
   simp only [binOp, ne_eq, not_true, if_false]; exact intBits_run _ _ _ _ _ _ (by simp)
  split at hr
  ·rename_i hc
   simp only [Bool.and_eq_true] at hc
   injection hr with hr; subst hr
   rw [ev_const hc.1, ev_const hc.2] at run ⊢
   exact cst _ _ run (bitsV_range _ _ _ _).1 (bitsV_range _ _ _ _).2
  split at hr
  ·rename_i hc
   simp only [Bool.and_eq_true, Bool.or_eq_true, beq_iff_eq] at hc
   obtain ⟨⟨⟨⟨c1, c2⟩, rfl⟩, c3⟩, c4⟩ := hc
   injection hr with hr; subst hr
   have g3 := h.ge c3
   have g4 := h.ge c4
   rw [Lin.ev_sub, Lin.ev_k] at g4
   rw [ev_const c1] at run ⊢
   have g := andNot_le (a.ev E.ρ) b.c g3 (by omega)
   obtain ⟨E', u, v, hx⟩ := rng_ok (lo := .k 0) (hi := a) h .i64 _ (by simpa using g.1) g.2 (below_k _ _) ba (bitsV_range _ _ _ _).1 (bitsV_range _ _ _ _).2
   have bx : (Lin.v st.nx).below E'.n := below_v (by have := u.m.nx; rw [this]; exact Nat.lt_succ_self _)
   refine ⟨_, run, E', u.trans (Up.fact u.m (vs := [.int .i64 1, .int .i64 (a.ev E.ρ), .int .i64 (bitsV .andNot .i64 (a.ev E.ρ) b.c)]) ⟨_, _, rfl, ⟨by rw [Lin.ev_k], below_k _ _, by rw [Lin.ev_k]; decide⟩, _, _, rfl, ⟨by rw [u.ext.ev ba], ba.mono u.ext.n, by rw [u.ext.ev ba]; exact ⟨a1, a2⟩⟩, _, [], rfl, ⟨by rw [Lin.ev_v, hx], bx, by rw [Lin.ev_v, hx]; exact bitsV_range _ _ _ _⟩, rfl⟩ (HT.F_clr g3 (by omega) c2)), v⟩
  ·injection hr with hr; subst hr
   exact fresh _ _ run (bitsV_range _ _ _ _).1 (bitsV_range _ _ _ _).2
 case quo =>
  split at hr
  ·rename_i hc
   simp only [Bool.and_eq_true, decide_eq_true_eq] at hc
   have hb := ev_const hc.1 E.ρ
   have run : ∀ w', (binOp .quo t (.int k (a.ev E.ρ)) (.int k (b.ev E.ρ))).run P w' = .ok (.int k (k.wrap ((a.ev E.ρ).tdiv b.c))) w' := fun w' => by
    rw [hb]; simp only [binOp, ne_eq, not_true, if_false, Op.intDiv]; rw [if_neg (by omega)]; rfl
   split at hr
   ·rename_i ha
    injection hr with hr; subst hr
    rw [ev_const ha] at run ⊢
    exact cst _ _ run (wrap_range _ _).1 (wrap_range _ _).2
   ·split at hr
    ·rename_i hg
     have hg := h.ge hg
     simp only [rng] at hr
     injection hr with hr; subst hr
     have e1 : (a.ev E.ρ).tdiv b.c = a.ev E.ρ / b.c := Int.tdiv_eq_ediv_of_nonneg hg
     have g1 : 0 ≤ a.ev E.ρ / b.c := Int.ediv_nonneg hg (Int.le_of_lt hc.2)
     have g2 : a.ev E.ρ / b.c ≤ a.ev E.ρ := Int.ediv_le_self _ hg
     have mn := min_nonpos k
     have hw : k.wrap (a.ev E.ρ / b.c) = a.ev E.ρ / b.c := wrap_in k _ (by omega) (by omega)
     rw [e1, hw] at run
     obtain ⟨E', u, v, hx⟩ := rng_ok (lo := .k 0) (hi := a) h k (a.ev E.ρ / b.c) (by simpa using g1) g2 (below_k _ _) ba (by omega) (by omega)
     have bx : (Lin.v st.nx).below E'.n := below_v (by have := u.m.nx; rw [this]; exact Nat.lt_succ_self _)
     have ba' := ba.mono u.ext.n
     have ea := u.ext.ev ba
     have d1 : b.c * (a.ev E.ρ / b.c) ≤ a.ev E.ρ := Int.mul_ediv_self_le (by omega)
     have d2 : a.ev E.ρ < b.c * (a.ev E.ρ / b.c) + b.c := by
      have := Int.lt_mul_ediv_self_add (x := a.ev E.ρ) hc.2
      exact this
     have u1 := Up.know u.m (c := a.sub ((Lin.v st.nx).sc b.c)) (by rw [Lin.ev_sub, Lin.ev_sc, Lin.ev_v, hx, ea]; omega) (below_sub ba' (below_sc bx _))
     have u2 := Up.know u1.m (c := (((Lin.v st.nx).sc b.c).addk (b.c - 1)).sub a) (by rw [Lin.ev_sub, Lin.ev_addk, Lin.ev_sc, Lin.ev_v, hx, ea]; omega) (below_sub (below_addk (below_sc bx _) _) ba')
     exact ⟨_, run, E', u.trans (u1.trans u2), v⟩
    ·injection hr with hr; subst hr
     exact fresh _ _ run (wrap_range _ _).1 (wrap_range _ _).2
  ·cases hr
 case rem =>
  split at hr
  ·rename_i hc
   simp only [Bool.and_eq_true, decide_eq_true_eq] at hc
   have hb := ev_const hc.1.2 E.ρ
   have ha := ev_const hc.1.1 E.ρ
   injection hr with hr; subst hr
   have := tmod_range k a.c b.c (by omega) (by omega)
   exact cst _ _ (fun w' => by
    rw [ha, hb]; simp only [binOp, ne_eq, not_true, if_false, Op.intDiv]; rw [if_neg (by omega)]; rfl) this.1 this.2
  ·split at hr
   ·rename_i hg
    simp only [Bool.and_eq_true] at hg
    have g1 := h.ge hg.1
    have g2 := h.ge hg.2
    rw [Lin.ev_addk] at g1
    have e1 : (a.ev E.ρ).tmod (b.ev E.ρ) = a.ev E.ρ % b.ev E.ρ := Int.tmod_eq_emod_of_nonneg g2
    have g3 : 0 ≤ a.ev E.ρ % b.ev E.ρ := Int.emod_nonneg _ (by omega)
    have g4 : a.ev E.ρ % b.ev E.ρ < b.ev E.ρ := Int.emod_lt_of_pos _ (by omega)
    have mn := min_nonpos k
    have run : ∀ w', (binOp .rem t (.int k (a.ev E.ρ)) (.int k (b.ev E.ρ))).run P w' = .ok (.int k (a.ev E.ρ % b.ev E.ρ)) w' := fun w' => by
     simp only [binOp, ne_eq, not_true, if_false, Op.intDiv]; rw [if_neg (by omega), e1]; rfl
    have viaR : One HT E st w (fun w' => (binOp .rem t (.int k (a.ev E.ρ)) (.int k (b.ev E.ρ))).run P w') (rng st k (.k 0) (b.addk (-1))) := by
     obtain ⟨E', u, v, _⟩ := rng_ok (lo := .k 0) (hi := b.addk (-1)) h k (a.ev E.ρ % b.ev E.ρ) (by simpa using g3) (by rw [Lin.ev_addk]; omega) (below_k _ _) (below_addk bb _) (by omega) (by omega)
     exact ⟨_, run, E', u, v⟩
    split at hr
    ·rename_i hbc
     split at hr
     ·rename_i x hx
      injection hr with hr; subst hr
      have hbv := ev_const hbc E.ρ
      obtain ⟨d1, d2, d3⟩ := divF_ok h ba (fun c hc => (h.cs c hc).2) hx
      have e2 : a.ev E.ρ % b.ev E.ρ = a.ev E.ρ - b.c * E.ρ x := by
       rw [hbv]
       have e3 : a.ev E.ρ = (a.ev E.ρ - b.c * E.ρ x) + E.ρ x * b.c := by rw [Int.mul_comm (E.ρ x)]; omega
       rw [e3, Int.add_mul_emod_self_right, Int.emod_eq_of_lt d1 (by omega)]
       rw [Int.mul_comm (E.ρ x)]; omega
      refine One.same h (v := .int k (a.ev E.ρ - b.c * E.ρ x)) (fun w' => by rw [run, e2]) ⟨by rw [Lin.ev_sub, Lin.ev_sc, Lin.ev_v], below_sub ba (below_sc (below_v d3) _), ?_, ?_⟩
      ·rw [Lin.ev_sub, Lin.ev_sc, Lin.ev_v]; omega
      ·rw [Lin.ev_sub, Lin.ev_sc, Lin.ev_v]; omega
     ·injection hr with hr; subst hr; exact viaR
    ·injection hr with hr; subst hr; exact viaR
   ·cases hr
 case eql =>
  subst hr
  exact cnd _ (.eq (a.sub b)) (fun w' => by
   simp only [binOp, Op.intCmp, ne_eq, not_true, if_false, Cnd.holds, Lin.ev_sub]
   rw [← eq_dec]; rfl) (below_sub ba bb)
 case neq =>
  subst hr
  exact cnd _ (.ne (a.sub b)) (fun w' => by
   simp only [binOp, Op.intCmp, ne_eq, not_true, if_false, Cnd.holds, Lin.ev_sub]
   rw [← ne_dec]; rfl) (below_sub ba bb)
 case lss =>
  subst hr
  exact cnd _ (.ge ((b.sub a).addk (-1))) (fun w' => by
   simp only [binOp, Op.intCmp, ne_eq, not_true, if_false, Cnd.holds, Lin.ev_sub, Lin.ev_addk]
   show Result.ok _ _ = _
   congr 2
   rw [decide_eq_decide]; omega) (below_addk (below_sub bb ba) _)
 case leq =>
  subst hr
  exact cnd _ (.ge (b.sub a)) (fun w' => by
   simp only [binOp, Op.intCmp, ne_eq, not_true, if_false, Cnd.holds, Lin.ev_sub, Lin.ev_addk]
   show Result.ok _ _ = _
   congr 2
   rw [decide_eq_decide]; omega) (below_sub bb ba)
 case gtr =>
  subst hr
  exact cnd _ (.ge ((a.sub b).addk (-1))) (fun w' => by
   simp only [binOp, Op.intCmp, ne_eq, not_true, if_false, Cnd.holds, Lin.ev_sub, Lin.ev_addk]
   show Result.ok _ _ = _
   congr 2
   rw [decide_eq_decide]; omega) (below_addk (below_sub ba bb) _)
 case geq =>
  subst hr
  exact cnd _ (.ge (a.sub b)) (fun w' => by
   simp only [binOp, Op.intCmp, ne_eq, not_true, if_false, Cnd.holds, Lin.ev_sub, Lin.ev_addk]
   show Result.ok _ _ = _
   congr 2
   rw [decide_eq_decide]; omega) (below_sub ba bb)
 all_goals cases hr
end
end Go.Proofs.YtbjhcjgniciooaaGreatDoor.E
namespace Go.Proofs.YtbjhcjgniciooaaGreatDoor.E
set_option linter.unusedVariables false
set_option linter.unusedSimpArgs false
/-! ### The table of what is asked of a program -/
structure Cx where
 P : Program
 HT : Th
 inf : Nat → Option TypeInfo
 sEq : List TypeId
 rk : Nat → Option Nat
def Cx.und (C : Cx) (t : Nat) : Option TypeDesc :=
 match C.inf t with
 | none => none
 | some i => match i.desc with
  | .named _ u => (C.inf u).map (·.desc)
  | d => some d
structure CxOk (C : Cx) : Prop where
 inf : ∀ t i, C.inf t = some i → C.P.info? t = some i
 sEq : ∀ t, t ∈ C.sEq → C.P.stoodInHeld t = false ∧ C.P.eqGuardType C.P.depth t = false
 mixed : C.P.follows .mixedOrders = true
theorem CxOk.und {C : Cx} (h : CxOk C) {t : Nat} {d : TypeDesc} (hd : C.und t = some d) : C.P.underlying t = some d := by
 unfold Cx.und at hd
 split at hd
 ·cases hd
 ·rename_i i hi
  have h1 := h.inf t i hi
  unfold Program.underlying
  rw [h1]
  split at hd
  ·rename_i nm u hu
   cases hq : C.inf u with
   | none => rw [hq] at hd; cases hd
   | some j =>
    rw [hq] at hd
    obtain ⟨d', s', z, b', hp, al, fa, ze, co, me⟩ := i
    simp only at hu
    subst hu
    simp only
    rw [h.inf u j hq]; exact hd
  ·rename_i hne
   injection hd with hd
   obtain ⟨d', s', z, b', hp, al, fa, ze, co, me⟩ := i
   simp only at hd hne ⊢
   subst hd
   cases d' <;> first | rfl | (exfalso; exact hne _ _ rfl)
section
variable {HT : Th} {E : Env} {st : St} {w : World}
/-! ### Texts -/
def nLess : List Nat → List Nat → Bool
 | _, [] => false
 | [], _ :: _ => true
 | a :: x, b :: y => decide (a < b) || (a == b && nLess x y)
theorem nLess_eq : ∀ (x y : List UInt8), Op.bytesLess x y = nLess (x.map UInt8.toNat) (y.map UInt8.toNat)
 | [], [] => rfl
 | _ :: _, [] => rfl
 | [], _ :: _ => rfl
 | a :: x, b :: y => by
  simp only [Op.bytesLess, List.map_cons, nLess, nLess_eq x y]
  have e : (a == b) = (a.toNat == b.toNat) := by rw [Bool.eq_iff_iff]; simp only [beq_iff_eq]; exact UInt8.toNat_inj.symm
  rw [e]
  rfl
theorem toList_data (s : ByteArray) : s.toList = s.data.toList := ByteArray.toList_eq s
theorem map_inj {x y : List UInt8} : x.map UInt8.toNat = y.map UInt8.toNat ↔ x = y := by
 constructor
 ·intro h
  exact (List.map_inj_right (fun a b e => UInt8.toNat_inj.1 e)).1 h
 ·rintro rfl; rfl
theorem nEq (x y : List UInt8) : (x == y) = (x.map UInt8.toNat == y.map UInt8.toNat) := by
 rw [Bool.eq_iff_iff]; simp only [beq_iff_eq]; exact map_inj.symm
theorem size_len (s : ByteArray) : s.size = (s.data.toList.map UInt8.toNat).length := by simp
/-- How long a text is. -/
def slen : AV → Option Lin
 | .str l => some (.k l.length)
 | .strv n => some n
 | _ => none
theorem slen_ok {a : AV} {v : Value} {n : Lin} (hv : V HT E a v) (hn : slen a = some n) : ∃ s : ByteArray, v = .string s ∧ (s.size : Int) = n.ev E.ρ ∧ n.below E.n := by
 cases a <;> simp only [slen, Option.some.injEq] at hn <;> try cases hn
 ·obtain ⟨s, rfl, hs⟩ := hv
  exact ⟨s, rfl, by rw [size_len, hs, Lin.ev_k], below_k _ _⟩
 ·exact hv
/-- Are two texts alike? Their lengths are, then. -/
def linkE (st : St) (n m : Lin) : AV × St :=
 if st.ge ((Lin.k 1000000000).sub n) && st.ge ((Lin.k 1000000000).sub m) then
  (.cond (.ge ((Lin.v st.nx).addk (-1))), ((st.newI (.k 0) (.k 1)).know (((Lin.k 1000000000).sub ((Lin.v st.nx).sc 1000000000)).add (m.sub n))).know (((Lin.k 1000000000).sub ((Lin.v st.nx).sc 1000000000)).add (n.sub m)))
 else newC st
def strEq (st : St) (a b : AV) : AV × St :=
 match a, b with
 | .str x, .str y => (.bool (x == y), st)
 | .strv n, .str [] => (mkC st (.eq n), st)
 | .str [], .strv n => (mkC st (.eq n), st)
 | a, b => match slen a, slen b with
  | some n, some m => linkE st n m
  | _, _ => newC st
def strNe (st : St) (a b : AV) : AV × St :=
 match a, b with
 | .str x, .str y => (.bool (!(x == y)), st)
 | .strv n, .str [] => (mkC st (.ne n), st)
 | .str [], .strv n => (mkC st (.ne n), st)
 | _, _ => newC st
theorem empty_iff (s : ByteArray) : (s.data.toList == []) = decide ((s.size : Int) = 0) := by
 rw [Bool.eq_iff_iff]
 simp only [beq_iff_eq, decide_eq_true_eq]
 rw [show s.size = s.data.toList.length by simp]
 constructor
 ·intro h; rw [h]; rfl
 ·intro h; exact List.eq_nil_of_length_eq_zero (by omega)
theorem empty_iff' (s : ByteArray) : (([] : List UInt8) == s.data.toList) = decide ((s.size : Int) = 0) := by
 rw [← empty_iff, Bool.eq_iff_iff]; simp only [beq_iff_eq]; exact ⟨Eq.symm, Eq.symm⟩
theorem linkE_ok (h : M HT E st w) {n m : Lin} {b : Bool} (hb : b = true → n.ev E.ρ = m.ev E.ρ) (hn : n.below E.n) (hm : m.below E.n) (hpos : 0 ≤ n.ev E.ρ ∧ 0 ≤ m.ev E.ρ) : ∃ E', Up HT E st w E' (linkE st n m).2 ∧ V HT E' (linkE st n m).1 (.bool b) := by
 unfold linkE
 split
 ·rename_i hg
  simp only [Bool.and_eq_true] at hg
  have g1 := h.ge hg.1
  have g2 := h.ge hg.2
  rw [Lin.ev_sub, Lin.ev_k] at g1 g2
  have u1 := Up.newI h (lo := .k 0) (hi := .k 1) (if b then 1 else 0) (by rw [Lin.ev_k]; split <;> omega) (by rw [Lin.ev_k]; split <;> omega) (below_k _ _) (below_k _ _)
  have ez : (Lin.v st.nx).ev (E.fr (if b then 1 else 0) (.bool false) 0).ρ = if b then 1 else 0 := by rw [Lin.ev_v, ← h.nx]; simp
  have bz : (Lin.v st.nx).below (E.fr (if b then 1 else 0) (.bool false) 0).n := below_v (by rw [← h.nx]; exact Nat.lt_succ_self _)
  have en := u1.ext.ev hn
  have em := u1.ext.ev hm
  have bn := hn.mono u1.ext.n
  have bm := hm.mono u1.ext.n
  have bk : ((Lin.k 1000000000).sub ((Lin.v st.nx).sc 1000000000)).below (E.fr (if b then 1 else 0) (.bool false) 0).n := below_sub (below_k _ _) (below_sc bz _)
  have ek : ((Lin.k 1000000000).sub ((Lin.v st.nx).sc 1000000000)).ev (E.fr (if b then 1 else 0) (.bool false) 0).ρ = 1000000000 - 1000000000 * (if b then 1 else 0) := by
   rw [Lin.ev_sub, Lin.ev_k, Lin.ev_sc, ez]
  have n0 : 0 ≤ n.ev E.ρ ∧ 0 ≤ m.ev E.ρ := hpos
  have u2 := Up.know u1.m (c := ((Lin.k 1000000000).sub ((Lin.v st.nx).sc 1000000000)).add (m.sub n)) (by
   rw [Lin.ev_add, ek, Lin.ev_sub, en, em]
   cases b with
   | true => have := hb rfl; simp; omega
   | false => simp; omega) (below_add bk (below_sub bm bn))
  have u3 := Up.know u2.m (c := ((Lin.k 1000000000).sub ((Lin.v st.nx).sc 1000000000)).add (n.sub m)) (by
   rw [Lin.ev_add, ek, Lin.ev_sub, en, em]
   cases b with
   | true => have := hb rfl; simp; omega
   | false => simp; omega) (below_add bk (below_sub bn bm))
  refine ⟨_, (u1.trans u2).trans u3, ?_, below_addk bz _⟩
  show Value.bool b = .bool (decide (0 ≤ ((Lin.v st.nx).addk (-1)).ev _))
  rw [Lin.ev_addk, ez]
  cases b <;> rfl
 ·exact newC_ok h _
theorem strEq_ok (h : M HT E st w) {a b : AV} {x y : ByteArray} (ha : V HT E a (.string x)) (hb : V HT E b (.string y)) :
  ∃ E', Up HT E st w E' (strEq st a b).2 ∧ V HT E' (strEq st a b).1 (.bool (x.toList == y.toList)) := by
 rw [toList_data, toList_data]
 unfold strEq
 split
 ·rename_i l m
  obtain ⟨s, e, hs⟩ := ha; cases e
  obtain ⟨s, e, ht⟩ := hb; cases e
  exact ⟨E, Up.refl h, by rw [nEq, hs, ht]; rfl⟩
 ·rename_i n
  obtain ⟨s, e, hs, hn⟩ := ha; cases e
  obtain ⟨s, e, ht⟩ := hb; cases e
  refine ⟨E, Up.refl h, ?_⟩
  have hy : y.data.toList = [] := by simpa using ht
  rw [hy, empty_iff, hs]
  exact mkC_ok h (c := .eq n) hn
 ·rename_i n
  obtain ⟨s, e, hs, hn⟩ := hb; cases e
  obtain ⟨s, e, ht⟩ := ha; cases e
  refine ⟨E, Up.refl h, ?_⟩
  have hy : x.data.toList = [] := by simpa using ht
  rw [hy, empty_iff', hs]
  exact mkC_ok h (c := .eq n) hn
 ·split
  ·rename_i n m h1 h2
   obtain ⟨s, e, k1, k2⟩ := slen_ok ha h1; cases e
   obtain ⟨s, e, k3, k4⟩ := slen_ok hb h2; cases e
   refine linkE_ok h (fun hh => ?_) k2 k4 ⟨by rw [← k1]; exact Int.natCast_nonneg _, by rw [← k3]; exact Int.natCast_nonneg _⟩
   have : x.data.toList = y.data.toList := eq_of_beq hh
   rw [← k1, ← k3, size_len, size_len, this]
  ·exact newC_ok h _
theorem strNe_ok (h : M HT E st w) {a b : AV} {x y : ByteArray} (ha : V HT E a (.string x)) (hb : V HT E b (.string y)) :
  ∃ E', Up HT E st w E' (strNe st a b).2 ∧ V HT E' (strNe st a b).1 (.bool (!(x.toList == y.toList))) := by
 rw [toList_data, toList_data]
 unfold strNe
 split
 ·rename_i l m
  obtain ⟨s, e, hs⟩ := ha; cases e
  obtain ⟨s, e, ht⟩ := hb; cases e
  exact ⟨E, Up.refl h, by rw [nEq, hs, ht]; rfl⟩
 ·rename_i n
  obtain ⟨s, e, hs, hn⟩ := ha; cases e
  obtain ⟨s, e, ht⟩ := hb; cases e
  refine ⟨E, Up.refl h, ?_⟩
  have hy : y.data.toList = [] := by simpa using ht
  rw [hy, empty_iff, hs, ← decide_not]
  exact mkC_ok h (c := .ne n) hn
 ·rename_i n
  obtain ⟨s, e, hs, hn⟩ := hb; cases e
  obtain ⟨s, e, ht⟩ := ha; cases e
  refine ⟨E, Up.refl h, ?_⟩
  have hy : x.data.toList = [] := by simpa using ht
  rw [hy, empty_iff', hs, ← decide_not]
  exact mkC_ok h (c := .ne n) hn
 ·exact newC_ok h _
def cmpS (st : St) (g : List Nat → List Nat → Bool) (a b : AV) : AV × St :=
 match a, b with
 | .str x, .str y => (.bool (g x y), st)
 | _, _ => newC st
theorem cmpS_ok (h : M HT E st w) {g : List Nat → List Nat → Bool} {a b : AV} {x y : ByteArray} {c : Bool} (ha : V HT E a (.string x)) (hb : V HT E b (.string y))
  (hg : c = g (x.data.toList.map UInt8.toNat) (y.data.toList.map UInt8.toNat)) : ∃ E', Up HT E st w E' (cmpS st g a b).2 ∧ V HT E' (cmpS st g a b).1 (.bool c) := by
 unfold cmpS
 split
 ·obtain ⟨s, e, hs⟩ := ha; cases e
  obtain ⟨s, e, ht⟩ := hb; cases e
  exact ⟨E, Up.refl h, by rw [hg, hs, ht]; rfl⟩
 ·exact newC_ok h c
def addS (st : St) (a b : AV) : Option (AV × St) :=
 match a, b with
 | .str x, .str y => if x.length + y.length < 1000000 then some (.str (x ++ y), st) else none
 | a, b => match slen a, slen b with
  | some n, some m => if st.ge ((Lin.k IntKind.i64.max).sub (n.add m)) then some (.strv (n.add m), st) else none
  | _, _ => none
theorem addS_ok (h : M HT E st w) {a b : AV} {r : AV × St} (hr : addS st a b = some r) {x y : ByteArray} (ha : V HT E a (.string x)) (hb : V HT E b (.string y)) :
  ((x.size + y.size : Nat) : Int) ≤ IntKind.i64.max ∧ r.2 = st ∧ V HT E r.1 (.string (x ++ y)) := by
 have i64 : (1000000 : Int) ≤ IntKind.i64.max := by decide
 unfold addS at hr
 split at hr
 ·split at hr
  ·injection hr with hr; subst hr
   obtain ⟨s, e, hs⟩ := ha; cases e
   obtain ⟨s, e, ht⟩ := hb; cases e
   refine ⟨?_, rfl, x ++ y, rfl, by rw [← hs, ← ht]; simp⟩
   have h1 := size_len x
   have h2 := size_len y
   rw [hs] at h1; rw [ht] at h2
   rw [h1, h2]
   omega
  ·cases hr
 ·split at hr
  ·rename_i n m hn hm
   split at hr
   ·rename_i hg
    injection hr with hr; subst hr
    obtain ⟨s, e, h1, h2⟩ := slen_ok ha hn; cases e
    obtain ⟨s, e, h3, h4⟩ := slen_ok hb hm; cases e
    have hg := h.ge hg
    rw [Lin.ev_sub, Lin.ev_k, Lin.ev_add] at hg
    exact ⟨by omega, rfl, x ++ y, rfl, by rw [Lin.ev_add, ← h1, ← h3]; simp, below_add h2 h4⟩
   ·cases hr
  ·cases hr
def bopS (st : St) (op : BinOp) (a b : AV) : Option (AV × St) :=
 match op with
 | .add => addS st a b
 | .eql => some (strEq st a b)
 | .neq => some (strNe st a b)
 | .lss => some (cmpS st nLess a b)
 | .leq => some (cmpS st (fun x y => nLess x y || x == y) a b)
 | .gtr => some (cmpS st (fun x y => !(nLess x y || x == y)) a b)
 | .geq => some (cmpS st (fun x y => !nLess x y) a b)
 | _ => none
theorem bopS_ok (h : M HT E st w) (P : Program) {op : BinOp} {a b : AV} {r : AV × St} (hr : bopS st op a b = some r) (t : TypeId) {x y : ByteArray} (ha : V HT E a (.string x)) (hb : V HT E b (.string y)) :
  One HT E st w (fun w' => (binOp op t (.string x) (.string y)).run P w') r := by
 cases op <;> simp only [bopS] at hr
 case add =>
  obtain ⟨h1, h2, h3⟩ := addS_ok h hr ha hb
  obtain ⟨r1, r2⟩ := r
  simp only at h2 h3
  subst h2
  exact One.same h (v := .string (x ++ y)) (fun w' => by simp only [binOp, Op.stringOp]; rw [if_neg (by omega)]; rfl) h3
 case eql =>
  injection hr with hr; subst hr
  obtain ⟨E', u, v⟩ := strEq_ok h ha hb
  exact ⟨_, fun w' => by simp only [binOp, Op.stringOp]; rfl, E', u, v⟩
 case neq =>
  injection hr with hr; subst hr
  obtain ⟨E', u, v⟩ := strNe_ok h ha hb
  exact ⟨_, fun w' => by simp only [binOp, Op.stringOp]; rfl, E', u, v⟩
 case lss =>
  injection hr with hr; subst hr
  obtain ⟨E', u, v⟩ := cmpS_ok (g := nLess) h ha hb (c := Op.bytesLess x.toList y.toList) (by rw [toList_data, toList_data, nLess_eq])
  exact ⟨_, fun w' => by simp only [binOp, Op.stringOp]; rfl, E', u, v⟩
 case leq =>
  injection hr with hr; subst hr
  obtain ⟨E', u, v⟩ := cmpS_ok (g := fun x y => nLess x y || x == y) h ha hb (c := Op.bytesLess x.toList y.toList || x.toList == y.toList) (by rw [toList_data, toList_data, nLess_eq, nEq])
  exact ⟨_, fun w' => by simp only [binOp, Op.stringOp]; rfl, E', u, v⟩
 case gtr =>
  injection hr with hr; subst hr
  obtain ⟨E', u, v⟩ := cmpS_ok (g := fun x y => !(nLess x y || x == y)) h ha hb (c := !(Op.bytesLess x.toList y.toList || x.toList == y.toList)) (by rw [toList_data, toList_data, nLess_eq, nEq])
  exact ⟨_, fun w' => by simp only [binOp, Op.stringOp]; rfl, E', u, v⟩
 case geq =>
  injection hr with hr; subst hr
  obtain ⟨E', u, v⟩ := cmpS_ok (g := fun x y => !nLess x y) h ha hb (c := !Op.bytesLess x.toList y.toList) (by rw [toList_data, toList_data, nLess_eq])
  exact ⟨_, fun w' => by simp only [binOp, Op.stringOp]; rfl, E', u, v⟩
 all_goals cases hr
end
end Go.Proofs.YtbjhcjgniciooaaGreatDoor.E
namespace Go.Proofs.YtbjhcjgniciooaaGreatDoor.E
set_option linter.unusedVariables false
set_option linter.unusedSimpArgs false
/-! ### Operands -/
def ofVal : Value → AV
 | .bool b => .bool b
 | .int k n => if decide (k.min ≤ n) && decide (n ≤ k.max) then .int k (.k n) else .top
 | .string s => .str (s.data.toList.map UInt8.toNat)
 | .pointer none => .ptr0
 | .slice none 0 0 => .sl0
 | .map none => .map0
 | .nilFunc => .fn0
 | .nilIface => .if0
 | _ => .top
def resv (st : St) : AV → AV
 | .var x => match st.vs.get x with | some a => a | none => .var x
 | a => a
def evO (st : St) (fr : List AV) : Operand → AV
 | .tmp t => resv st (fr.getD t .top)
 | .const v => ofVal v
 | .global _ => .top
 | .func f => .func f [] []
section
variable {HT : Th} {E : Env} {st : St} {w : World}
theorem V_ofVal (v : Value) : V HT E (ofVal v) v := by
 unfold ofVal
 split
 ·rfl
 ·split
  ·rename_i k n hc
   simp only [Bool.and_eq_true, decide_eq_true_eq] at hc
   exact ⟨by rw [Lin.ev_k], below_k _ _, by rw [Lin.ev_k]; exact hc.1, by rw [Lin.ev_k]; exact hc.2⟩
  ·trivial
 ·exact ⟨_, rfl, rfl⟩
 all_goals first | rfl | trivial
structure FrOk (HT : Th) (E : Env) (fr : List AV) (a : Act) : Prop where
 t : Vs HT E fr a.tmps.toList
 d : a.defers = []
theorem FrOk.ext {F : Env} {fr : List AV} {a : Act} (h : FrOk HT E fr a) (e : Ext E F) : FrOk HT F fr a := ⟨Vs.ext HT e _ h.t, h.d⟩
theorem V_resv (h : M HT E st w) {a : AV} {v : Value} (hv : V HT E a v) : V HT E (resv st a) v := by
 unfold resv
 split
 ·rename_i x
  split
  ·rename_i a ha
   obtain ⟨h1, _⟩ := h.vs x a ha
   obtain ⟨rfl, _⟩ := hv
   exact h1
  ·exact hv
 ·exact hv
theorem evO_ok (h : M HT E st w) {fr : List AV} {a : Act} (hf : FrOk HT E fr a) (x : Operand) : V HT E (evO st fr x) (a.eval x) := by
 cases x with
 | tmp t =>
  refine V_resv h ?_
  show V HT E (fr.getD t .top) (a.tmps.getD t undef)
  cases ht : fr[t]? with
  | none => rw [List.getD_eq_getElem?_getD, ht]; trivial
  | some b =>
   obtain ⟨v, h1, h2⟩ := hf.t.get ht
   rw [List.getD_eq_getElem?_getD, ht]
   have : a.tmps[t]? = some v := by rw [← h1]; simp
   simp only [Array.getD_eq_getD_getElem?, this]
   exact h2
 | const v => exact V_ofVal v
 | global g => trivial
 | func f => exact ⟨#[], #[], rfl, rfl, rfl⟩
theorem FrOk.put {fr : List AV} {a : Act} (h : FrOk HT E fr a) (d : Option Tmp) {x : AV} {v : Value} (hv : V HT E x v) :
  FrOk HT E (match d with | some t => fr.set t x | none => fr) (a.put d v) := by
 cases d with
 | none => exact h
 | some t => exact ⟨by simp only [Act.put, Array.toList_setIfInBounds]; exact h.t.set t hv, h.d⟩
/-! ### Many outcomes, of which one is -/
def Many (HT : Th) (E : Env) (st : St) (w : World) (f : World → Result Value) (outs : List (AV × St)) : Prop :=
 ∃ v, (∀ w', f w' = .ok v w') ∧ ∃ o ∈ outs, ∃ E', Up HT E st w E' o.2 ∧ V HT E' o.1 v
theorem One.many {f : World → Result Value} {r : AV × St} (h : One HT E st w f r) : Many HT E st w f [r] := by
 obtain ⟨v, h1, h2⟩ := h; exact ⟨v, h1, r, List.mem_cons_self .., h2⟩
/-! ### Is it nil? -/
def isNil : AV → Option Bool
 | .ptr0 | .sl0 | .map0 | .fn0 | .if0 => some true
 | .ptr _ _ | .elem _ _ | .sl _ _ _ _ _ | .map _ | .func _ _ _ | .iface _ _ => some false
 | _ => none
/-- What '==' says of two values of a kind, one of which is nil. -/
def nilV : TypeDesc → Value → Value → Option Bool
 | .pointer _, .pointer a, .pointer none => some a.isNone
 | .pointer _, .pointer none, .pointer b => some b.isNone
 | .slice _, .slice a _ _, .slice none _ _ => some a.isNone
 | .slice _, .slice none _ _, .slice b _ _ => some b.isNone
 | .map _ _, .map a, .map none => some a.isNone
 | .map _ _, .map none, .map b => some b.isNone
 | .func _ _ _, .nilFunc, .nilFunc => some true
 | .func _ _ _, .func _ _ _, .nilFunc => some false
 | .func _ _ _, .nilFunc, .func _ _ _ => some false
 | .interface _, .nilIface, .nilIface => some true
 | .interface _, .iface _ _, .nilIface => some false
 | .interface _, .nilIface, .iface _ _ => some false
 | _, _, _ => none
theorem nilV_run {P : Program} {t : TypeId} {d : TypeDesc} (ht : P.underlying t = some d) {x y : Value} {b : Bool} (h : nilV d x y = some b) (n : Nat) (w' : World) :
  (Op.equalIn (n + 1) t x y).run P w' = .ok b w' := by
 unfold nilV at h
 rw [Op.equalIn]
 simp only [Sem.run_bind, run_underlying ht, Result.andThen_ok]
 split at h
 case h_13 => cases h
 case h_1 a => injection h with h; subst h; cases a <;> rfl
 case h_2 a _ => injection h with h; subst h; cases a <;> rfl
 case h_3 a _ _ _ _ => injection h with h; subst h; cases a <;> rfl
 case h_4 a _ _ _ => injection h with h; subst h; cases a <;> rfl
 case h_5 a => injection h with h; subst h; cases a <;> rfl
 case h_6 a _ => injection h with h; subst h; cases a <;> rfl
 all_goals (injection h with h; subst h; rfl)
def intStr : Value → Bool
 | .int _ _ | .string _ | .float _ _ | .complex _ _ _ => true
 | _ => false
theorem eql_equal {P : Program} (t : TypeId) (x y : Value) (hx : intStr x = false) {b : Bool} {w' : World} (h : (Op.equalIn 10000 t x y).run P w' = .ok b w') :
  (binOp .eql t x y).run P w' = .ok (.bool b) w' ∧ (binOp .neq t x y).run P w' = .ok (.bool (!b)) w' := by
 have he : (Op.equal t x y).run P w' = .ok b w' := h
 constructor
 ·have : binOp .eql t x y = (do pure (.bool (← Op.equal t x y)) : Sem Value) := by
   cases x <;> first | rfl | cases hx
  rw [this, Sem.run_bind, he]; rfl
 ·have : binOp .neq t x y = (do pure (.bool (!(← Op.equal t x y))) : Sem Value) := by
   cases x <;> first | rfl | cases hx
  rw [this, Sem.run_bind, he]; rfl
theorem nilV_is {d : TypeDesc} {x y : Value} {b : Bool} (h : nilV d x y = some b) : intStr x = false := by
 unfold nilV at h
 split at h <;> first | rfl | cases h
theorem nilV_eq {P : Program} {t : TypeId} {d : TypeDesc} (ht : P.underlying t = some d) {x y : Value} {b : Bool} (h : nilV d x y = some b) (w' : World) :
  (binOp .eql t x y).run P w' = .ok (.bool b) w' ∧ (binOp .neq t x y).run P w' = .ok (.bool (!b)) w' :=
 eql_equal t x y (nilV_is h) (nilV_run ht h 9999 w')
def akind : AV → Nat
 | .ptr0 | .ptr _ _ | .elem _ _ => 1
 | .sl0 | .sl _ _ _ _ _ => 2
 | .map0 | .map _ => 3
 | .fn0 | .func _ _ _ => 4
 | .if0 | .iface _ _ => 5
 | _ => 0
def dkind : TypeDesc → Nat
 | .pointer _ => 1
 | .slice _ => 2
 | .map _ _ => 3
 | .func _ _ _ => 4
 | .interface _ => 5
 | _ => 0
def nilA (d : TypeDesc) (a b : AV) : Option Bool :=
 if dkind d = akind a ∧ akind a = akind b ∧ akind a ≠ 0 then
  match isNil a, isNil b with
  | some x, some true => some x
  | some true, some y => some y
  | _, _ => none
 else none
theorem dk1 {d : TypeDesc} (h : dkind d = 1) : ∃ e, d = .pointer e := by cases d <;> first | exact ⟨_, rfl⟩ | cases h
theorem dk2 {d : TypeDesc} (h : dkind d = 2) : ∃ e, d = .slice e := by cases d <;> first | exact ⟨_, rfl⟩ | cases h
theorem dk3 {d : TypeDesc} (h : dkind d = 3) : ∃ k e, d = .map k e := by cases d <;> first | exact ⟨_, _, rfl⟩ | cases h
theorem dk4 {d : TypeDesc} (h : dkind d = 4) : ∃ p r v, d = .func p r v := by cases d <;> first | exact ⟨_, _, _, rfl⟩ | cases h
theorem dk5 {d : TypeDesc} (h : dkind d = 5) : ∃ m, d = .interface m := by cases d <;> first | exact ⟨_, rfl⟩ | cases h
/-- What a value of a sort looks like: nil or not. -/
theorem shape_of {a : AV} {v : Value} (hv : V HT E a v) {n : Bool} (hn : isNil a = some n) :
  (akind a = 1 ∧ ∃ p, v = .pointer p ∧ p.isNone = n) ∨ (akind a = 2 ∧ ∃ p i j, v = .slice p i j ∧ p.isNone = n) ∨ (akind a = 3 ∧ ∃ p, v = .map p ∧ p.isNone = n) ∨
  (akind a = 4 ∧ ((v = .nilFunc ∧ n = true) ∨ (∃ f x y, v = .func f x y ∧ n = false))) ∨ (akind a = 5 ∧ ((v = .nilIface ∧ n = true) ∨ (∃ t x, v = .iface t x ∧ n = false))) := by
 cases a <;> simp only [isNil, Option.some.injEq] at hn <;> try cases hn
 ·rw [show v = _ from hv]; exact .inl ⟨rfl, none, rfl, rfl⟩
 ·rw [show v = _ from hv.1]; exact .inl ⟨rfl, _, rfl, rfl⟩
 ·rw [show v = _ from hv]; exact .inr (.inl ⟨rfl, none, 0, 0, rfl, rfl⟩)
 ·obtain ⟨c, rfl, _⟩ := hv; exact .inr (.inl ⟨rfl, _, _, _, rfl, rfl⟩)
 ·obtain ⟨b, j, len, rfl, _⟩ := hv; exact .inl ⟨rfl, _, rfl, rfl⟩
 ·rw [show v = _ from hv]; exact .inr (.inr (.inl ⟨rfl, none, rfl, rfl⟩))
 ·rw [show v = _ from hv.1]; exact .inr (.inr (.inl ⟨rfl, _, rfl, rfl⟩))
 ·obtain ⟨x, y, rfl, _⟩ := hv; exact .inr (.inr (.inr (.inl ⟨rfl, .inr ⟨_, _, _, rfl, rfl⟩⟩)))
 ·rw [show v = _ from hv]; exact .inr (.inr (.inr (.inl ⟨rfl, .inl ⟨rfl, rfl⟩⟩)))
 ·obtain ⟨x, rfl, _⟩ := hv; exact .inr (.inr (.inr (.inr ⟨rfl, .inr ⟨_, _, rfl, rfl⟩⟩)))
 ·rw [show v = _ from hv]; exact .inr (.inr (.inr (.inr ⟨rfl, .inl ⟨rfl, rfl⟩⟩)))
theorem nilA_ok {d : TypeDesc} {a b : AV} {x y : Value} (ha : V HT E a x) (hb : V HT E b y) {r : Bool} (h : nilA d a b = some r) : nilV d x y = some r := by
 unfold nilA at h
 split at h
 ·rename_i hk
  obtain ⟨k1, k2, k3⟩ := hk
  have main : ∀ n m, isNil a = some n → isNil b = some m → (m = true ∧ r = n) ∨ (n = true ∧ r = m) → nilV d x y = some r := fun n m hn hm hr => by
   rcases shape_of ha hn with ⟨e, p, rfl, e1⟩ | ⟨e, p, i, j, rfl, e1⟩ | ⟨e, p, rfl, e1⟩ | ⟨e, e1⟩ | ⟨e, e1⟩
   ·rcases shape_of hb hm with ⟨e', q, rfl, e2⟩ | ⟨e', q, i', j', rfl, e2⟩ | ⟨e', q, rfl, e2⟩ | ⟨e', e2⟩ | ⟨e', e2⟩ <;> try (rw [e, e'] at k2; cases k2)
    obtain ⟨el, rfl⟩ := dk1 (k1.trans e)
    rcases hr with ⟨h1, h2⟩ | ⟨h1, h2⟩
    ·subst h1 h2; rw [Option.isNone_iff_eq_none] at e2; subst e2; rw [← e1]; cases p <;> rfl
    ·subst h1 h2; rw [Option.isNone_iff_eq_none] at e1; subst e1; rw [← e2]; cases q <;> rfl
   ·rcases shape_of hb hm with ⟨e', q, rfl, e2⟩ | ⟨e', q, i', j', rfl, e2⟩ | ⟨e', q, rfl, e2⟩ | ⟨e', e2⟩ | ⟨e', e2⟩ <;> try (rw [e, e'] at k2; cases k2)
    obtain ⟨el, rfl⟩ := dk2 (k1.trans e)
    rcases hr with ⟨h1, h2⟩ | ⟨h1, h2⟩
    ·subst h1 h2; rw [Option.isNone_iff_eq_none] at e2; subst e2; rw [← e1]; cases p <;> rfl
    ·subst h1 h2; rw [Option.isNone_iff_eq_none] at e1; subst e1; rw [← e2]; cases q <;> rfl
   ·rcases shape_of hb hm with ⟨e', q, rfl, e2⟩ | ⟨e', q, i', j', rfl, e2⟩ | ⟨e', q, rfl, e2⟩ | ⟨e', e2⟩ | ⟨e', e2⟩ <;> try (rw [e, e'] at k2; cases k2)
    obtain ⟨k, el, rfl⟩ := dk3 (k1.trans e)
    rcases hr with ⟨h1, h2⟩ | ⟨h1, h2⟩
    ·subst h1 h2; rw [Option.isNone_iff_eq_none] at e2; subst e2; rw [← e1]; cases p <;> rfl
    ·subst h1 h2; rw [Option.isNone_iff_eq_none] at e1; subst e1; rw [← e2]; cases q <;> rfl
   ·rcases shape_of hb hm with ⟨e', q, rfl, e2⟩ | ⟨e', q, i', j', rfl, e2⟩ | ⟨e', q, rfl, e2⟩ | ⟨e', e2⟩ | ⟨e', e2⟩ <;> try (rw [e, e'] at k2; cases k2)
    obtain ⟨_, _, _, rfl⟩ := dk4 (k1.trans e)
    rcases e1 with ⟨rfl, rfl⟩ | ⟨_, _, _, rfl, rfl⟩ <;> rcases e2 with ⟨rfl, rfl⟩ | ⟨_, _, _, rfl, rfl⟩ <;> rcases hr with ⟨h1, h2⟩ | ⟨h1, h2⟩ <;> first | (subst h2; rfl) | cases h1
   ·rcases shape_of hb hm with ⟨e', q, rfl, e2⟩ | ⟨e', q, i', j', rfl, e2⟩ | ⟨e', q, rfl, e2⟩ | ⟨e', e2⟩ | ⟨e', e2⟩ <;> try (rw [e, e'] at k2; cases k2)
    obtain ⟨_, rfl⟩ := dk5 (k1.trans e)
    rcases e1 with ⟨rfl, rfl⟩ | ⟨_, _, rfl, rfl⟩ <;> rcases e2 with ⟨rfl, rfl⟩ | ⟨_, _, rfl, rfl⟩ <;> rcases hr with ⟨h1, h2⟩ | ⟨h1, h2⟩ <;> first | (subst h2; rfl) | cases h1
  split at h
  ·rename_i n hn hm; injection h with h; exact main _ _ hn hm (.inl ⟨rfl, h.symm⟩)
  ·rename_i m hn hm; injection h with h; exact main _ _ hn hm (.inr ⟨rfl, h.symm⟩)
  ·cases h
 ·cases h
end
end Go.Proofs.YtbjhcjgniciooaaGreatDoor.E
