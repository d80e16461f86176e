/- TopModes: a part of the proof, merged. -/
import Derived.Test.YtbjhcjgniciooaaGreatDoorM9
namespace Go.Proofs.YtbjhcjgniciooaaGreatDoor.E
set_option linter.unusedVariables false
set_option linter.unusedSimpArgs false
/-! ### Loops: what stays, told by a pattern -/
inductive Loc where
 | fr (i : Nat)
 | cell (b j : Nat)
 | it (b : Nat)
 | g
 | h
structure LHint where
 eds : List (Loc × CT)
 tops : List Nat
 seals : List (Nat × Nat)
 cs : List Lin
 me : Lin
 tm : List Nat
 drop : Bool
def setLoc (l : Loc) (a : AV) (fr : List AV) (st : St) : List AV × St :=
 match l with
 | .fr i => (fr.set i a, st)
 | .cell b j => match st.bk.get b with
  | some (.cells e cs f ty) => (fr, { st with bk := st.bk.set b (.cells e (cs.set j a) f ty) })
  | _ => (fr, st)
 | _ => (fr, st)
def getLoc (l : Loc) (fr : List AV) (st : St) : Option AV :=
 match l with
 | .fr i => (fr[i]?).map (resv st)
 | .cell b j => match st.bk.get b with
  | some (.cells _ cs _ _) => (cs[j]?).map (resv st)
  | _ => none
 | _ => none
/-- A text's reader: how long the text is, and where it stands. -/
def itOf : Blk → Option (Lin × Lin)
 | .iterv n p => some (n, p)
 | .iter l p => some (.k l.length, .k p)
 | _ => none
def patE : List (Loc × CT) → List AV → St → Option (List AV × St)
 | [], fr, st => some (fr, st)
 | (.it b, _) :: r, fr, st => match (st.bk.get b).bind itOf with
  | some (n, _) => patE r fr { st.fr with bk := st.bk.set b (.iterv n (.v st.nx)) }
  | _ => none
 | (.g, _) :: r, fr, st => patE r fr { st.fr with gl := .v st.nx }
 | (.h, _) :: r, fr, st => patE r fr { st.fr with hl := .v st.nx }
 | (l, t) :: r, fr, st => match inst t st with
  | (a, s) => match setLoc l a fr s with
   | (fr', s') => patE r fr' s'
def patS : List (Nat × Nat) → St → St
 | [], st => st
 | (b, τ) :: r, st => patS r (st.shut b τ)
def setTops : List Nat → List AV → List AV
 | [], fr => fr
 | i :: r, fr => setTops r (fr.set i .top)
def pat (h : LHint) (fr : List AV) (st : St) : Option (List AV × St) :=
 match patE h.eds fr (patS h.seals st) with
 | some (fr', s) => some (setTops h.tops fr', { s with cs := h.cs ++ s.cs, tm := addAll h.tm s.tm, wild := true, gh := if h.drop then s.gh.filter (fun g => Nat.blt g.1 10) else s.gh })
 | none => none
/-! ### A state, as the pattern has it -/
structure RS where
 px : Nat
 m : PT Nat
 back : PT Nat
def RS.add (R : RS) (y : Nat) : Nat → RS
 | 0 => R
 | k + 1 => RS.add ⟨R.px + 1, R.m.set R.px y, R.back.set y R.px⟩ (y + 1) k
def link (st : St) : AV → AV → St
 | .agg as, .agg bs => (as.zip bs).foldl (fun s p => match numA p.1, numA p.2 with
  | some e, some f => (s.know (e.sub f)).know (f.sub e)
  | _, _ => s) st
 | a, b => match numA a, numA b with
  | some e, some f => (st.know (e.sub f)).know (f.sub e)
  | _, _ => st
def absE (HT : Th) : List (Loc × CT) → List AV → St → RS → Option (List AV × St × RS)
 | [], fr, st, R => some (fr, st, R)
 | (.it b, _) :: r, fr, st, R => match (st.bk.get b).bind itOf with
  | some (n, p) => absE HT r fr { (((st.fr).know ((Lin.v st.nx).sub p)).know (p.sub (Lin.v st.nx))) with bk := st.bk.set b (.iterv n (.v st.nx)) } (R.add st.nx 1)
  | _ => none
 | (.g, _) :: r, fr, st, R => absE HT r fr { (((st.fr).know ((Lin.v st.nx).sub st.gl)).know (st.gl.sub (Lin.v st.nx))) with gl := .v st.nx } (R.add st.nx 1)
 | (.h, _) :: r, fr, st, R => absE HT r fr { (((st.fr).know ((Lin.v st.nx).sub st.hl)).know (st.hl.sub (Lin.v st.nx))) with hl := .v st.nx } (R.add st.nx 1)
 | (l, t) :: r, fr, st, R => match getLoc l fr st with
  | some a => match conf HT cfuel t a st with
   | some s1 => match inst t s1 with
    | (a', s2) => match setLoc l a' fr (link s2 a a') with
     | (fr', s') => absE HT r fr' s' (R.add s1.nx (s2.nx - s1.nx))
   | none => none
  | none => none
def absSeal (HT : Th) : List (Nat × Nat) → St → Option St
 | [], st => some st
 | (b, τ) :: r, st => match confP HT τ b st with
  | some s => match s.bk.get b with
   | some (.sealed _) => absSeal HT r s
   | _ => match sealB HT s b τ with
    | some s => absSeal HT r s
    | none => none
  | none => none
def sealP (HT : Th) (keep : List (Nat × Nat)) : Nat → St → Option St
 | 0, _ => none
 | n + 1, st => match st.op.find? fun q => !keep.any fun k => Nat.beq k.1 q.1 && Nat.beq k.2 q.2 with
  | none => some st
  | some q => match sealB HT st q.1 q.2 with
   | some s => sealP HT keep n s
   | none => none
def absA (HT : Th) (h : LHint) (n0 : Nat) (frP : List AV) (stP : St) (fr : List AV) (st : St) : Option (List AV × St × RS) :=
 match absE HT h.eds fr st ⟨n0, .leaf, .leaf⟩ with
 | some (fr1, s1, R) => match absSeal HT h.seals s1 with
  | some s2 => match sealP HT stP.op sfuel s2 with
   | some s3 => if covSt ⟨n0, R.m, R.back⟩ frP stP fr1 s3 then some (fr1, s3, R) else none
   | none => none
  | none => none
 | none => none
def backOk (HT : Th) (h : LHint) (n0 : Nat) (frP : List AV) (stP : St) (o : Out) : Bool :=
 match o.ex with
 | .normal => match absA HT h n0 frP stP o.fr o.st with
  | some (_, s, R) => s.ge ((h.me.sub (renL ⟨n0, R.m, R.back⟩ h.me)).addk (-1))
  | none => false
 | _ => true
def isNorm (o : Out) : Bool := match o.ex with
 | .normal => true
 | _ => false
def loopA (HT : Th) (h : LHint) (body : Runner) : Runner := fun fr st =>
 match pat h fr st with
 | some (frP, stP) => match absA HT h st.nx frP stP fr st with
  | some _ => match body frP stP with
   | some outs => if stP.ge h.me && belowB stP.nx h.me && outs.all (backOk HT h st.nx frP stP) then some (outs.filter fun o => !isNorm o) else none
   | none => none
  | none => none
 | none => none
section
variable {HT : Th} {E : Env} {st : St} {w : World}
/-- A cell of a block is known otherwise. -/
theorem M.recell (h : M HT E st w) {b j : Nat} {e : TypeId} {cs : List AV} {f : Bool} {ty : Option Nat} (hb : st.bk.get b = some (.cells e cs f ty)) {a : AV} (ha : ∀ arr v, w.heap[E.β b]? = some (.cells arr e (0, 0)) → arr.toList[j]? = some v → V HT E a v) :
  M HT E { st with bk := st.bk.set b (.cells e (cs.set j a) f ty) } w := by
 have bget : ∀ c z, (st.bk.set b (.cells e (cs.set j a) f ty)).get c = some z → (c = b ∧ z = .cells e (cs.set j a) f ty) ∨ (c ≠ b ∧ st.bk.get c = some z) := fun c z hz => by
  rw [PT.get_set] at hz
  by_cases e : c = b
  ·rw [if_pos e] at hz; injection hz with hz; exact .inl ⟨e, hz.symm⟩
  ·rw [if_neg e] at hz; exact .inr ⟨e, hz⟩
 refine ⟨h.nx, h.g, h.cs, h.vt, h.vs, fun c z hc => ?_, fun c c' z z' hc hc' hz hz' hβ => ?_, h.heap, h.dom, h.an, h.bt, h.born, h.md, fun c υ => ?_, h.gh⟩
 ·rcases bget c z hc with ⟨rfl, rfl⟩ | ⟨_, gc⟩
  ·obtain ⟨⟨arr, pre, rest, k1, k2, k3, k4, k5, k6⟩, hbn⟩ := h.bk _ _ hb
   refine ⟨⟨arr, pre, rest, k1, k2, k3.setA j (fun v hv => ?_), k4, k5, k6⟩, hbn⟩
   exact ha arr v k1 (by rw [k2, List.getElem?_append_left (List.getElem?_eq_some_iff.1 hv).1]; exact hv)
  ·exact h.bk c z gc
 ·rcases bget c z hc with ⟨e1, e2⟩ | ⟨hne, gc⟩
  ·rcases bget c' z' hc' with ⟨e3, e4⟩ | ⟨hne', gc'⟩
   ·rw [e1, e3]
   ·rw [e1] at hβ ⊢; exact h.inj b c' _ z' hb gc' rfl hz' hβ
  ·rcases bget c' z' hc' with ⟨e3, e4⟩ | ⟨hne', gc'⟩
   ·rw [e3] at hβ ⊢; exact h.inj c b z _ gc hb hz rfl hβ
   ·exact h.inj c c' z z' gc gc' hz hz' hβ
 ·show (c, υ) ∈ st.op ↔ _
  rw [h.op c υ]
  constructor
  ·rintro ⟨el, cs', f', hc⟩
   by_cases e1 : c = b
   ·subst e1
    rw [hb] at hc; injection hc with hc; injection hc with _ _ _ h4; subst h4
    exact ⟨e, cs.set j a, f, by show (st.bk.set _ _).get _ = _; rw [PT.get_set, if_pos rfl]⟩
   ·exact ⟨el, cs', f', by show (st.bk.set b _).get c = _; rw [PT.get_set, if_neg e1]; exact hc⟩
  ·rintro ⟨el, cs', f', hc⟩
   rcases bget c _ hc with ⟨e1, e2⟩ | ⟨_, hc⟩
   ·injection e2 with _ _ _ h4; subst h4; subst e1
    exact ⟨e, cs, f, hb⟩
   ·exact ⟨el, cs', f', hc⟩
theorem know2 (h : M HT E st w) {e f : Lin} (he : e.ev E.ρ = f.ev E.ρ) (b1 : e.below E.n) (b2 : f.below E.n) : Up HT E st w E ((st.know (e.sub f)).know (f.sub e)) := by
 have u1 := Up.know h (c := e.sub f) (by rw [Lin.ev_sub, he]; omega) (below_sub b1 b2)
 exact u1.trans (Up.know u1.m (c := f.sub e) (by rw [Lin.ev_sub, he]; omega) (below_sub b2 b1))
theorem link1_ok (h : M HT E st w) {a b : AV} {v : Value} (ha : V HT E a v) (hb : V HT E b v) : Up HT E st w E (match numA a, numA b with
  | some e, some f => (st.know (e.sub f)).know (f.sub e)
  | _, _ => st) := by
 split
 ·rename_i e f h1 h2
  obtain ⟨g1, g2⟩ := numA_ok ha h1
  obtain ⟨g3, g4⟩ := numA_ok hb h2
  exact know2 h (g1.trans g3.symm) g2 g4
 ·exact Up.refl h
theorem link_ok (h : M HT E st w) {a b : AV} {v : Value} (ha : V HT E a v) (hb : V HT E b v) : Up HT E st w E (link st a b) := by
 unfold link
 split
 ·rename_i as bs
  obtain ⟨x, rfl, hx⟩ := ha
  obtain ⟨y, e, hy⟩ := hb
  injection e with e; subst e
  generalize x.toList = vs at hx hy
  clear x
  induction as generalizing bs vs st with
  | nil => exact Up.refl h
  | cons a as ih =>
   cases bs with
   | nil => exact Up.refl h
   | cons b bs =>
    obtain ⟨v, r, rfl, h1, h2⟩ := hx
    obtain ⟨v', r', e, h3, h4⟩ := hy
    injection e with e1 e2; subst e1; subst e2
    rw [List.zip_cons_cons, List.foldl_cons]
    have u := link1_ok h h1 h3
    exact u.trans (ih u.m bs _ h2 h4)
 ·exact link1_ok h ha hb
theorem itOf_ok {k : Blk} {n p : Lin} (h : itOf k = some (n, p)) : k.solid = true ∧ (∀ e cs f t, k ≠ .cells e cs f t) ∧ ∀ b, BlkOk HT E w b k → ∃ s q, w.heap[E.β b]? = some (.stringIter s q) ∧ (s.size : Int) = n.ev E.ρ ∧ (q : Int) = p.ev E.ρ ∧ n.below E.n ∧ p.below E.n ∧ Own HT E (E.β b) none := by
 cases k <;> simp only [itOf, Option.some.injEq, Prod.mk.injEq] at h <;> first | (cases h; done) | (obtain ⟨rfl, rfl⟩ := h)
 ·rename_i l pos
  refine ⟨rfl, fun _ _ _ _ e => (by cases e), fun b hb => ?_⟩
  obtain ⟨s, h1, h2, h3⟩ := hb
  exact ⟨s, pos, h1, by rw [Lin.ev_k, ← h2, ← size_len], by rw [Lin.ev_k], below_k _ _, below_k _ _, h3⟩
 ·exact ⟨rfl, fun _ _ _ _ e => (by cases e), fun b hb => hb⟩
theorem absE_ok {a : Act} : ∀ (eds : List (Loc × CT)) {fr fr' : List AV} {E : Env} {st st' : St} {R R' : RS}, absE HT eds fr st R = some (fr', st', R') → M HT E st w → FrOk HT E fr a → ∃ E', Pb HT E st w E' st' ∧ FrOk HT E' fr' a
 | [], fr, fr', E, st, st', R, R', h, m, hf => by
  simp only [absE, Option.some.injEq, Prod.mk.injEq] at h
  obtain ⟨rfl, rfl, _⟩ := h
  exact ⟨E, Pb.refl m, hf⟩
 | (.it b, t) :: r, fr, fr', E, st, st', R, R', h, m, hf => by
  simp only [absE] at h
  split at h <;> try cases h
  rename_i n p hbi
  obtain ⟨kb, hb, hit⟩ := Option.bind_eq_some_iff.1 hbi
  obtain ⟨hso, hnc, hdo⟩ := itOf_ok (HT := HT) (E := E) (w := w) hit
  obtain ⟨hbo, hbn⟩ := m.bk b _ hb
  obtain ⟨s, q, k1, k2, k3, k4, k5, k6⟩ := hdo b hbo
  have u1 := Up.fr m (p.ev E.ρ) (.bool false) 0
  have hx : (Lin.v st.nx).ev (E.fr (p.ev E.ρ) (.bool false) 0).ρ = p.ev (E.fr (p.ev E.ρ) (.bool false) 0).ρ := by
   rw [Lin.ev_v, ← m.nx, Env.fr_ρ, u1.ext.ev k5]
  have bx : (Lin.v st.nx).below (E.fr (p.ev E.ρ) (.bool false) 0).n := below_v (by rw [← m.nx]; exact Nat.lt_succ_self _)
  have u2 := know2 u1.m hx bx (k5.mono u1.ext.n)
  have u := u1.trans u2
  have m3 : M HT (E.fr (p.ev E.ρ) (.bool false) 0) { (((st.fr).know ((Lin.v st.nx).sub p)).know (p.sub (Lin.v st.nx))) with bk := st.bk.set b (.iterv n (.v st.nx)) } w := by
   have m2 := u.m
   have bget : ∀ c z, (st.bk.set b (.iterv n (.v st.nx))).get c = some z → (c = b ∧ z = .iterv n (.v st.nx)) ∨ (c ≠ b ∧ st.bk.get c = some z) := fun c z hz => by
    rw [PT.get_set] at hz
    by_cases e : c = b
    ·rw [if_pos e] at hz; injection hz with hz; exact .inl ⟨e, hz.symm⟩
    ·rw [if_neg e] at hz; exact .inr ⟨e, hz⟩
   have hβ := u.ext.β b hbn
   refine ⟨m2.nx, m2.g, m2.cs, m2.vt, m2.vs, fun c z hc => ?_, fun c c' z z' hc hc' hz hz' hβ => ?_, m2.heap, m2.dom, m2.an, m2.bt, m2.born, m2.md, fun c υ => ?_, m2.gh⟩
   ·rcases bget c z hc with ⟨rfl, rfl⟩ | ⟨_, gc⟩
    ·exact ⟨⟨s, q, by rw [← hβ]; exact k1, by rw [u.ext.ev k4]; exact k2, by rw [hx, u.ext.ev k5]; exact k3, k4.mono u.ext.n, bx, by rw [← hβ]; exact k6.ext u.ext (fun p => u.S.prv u.ext p)⟩, Nat.lt_of_lt_of_le hbn u.ext.n⟩
    ·exact m2.bk c z gc
   ·rcases bget c z hc with ⟨e1, e2⟩ | ⟨hne, gc⟩
    ·rcases bget c' z' hc' with ⟨e3, e4⟩ | ⟨hne', gc'⟩
     ·rw [e1, e3]
     ·rw [e1] at hβ ⊢; exact m2.inj b c' _ z' hb gc' hso hz' hβ
    ·rcases bget c' z' hc' with ⟨e3, e4⟩ | ⟨hne', gc'⟩
     ·rw [e3] at hβ ⊢; exact m2.inj c b z _ gc hb hz hso hβ
     ·exact m2.inj c c' z z' gc gc' hz hz' hβ
   ·have ho : (c, υ) ∈ st.op ↔ _ := m2.op c υ
    show (c, υ) ∈ st.op ↔ _
    rw [ho]
    constructor
    ·rintro ⟨el, cs, f, hc⟩
     have : c ≠ b := fun e1 => by
      have hc : st.bk.get c = some (.cells el cs f (some υ)) := hc
      rw [e1, hb] at hc; injection hc with hc; exact hnc _ _ _ _ hc
     exact ⟨el, cs, f, by show (st.bk.set b _).get c = _; rw [PT.get_set, if_neg this]; exact hc⟩
    ·rintro ⟨el, cs, f, hc⟩
     rcases bget c _ hc with ⟨_, e2⟩ | ⟨_, hc⟩
     ·cases e2
     ·exact ⟨el, cs, f, hc⟩
  obtain ⟨E2, p2, f2⟩ := absE_ok r h m3 (hf.ext u.ext)
  exact ⟨E2, Pb.trans ⟨u.ext, m3, fun r hr => (u.ref m hr).st rfl rfl⟩ p2, f2⟩
 | (.g, t) :: r, fr, fr', E, st, st', R, R', h, m, hf => by
  simp only [absE] at h
  have k2 := m.g.1.1
  have k5 := m.g.1.2
  have u1 := Up.fr m (st.gl.ev E.ρ) (.bool false) 0
  have hx : (Lin.v st.nx).ev (E.fr (st.gl.ev E.ρ) (.bool false) 0).ρ = st.gl.ev (E.fr (st.gl.ev E.ρ) (.bool false) 0).ρ := by
   rw [Lin.ev_v, ← m.nx, Env.fr_ρ, u1.ext.ev k5]
  have bx : (Lin.v st.nx).below (E.fr (st.gl.ev E.ρ) (.bool false) 0).n := below_v (by rw [← m.nx]; exact Nat.lt_succ_self _)
  have u2 := know2 u1.m hx bx (k5.mono u1.ext.n)
  have u := u1.trans u2
  have m2 := u.m
  have e2 := m2.g.1.1
  have m3 : M HT (E.fr (st.gl.ev E.ρ) (.bool false) 0) { (((st.fr).know ((Lin.v st.nx).sub st.gl)).know (st.gl.sub (Lin.v st.nx))) with gl := .v st.nx } w :=
   ⟨m2.nx, ⟨⟨hx.trans e2, bx⟩, m2.g.2⟩, m2.cs, m2.vt, m2.vs, m2.bk, m2.inj, m2.heap, m2.dom, m2.an, m2.bt, m2.born, m2.md, m2.op, m2.gh⟩
  obtain ⟨E2, p2, f2⟩ := absE_ok r h m3 (hf.ext u.ext)
  exact ⟨E2, Pb.trans ⟨u.ext, m3, fun r hr => (u.ref m hr).st rfl rfl⟩ p2, f2⟩
 | (.h, t) :: r, fr, fr', E, st, st', R, R', h, m, hf => by
  simp only [absE] at h
  have k2 := m.g.2.1
  have k5 := m.g.2.2
  have u1 := Up.fr m (st.hl.ev E.ρ) (.bool false) 0
  have hx : (Lin.v st.nx).ev (E.fr (st.hl.ev E.ρ) (.bool false) 0).ρ = st.hl.ev (E.fr (st.hl.ev E.ρ) (.bool false) 0).ρ := by
   rw [Lin.ev_v, ← m.nx, Env.fr_ρ, u1.ext.ev k5]
  have bx : (Lin.v st.nx).below (E.fr (st.hl.ev E.ρ) (.bool false) 0).n := below_v (by rw [← m.nx]; exact Nat.lt_succ_self _)
  have u2 := know2 u1.m hx bx (k5.mono u1.ext.n)
  have u := u1.trans u2
  have m2 := u.m
  have e2 := m2.g.2.1
  have m3 : M HT (E.fr (st.hl.ev E.ρ) (.bool false) 0) { (((st.fr).know ((Lin.v st.nx).sub st.hl)).know (st.hl.sub (Lin.v st.nx))) with hl := .v st.nx } w :=
   ⟨m2.nx, ⟨m2.g.1, hx.trans e2, bx⟩, m2.cs, m2.vt, m2.vs, m2.bk, m2.inj, m2.heap, m2.dom, m2.an, m2.bt, m2.born, m2.md, m2.op, m2.gh⟩
  obtain ⟨E2, p2, f2⟩ := absE_ok r h m3 (hf.ext u.ext)
  exact ⟨E2, Pb.trans ⟨u.ext, m3, fun r hr => (u.ref m hr).st rfl rfl⟩ p2, f2⟩
 | (.fr i, t) :: r, fr, fr', E, st, st', R, R', h, m, hf => by
  simp only [absE, getLoc] at h
  split at h <;> try cases h
  rename_i a0 ha
  split at h <;> try cases h
  rename_i s1 hs1
  obtain ⟨E1, p1, v1⟩ := conf_ok _ _ _ _ _ hs1 E w m
  cases hx : fr[i]? with
  | none => rw [hx] at ha; cases ha
  | some x =>
   rw [hx] at ha
   injection ha with ha
   obtain ⟨v, hv, g1⟩ := hf.t.get hx
   have g2 := V_resv m g1
   rw [ha] at g2
   obtain ⟨E2, u2, v2⟩ := inst_ok t p1.m (v1 v g2)
   have u3 := link_ok u2.m (V.ext HT (p1.ext.trans u2.ext) _ g2) v2
   obtain ⟨E4, p4, f4⟩ := absE_ok r h u3.m ((hf.ext (p1.ext.trans u2.ext)).setA i (fun u hu => by rw [hv] at hu; injection hu with hu; subst hu; exact v2))
   exact ⟨E4, (p1.trans ((u2.trans u3).pb p1.m)).trans p4, f4⟩
 | (.cell b j, t) :: r, fr, fr', E, st, st', R, R', h, m, hf => by
  simp only [absE, getLoc] at h
  split at h <;> try cases h
  rename_i a0 ha
  split at h <;> try cases h
  rename_i s1 hs1
  obtain ⟨E1, p1, v1⟩ := conf_ok _ _ _ _ _ hs1 E w m
  split at ha <;> try cases ha
  rename_i e cs f ty hb
  cases hx : cs[j]? with
  | none => rw [hx] at ha; cases ha
  | some x =>
   rw [hx] at ha
   injection ha with ha
   obtain ⟨⟨arr, pre, rest, k1, k2, k3, k4, k5, k6⟩, hbn⟩ := m.bk b _ hb
   obtain ⟨v, hv, g1⟩ := k3.get hx
   have g2 := V_resv m g1
   rw [ha] at g2
   obtain ⟨E2, u2, v2⟩ := inst_ok t p1.m (v1 v g2)
   have u3 := link_ok u2.m (V.ext HT (p1.ext.trans u2.ext) _ g2) v2
   have pp := p1.trans ((u2.trans u3).pb p1.m)
   have fin : ∀ (s' : St) (fr2 : List AV), fr2 = fr → M HT E2 s' w → (∀ r, Ref E st r w → Ref E2 s' r w) → absE HT r fr2 s' (R.add s1.nx ((inst t s1).2.nx - s1.nx)) = some (fr', st', R') → ∃ E', Pb HT E st w E' st' ∧ FrOk HT E' fr' a := fun s' fr2 e2 m3 r3 h3 => by
    subst e2
    obtain ⟨E4, p4, f4⟩ := absE_ok r h3 m3 (hf.ext (p1.ext.trans u2.ext))
    exact ⟨E4, Pb.trans ⟨p1.ext.trans u2.ext, m3, r3⟩ p4, f4⟩
   simp only [setLoc] at h
   split at h
   ·rename_i e' cs' f' ty' hb'
    have hβ := (p1.ext.trans u2.ext).β b hbn
    dsimp only at h
    refine fin _ fr rfl ?_ ?_ h
    case refine_2 => exact fun r hr => (pp.ref r hr).st rfl rfl
    refine u3.m.recell hb' (fun arr' u q1 hu => ?_)
    rw [← hβ, k1] at q1
    injection q1 with q1; injection q1 with q1 _
    subst q1
    rw [k2, List.getElem?_append_left (List.getElem?_eq_some_iff.1 hv).1, hv] at hu
    injection hu with hu; subst hu
    exact v2
   ·exact fin _ fr rfl u3.m pp.ref h
theorem absSeal_ok : ∀ (l : List (Nat × Nat)) {E : Env} {st st' : St}, absSeal HT l st = some st' → M HT E st w → ∃ E', Pb HT E st w E' st'
 | [], E, st, st', h, m => by
  injection h with h; subst h
  exact ⟨E, Pb.refl m⟩
 | (b, τ) :: r, E, st, st', h, m => by
  simp only [absSeal] at h
  split at h <;> try cases h
  rename_i s hs
  obtain ⟨E1, p1, _⟩ := confP_ok hs m
  split at h
  ·obtain ⟨E2, p2⟩ := absSeal_ok r h p1.m
   exact ⟨E2, p1.trans p2⟩
  ·split at h <;> try cases h
   rename_i s2 hs2
   obtain ⟨E2, p2⟩ := sealB_ok p1.m hs2
   obtain ⟨E3, p3⟩ := absSeal_ok r h p2.m
   exact ⟨E3, (p1.trans p2).trans p3⟩
theorem sealP_ok {keep : List (Nat × Nat)} : ∀ (n : Nat) {E : Env} {st st' : St}, sealP HT keep n st = some st' → M HT E st w → ∃ E', Pb HT E st w E' st'
 | 0, _, _, _, h, _ => by cases h
 | n + 1, E, st, st', h, m => by
  unfold sealP at h
  split at h
  ·injection h with h; subst h
   exact ⟨E, Pb.refl m⟩
  ·split at h <;> try cases h
   rename_i s hs
   obtain ⟨E1, p1⟩ := sealB_ok m hs
   obtain ⟨E2, p2⟩ := sealP_ok n h p1.m
   exact ⟨E2, p1.trans p2⟩
theorem absA_ok {h : LHint} {n0 : Nat} {frP : List AV} {stP : St} {fr fr' : List AV} {E0 E : Env} {st st' : St} {R : RS} {a : Act} {r : World} (ho : absA HT h n0 frP stP fr st = some (fr', st', R)) (x : Ext E0 E) (hn : E0.n ≤ n0) (m : M HT E st w) (hr : Ref E st r w) (hf : FrOk HT E fr a) :
  ∃ E', Ext E E' ∧ M HT E' st' w ∧ let EP := (Ren.mk n0 R.m R.back).env E' stP.nx; Ext E0 EP ∧ M HT EP stP w ∧ Ref EP stP r w ∧ FrOk HT EP frP a := by
 unfold absA at ho
 split at ho <;> try cases ho
 rename_i fr1 s1 R1 h1
 split at ho <;> try cases ho
 rename_i s2 h2
 split at ho <;> try cases ho
 rename_i s3 h3
 split at ho <;> try cases ho
 rename_i hc
 obtain ⟨E1, p1, f1⟩ := absE_ok _ h1 m hf
 obtain ⟨E2, p2⟩ := absSeal_ok _ h2 p1.m
 obtain ⟨E3, p3⟩ := sealP_ok _ h3 p2.m
 have p := (p1.trans p2).trans p3
 exact ⟨E3, p.ext, p.m, covSt_ok hc (x.trans p.ext) hn p.m (p.ref r hr) (f1.ext (p2.ext.trans p3.ext))⟩
end
section
variable {C : Cx}
theorem loop_go {h : LHint} {c : Code} {n0 : Nat} {frP : List AV} {stP : St} {outs : List Out} (hb : Sound C c frP stP outs) (hme : stP.ge h.me = true) (hbl : belowB stP.nx h.me = true) (hall : outs.all (backOk C.HT h n0 frP stP) = true) {E0 : Env} (hn : E0.n ≤ n0) {r : World} :
  ∀ (n : Nat) (EP : Env) (a : Act) (w : World), Ext E0 EP → M C.HT EP stP w → Ref EP stP r w → FrOk C.HT EP frP a → h.me.ev EP.ρ ≤ n → LoopW C.P c (Post C E0 r (outs.filter fun o => !isNorm o)) a w := by
 intro n
 induction n with
 | zero =>
  intro EP a w x m hr hf hle
  refine LoopW.of (wp_mono (hb EP r a w m hr hf) fun e a' w' g => ?_)
  obtain ⟨o, g1, g2, E', g3, g4, g5, g6⟩ := g
  have hk := List.all_eq_true.1 hall o g1
  cases he : o.ex with
  | normal =>
   unfold backOk at hk
   rw [he] at hk
   simp only at hk
   split at hk <;> try cases hk
   rename_i fr1 s R hab
   obtain ⟨E2, x2, m2, x3, m3, r3, f3⟩ := absA_ok hab (x.trans g3) hn g4 g5 g6
   have h1 := m2.ge hk
   have h0 := m3.ge hme
   rw [Lin.ev_addk, Lin.ev_sub, renL_ev (nx := stP.nx)] at h1
   have bl := belowB_ok hbl
   rw [(g3.trans x2).ev (by rw [m.nx]; exact bl)] at h1
   have : h.me.ev EP.ρ ≤ ((0 : Nat) : Int) := hle
   omega
  | exit id =>
   have hp : Post C E0 r (outs.filter fun o => !isNorm o) e a' w' := ⟨o, List.mem_filter.2 ⟨g1, by simp [isNorm, he]⟩, g2, E', x.trans g3, g4, g5, g6⟩
   rw [he] at g2; subst g2
   exact hp
  | ret =>
   have hp : Post C E0 r (outs.filter fun o => !isNorm o) e a' w' := ⟨o, List.mem_filter.2 ⟨g1, by simp [isNorm, he]⟩, g2, E', x.trans g3, g4, g5, g6⟩
   rw [he] at g2; subst g2
   exact hp
 | succ n ih =>
  intro EP a w x m hr hf hle
  refine LoopW.of (wp_mono (hb EP r a w m hr hf) fun e a' w' g => ?_)
  obtain ⟨o, g1, g2, E', g3, g4, g5, g6⟩ := g
  have hk := List.all_eq_true.1 hall o g1
  cases he : o.ex with
  | normal =>
   unfold backOk at hk
   rw [he] at hk
   simp only at hk
   split at hk <;> try cases hk
   rename_i fr1 s R hab
   obtain ⟨E2, x2, m2, x3, m3, r3, f3⟩ := absA_ok hab (x.trans g3) hn g4 g5 g6
   have h1 := m2.ge hk
   rw [Lin.ev_addk, Lin.ev_sub, renL_ev (nx := stP.nx)] at h1
   have bl := belowB_ok hbl
   rw [(g3.trans x2).ev (by rw [m.nx]; exact bl)] at h1
   rw [he] at g2; subst g2
   exact ih _ a' w' x3 m3 r3 f3 (by have : h.me.ev EP.ρ ≤ ((n + 1 : Nat) : Int) := hle; simp only [Int.natCast_add] at this; omega)
  | exit id =>
   have hp : Post C E0 r (outs.filter fun o => !isNorm o) e a' w' := ⟨o, List.mem_filter.2 ⟨g1, by simp [isNorm, he]⟩, g2, E', x.trans g3, g4, g5, g6⟩
   rw [he] at g2; subst g2
   exact hp
  | ret =>
   have hp : Post C E0 r (outs.filter fun o => !isNorm o) e a' w' := ⟨o, List.mem_filter.2 ⟨g1, by simp [isNorm, he]⟩, g2, E', x.trans g3, g4, g5, g6⟩
   rw [he] at g2; subst g2
   exact hp
theorem loopA_w {h : LHint} {c : Code} {body : Runner} (hb : ∀ fr st outs, body fr st = some outs → Sound C c fr st outs) {fr : List AV} {st : St} {outs : List Out} (ho : loopA C.HT h body fr st = some outs) {E : Env} {r : World} {a : Act} {w : World} (m : M C.HT E st w) (hr : Ref E st r w) (hf : FrOk C.HT E fr a) : LoopW C.P c (Post C E r outs) a w := by
 unfold loopA at ho
 split at ho <;> try cases ho
 rename_i frP stP hp
 split at ho <;> try cases ho
 rename_i q hab
 obtain ⟨fr1, s1, R⟩ := q
 split at ho <;> try cases ho
 rename_i os hbd
 split at ho <;> try cases ho
 rename_i hc
 simp only [Bool.and_eq_true] at hc
 obtain ⟨⟨c1, c2⟩, c3⟩ := hc
 obtain ⟨E2, x2, m2, x3, m3, r3, f3⟩ := absA_ok hab (Ext.refl E) (Nat.le_of_eq m.nx) m hr hf
 obtain ⟨n, hn⟩ := Int.eq_ofNat_of_zero_le (m3.ge c1)
 exact loop_go (hb _ _ _ hbd) c1 c2 c3 (Nat.le_of_eq m.nx) n _ a w x3 m3 r3 f3 (by rw [hn]; exact Int.le_refl _)
/-- The first round apart: what it leaves fits the pattern. -/
def entOk (HT : Th) (h : LHint) (n0 : Nat) (frP : List AV) (stP : St) (o : Out) : Bool := match o.ex with
 | .normal => (absA HT h n0 frP stP o.fr o.st).isSome
 | _ => true
def loopB (HT : Th) (h : LHint) (body : Runner) : Runner := fun fr st =>
 match pat h fr st with
 | some (frP, stP) => match body fr st with
  | some l => if l.all (entOk HT h st.nx frP stP) then match body frP stP with
   | some outs => if stP.ge h.me && belowB stP.nx h.me && outs.all (backOk HT h st.nx frP stP) then some ((l.filter fun o => !isNorm o) ++ outs.filter fun o => !isNorm o) else none
   | none => none
   else none
  | none => none
 | none => none
theorem loopB_w {h : LHint} {c : Code} {body : Runner} (hb : ∀ fr st outs, body fr st = some outs → Sound C c fr st outs) {fr : List AV} {st : St} {outs : List Out} (ho : loopB C.HT h body fr st = some outs) {E : Env} {r : World} {a : Act} {w : World} (m : M C.HT E st w) (hr : Ref E st r w) (hf : FrOk C.HT E fr a) : LoopW C.P c (Post C E r outs) a w := by
 unfold loopB at ho
 split at ho <;> try cases ho
 rename_i frP stP hp
 split at ho <;> try cases ho
 rename_i l hl
 split at ho <;> try cases ho
 rename_i hent
 split at ho <;> try cases ho
 rename_i os hbd
 split at ho <;> try cases ho
 rename_i hc
 simp only [Bool.and_eq_true] at hc
 obtain ⟨⟨c1, c2⟩, c3⟩ := hc
 refine LoopW.of (wp_mono (hb fr st l hl E r a w m hr hf) fun e a' w' g => ?_)
 obtain ⟨o, g1, g2, E', g3, g4, g5, g6⟩ := g
 have hen := List.all_eq_true.1 hent o g1
 have stop : isNorm o = false → Post C E r ((l.filter fun o => !isNorm o) ++ os.filter fun o => !isNorm o) e a' w' := fun hi => ⟨o, List.mem_append.2 (.inl (List.mem_filter.2 ⟨g1, by rw [hi]; rfl⟩)), g2, E', g3, g4, g5, g6⟩
 cases he : o.ex with
 | normal =>
  unfold entOk at hen
  rw [he] at hen
  obtain ⟨⟨fr1, s1, R⟩, hab⟩ := Option.isSome_iff_exists.1 hen
  obtain ⟨E2, x2, m2, x3, m3, r3, f3⟩ := absA_ok hab g3 (Nat.le_of_eq m.nx) g4 g5 g6
  obtain ⟨n, hn⟩ := Int.eq_ofNat_of_zero_le (m3.ge c1)
  have := loop_go (hb _ _ _ hbd) c1 c2 c3 (E0 := E) (Nat.le_of_eq m.nx) n _ a' w' x3 m3 r3 f3 (by rw [hn]; exact Int.le_refl _)
  rw [he] at g2; subst g2
  exact this.mono fun e a w g => Post.mono (Ext.refl E) (fun o ho => List.mem_append.2 (.inr ho)) g
 | exit id =>
  have hp := stop (by simp [isNorm, he])
  rw [he] at g2; subst g2
  exact hp
 | ret =>
  have hp := stop (by simp [isNorm, he])
  rw [he] at g2; subst g2
  exact hp
/-- A loop's first region. -/
def firstR : Code → Nat
 | .region id _ _ => id
 | .seq a _ => firstR a
 | .block _ c => firstR c
 | .loop c => firstR c
 | .scope c => firstR c
 | _ => 0
end
end Go.Proofs.YtbjhcjgniciooaaGreatDoor.E
namespace Go.Proofs.YtbjhcjgniciooaaGreatDoor.E
set_option linter.unusedVariables false
/-! ### The program's kinds, by their types' numbers; rows: 1000 and the element's; the table: 0 -/
def cL : List CT → CTs
 | [] => .nil
 | t :: ts => .cons t (cL ts)
def fL : List (Nat × List CT × List CT) → FTs
 | [] => .nil
 | (f, a, b) :: r => .cons f (cL a) (cL b) (fL r)
def iL : List (Nat × CT) → ITs
 | [] => .nil
 | (t, c) :: r => .cons t c (iL r)
/-- Any number. -/
def cI : CT := .int .i64 (-9223372036854775808) 9223372036854775807
def cU8 : CT := .int .u8 0 255
/-- A text; a list; what went wrong; what is counted by h. -/
def dS : Bd := ⟨14, 0, 2000⟩
def dD : Bd := ⟨20, 0, 4000⟩
def dG : Bd := ⟨2, 0, 10⟩
def dH : Bd := ⟨0, 1, 0⟩
def cS : CT := .str 0 dS
def cSl (el : Nat) : CT := .sl (1000 + el) 0 dD
def cStrs : CT := cSl 9
def cDiags : CT := .sl 1209 0 dG
/-- What a command says. -/
def cOut : CT := .sl 1009 0 dG
def cStat : List CT := [cI, cI, cI, cI, cI, cI, cI]
/-- A path; a name of the table; some names. -/
def cP : CT := .str 0 ⟨28, 0, 4100⟩
def cNm : CT := .str 0 ⟨0, 0, 12⟩
/-- A piece of a script's text. -/
def cW0 : CT := .str 0 ⟨0, 0, 1500⟩
def cNames : CT := .sl 3009 0 ⟨0, 0, 8⟩
def cEnts : CT := .sl 1125 0 ⟨0, 0, 8⟩
def cResult : List CT := [cI, cI] ++ cStat ++ [cS, cNames, cSl 5]
def cItem : List CT := [cS, .bool, .bool]
def cMode : List CT := [.bool, cI, cSl 369]
/-- One of some functions, bound to a box. -/
def cNext (nul : Bool) (τ : Nat) (fs : List Nat) : CT := .fn nul (fL (fs.map fun f => (f, [.ptr τ false], [])))
def o1 (elem : Nat) (l : List CT) : HTy := .obj elem [(cL l, [], none)]
def rw1 (elem : Nat) (l : List CT) : HTy := .row elem l.length (cL l)
def kty : Nat → HTy
 | 0 => .opq
 | 4 => o1 4 [.bool]
 | 5 => o1 5 [cU8]
 | 59 => o1 59 [.ptr 105 false, cSl 61]
 | 65 => o1 65 [cNames]
 | 69 => o1 69 ([.ptr 111 false] ++ cResult ++ [cI, .bool])
 | 88 => .map cS cI
 | 90 => .obj 90 [(cL [cI, cI, .sl 1087 1 ⟨1, 0, 2⟩, .sl 1035 0 ⟨1, 0, 1⟩, .sl 1003 0 dH, .map 3088 false, cI, .sl 1003 1 ⟨1, 0, 2⟩, cI], [⟨0, [(2, -1), (7, 1)]⟩], none)]
 | 105 => o1 105 [.ptr 0 false, cSl 115]
 | 111 => o1 111 [cI, .sl 1065 0 ⟨0, 0, 6⟩, .iface true (iL [(143, .agg (cL [.ptr 141 false, cI])), (198, .ptr 270 false), (200, .ptr 337 false), (202, .ptr 288 false), (204, .ptr 294 false), (206, .ptr 298 false)]), .sl 1003 0 dH, .sl 1209 0 dH, .sl 1009 0 dH]
 | 141 => o1 141 [cDiags, cOut]
 | 152 => o1 152 [.uid, cI, cSl 3, cI, cI, cI, .bool, .bool, cI, cI, .bool, .bool, cI, cI, .bool, .bool]
 | 270 => o1 270 ([cDiags, cOut, .ptr 332 true, .bool] ++ cMode ++ [cI] ++ cItem ++ cStat ++ [cNext true 270 [172, 273, 304, 322]])
 | 288 => .obj 288 [(cL ([cDiags, cOut, cI, .bool, .bool] ++ cMode ++ [cStrs, cS, cStrs, cNext true 288 [180, 185, 238, 307, 327, 326]]), [], none),
   (cL ([cDiags, cOut, cI, .bool, .bool] ++ cMode ++ [cStrs, cS, .sl 1009 1 dD, cNext false 288 [306, 325]]), [], some (11, [306, 325]))]
 | 294 => o1 294 ([cDiags, cOut, .bool, .bool, cS, cStrs, cP, cP] ++ cStat ++ [.ptr 418 true, cNext true 294 [186, 240, 314, 329, 336, 343, 349]])
 | 295 => .map cU8 cI
 | 298 => o1 298 [cDiags, cOut, .map 295 false, .bool, cS, cStrs, cP, cP, cI, .ptr 418 true, cNext true 298 [189, 244, 315, 331, 337, 344, 350, 354]]
 | 328 => .map cI .bool
 | 332 => o1 332 ([.bool, .fn false (fL [(230, [], [.ptr 4 false, .ptr 5 false])]), cSl 268] ++ cItem ++ [.bool, .map 328 false])
 | 337 => o1 337 ([cDiags, cOut, .ptr 332 true, .bool, .bool, cI, cI] ++ cItem ++ cStat ++ [cNext true 337 [232, 305, 324, 334]])
 | 418 => o1 418 [cP, cP, cI, cI, cI, cI, cI, cP, cI, cNext true 418 [340, 348, 353, 357, 358, 355, 352]]
 | 1003 => rw1 3 [cI]
 | 1004 => rw1 4 [.bool]
 | 1005 => rw1 5 [cU8]
 | 1009 => rw1 9 [cS]
 | 1032 => rw1 32 [.uid, cI, cSl 3]
 | 1035 => rw1 35 [cI, cI, cSl 3, cSl 65]
 | 1061 => rw1 61 [.ptr 69 false]
 | 1065 => rw1 65 [cStrs]
 | 1087 => rw1 87 [cI, cI, cI, cI, cI, cW0, .sl 1005 0 ⟨0, 0, 1000⟩, cW0, cI]
 | 1115 => rw1 115 [.ptr 152 false]
 | 1125 => rw1 125 [cNm, cI]
 | 1209 => rw1 209 [cP, cI]
 | 1268 => rw1 268 cItem
 | 1334 => rw1 334 [cU8, cS]
 | 1369 => rw1 369 [cI, cSl 378]
 | 1378 => rw1 378 [cU8, cI, cI]
 | 3009 => rw1 9 [cNm]
 | 5009 => rw1 9 [cP]
 | 2035 => rw1 35 [.uid, cI, cSl 3, .sl 1065 0 ⟨0, 0, 6⟩]
 | 3088 => .map (.str 0 ⟨0, 0, 3000000⟩) cI
 | 4009 => rw1 9 [cW0]
 | 7009 => rw1 9 [cNm]
 | 6009 => rw1 9 [.str 1 ⟨0, 0, 1500⟩]
 | _ => .map .bool .bool
def rkF (el : Nat) : Option Nat := match kty (1000 + el) with
 | .row _ _ _ => some (1000 + el)
 | _ => none
end Go.Proofs.YtbjhcjgniciooaaGreatDoor.E
namespace Go.Proofs.YtbjhcjgniciooaaGreatDoor.E
set_option linter.unusedVariables false
/-! ### Patterns by the frame's places -/
inductive Pl where
 | x (i : Nat)
 | s (i : Nat)
 | c (i j : Nat)
 | l (i : Nat)
 | g
 | h
structure PLin where
 k : Int
 ts : List (Pl × Int)
/-- A place that is told anew: in the frame; in the block to which a place points; the place of a text's reader. -/
inductive RLoc where
 | f (i : Nat)
 | c (i j : Nat)
 | t (i : Nat)
 | g
 | h
structure RHint where
 eds : List (RLoc × CT)
 tops : List Nat
 keep : List Nat
 cs : List PLin
 me : PLin
 tm : List Nat
 drop : Bool
def slotB (fr : List AV) (st : St) (i : Nat) : Option Nat := match (fr[i]?).map (resv st) with
 | some (.ptr b _) => some b
 | _ => none
def plA (fr : List AV) (st : St) : Pl → Option Lin
 | .x i => some (.v (st.nx + i))
 | .s i => match (fr[i]?).map (resv st) with
  | some a => numA a
  | none => none
 | .c i j => match slotB fr st i with
  | some b => match st.bk.get b with
   | some (.cells _ cs _ _) => match (cs[j]?).map (resv st) with
    | some a => numA a
    | none => none
   | _ => none
  | none => none
 | .l i => match slotB fr st i with
  | some b => ((st.bk.get b).bind itOf).map (·.1)
  | none => none
 | .g => some st.gl
 | .h => some st.hl
def pTs (fr : List AV) (st : St) : List (Pl × Int) → Option Lin
 | [] => some (.k 0)
 | (p, k) :: r => match plA fr st p, pTs fr st r with
  | some e, some f => some ((e.sc k).add f)
  | _, _ => none
def plin (fr : List AV) (st : St) (p : PLin) : Option Lin := (pTs fr st p.ts).map (·.addk p.k)
def plins (fr : List AV) (st : St) : List PLin → Option (List Lin)
 | [] => some []
 | p :: r => match plin fr st p, plins fr st r with
  | some e, some l => some (e :: l)
  | _, _ => none
def rlocs (fr : List AV) (st : St) : List (RLoc × CT) → Option (List (Loc × CT))
 | [] => some []
 | (.f i, t) :: r => (rlocs fr st r).map ((.fr i, t) :: ·)
 | (.c i j, t) :: r => match slotB fr st i, rlocs fr st r with
  | some b, some l => some ((.cell b j, t) :: l)
  | _, _ => none
 | (.t i, t) :: r => match slotB fr st i, rlocs fr st r with
  | some b, some l => some ((.it b, t) :: l)
  | _, _ => none
 | (.g, t) :: r => (rlocs fr st r).map ((.g, t) :: ·)
 | (.h, t) :: r => (rlocs fr st r).map ((.h, t) :: ·)
/-- What stays open: to what some places point; to what no place points. -/
def keepR (fr : List AV) (st : St) (keep : List Nat) : List (Nat × Nat) := st.op.filter fun q => (keep.any fun i => match slotB fr st i with
 | some b => Nat.beq b q.1
 | none => false) || !fr.any fun a => match resv st a with
  | .ptr b _ => Nat.beq b q.1
  | _ => false
def resolveH (h : RHint) (fr : List AV) (st : St) : Option LHint :=
 match rlocs fr st h.eds, plins fr st h.cs, plin fr st h.me with
 | some eds, some cs, some me => some ⟨eds, h.tops, [], cs, me, h.tm, h.drop⟩
 | _, _, _ => none
/-- Boxes that are told by their kind from here on: 2000000, and 10000 for each place, and the kind. -/
def pubR (HT : Th) (fr : List AV) : List Nat → St → Option St
 | [], st => some st
 | n :: r, st => if Nat.ble 2000000 n then match slotB fr st ((n - 2000000) / 10000) with
   | some b => match confP HT ((n - 2000000) % 10000) b st with
    | some s => pubR HT fr r s
    | none => none
   | none => none
  else pubR HT fr r st
def loopR (HT : Th) (h : RHint) (body : Runner) : Runner := fun fr st0 =>
 match pubR HT fr h.keep st0 with
 | some st => match sealP HT (keepR fr st h.keep) sfuel st with
  | some s => match resolveH h fr s with
   | some h' => loopA HT h' body fr s
   | none => none
  | none => none
 | none => none
/-- The first round apart. -/
def peelR (HT : Th) (h : RHint) (body : Runner) : Runner := fun fr st =>
 match sealP HT (keepR fr st h.keep) sfuel st with
 | some s => match resolveH h fr s with
  | some h' => loopB HT h' body fr s
  | none => none
 | none => none
def loopP (HT : Th) (h : RHint) (body : Runner) : Runner := if h.keep.any (Nat.beq 1000000) then peelR HT h body else loopR HT h body
abbrev RHints := List (Nat × Nat × RHint)
def tryR (HT : Th) (n id r : Nat) (body : Runner) : RHints → Runner
 | [] => unroll body n
 | p :: ps => if Nat.beq p.1 id && Nat.beq p.2.1 r then fun fr st => match loopP HT p.2.2 body fr st with
   | some o => some o
   | none => tryR HT n id r body ps fr st
  else tryR HT n id r body ps
def rLp (HT : Th) (hs : RHints) (n : Nat) (id : Nat) : Code → Runner → Runner := fun c body =>
 tryR HT n id (firstR c) body hs
section
variable {C : Cx}
theorem pubR_ok {HT : Th} {fr : List AV} {w : World} : ∀ (l : List Nat) {E : Env} {st st' : St}, pubR HT fr l st = some st' → M HT E st w → ∃ E', Pb HT E st w E' st'
 | [], E, st, st', h, m => by
  injection h with h; subst h
  exact ⟨E, Pb.refl m⟩
 | n :: r, E, st, st', h, m => by
  unfold pubR at h
  split at h
  ·split at h <;> try cases h
   rename_i b hb
   split at h <;> try cases h
   rename_i s hs
   obtain ⟨E1, p1, _⟩ := confP_ok hs m
   obtain ⟨E2, p2⟩ := pubR_ok r h p1.m
   exact ⟨E2, p1.trans p2⟩
  ·exact pubR_ok r h m
theorem loopR_w {h : RHint} {c : Code} {body : Runner} (hb : ∀ fr st outs, body fr st = some outs → Sound C c fr st outs) {fr : List AV} {st : St} {outs : List Out} (ho : loopR C.HT h body fr st = some outs) {E : Env} {r : World} {a : Act} {w : World} (m : M C.HT E st w) (hr : Ref E st r w) (hf : FrOk C.HT E fr a) : LoopW C.P c (Post C E r outs) a w := by
 unfold loopR at ho
 split at ho <;> try cases ho
 rename_i s0 hs0
 split at ho <;> try cases ho
 rename_i s hs
 split at ho <;> try cases ho
 rename_i h' hh
 obtain ⟨E0, p0⟩ := pubR_ok _ hs0 m
 obtain ⟨E1, p1'⟩ := sealP_ok _ hs p0.m
 have p1 := p0.trans p1'
 exact (loopA_w hb ho p1.m (p1.ref r hr) (hf.ext p1.ext)).mono fun e a' w' g => Post.mono p1.ext (fun o ho => ho) g
theorem peelR_w {h : RHint} {c : Code} {body : Runner} (hb : ∀ fr st outs, body fr st = some outs → Sound C c fr st outs) {fr : List AV} {st : St} {outs : List Out} (ho : peelR C.HT h body fr st = some outs) {E : Env} {r : World} {a : Act} {w : World} (m : M C.HT E st w) (hr : Ref E st r w) (hf : FrOk C.HT E fr a) : LoopW C.P c (Post C E r outs) a w := by
 unfold peelR at ho
 split at ho <;> try cases ho
 rename_i s hs
 split at ho <;> try cases ho
 rename_i h' hh
 obtain ⟨E1, p1⟩ := sealP_ok _ hs m
 exact (loopB_w hb ho p1.m (p1.ref r hr) (hf.ext p1.ext)).mono fun e a' w' g => Post.mono p1.ext (fun o ho => ho) g
theorem loopP_ok {h : RHint} {c : Code} {body : Runner} (hb : ∀ fr st outs, body fr st = some outs → Sound C c fr st outs) {fr : List AV} {st : St} {outs : List Out} (ho : loopP C.HT h body fr st = some outs) : Sound C (.loop c) fr st outs := by
 intro E r a w m hr hf
 unfold loopP at ho
 split at ho
 ·exact (peelR_w hb ho m hr hf).loop
 ·exact (loopR_w hb ho m hr hf).loop
theorem rLp_ok (hs : RHints) (n id : Nat) : LpOk C (rLp C.HT hs n id) := by
 intro c body hb fr st outs ho
 unfold rLp at ho
 induction hs with
 | nil => exact unroll_lp n c body hb fr st outs ho
 | cons p ps ih =>
  simp only [tryR] at ho
  split at ho
  ·dsimp only at ho
   split at ho
   ·rename_i o he
    injection ho with ho; subst ho
    exact loopP_ok hb he
   ·exact ih ho
  ·exact ih ho
end
end Go.Proofs.YtbjhcjgniciooaaGreatDoor.E
