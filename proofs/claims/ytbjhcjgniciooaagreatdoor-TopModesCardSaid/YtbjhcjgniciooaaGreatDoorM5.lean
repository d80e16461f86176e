/- TopModes: a part of the proof, merged. -/
import Derived.Test.YtbjhcjgniciooaaGreatDoorM1
import Derived.Test.YtbjhcjgniciooaaGreatDoorM4
namespace Go.Proofs.YtbjhcjgniciooaaGreatDoor.E
set_option linter.unusedVariables false
set_option linter.unusedSimpArgs false
abbrev Outs := Option (List (AV × St))
section
variable (C : Cx)
/-- An operation that may write or make memory. -/
def memOp (st : St) (fr : List AV) (o : Oper) : Outs :=
 match o.op with
 | .load t x => match evO st fr x with
  | .ptr b o => match st.bk.get b with
   | some (.cells _ cs _ _) => one1 st (partA C t cs o)
   | some (.frz cs) => one1 st (partA C t cs o)
   | _ => none
  | _ => none
 | .convert s d x => frzA C st s d (evO st fr x)
 | .store t x v => match evO st fr x with
  | .ptr b o => (storeA C st t b o (evO st fr v)).map fun s => [(.top, s)]
  | _ => none
 | .alloc t => one2 (allocA C st t)
 | .box t x => one2 (boxA st t (evO st fr x))
 | .buildSlice t n parts => one2 (buildSliceA C st t n (evP st fr parts.toList))
 | .makeSlice t l c => one2 (makeSliceA C st t (evO st fr l) (evO st fr c))
 | .makeMap t r => one2 (makeMapA C st t (optE st fr r))
 | .mapUpdate t m k v => (mapUpdateA C st t (evO st fr m) (evO st fr k) (evO st fr v)).map fun s => [(.top, s)]
 | .insert t m k v => (mapUpdateA C st t (evO st fr m) (evO st fr k) (evO st fr v)).map fun s => [(.top, s)]
 | .lookup t m k ok => lookupA C st t (evO st fr m) (evO st fr k) ok
 | .range t x => one2 (rangeA C st t (evO st fr x))
 | .next it s => if s then nextA st (evO st fr it) else none
 | .call c => match c.callee with
  | .builtin .append => match c.args.toList, c.argTypes.toList with
   | [s, x], [sT, xT] => one2 (appendA C st sT xT (evO st fr s) (evO st fr x))
   | _, _ => none
  | .builtin .copy => match c.args.toList, c.argTypes.toList with
   | [d, s], [dT, _] => one2 (copyA C st dT (evO st fr d) (evO st fr s))
   | _, _ => none
  | _ => none
 | _ => none
/-- What an operation's run may come to. -/
def OpRes (E : Env) (r : World) (outs : List (AV × St)) (res : Result Next) : Prop :=
 ∃ v w', (res = .ok (.value v) w' ∨ (res = .ok .skip w' ∧ v = undef)) ∧ ∃ o ∈ outs, ∃ E', Ext E E' ∧ M C.HT E' o.2 w' ∧ Ref E' o.2 r w' ∧ V C.HT E' o.1 v
variable {C} {E : Env} {st : St} {w : World}
theorem DoesV.res {r : World} {s : Sem Value} {outs : List (AV × St)} (h : DoesV C E st r w s outs) : OpRes C E r outs ((do pure (.value (← s)) : Sem Next).run C.P w) := by
 obtain ⟨v, w', h1, h2⟩ := h
 exact ⟨v, w', .inl (by rw [Sem.run_bind, h1]; rfl), h2⟩
theorem unit_res {r : World} {s : Sem Unit} {st' : St} (h : ∃ w', s.run C.P w = .ok () w' ∧ M C.HT E st' w' ∧ Ref E st' r w') : OpRes C E r [(.top, st')] ((do s; pure .skip : Sem Next).run C.P w) := by
 obtain ⟨w', h1, h2, h3⟩ := h
 exact ⟨undef, w', .inr ⟨by rw [Sem.run_bind, h1]; rfl, rfl⟩, _, List.mem_cons_self .., E, Ext.refl E, h2, h3, trivial⟩
theorem one2_some {r : Option (AV × St)} {outs : List (AV × St)} (h : one2 r = some outs) : ∃ o, r = some o ∧ outs = [o] := by
 unfold one2 at h
 cases r with
 | none => cases h
 | some o => injection h with h; exact ⟨o, rfl, h.symm⟩
theorem map_top {r : Option St} {outs : List (AV × St)} (h : (r.map fun s => [(AV.top, s)]) = some outs) : ∃ s, r = some s ∧ outs = [(.top, s)] := by
 cases r with
 | none => cases h
 | some o => injection h with h; exact ⟨o, rfl, h.symm⟩
theorem memOp_ok (hC : CxOk C) (h : M C.HT E st w) {r : World} (hr : Ref E st r w) {fr : List AV} {a : Act} (hf : FrOk C.HT E fr a) {o : Oper} {outs : List (AV × St)} (ho : memOp C st fr o = some outs) : OpRes C E r outs ((execOp a.eval o).run C.P w) := by
 obtain ⟨dst, op, type, pos, after, guard⟩ := o
 cases op <;> simp only [memOp] at ho <;> try cases ho
 case alloc t =>
  obtain ⟨o, h1, rfl⟩ := one2_some ho
  exact (alloc_ok hC h hr h1).res
 case box t x =>
  obtain ⟨o, h1, rfl⟩ := one2_some ho
  exact (box_ok hC h hr h1 (evO_ok h hf x)).res
 case buildSlice t n parts =>
  obtain ⟨o, h1, rfl⟩ := one2_some ho
  obtain ⟨e1, e2⟩ := evP_ok h hf parts.toList
  refine (buildSlice_ok hC h hr h1 ?_ ?_).res
  ·rw [Array.toList_map]; exact e1
  ·rw [Array.toList_map]; exact e2
 case insert t m k v =>
  obtain ⟨s, h1, rfl⟩ := map_top ho
  exact unit_res (mapUpdate_ok hC h hr h1 (evO_ok h hf m) (evO_ok h hf k) (evO_ok h hf v))
 case load t x =>
  split at ho <;> try cases ho
  rename_i b o ex
  have hv := evO_ok h hf x
  rw [ex] at hv
  have fin : ∀ cs, one1 st (partA C t cs o) = some outs → (∀ q, partA C t cs o = some q → ∃ v, (∀ w', w'.heap[E.β b]? = w.heap[E.β b]? → (Instr.loadAt t (.pointer (some ⟨E.β b, o, none⟩))).run C.P w' = .ok v w') ∧ V C.HT E q v) → OpRes C E r outs ((execOp a.eval ⟨dst, .load t x, type, pos, after, guard⟩).run C.P w) := fun cs ho hl => by
   unfold one1 at ho
   cases hp : partA C t cs o with
   | none => rw [hp] at ho; cases ho
   | some q =>
    rw [hp] at ho
    injection ho with ho; subst ho
    obtain ⟨v, g1, g2⟩ := hl q hp
    refine ⟨v, w, .inl ?_, _, List.mem_cons_self .., E, Ext.refl E, h, hr, g2⟩
    simp only [execOp, Sem.run_bind, hv.1, g1 w rfl]
    rfl
  split at ho <;> try cases ho
  ·rename_i el cs full ty hb
   exact fin cs ho fun q hp => load_ok hC h hb hp
  ·rename_i cs hb
   exact fin cs ho fun q hp => loadF_ok hC h hb hp
 case convert s d x =>
  have : DoesV C E st r w (convert s d (a.eval x)) outs := frz_ok hC h hr ho (evO_ok h hf x)
  exact this.res
 case store t x v =>
  split at ho <;> try cases ho
  rename_i b o ex
  have hv := evO_ok h hf x
  rw [ex] at hv
  obtain ⟨s, h1, rfl⟩ := map_top ho
  have := unit_res (store_ok hC h hr h1 (evO_ok h hf v))
  simp only [execOp, hv.1]
  exact this
 case makeMap t n =>
  obtain ⟨o, h1, rfl⟩ := one2_some ho
  exact (makeMap_ok hC h hr h1 (optE_ok h hf n)).res
 case makeSlice t l c =>
  obtain ⟨o, h1, rfl⟩ := one2_some ho
  exact (makeSlice_ok hC h hr h1 (evO_ok h hf l) (evO_ok h hf c)).res
 case lookup t m k ok =>
  obtain ⟨v, h1, o, h2, h3, h4⟩ := lookup_ok hC h ho (evO_ok h hf m) (evO_ok h hf k)
  refine ⟨v, w, .inl ?_, o, h2, E, Ext.refl E, by rw [h3]; exact h, by rw [h3]; exact hr, h4⟩
  simp only [execOp, Sem.run_bind, h1 w rfl]
  rfl
 case mapUpdate t m k v =>
  obtain ⟨s, h1, rfl⟩ := map_top ho
  exact unit_res (mapUpdate_ok hC h hr h1 (evO_ok h hf m) (evO_ok h hf k) (evO_ok h hf v))
 case range t x =>
  obtain ⟨o, h1, rfl⟩ := one2_some ho
  exact (range_ok hC h hr h1 (evO_ok h hf x)).res
 case next it s =>
  split at ho <;> try cases ho
  rename_i hs
  subst hs
  exact (next_ok h hr ho (evO_ok h hf it) type).res
 case call c =>
  obtain ⟨callee, args, argTypes⟩ := c
  have ar : ∀ {l : List Operand}, args.toList = l → args.map a.eval = (l.map a.eval).toArray := fun e => by rw [← e, ← List.map_toArray, Array.toArray_toList]
  cases callee with
  | value f => cases ho
  | invoke r m => cases ho
  | builtin bi =>
  cases bi <;> try cases ho
  case append =>
   dsimp only at ho
   split at ho <;> try cases ho
   rename_i s x sT xT e1 e2
   obtain ⟨o, h1, rfl⟩ := one2_some ho
   have e2 : argTypes = #[sT, xT] := by rw [← Array.toArray_toList (xs := argTypes), e2]
   have := (append_ok (ty := type) hC h hr h1 (evO_ok h hf s) (evO_ok h hf x)).res
   simp only [execOp, resolve]
   rw [ar e1, e2]
   exact this
  case copy =>
   dsimp only at ho
   split at ho <;> try cases ho
   rename_i s x sT xT e1 e2
   obtain ⟨o, h1, rfl⟩ := one2_some ho
   have e2 : argTypes = #[sT, xT] := by rw [← Array.toArray_toList (xs := argTypes), e2]
   have := (copy_ok (sT := xT) (ty := type) hC h hr h1 (evO_ok h hf s) (evO_ok h hf x)).res
   simp only [execOp, resolve]
   rw [ar e1, e2]
   exact this
end
end Go.Proofs.YtbjhcjgniciooaaGreatDoor.E
namespace Go.Proofs.YtbjhcjgniciooaaGreatDoor.E
set_option linter.unusedVariables false
set_option linter.unusedSimpArgs false
/-! ### Are two kinds the same? -/
def bdE (a b : Bd) : Bool := Nat.beq a.a b.a && Nat.beq a.c b.c && Nat.beq a.b b.b
theorem bdE_ok {a b : Bd} (h : bdE a b = true) : a = b := by
 simp only [bdE, Bool.and_eq_true, Nat.beq_eq] at h
 obtain ⟨⟨h1, h2⟩, h3⟩ := h
 cases a; cases b; simp_all
mutual
def ctE : CT → CT → Bool
 | .int k a b, .int l c d => k == l && a == c && b == d
 | .bool, .bool | .uid, .uid => true
 | .str a b, .str c d => Nat.beq a c && bdE b d
 | .sl t a b, .sl u c d => Nat.beq t u && Nat.beq a c && bdE b d
 | .ptr t a, .ptr u b => Nat.beq t u && a == b
 | .map t a, .map u b => Nat.beq t u && a == b
 | .fn a f, .fn b g => a == b && ftE f g
 | .iface a f, .iface b g => a == b && itE f g
 | .agg a, .agg b => ctsE a b
 | _, _ => false
def ctsE : CTs → CTs → Bool
 | .nil, .nil => true
 | .cons a b, .cons c d => ctE a c && ctsE b d
 | _, _ => false
def ftE : FTs → FTs → Bool
 | .nil, .nil => true
 | .cons f a b r, .cons g c d s => Nat.beq f g && ctsE a c && ctsE b d && ftE r s
 | _, _ => false
def itE : ITs → ITs → Bool
 | .nil, .nil => true
 | .cons f a r, .cons g c s => Nat.beq f g && ctE a c && itE r s
 | _, _ => false
end
mutual
theorem ctE_ok : ∀ (a b : CT), ctE a b = true → a = b
 | .int k a b, x, h => by
  cases x <;> simp only [ctE] at h <;> try cases h
  simp only [Bool.and_eq_true, beq_iff_eq] at h
  obtain ⟨⟨h1, h2⟩, h3⟩ := h; rw [h1, h2, h3]
 | .bool, x, h => by cases x <;> simp [ctE] at h; rfl
 | .uid, x, h => by cases x <;> simp [ctE] at h; rfl
 | .str a b, x, h => by
  cases x <;> simp only [ctE] at h <;> try cases h
  simp only [Bool.and_eq_true, Nat.beq_eq] at h
  obtain ⟨h1, h2⟩ := h; rw [h1, bdE_ok h2]
 | .sl t a b, x, h => by
  cases x <;> simp only [ctE] at h <;> try cases h
  simp only [Bool.and_eq_true, Nat.beq_eq] at h
  obtain ⟨⟨h1, h2⟩, h3⟩ := h; rw [h1, h2, bdE_ok h3]
 | .ptr t a, x, h => by
  cases x <;> simp only [ctE] at h <;> try cases h
  simp only [Bool.and_eq_true, Nat.beq_eq, beq_iff_eq] at h
  obtain ⟨h1, h2⟩ := h; rw [h1, h2]
 | .map t a, x, h => by
  cases x <;> simp only [ctE] at h <;> try cases h
  simp only [Bool.and_eq_true, Nat.beq_eq, beq_iff_eq] at h
  obtain ⟨h1, h2⟩ := h; rw [h1, h2]
 | .fn a f, x, h => by
  cases x <;> simp only [ctE] at h <;> try cases h
  simp only [Bool.and_eq_true, beq_iff_eq] at h
  rw [h.1, ftE_ok _ _ h.2]
 | .iface a f, x, h => by
  cases x <;> simp only [ctE] at h <;> try cases h
  simp only [Bool.and_eq_true, beq_iff_eq] at h
  rw [h.1, itE_ok _ _ h.2]
 | .agg a, x, h => by
  cases x <;> simp only [ctE] at h <;> try cases h
  rw [ctsE_ok _ _ h]
theorem ctsE_ok : ∀ (a b : CTs), ctsE a b = true → a = b
 | .nil, x, h => by cases x <;> simp [ctsE] at h; rfl
 | .cons a b, x, h => by
  cases x <;> simp only [ctsE] at h <;> try cases h
  simp only [Bool.and_eq_true] at h
  rw [ctE_ok _ _ h.1, ctsE_ok _ _ h.2]
theorem ftE_ok : ∀ (a b : FTs), ftE a b = true → a = b
 | .nil, x, h => by cases x <;> simp [ftE] at h; rfl
 | .cons f a b r, x, h => by
  cases x <;> simp only [ftE] at h <;> try cases h
  simp only [Bool.and_eq_true, Nat.beq_eq] at h
  obtain ⟨⟨⟨h1, h2⟩, h3⟩, h4⟩ := h
  rw [h1, ctsE_ok _ _ h2, ctsE_ok _ _ h3, ftE_ok _ _ h4]
theorem itE_ok : ∀ (a b : ITs), itE a b = true → a = b
 | .nil, x, h => by cases x <;> simp [itE] at h; rfl
 | .cons f a r, x, h => by
  cases x <;> simp only [itE] at h <;> try cases h
  simp only [Bool.and_eq_true, Nat.beq_eq] at h
  obtain ⟨⟨h1, h2⟩, h3⟩ := h
  rw [h1, ctE_ok _ _ h2, itE_ok _ _ h3]
end
def St.eqL (st : St) (a b : Lin) : Bool := st.ge (a.sub b) && st.ge (b.sub a)
section
variable {HT : Th} {E : Env} {st : St} {w : World}
theorem M.eqL (h : M HT E st w) {a b : Lin} (he : st.eqL a b = true) : a.ev E.ρ = b.ev E.ρ := by
 simp only [St.eqL, Bool.and_eq_true] at he
 have h1 := h.ge he.1
 have h2 := h.ge he.2
 rw [Lin.ev_sub] at h1 h2
 omega
end
end Go.Proofs.YtbjhcjgniciooaaGreatDoor.E
namespace Go.Proofs.YtbjhcjgniciooaaGreatDoor.E
set_option linter.unusedVariables false
set_option linter.unusedSimpArgs false
/-! ### What was one's own is told by its kind -/
def Env.pub (E : Env) (k : Nat) (t : Nat × Nat) : Env := { E with S := fun i => if i = k then some t else E.S i }
theorem Env.pub_self (E : Env) (k : Nat) (t : Nat × Nat) : (E.pub k t).S k = some t := by simp [Env.pub]
theorem Env.pub_ne (E : Env) {k i : Nat} (t : Nat × Nat) (h : i ≠ k) : (E.pub k t).S i = E.S i := by simp [Env.pub, h]
theorem pub_ext {E : Env} {k : Nat} (t : Nat × Nat) (h : Prv E k) : Ext E (E.pub k t) :=
 ⟨Nat.le_refl _, fun _ _ => rfl, fun _ _ => rfl, fun _ _ => rfl, fun _ _ => rfl, fun i u hi => (by rw [Env.pub_ne]; exact hi; intro e; rw [e, h.1] at hi; cases hi), fun _ h => h, fun _ _ h => h, rfl, rfl, rfl,
  fun i hi => Env.pub_ne _ _ (fun e => by rw [e] at hi; exact hi.elim h.2.2 h.2.1), Nat.le_refl _, Nat.le_refl _, rfl, rfl⟩
/-- The world stays; more is told by its kind. -/
structure Pb (HT : Th) (E : Env) (st : St) (w : World) (E' : Env) (st' : St) : Prop where
 ext : Ext E E'
 m : M HT E' st' w
 ref : ∀ r, Ref E st r w → Ref E' st' r w
section
variable {HT : Th} {E : Env} {st : St} {w : World}
theorem Pb.refl (h : M HT E st w) : Pb HT E st w E st := ⟨Ext.refl E, h, fun _ h => h⟩
theorem Pb.trans {F H : Env} {s t : St} (h : Pb HT E st w F s) (k : Pb HT F s w H t) : Pb HT E st w H t := ⟨h.ext.trans k.ext, k.m, fun r hr => k.ref r (h.ref r hr)⟩
theorem Up.pb {F : Env} {s : St} (h : M HT E st w) (u : Up HT E st w F s) : Pb HT E st w F s := ⟨u.ext, u.m, fun r hr => u.ref h hr⟩
theorem pub_ref {b : Nat} {t : Nat × Nat} {r : World} {st' : St} (h : M HT E st w) (hr : Ref E st r w) {k : Nat} (hp : Prv E k) (hm : st'.md = st.md) (ht : st'.tm = st.tm) (hwd : st'.wild = st.wild := by rfl) : Ref (E.pub k t) st' r w := by
 refine ⟨hr.os, hr.tape, hr.output, hr.size, fun hw i hi g1 g2 g3 => hr.blk (by rw [← hwd]; exact hw) i hi (by rw [← hm]; exact g1) (fun τ n hs => by rw [← ht]; refine g2 τ n ?_; rw [Env.pub_ne _ _ (fun e => by rw [e, hp.1] at hs; cases hs)]; exact hs) g3, fun h0 i hi ha => hr.agr (by rw [← ht]; exact h0) i hi ha, fun i hi hq => hr.frn i hi (hq.imp id fun ⟨h0, h1⟩ => ⟨h0, fun τ n hs => by rw [← ht]; refine h1 τ n ?_; rw [Env.pub_ne _ _ (fun e => by rw [e, hp.1] at hs; cases hs)]; exact hs⟩)⟩
/-- A block is told by its kind alone. -/
theorem M.pubS (h : M HT E st w) {b τ n : Nat} {z : Blk} (hb : st.bk.get b = some z) (hz : z.solid = true) (ht : z.ty = none) (hτ : τ ∈ st.fp) (ho : (HT τ).isOpq = false) (hk : HOk HT (E.pub (E.β b) (τ, n)) w (E.β b) τ n) (hκ : (HT τ).size = 0 ∨ roK τ = true ∨ E.κ b ≤ n * (HT τ).size) :
  M HT (E.pub (E.β b) (τ, n)) { st with bk := st.bk.set b (.sealed τ) } w := by
 have hbk := h.bk b z hb
 have hbn := hbk.2
 have prv : Prv E (E.β b) := by have := hbk.1.own' hz; rw [ht] at this; exact this
 have e := pub_ext (τ, n) prv
 have bget : ∀ c y, (st.bk.set b (.sealed τ)).get c = some y → (c = b ∧ y = .sealed τ) ∨ (c ≠ b ∧ st.bk.get c = some y) := fun c y hy => by
  rw [PT.get_set] at hy
  by_cases e : c = b
  ·rw [if_pos e] at hy; injection hy with hy; exact .inl ⟨e, hy.symm⟩
  ·rw [if_neg e] at hy; exact .inr ⟨e, hy⟩
 refine ⟨h.nx, h.g, h.cs, fun x t hx => ⟨VT.ext HT e _ (h.vt x t hx).1, (h.vt x t hx).2⟩, fun x t hx => ⟨V.ext HT e _ (h.vs x t hx).1, (h.vs x t hx).2⟩, fun c y hc => ?_, fun c c' y y' hc hc' hy hy' hβ => ?_, fun i τ' n' hi hf => ?_, fun i t hi => ?_, h.an, ⟨fun i hi => ?_, h.bt.2⟩, fun i τ' n' hi => ?_, h.md, fun c υ => ?_, facts_ext h.gh e⟩
 ·rcases bget c y hc with ⟨rfl, rfl⟩ | ⟨hne, gc⟩
  ·exact ⟨⟨n, Env.pub_self _ _ _, hκ⟩, hbn⟩
  ·obtain ⟨g1, g2⟩ := h.bk c y gc
   exact ⟨g1.ext e g2 (fun hs ⟨p1, p2, p3⟩ => ⟨by rw [Env.pub_ne]; exact p1; exact fun he => hne (h.inj c b y z gc hb hs hz he), p2, p3⟩), g2⟩
 ·rcases bget c y hc with ⟨_, rfl⟩ | ⟨_, gc⟩
  ·cases hy
  ·rcases bget c' y' hc' with ⟨_, rfl⟩ | ⟨_, gc'⟩
   ·cases hy'
   ·exact h.inj c c' y y' gc gc' hy hy' hβ
 ·by_cases hi' : i = E.β b
  ·subst hi'
   rw [Env.pub_self] at hi; injection hi with hi; injection hi with h1 h2; subst h1; subst h2
   exact .inr hk
  ·rw [Env.pub_ne _ _ hi'] at hi
   exact (h.heap i τ' n' hi hf).imp id (fun hr => hr.ext e)
 ·by_cases hi' : i = E.β b
  ·subst hi'
   rw [Env.pub_self] at hi; injection hi with hi; subst hi
   refine ⟨hbk.1.lt hz, prv.2.2, fun ha => absurd ha prv.2.1, fun hh => ?_⟩
   rw [ho] at hh; cases hh
  ·rw [Env.pub_ne _ _ hi'] at hi
   exact h.dom i t hi
 ·obtain ⟨t, ht⟩ := h.bt.1 i hi
  exact ⟨t, e.S _ _ ht⟩
 ·by_cases hi' : i = E.β b
  ·subst hi'
   rw [Env.pub_self] at hi; injection hi with hi; injection hi with h1 h2; subst h1
   exact .inr hτ
  ·rw [Env.pub_ne _ _ hi'] at hi
   exact h.born i τ' n' hi
 ·have ho : (c, υ) ∈ ({ st with bk := st.bk.set b (.sealed τ) } : St).op ↔ (c, υ) ∈ st.op := Iff.rfl
  rw [ho, h.op c υ]
  constructor
  ·rintro ⟨el, cs, f, hc⟩
   have : c ≠ b := fun e1 => by rw [e1, hb] at hc; injection hc with hc; rw [hc] at ht; cases ht
   exact ⟨el, cs, f, by show (st.bk.set b _).get c = _; rw [PT.get_set, if_neg this]; exact hc⟩
  ·rintro ⟨el, cs, f, hc⟩
   rcases bget c _ hc with ⟨_, e2⟩ | ⟨_, hc⟩
   ·cases e2
   ·exact ⟨el, cs, f, hc⟩
/-- A box is told by its kind; what is in it is known still. -/
theorem M.pub (h : M HT E st w) {b τ : Nat} {elem : TypeId} {cs : List AV} (hb : st.bk.get b = some (.cells elem cs true none)) (hτ : τ ∈ st.fp) (ho : (HT τ).isOpq = false) :
  M HT (E.pub (E.β b) (τ, 1)) (st.opn b τ elem cs) w := by
 have hbk := h.bk b _ hb
 have hbn := hbk.2
 have prv : Prv E (E.β b) := hbk.1.own' rfl
 have e := pub_ext (τ, 1) prv
 have bget : ∀ c y, (st.opn b τ elem cs).bk.get c = some y → (c = b ∧ y = .cells elem cs true (some τ)) ∨ (c ≠ b ∧ st.bk.get c = some y) := fun c y hy => by
  have hy : (st.bk.set b (.cells elem cs true (some τ))).get c = some y := hy
  rw [PT.get_set] at hy
  by_cases e : c = b
  ·rw [if_pos e] at hy; injection hy with hy; exact .inl ⟨e, hy.symm⟩
  ·rw [if_neg e] at hy; exact .inr ⟨e, hy⟩
 refine ⟨h.nx, h.g, h.cs, fun x t hx => ⟨VT.ext HT e _ (h.vt x t hx).1, (h.vt x t hx).2⟩, fun x t hx => ⟨V.ext HT e _ (h.vs x t hx).1, (h.vs x t hx).2⟩, fun c y hc => ?_, fun c c' y y' hc hc' hy hy' hβ => ?_, fun i τ' n' hi hf => ?_, fun i t hi => ?_, h.an, ⟨fun i hi => ?_, h.bt.2⟩, fun i τ' n' hi => ?_, h.md, fun c υ => ?_, facts_ext h.gh e⟩
 ·rcases bget c y hc with ⟨rfl, rfl⟩ | ⟨hne, gc⟩
  ·obtain ⟨arr, pre, rest, k1, k2, k3, k4, k5, k6⟩ := hbk.1
   exact ⟨⟨arr, pre, rest, k1, k2, Vs.ext HT e _ k3, k4, ⟨⟨1, Env.pub_self _ _ _⟩, ho⟩, fun hh => by cases hh⟩, hbn⟩
  ·obtain ⟨g1, g2⟩ := h.bk c y gc
   exact ⟨g1.ext e g2 (fun hs ⟨p1, p2, p3⟩ => ⟨by rw [Env.pub_ne]; exact p1; exact fun he => hne (h.inj c b y _ gc hb hs rfl he), p2, p3⟩), g2⟩
 ·rcases bget c y hc with ⟨e1, e2⟩ | ⟨hne, gc⟩
  ·rcases bget c' y' hc' with ⟨e3, e4⟩ | ⟨hne', gc'⟩
   ·rw [e1, e3]
   ·rw [e1] at hβ ⊢; exact h.inj b c' _ y' hb gc' rfl hy' hβ
  ·rcases bget c' y' hc' with ⟨e3, e4⟩ | ⟨hne', gc'⟩
   ·rw [e3] at hβ ⊢; exact h.inj c b y _ gc hb hy rfl hβ
   ·exact h.inj c c' y y' gc gc' hy hy' hβ
 ·by_cases hi' : i = E.β b
  ·subst hi'
   rw [Env.pub_self] at hi; injection hi with hi; injection hi with h1 h2; subst h1
   exact .inl ⟨b, List.mem_cons_self .., rfl⟩
  ·rw [Env.pub_ne _ _ hi'] at hi
   exact (h.heap i τ' n' hi hf).imp (fun ⟨c, hc, hβ⟩ => ⟨c, List.mem_cons_of_mem _ hc, hβ⟩) (fun hr => hr.ext e)
 ·by_cases hi' : i = E.β b
  ·subst hi'
   rw [Env.pub_self] at hi; injection hi with hi; subst hi
   refine ⟨hbk.1.lt rfl, prv.2.2, fun ha => absurd ha prv.2.1, fun hh => ?_⟩
   rw [ho] at hh; cases hh
  ·rw [Env.pub_ne _ _ hi'] at hi
   exact h.dom i t hi
 ·obtain ⟨t, ht⟩ := h.bt.1 i hi
  exact ⟨t, e.S _ _ ht⟩
 ·by_cases hi' : i = E.β b
  ·subst hi'
   rw [Env.pub_self] at hi; injection hi with hi; injection hi with h1 h2; subst h1
   exact .inr hτ
  ·rw [Env.pub_ne _ _ hi'] at hi
   exact h.born i τ' n' hi
 ·show (c, υ) ∈ (b, τ) :: st.op ↔ _
  constructor
  ·intro hc
   rcases List.mem_cons.1 hc with he | hc
   ·injection he with e1 e2; subst e1; subst e2
    exact ⟨elem, cs, true, by show (st.bk.set _ _).get _ = _; rw [PT.get_set, if_pos rfl]⟩
   ·obtain ⟨el, cs', f, hc⟩ := (h.op c υ).1 hc
    have : c ≠ b := fun e => by rw [e, hb] at hc; cases hc
    exact ⟨el, cs', f, by show (st.bk.set b _).get c = _; rw [PT.get_set, if_neg this]; exact hc⟩
  ·rintro ⟨el, cs', f, hc⟩
   rcases bget c _ hc with ⟨e1, e2⟩ | ⟨_, hc⟩
   ·injection e2 with _ _ _ e2; injection e2 with e2; subst e1; subst e2; exact List.mem_cons_self ..
   ·exact List.mem_cons_of_mem _ ((h.op c υ).2 ⟨el, cs', f, hc⟩)
end
end Go.Proofs.YtbjhcjgniciooaaGreatDoor.E
namespace Go.Proofs.YtbjhcjgniciooaaGreatDoor.E
set_option linter.unusedVariables false
set_option linter.unusedSimpArgs false
/-! ### Is a value of a kind? What it leads to is told by its kind, too -/
abbrev Rec := CT → AV → St → Option St
def confL (rec : Rec) : CTs → List AV → St → Option St
 | .nil, [], st => some st
 | .cons t ts, a :: as, st => match rec t a st with
  | some s => confL rec ts as s
  | none => none
 | _, _, _ => none
def confF (rec : Rec) (g : Nat) (x y : List AV) : FTs → St → Option St
 | .nil, _ => none
 | .cons f a b r, st => if Nat.beq f g then (match confL rec a x st with
  | some s => confL rec b y s
  | none => none) else confF rec g x y r st
def confI (rec : Rec) (t : Nat) (a : AV) : ITs → St → Option St
 | .nil, _ => none
 | .cons u c r, st => if Nat.beq u t then rec c a st else confI rec t a r st
def confRows (rec : Rec) (ct : CTs) (size : Nat) : Nat → List AV → St → Option St
 | 0, _, st => some st
 | n + 1, cs, st => match confL rec ct (cs.take size) st with
  | some s => confRows rec ct size n (cs.drop size) s
  | none => none
def confE (rec : Rec) (kt vt : CT) : List (AV × AV) → St → Option St
 | [], st => some st
 | (k, v) :: r, st => match rec kt k st with
  | some s => match rec vt v s with
   | some s => confE rec kt vt r s
   | none => none
  | none => none
def St.lenIn (st : St) (n : Lin) (lo : Nat) (d : Bd) : Bool := st.ge (n.addk (-lo)) && (st.ge ((st.bd d).sub n) || st.ge ((((st.bd d).sub n).sc 2).addk 1))
def privAt (st : St) (b : Nat) : Bool := match st.bk.get b with
 | some z => z.solid && z.ty.isNone
 | none => false
def St.seal (st : St) (b τ : Nat) : St := { st with bk := st.bk.set b (.sealed τ) }
def hasFp (st : St) (τ : Nat) : Bool := st.fp.any fun x => Nat.beq x τ
/-- Enough of a row is told. -/
def roFit (τ k l : Nat) (full : Bool) : Bool := match roK τ with
 | true => Nat.ble k l
 | false => full
/-- A slice of one's own. -/
def confS (HT : Th) (rec : Rec) (τ b o n : Nat) (z : Nat) (st : St) : Option St :=
 match st.bk.get b with
 | some (.cells elem cs full none) => match HT τ with
  | .row elem' size ct =>
   if Nat.beq elem elem' && Nat.beq size z && Nat.blt 0 size && Nat.beq (o % size) 0 && Nat.beq (cs.length % size) 0 && hasFp st τ && roFit τ (o + n * z) cs.length full && (!hdK τ || Nat.beq o 0) then
    match confRows rec ct size (cs.length / size) cs st with
    | some s => if privAt s b && hasFp s τ then some (s.seal b τ) else none
    | none => none
   else none
  | _ => none
 | some (.sealed τ') => if Nat.beq τ τ' && Nat.beq (HT τ).size z && Nat.blt 0 z && Nat.beq (o % z) 0 && !roK τ && !hdK τ then some st else none
 | _ => none
/-- A box. -/
def confP (HT : Th) (τ b : Nat) (st : St) : Option St :=
 match st.bk.get b with
 | some (.sealed τ') => if Nat.beq τ τ' then some st else none
 | some (.cells _ _ _ (some τ')) => if Nat.beq τ τ' then some st else none
 | some (.cells elem cs true none) => match HT τ with
  | .obj elem' _ => if Nat.beq elem elem' && hasFp st τ then some (st.opn b τ elem cs) else none
  | _ => none
 | _ => none
def confM (HT : Th) (rec : Rec) (τ b : Nat) (st : St) : Option St :=
 match st.bk.get b with
 | some (.sealed τ') => if Nat.beq τ τ' then some st else none
 | some (.map es) => match HT τ with
  | .map kt vt => match confE rec kt vt es st with
   | some s => if privAt s b && hasFp s τ then some (s.seal b τ) else none
   | none => none
  | _ => none
 | _ => none
def isU (st : St) (e : Lin) : Bool := st.gh.any fun g => Nat.beq g.1 0 && (match g.2 with | [.int .i64 e'] => st.eqL e' e | _ => false)
def conf (HT : Th) : Nat → Rec
 | 0 => fun _ _ _ => none
 | f + 1 => fun t a st =>
  match a with
  | .var x => match st.vt.get x with
   | some u => if ctE t u then some st else match t, u with
    | .ptr τ nul, .ptr τ' nul' => if Nat.beq τ τ' && (nul || !nul') then some st else none
    | .map τ nul, .map τ' nul' => if Nat.beq τ τ' && (nul || !nul') then some st else none
    | .fn nul fs, .fn nul' fs' => if ftE fs fs' && (nul || !nul') then some st else none
    | .iface nul fs, .iface nul' fs' => if itE fs fs' && (nul || !nul') || nul && itE .nil fs' then some st else none
    | _, _ => none
   | none => none
  | a =>
  match t with
  | .int k lo hi => match a with
   | .int k' e => if k == k' && (decide (lo ≤ k.min) || st.ge (e.addk (-lo))) && (decide (k.max ≤ hi) || st.ge ((e.sc (-1)).addk hi)) then some st else none
   | _ => none
  | .uid => match a with
   | .int .i64 e => if isU st e then some st else none
   | _ => none
  | .bool => match a with
   | .bool _ | .cond _ => some st
   | _ => none
  | .str lo d => match slen a with
   | some n => if st.lenIn n lo d then some st else none
   | none => none
  | .sl τ lo d => match a with
   | .sl0 => if Nat.beq lo 0 then some st else none
   | .tsl τ' n => if Nat.beq τ τ' && st.lenIn n lo d then some st else none
   | .sl b o n _ z => if st.lenIn (.k n) lo d then confS HT (conf HT f) τ b o n z st else none
   | _ => none
  | .ptr τ nul => match a with
   | .ptr0 => if nul then some st else none
   | .ptr b 0 => confP HT τ b st
   | _ => none
  | .map τ nul => match a with
   | .map0 => if nul then some st else none
   | .map b => confM HT (conf HT f) τ b st
   | _ => none
  | .fn nul fs => match a with
   | .fn0 => if nul then some st else none
   | .func g x y => confF (conf HT f) g x y fs st
   | _ => none
  | .iface nul ts => match a with
   | .if0 => if nul then some st else none
   | .iface u x => confI (conf HT f) u x ts st
   | _ => none
  | .agg ts => match a with
   | .agg l => confL (conf HT f) ts l st
   | _ => none
section
variable {HT : Th}
def RecOk (HT : Th) (rec : Rec) : Prop := ∀ t a st st', rec t a st = some st' → ∀ E w, M HT E st w → ∃ E', Pb HT E st w E' st' ∧ ∀ v, V HT E a v → VT HT E' t v
theorem confL_ok {rec : Rec} (hr : RecOk HT rec) : ∀ (ts : CTs) (as : List AV) (st st' : St), confL rec ts as st = some st' → ∀ E w, M HT E st w → ∃ E', Pb HT E st w E' st' ∧ ∀ vs, Vs HT E as vs → VTs HT E' ts vs
 | .nil, [], st, st', h, E, w, m => by
  injection h with h; subst h
  exact ⟨E, Pb.refl m, fun vs hv => hv⟩
 | .nil, _ :: _, _, _, h, _, _, _ => by cases h
 | .cons _ _, [], _, _, h, _, _, _ => by cases h
 | .cons t ts, a :: as, st, st', h, E, w, m => by
  simp only [confL] at h
  split at h <;> try cases h
  rename_i s hs
  obtain ⟨E1, p1, v1⟩ := hr _ _ _ _ hs E w m
  obtain ⟨E2, p2, v2⟩ := confL_ok hr ts as s st' h E1 w p1.m
  refine ⟨E2, p1.trans p2, fun vs hv => ?_⟩
  obtain ⟨v, r, rfl, g1, g2⟩ := hv
  exact ⟨v, r, rfl, VT.ext HT p2.ext _ (v1 v g1), v2 r (Vs.ext HT p1.ext _ g2)⟩
theorem confF_ok {rec : Rec} (hr : RecOk HT rec) (g : Nat) (x y : List AV) : ∀ (fs : FTs) (st st' : St), confF rec g x y fs st = some st' → ∀ E w, M HT E st w → ∃ E', Pb HT E st w E' st' ∧ ∀ v, V HT E (.func g x y) v → VF HT E' fs v
 | .nil, _, _, h, _, _, _ => by cases h
 | .cons f a b r, st, st', h, E, w, m => by
  simp only [confF] at h
  split at h
  ·rename_i hb
   have := Nat.eq_of_beq_eq_true hb; subst this
   split at h <;> try cases h
   rename_i s hs
   obtain ⟨E1, p1, v1⟩ := confL_ok hr _ _ _ _ hs E w m
   obtain ⟨E2, p2, v2⟩ := confL_ok hr _ _ _ _ h E1 w p1.m
   refine ⟨E2, p1.trans p2, fun v hv => ?_⟩
   obtain ⟨xs, ys, rfl, g1, g2⟩ := hv
   exact .inl ⟨xs, ys, rfl, VTs.ext HT p2.ext _ (v1 _ g1), v2 _ (Vs.ext HT p1.ext _ g2)⟩
  ·obtain ⟨E1, p1, v1⟩ := confF_ok hr g x y r st st' h E w m
   exact ⟨E1, p1, fun v hv => .inr (v1 v hv)⟩
theorem confI_ok {rec : Rec} (hr : RecOk HT rec) (t : Nat) (a : AV) : ∀ (ts : ITs) (st st' : St), confI rec t a ts st = some st' → ∀ E w, M HT E st w → ∃ E', Pb HT E st w E' st' ∧ ∀ v, V HT E (.iface t a) v → VI HT E' ts v
 | .nil, _, _, h, _, _, _ => by cases h
 | .cons u c r, st, st', h, E, w, m => by
  simp only [confI] at h
  split at h
  ·rename_i hb
   have := Nat.eq_of_beq_eq_true hb; subst this
   obtain ⟨E1, p1, v1⟩ := hr _ _ _ _ h E w m
   refine ⟨E1, p1, fun v hv => ?_⟩
   obtain ⟨x, rfl, g1⟩ := hv
   exact .inl ⟨x, rfl, v1 _ g1⟩
  ·obtain ⟨E1, p1, v1⟩ := confI_ok hr t a r st st' h E w m
   exact ⟨E1, p1, fun v hv => .inr (v1 v hv)⟩
theorem confRows_ok {rec : Rec} (hr : RecOk HT rec) (ct : CTs) (size : Nat) : ∀ (n : Nat) (cs : List AV) (st st' : St), confRows rec ct size n cs st = some st' → ∀ E w, M HT E st w →
  ∃ E', Pb HT E st w E' st' ∧ ∀ vs, Vs HT E cs vs → ∀ j, j < n → VTs HT E' ct ((vs.drop (j * size)).take size)
 | 0, cs, st, st', h, E, w, m => by
  injection h with h; subst h
  exact ⟨E, Pb.refl m, fun _ _ j hj => absurd hj (Nat.not_lt_zero _)⟩
 | n + 1, cs, st, st', h, E, w, m => by
  simp only [confRows] at h
  split at h <;> try cases h
  rename_i s hs
  obtain ⟨E1, p1, v1⟩ := confL_ok hr _ _ _ _ hs E w m
  obtain ⟨E2, p2, v2⟩ := confRows_ok hr ct size n _ s st' h E1 w p1.m
  refine ⟨E2, p1.trans p2, fun vs hv j hj => ?_⟩
  cases j with
  | zero => rw [Nat.zero_mul, List.drop_zero]; exact VTs.ext HT p2.ext _ (v1 _ (hv.take size))
  | succ j =>
   have := v2 _ (Vs.ext HT p1.ext _ (hv.drop size)) j (by omega)
   rw [List.drop_drop] at this
   rw [show (j + 1) * size = size + j * size by rw [Nat.add_mul]; omega]
   exact this
theorem confE_ok {rec : Rec} (hr : RecOk HT rec) (kt vt : CT) : ∀ (es : List (AV × AV)) (st st' : St), confE rec kt vt es st = some st' → ∀ E w, M HT E st w →
  ∃ E', Pb HT E st w E' st' ∧ ∀ l, Ents HT E es l → ∀ e ∈ l, VT HT E' kt e.key ∧ VT HT E' vt e.val
 | [], st, st', h, E, w, m => by
  injection h with h; subst h
  exact ⟨E, Pb.refl m, fun l hl e he => by rw [show l = [] from hl] at he; cases he⟩
 | (k, v) :: r, st, st', h, E, w, m => by
  simp only [confE] at h
  split at h <;> try cases h
  rename_i s1 hs1
  split at h <;> try cases h
  rename_i s2 hs2
  obtain ⟨E1, p1, v1⟩ := hr _ _ _ _ hs1 E w m
  obtain ⟨E2, p2, v2⟩ := hr _ _ _ _ hs2 E1 w p1.m
  obtain ⟨E3, p3, v3⟩ := confE_ok hr kt vt r s2 st' h E2 w p2.m
  refine ⟨E3, (p1.trans p2).trans p3, fun l hl e he => ?_⟩
  obtain ⟨e0, l', rfl, g1, g2, g3⟩ := hl
  rcases List.mem_cons.1 he with rfl | he
  ·exact ⟨VT.ext HT (p2.ext.trans p3.ext) _ (v1 _ g1), VT.ext HT p3.ext _ (v2 _ (V.ext HT p1.ext _ g2))⟩
  ·exact v3 l' (g3.ext (p1.ext.trans p2.ext)) e he
theorem lenIn_ok {E : Env} {st : St} {w : World} (m : M HT E st w) {n : Lin} {lo : Nat} {d : Bd} (h : st.lenIn n lo d = true) {k : Nat} (hk : (k : Int) = n.ev E.ρ) : lo ≤ k ∧ k ≤ d.ev E.g E.h := by
 simp only [St.lenIn, Bool.and_eq_true] at h
 have h1 := m.ge h.1
 rw [Lin.ev_addk] at h1
 rcases (Bool.or_eq_true _ _).mp h.2 with h | h
 ·have h2 := m.ge h
  rw [Lin.ev_sub, ev_bd m] at h2
  omega
 ·have h2 := m.ge h
  rw [Lin.ev_addk, Lin.ev_sc, Lin.ev_sub, ev_bd m] at h2
  omega
theorem privAt_ok {st : St} {b : Nat} (h : privAt st b = true) : ∃ z, st.bk.get b = some z ∧ z.solid = true ∧ z.ty = none := by
 unfold privAt at h
 split at h
 ·rename_i z hz
  simp only [Bool.and_eq_true, Option.isNone_iff_eq_none] at h
  exact ⟨z, hz, h⟩
 ·cases h
theorem hasFp_ok {st : St} {τ : Nat} (h : hasFp st τ = true) : τ ∈ st.fp := by
 obtain ⟨x, h1, h2⟩ := List.any_eq_true.1 h
 rw [← Nat.eq_of_beq_eq_true h2]; exact h1
theorem confS_ok {rec : Rec} (hr : RecOk HT rec) {τ b o n z : Nat} {cap : Option Nat} {st st' : St} (h : confS HT rec τ b o n z st = some st') {E : Env} {w : World} (m : M HT E st w) :
  ∃ E', Pb HT E st w E' st' ∧ ∀ v, V HT E (.sl b o n cap z) v → ∃ ad c, v = .slice ad n c ∧ SlOk HT E' τ ad n c := by
 unfold confS at h
 split at h
 ·rename_i elem cs full hb
  split at h <;> try cases h
  rename_i elem' size ct hty
  split at h <;> try cases h
  rename_i hc
  simp only [Bool.and_eq_true, Nat.beq_eq, Nat.blt_eq] at hc
  obtain ⟨⟨⟨⟨⟨⟨⟨c1, c2⟩, c3⟩, c4⟩, c5⟩, c6⟩, c7⟩, c8⟩ := hc
  subst c1; subst c2
  split at h <;> try cases h
  rename_i s hs
  split at h <;> try cases h
  rename_i hp
  simp only [Bool.and_eq_true] at hp
  obtain ⟨p1, p2⟩ := hp
  obtain ⟨E1, q1, q2⟩ := confRows_ok hr _ _ _ _ _ _ hs E w m
  obtain ⟨y, y1, y2, y3⟩ := privAt_ok p1
  obtain ⟨⟨arr, pre, rest, k1, k2, k3, k4, k5, k6⟩, hbn⟩ := m.bk b _ hb
  have hpl : pre.length = cs.length := k3.len.symm
  have hle : cs.length ≤ arr.size := by rw [← Array.length_toList, k2, List.length_append]; omega
  have hlen : roK τ = false → arr.size = cs.length := fun hro => by
   unfold roFit at c7
   rw [hro] at c7
   rw [← Array.length_toList, k2, k4 c7, List.append_nil, hpl]
  have hdiv : cs.length = cs.length / size * size := by
   have := Nat.div_add_mod cs.length size
   rw [c5, Nat.add_zero, Nat.mul_comm] at this; exact this.symm
  have hβ := q1.ext.β b hbn
  have hκ := q1.ext.κ b hbn
  have hk := k6 rfl
  have prv : Prv E1 (E1.β b) := by have := (q1.m.bk b y y1).1.own' y2; rw [y3] at this; exact this
  have e2 := pub_ext (τ, cs.length / size) prv
  have hsz : (HT τ).size = size := by rw [show HT τ = _ from hty]; rfl
  have hok : HOk HT (E1.pub (E1.β b) (τ, cs.length / size)) w (E1.β b) τ (cs.length / size) := by
   unfold HOk
   rw [show HT τ = _ from hty]
   refine ⟨arr, by rw [← hβ]; exact k1, ⟨by rw [← hdiv]; exact hle, fun hro => by rw [hlen hro]; exact hdiv⟩, fun j hj => ?_⟩
   have hv := VTs.ext HT e2 _ (q2 pre k3 j hj)
   have hm : (j + 1) * size ≤ cs.length / size * size := Nat.mul_le_mul_right _ hj
   rw [Nat.add_mul, Nat.one_mul, ← hdiv] at hm
   rw [k2, List.drop_append_of_le_length (by omega), List.take_append_of_le_length (by rw [List.length_drop]; omega)]
   exact hv
  have m2 := q1.m.pubS y1 y2 y3 (hasFp_ok p2) (by rw [show HT τ = _ from hty]; rfl) hok (.inr (by
   cases hro : roK τ with
   | true => exact .inl rfl
   | false => exact .inr (by rw [hsz, ← hκ, ← hk, hlen hro]; exact Nat.le_of_eq hdiv)))
  refine ⟨_, q1.trans ⟨e2, m2, fun r hr => pub_ref (b := b) q1.m hr prv rfl rfl⟩, fun v hv => ?_⟩
  obtain ⟨c, rfl, g1, g2, g3, g4⟩ := hv
  have h1 := Nat.div_add_mod o size
  rw [c4, Nat.add_zero, Nat.mul_comm] at h1
  have key : roK τ = false → o / size + c ≤ cs.length / size := fun hro => by
   have h2 : (o / size + c) * size ≤ cs.length / size * size := by rw [Nat.add_mul, h1, ← hdiv, ← hlen hro, hk]; exact g4
   exact Nat.le_of_mul_le_mul_right h2 c3
  refine ⟨_, c, rfl, .inr ⟨E1.β b, o / size, cs.length / size, by rw [hsz, h1, hβ], Env.pub_self _ _ _, g1, ?_, key, fun hh => ?_⟩⟩
  case refine_2 =>
   rw [hh] at c8
   have : o = 0 := by simpa using c8
   rw [this]; exact Nat.zero_div _
  cases hro : roK τ with
  | false => have := key hro; omega
  | true =>
   unfold roFit at c7
   rw [hro] at c7
   have c7 := Nat.le_of_ble_eq_true c7
   have h2 : (o / size + n) * size ≤ cs.length / size * size := by rw [Nat.add_mul, h1, ← hdiv]; exact c7
   exact Nat.le_of_mul_le_mul_right h2 c3
 ·rename_i τ' hb
  split at h <;> try cases h
  rename_i hc
  simp only [Bool.and_eq_true, Nat.beq_eq, Nat.blt_eq, Bool.not_eq_true'] at hc
  obtain ⟨⟨⟨⟨⟨c1, c2⟩, c3⟩, c4⟩, hro⟩, hhd⟩ := hc
  subst c1
  obtain ⟨⟨n', k1, k2⟩, hbn⟩ := m.bk b _ hb
  refine ⟨E, Pb.refl m, fun v hv => ?_⟩
  obtain ⟨c, rfl, g1, g2, g3, g4⟩ := hv
  have h1 := Nat.div_add_mod o z
  rw [c4, Nat.add_zero, Nat.mul_comm] at h1
  have key : o / z + c ≤ n' := by
   rcases k2 with k2 | k2 | k2
   ·omega
   ·rw [hro] at k2; cases k2
   ·rw [c2] at k2
    have h2 : (o / z + c) * z ≤ n' * z := by rw [Nat.add_mul, h1]; exact Nat.le_trans g4 k2
    exact Nat.le_of_mul_le_mul_right h2 c3
  exact ⟨_, c, rfl, .inr ⟨E.β b, o / z, n', by rw [c2, h1], k1, g1, by omega, fun _ => key, fun hh => by rw [hhd] at hh; cases hh⟩⟩
 ·cases h
theorem confP_ok {τ b : Nat} {st st' : St} (h : confP HT τ b st = some st') {E : Env} {w : World} (m : M HT E st w) :
  ∃ E', Pb HT E st w E' st' ∧ ∃ n, E'.S (E.β b) = some (τ, n) := by
 unfold confP at h
 split at h
 ·rename_i τ' hb
  split at h <;> try cases h
  rename_i hc
  have := Nat.eq_of_beq_eq_true hc; subst this
  obtain ⟨⟨n', k1, _⟩, _⟩ := m.bk b _ hb
  exact ⟨E, Pb.refl m, n', k1⟩
 ·rename_i el cs f τ' hb
  split at h <;> try cases h
  rename_i hc
  have := Nat.eq_of_beq_eq_true hc; subst this
  have := (m.bk b _ hb).1.own' rfl
  obtain ⟨⟨n', k1⟩, _⟩ := this
  exact ⟨E, Pb.refl m, n', k1⟩
 ·rename_i elem cs hb
  split at h <;> try cases h
  rename_i elem' alts hty
  split at h <;> try cases h
  rename_i hc
  simp only [Bool.and_eq_true, Nat.beq_eq] at hc
  have prv : Prv E (E.β b) := (m.bk b _ hb).1.own' rfl
  have m2 := m.pub hb (hasFp_ok hc.2) (by rw [show HT τ = _ from hty]; rfl)
  exact ⟨_, ⟨pub_ext _ prv, m2, fun r hr => pub_ref (b := b) m hr prv rfl rfl⟩, 1, Env.pub_self _ _ _⟩
 ·cases h
theorem confM_ok {rec : Rec} (hr : RecOk HT rec) {τ b : Nat} {st st' : St} (h : confM HT rec τ b st = some st') {E : Env} {w : World} (m : M HT E st w) :
  ∃ E', Pb HT E st w E' st' ∧ ∃ n, E'.S (E.β b) = some (τ, n) := by
 unfold confM at h
 split at h
 ·rename_i τ' hb
  split at h <;> try cases h
  rename_i hc
  have := Nat.eq_of_beq_eq_true hc; subst this
  obtain ⟨⟨n', k1, _⟩, _⟩ := m.bk b _ hb
  exact ⟨E, Pb.refl m, n', k1⟩
 ·rename_i es hb
  split at h <;> try cases h
  rename_i kt vt hty
  split at h <;> try cases h
  rename_i s hs
  split at h <;> try cases h
  rename_i hp
  simp only [Bool.and_eq_true] at hp
  obtain ⟨E1, q1, q2⟩ := confE_ok hr _ _ _ _ _ hs E w m
  obtain ⟨y, y1, y2, y3⟩ := privAt_ok hp.1
  obtain ⟨⟨ents, clock, k1, k2, k3⟩, hbn⟩ := m.bk b _ hb
  have hβ := q1.ext.β b hbn
  have prv : Prv E1 (E1.β b) := by have := (q1.m.bk b y y1).1.own' y2; rw [y3] at this; exact this
  have e2 := pub_ext (τ, 1) prv
  have hsz : (HT τ).size = 0 := by rw [show HT τ = _ from hty]; rfl
  have hok : HOk HT (E1.pub (E1.β b) (τ, 1)) w (E1.β b) τ 1 := by
   unfold HOk
   rw [show HT τ = _ from hty]
   exact ⟨ents, clock, by rw [← hβ]; exact k1, fun e he => ⟨VT.ext HT e2 _ (q2 _ k2 e he).1, VT.ext HT e2 _ (q2 _ k2 e he).2⟩⟩
  have m2 := q1.m.pubS y1 y2 y3 (hasFp_ok hp.2) (by rw [show HT τ = _ from hty]; rfl) hok (.inl hsz)
  exact ⟨_, q1.trans ⟨e2, m2, fun r hr => pub_ref (b := b) q1.m hr prv rfl rfl⟩, 1, by rw [hβ]; exact Env.pub_self _ _ _⟩
 ·cases h
theorem isU_ok {E : Env} {st : St} {w : World} (m : M HT E st w) {e : Lin} (h : isU st e = true) : E.U (e.ev E.ρ) := by
 obtain ⟨g, h1, h2⟩ := List.any_eq_true.1 h
 simp only [Bool.and_eq_true, Nat.beq_eq] at h2
 obtain ⟨g1, g2⟩ := h2
 split at g2
 ·rename_i e' he
  obtain ⟨vs, k1, k2⟩ := m.gh g h1
  rw [he] at k1
  obtain ⟨v, r, rfl, k3, k4⟩ := k1
  rw [show r = [] from k4] at k2
  obtain ⟨rfl, _⟩ := k3
  rw [g1] at k2
  rw [← m.eqL g2]
  exact HT.F_uid.1 k2
 ·cases g2
theorem conf_ok : ∀ f, RecOk HT (conf HT f)
 | 0 => fun _ _ _ _ h => by cases h
 | f + 1 => by
  intro t a st st' h E w m
  have ih := conf_ok f
  have same : ∀ {P : Prop}, P → ∃ E', Pb HT E st w E' st ∧ P := fun hp => ⟨E, Pb.refl m, hp⟩
  unfold conf at h
  split at h
  ·rename_i x
   split at h <;> try cases h
   rename_i u hu
   obtain ⟨hv, hx⟩ := m.vt x u hu
   split at h
   ·rename_i hc
    have := ctE_ok _ _ hc; subst this
    injection h with h; subst h
    exact ⟨E, Pb.refl m, fun v hv' => by rw [hv'.1]; exact hv⟩
   ·split at h <;> try cases h
    all_goals
     split at h <;> try cases h
     rename_i hc
     simp only [Bool.and_eq_true, Bool.or_eq_true, Bool.not_eq_true', Nat.beq_eq] at hc
     refine ⟨E, Pb.refl m, fun v hv' => ?_⟩
     rw [hv'.1]
    ·obtain ⟨c1, c2⟩ := hc
     subst c1
     exact hv.imp (fun ⟨n1, n2⟩ => ⟨c2.resolve_right (by rw [n1]; decide), n2⟩) id
    ·obtain ⟨c1, c2⟩ := hc
     subst c1
     exact hv.imp (fun ⟨n1, n2⟩ => ⟨c2.resolve_right (by rw [n1]; decide), n2⟩) id
    ·obtain ⟨c1, c2⟩ := hc
     have := ftE_ok _ _ c1; subst this
     exact hv.imp (fun ⟨n1, n2⟩ => ⟨c2.resolve_right (by rw [n1]; decide), n2⟩) id
    ·rcases hc with ⟨c1, c2⟩ | ⟨c1, c2⟩
     ·have := itE_ok _ _ c1; subst this
      exact hv.imp (fun ⟨n1, n2⟩ => ⟨c2.resolve_right (by rw [n1]; decide), n2⟩) id
     ·have := itE_ok _ _ c2; subst this
      rcases hv with ⟨_, hv⟩ | hv
      ·exact .inl ⟨c1, hv⟩
      ·exact hv.elim
  ·rename_i hnv
   split at h
   ·rename_i k lo hi
    split at h <;> try cases h
    rename_i k' e
    split at h <;> try cases h
    rename_i hc
    simp only [Bool.and_eq_true, Bool.or_eq_true, decide_eq_true_eq, beq_iff_eq] at hc
    obtain ⟨⟨c1, c2⟩, c3⟩ := hc
    subst c1
    refine ⟨E, Pb.refl m, fun v hv => ?_⟩
    obtain ⟨rfl, _, g1, g2⟩ := hv
    refine ⟨_, rfl, ?_, ?_, g1, g2⟩
    ·rcases c2 with c2 | c2
     ·omega
     ·have := m.ge c2; rw [Lin.ev_addk] at this; omega
    ·rcases c3 with c3 | c3
     ·omega
     ·have := m.ge c3; rw [Lin.ev_addk, Lin.ev_sc] at this; omega
   ·split at h <;> try cases h
    rename_i e
    split at h <;> try cases h
    rename_i hc
    refine ⟨E, Pb.refl m, fun v hv => ?_⟩
    obtain ⟨rfl, _, g1, g2⟩ := hv
    exact ⟨_, rfl, isU_ok m hc, g1, g2⟩
   ·split at h <;> try cases h
    ·exact ⟨E, Pb.refl m, fun v hv => ⟨_, hv⟩⟩
    ·exact ⟨E, Pb.refl m, fun v hv => ⟨_, hv.1⟩⟩
   ·rename_i lo d
    split at h <;> try cases h
    rename_i n hn
    split at h <;> try cases h
    rename_i hc
    refine ⟨E, Pb.refl m, fun v hv => ?_⟩
    obtain ⟨s, rfl, g1, _⟩ := slen_ok hv hn
    exact ⟨s, rfl, lenIn_ok m hc g1⟩
   ·rename_i τ lo d
    split at h <;> try cases h
    ·split at h <;> try cases h
     rename_i hc
     have := Nat.eq_of_beq_eq_true hc; subst this
     exact ⟨E, Pb.refl m, fun v hv => ⟨none, 0, 0, hv, ⟨Nat.le_refl _, Nat.zero_le _⟩, .inl ⟨rfl, rfl, rfl⟩⟩⟩
    ·rename_i τ' n
     split at h <;> try cases h
     rename_i hc
     simp only [Bool.and_eq_true, Nat.beq_eq] at hc
     obtain ⟨c1, c2⟩ := hc
     subst c1
     refine ⟨E, Pb.refl m, fun v hv => ?_⟩
     obtain ⟨ad, k, c, rfl, g1, _, g2⟩ := hv
     exact ⟨ad, k, c, rfl, lenIn_ok m c2 g1, g2⟩
    ·rename_i b o n cap z
     split at h <;> try cases h
     rename_i hc
     obtain ⟨E', p, hv'⟩ := confS_ok (cap := cap) ih h m
     refine ⟨E', p, fun v hv => ?_⟩
     obtain ⟨ad, c, rfl, g⟩ := hv' v hv
     obtain ⟨l1, l2⟩ := lenIn_ok m hc (k := n) (by rw [Lin.ev_k])
     exact ⟨ad, n, c, rfl, ⟨l1, Nat.le_trans l2 (d.mono p.ext.g p.ext.h)⟩, g⟩
   ·rename_i τ nul
    split at h <;> try cases h
    ·split at h <;> try cases h
     rename_i hc
     exact ⟨E, Pb.refl m, fun v hv => .inl ⟨hc, hv⟩⟩
    ·rename_i b
     obtain ⟨E', p, n, hs⟩ := confP_ok h m
     exact ⟨E', p, fun v hv => .inr ⟨_, n, hv.1, hs⟩⟩
   ·rename_i τ nul
    split at h <;> try cases h
    ·split at h <;> try cases h
     rename_i hc
     exact ⟨E, Pb.refl m, fun v hv => .inl ⟨hc, hv⟩⟩
    ·rename_i b
     obtain ⟨E', p, n, hs⟩ := confM_ok ih h m
     exact ⟨E', p, fun v hv => .inr ⟨_, n, hv.1, hs⟩⟩
   ·rename_i nul fs
    split at h <;> try cases h
    ·split at h <;> try cases h
     rename_i hc
     exact ⟨E, Pb.refl m, fun v hv => .inl ⟨hc, hv⟩⟩
    ·rename_i g x y
     obtain ⟨E', p, hv'⟩ := confF_ok ih g x y fs _ _ h E w m
     exact ⟨E', p, fun v hv => .inr (hv' v hv)⟩
   ·rename_i nul ts
    split at h <;> try cases h
    ·split at h <;> try cases h
     rename_i hc
     exact ⟨E, Pb.refl m, fun v hv => .inl ⟨hc, hv⟩⟩
    ·rename_i u x
     obtain ⟨E', p, hv'⟩ := confI_ok ih u x ts _ _ h E w m
     exact ⟨E', p, fun v hv => .inr (hv' v hv)⟩
   ·rename_i ts
    split at h <;> try cases h
    rename_i l
    obtain ⟨E', p, hv'⟩ := confL_ok ih ts l _ _ h E w m
    refine ⟨E', p, fun v hv => ?_⟩
    obtain ⟨x, rfl, g⟩ := hv
    exact ⟨x, rfl, hv' _ g⟩
end
end Go.Proofs.YtbjhcjgniciooaaGreatDoor.E
namespace Go.Proofs.YtbjhcjgniciooaaGreatDoor.E
set_option linter.unusedVariables false
set_option linter.unusedSimpArgs false
/-! ### A block is shut -/
def cfuel : Nat := 12
def St.shut (st : St) (b τ : Nat) : St := { st with bk := st.bk.set b (.sealed τ), op := st.op.filter fun p => !Nat.beq p.1 b }
def selfA (st : St) (b : Nat) (cs : List AV) : Option (Nat × List Nat) → Bool
 | none => true
 | some (i, fs) => match cs[i]? with
  | some a => match resv st a with
   | .func f [.ptr b' 0] [] => fs.any (Nat.beq f) && Nat.beq b' b
   | _ => false
  | none => false
def sealAlts (HT : Th) (st : St) (b τ : Nat) (cs : List AV) : List Alt → Option St
 | [] => none
 | alt :: r => match confL (conf HT cfuel) alt.1 cs st with
  | some s => if checkR s cs alt.2.1 && selfA s b cs alt.2.2 then some (s.shut b τ) else sealAlts HT st b τ cs r
  | none => sealAlts HT st b τ cs r
def sealB (HT : Th) (st : St) (b τ : Nat) : Option St :=
 match st.bk.get b with
 | some (.cells elem cs true (some τ')) => if Nat.beq τ τ' then match HT τ with
  | .obj elem' alts => if Nat.beq elem elem' then sealAlts HT st b τ cs alts else none
  | _ => none
  else none
 | _ => none
def sealK (HT : Th) (p : Nat → Bool) : Nat → St → Option St
 | 0, _ => none
 | n + 1, st => match st.op.find? fun q => p q.2 with
  | none => some st
  | some q => match sealB HT st q.1 q.2 with
   | some s => sealK HT p n s
   | none => none
def sfuel : Nat := 60
section
variable {HT : Th} {E : Env} {st : St} {w : World}
theorem M.shut (h : M HT E st w) {b τ n : Nat} (hs : E.S (E.β b) = some (τ, n)) (hb : b < E.n) (ho : (HT τ).size = 0) (hk : HOk HT E w (E.β b) τ n) : M HT E (st.shut b τ) w := by
 have bget : ∀ c y, (st.shut b τ).bk.get c = some y → (c = b ∧ y = .sealed τ) ∨ (c ≠ b ∧ st.bk.get c = some y) := fun c y hy => by
  have hy : (st.bk.set b (.sealed τ)).get c = some y := hy
  rw [PT.get_set] at hy
  by_cases e : c = b
  ·rw [if_pos e] at hy; injection hy with hy; exact .inl ⟨e, hy.symm⟩
  ·rw [if_neg e] at hy; exact .inr ⟨e, hy⟩
 have mem : ∀ c υ, (c, υ) ∈ (st.shut b τ).op ↔ c ≠ b ∧ (c, υ) ∈ st.op := fun c υ => by
  show (c, υ) ∈ st.op.filter _ ↔ _
  rw [List.mem_filter]
  constructor
  ·rintro ⟨h1, h2⟩
   refine ⟨fun e => ?_, h1⟩
   rw [e] at h2; simp at h2
  ·rintro ⟨h1, h2⟩
   refine ⟨h2, ?_⟩
   cases hq : Nat.beq c b with
   | false => simp [hq]
   | true => exact absurd (Nat.eq_of_beq_eq_true hq) h1
 refine ⟨h.nx, h.g, h.cs, h.vt, h.vs, fun c y hc => ?_, fun c c' y y' hc hc' hy hy' hβ => ?_, fun i τ' n' hi hf => ?_, h.dom, h.an, h.bt, h.born, h.md, fun c υ => ?_, h.gh⟩
 ·rcases bget c y hc with ⟨rfl, rfl⟩ | ⟨_, gc⟩
  ·exact ⟨⟨n, hs, .inl ho⟩, hb⟩
  ·exact h.bk c y gc
 ·rcases bget c y hc with ⟨_, rfl⟩ | ⟨_, gc⟩
  ·cases hy
  ·rcases bget c' y' hc' with ⟨_, rfl⟩ | ⟨_, gc'⟩
   ·cases hy'
   ·exact h.inj c c' y y' gc gc' hy hy' hβ
 ·rcases h.heap i τ' n' hi hf with ⟨c, hc, hβ⟩ | hr
  ·by_cases e : c = b
   ·subst e; subst hβ
    rw [hs] at hi; injection hi with hi; injection hi with h1 h2; subst h1; subst h2
    exact .inr hk
   ·exact .inl ⟨c, (mem c τ').2 ⟨e, hc⟩, hβ⟩
  ·exact .inr hr
 ·rw [mem, h.op c υ]
  constructor
  ·rintro ⟨hne, el, cs, f, hc⟩
   exact ⟨el, cs, f, by show (st.bk.set b _).get c = _; rw [PT.get_set, if_neg hne]; exact hc⟩
  ·rintro ⟨el, cs, f, hc⟩
   rcases bget c _ hc with ⟨_, e2⟩ | ⟨hne, hc⟩
   ·cases e2
   ·exact ⟨hne, el, cs, f, hc⟩
theorem selfA_ok (h : M HT E st w) {b : Nat} {cs : List AV} {vs : List Value} (hv : Vs HT E cs vs) {k : Nat} (hk : E.β b = k) : ∀ {o : Option (Nat × List Nat)}, selfA st b cs o = true → selfOk k vs o
 | none, _ => trivial
 | some (i, fs), hs => by
  unfold selfA at hs
  dsimp only at hs
  cases ha : cs[i]? with
  | none => rw [ha] at hs; cases hs
  | some a =>
  rw [ha] at hs
  dsimp only at hs
  split at hs
  case h_2 => cases hs
  rename_i f b' hr
  simp only [Bool.and_eq_true] at hs
  obtain ⟨s1, s2⟩ := hs
  have := Nat.eq_of_beq_eq_true s2; subst this
  obtain ⟨f', hf, s1⟩ := List.any_eq_true.1 s1
  have := Nat.eq_of_beq_eq_true s1; subst this
  obtain ⟨v, hv1, hv2⟩ := hv.get ha
  have hv3 := V_resv h hv2
  rw [hr] at hv3
  obtain ⟨x, y, rfl, ⟨u, r, e1, ⟨e2, _⟩, e3⟩, e4⟩ := hv3
  refine ⟨f, hf, ?_⟩
  rw [hv1]
  have hx : x = #[u] := by rw [← Array.toArray_toList (xs := x), e1, show r = [] from e3]
  have hy : y = #[] := by rw [← Array.toArray_toList (xs := y), show y.toList = [] from e4]
  rw [hx, hy, e2, hk]
theorem sealAlts_ok (h : M HT E st w) {b τ n : Nat} {cs : List AV} {arr : Array Value} {elem : TypeId} {all : List Alt} (hty : HT τ = .obj elem all) (hs : E.S (E.β b) = some (τ, n)) (hb : b < E.n)
  (ha : w.heap[E.β b]? = some (.cells arr elem (0, 0))) (hv : Vs HT E cs arr.toList) : ∀ (alts : List Alt) {st' : St}, (∀ a ∈ alts, a ∈ all) → sealAlts HT st b τ cs alts = some st' → ∃ E', Pb HT E st w E' st'
 | [], st', _, h => by cases h
 | alt :: r, st', hin, ho => by
  have next : sealAlts HT st b τ cs r = some st' → ∃ E', Pb HT E st w E' st' := sealAlts_ok h hty hs hb ha hv r (fun a ha => hin a (List.mem_cons_of_mem _ ha))
  simp only [sealAlts] at ho
  split at ho
  ·rename_i s hc
   split at ho
   ·rename_i hr
    simp only [Bool.and_eq_true] at hr
    obtain ⟨hr, hsf⟩ := hr
    injection ho with ho; subst ho
    obtain ⟨E1, p1, v1⟩ := confL_ok (conf_ok _) _ _ _ _ hc E w h
    have hβ := p1.ext.β b hb
    have v2 := Vs.ext HT p1.ext _ hv
    have ok : HOk HT E1 w (E1.β b) τ n := by
     unfold HOk
     rw [hty]
     exact ⟨arr, by rw [← hβ]; exact ha, alt, hin alt (List.mem_cons_self ..), v1 _ hv, checkR_ok p1.m v2 hr, by rw [← hβ]; exact selfA_ok p1.m v2 (by rw [← hβ]) hsf⟩
    have m2 := p1.m.shut (by rw [← hβ]; exact p1.ext.S _ _ hs) (Nat.lt_of_lt_of_le hb p1.ext.n) (by rw [hty]; rfl) ok
    exact ⟨E1, p1.trans ⟨Ext.refl _, m2, fun r hr => hr.st rfl rfl⟩⟩
   ·exact next ho
  ·exact next ho
theorem sealB_ok (h : M HT E st w) {b τ : Nat} {st' : St} (ho : sealB HT st b τ = some st') : ∃ E', Pb HT E st w E' st' := by
 unfold sealB at ho
 split at ho <;> try cases ho
 rename_i elem cs τ' hb
 split at ho <;> try cases ho
 rename_i hc
 have := Nat.eq_of_beq_eq_true hc; subst this
 split at ho <;> try cases ho
 rename_i elem' alts hty
 split at ho <;> try cases ho
 rename_i he
 have := Nat.eq_of_beq_eq_true he; subst this
 obtain ⟨⟨arr, pre, rest, k1, k2, k3, k4, k5, k6⟩, hbn⟩ := h.bk b _ hb
 have hrest := k4 rfl; subst hrest
 rw [List.append_nil] at k2
 obtain ⟨⟨n, hs⟩, _⟩ := k5
 exact sealAlts_ok h hty hs hbn k1 (by rw [k2]; exact k3) alts (fun _ h => h) ho
theorem sealK_ok {p : Nat → Bool} : ∀ (n : Nat) {E : Env} {st st' : St}, sealK HT p n st = some st' → M HT E st w → (∃ E', Pb HT E st w E' st') ∧ ∀ q ∈ st'.op, p q.2 = false
 | 0, _, _, _, h, _ => by cases h
 | n + 1, E, st, st', h, m => by
  unfold sealK at h
  split at h
  ·rename_i hf
   injection h with h; subst h
   refine ⟨⟨E, Pb.refl m⟩, fun q hq => ?_⟩
   have := List.find?_eq_none.1 hf q hq
   simpa using this
  ·rename_i q hq
   split at h <;> try cases h
   rename_i s hs
   obtain ⟨E1, p1⟩ := sealB_ok m hs
   obtain ⟨⟨E2, p2⟩, g⟩ := sealK_ok n h p1.m
   exact ⟨⟨E2, p1.trans p2⟩, g⟩
end
/-! ### The counts grow -/
def St.grow (st : St) (dg : Nat) (dh : Lin) : St := { st with gl := st.gl.addk dg, hl := st.hl.add dh }
theorem M.grow {HT : Th} {E : Env} {st : St} {w : World} (h : M HT E st w) (dg dh : Nat) {l : Lin} (hl : l.ev E.ρ = dh) (hb : l.below E.n) : M HT { E with g := E.g + dg, h := E.h + dh } (st.grow dg l) w ∧ Ext E { E with g := E.g + dg, h := E.h + dh } := by
 have e : Ext E { E with g := E.g + dg, h := E.h + dh } := ⟨Nat.le_refl _, fun _ _ => rfl, fun _ _ => rfl, fun _ _ => rfl, fun _ _ => rfl, fun _ _ h => h, fun _ h => h, fun _ _ h => h, rfl, rfl, rfl, fun _ _ => rfl, Nat.le_add_right _ _, Nat.le_add_right _ _, rfl, rfl⟩
 refine ⟨⟨h.nx, ?_, h.cs, fun x t hx => ⟨VT.ext HT e _ (h.vt x t hx).1, (h.vt x t hx).2⟩, fun x t hx => ⟨V.ext HT e _ (h.vs x t hx).1, (h.vs x t hx).2⟩, fun b z hb => ⟨(h.bk b z hb).1.ext e (h.bk b z hb).2 (fun _ h => h), (h.bk b z hb).2⟩, h.inj, fun k τ n hk ht => (h.heap k τ n hk ht).imp id (fun hr => hr.ext e), h.dom, h.an, h.bt, h.born, h.md, h.op, facts_ext h.gh e⟩, e⟩
 obtain ⟨⟨g1, g2⟩, g3, g4⟩ := h.g
 refine ⟨⟨?_, g2⟩, ?_, below_add g4 hb⟩
 ·show (st.gl.addk dg).ev E.ρ = _
  rw [Lin.ev_addk, g1]; simp
 ·show (st.hl.add l).ev E.ρ = _
  rw [Lin.ev_add, g3, hl]; simp
end Go.Proofs.YtbjhcjgniciooaaGreatDoor.E
namespace Go.Proofs.YtbjhcjgniciooaaGreatDoor.E
set_option linter.unusedVariables false
set_option linter.unusedSimpArgs false
/-! ### Rows of a kind -/
def RowL (HT : Th) (E : Env) (ct : CTs) (size : Nat) : Nat → List Value → Prop
 | 0, vs => vs = []
 | n + 1, vs => ∃ a b, vs = a ++ b ∧ a.length = size ∧ VTs HT E ct a ∧ RowL HT E ct size n b
section
variable {HT : Th} {E : Env} {st : St} {w : World} {ct : CTs} {size : Nat}
theorem RowL.len : ∀ {n : Nat} {vs : List Value}, RowL HT E ct size n vs → vs.length = n * size
 | 0, vs, h => by rw [show vs = [] from h]; simp
 | n + 1, vs, ⟨a, b, e, h1, _, h2⟩ => by rw [e, List.length_append, h1, h2.len, Nat.add_mul]; omega
theorem RowL.append : ∀ {n m : Nat} {vs us : List Value}, RowL HT E ct size n vs → RowL HT E ct size m us → RowL HT E ct size (n + m) (vs ++ us)
 | 0, m, vs, us, h, k => by rw [show vs = [] from h, Nat.zero_add]; exact k
 | n + 1, m, vs, us, ⟨a, b, e, h1, h2, h3⟩, k => by
  rw [show n + 1 + m = (n + m) + 1 by omega, e, List.append_assoc]
  exact ⟨a, b ++ us, rfl, h1, h2, h3.append k⟩
theorem RowL.split : ∀ {n m : Nat} {vs : List Value}, RowL HT E ct size (n + m) vs → ∃ a b, vs = a ++ b ∧ RowL HT E ct size n a ∧ RowL HT E ct size m b
 | 0, m, vs, h => ⟨[], vs, rfl, rfl, by rw [Nat.zero_add] at h; exact h⟩
 | n + 1, m, vs, h => by
  rw [show n + 1 + m = (n + m) + 1 by omega] at h
  obtain ⟨a, b, e, h1, h2, h3⟩ := h
  obtain ⟨c, d, e2, h4, h5⟩ := h3.split
  exact ⟨a ++ c, d, by rw [e, e2, List.append_assoc], ⟨a, c, rfl, h1, h2, h4⟩, h5⟩
theorem RowL.iff : ∀ {n : Nat} {vs : List Value}, RowL HT E ct size n vs ↔ vs.length = n * size ∧ ∀ j, j < n → VTs HT E ct ((vs.drop (j * size)).take size)
 | 0, vs => by
  constructor
  ·intro h; rw [show vs = [] from h]; exact ⟨by simp, fun j hj => absurd hj (Nat.not_lt_zero _)⟩
  ·rintro ⟨h, _⟩; rw [Nat.zero_mul] at h; exact List.eq_nil_of_length_eq_zero h
 | n + 1, vs => by
  constructor
  ·intro h
   refine ⟨h.len, fun j hj => ?_⟩
   obtain ⟨a, b, e, h1, h2, h3⟩ := h
   cases j with
   | zero => rw [Nat.zero_mul, List.drop_zero, e, List.take_append_of_le_length (by omega), List.take_of_length_le (by omega)]; exact h2
   | succ j =>
    have := (RowL.iff.1 h3).2 j (by omega)
    rw [e, show (j + 1) * size = a.length + j * size by rw [Nat.add_mul, h1]; omega, ← List.drop_drop, List.drop_left]
    exact this
  ·rintro ⟨h1, h2⟩
   refine ⟨vs.take size, vs.drop size, (List.take_append_drop _ _).symm, ?_, ?_, RowL.iff.2 ⟨?_, fun j hj => ?_⟩⟩
   ·rw [List.length_take, h1, Nat.add_mul]; omega
   ·have := h2 0 (by omega); rwa [Nat.zero_mul, List.drop_zero] at this
   ·rw [List.length_drop, h1, Nat.add_mul]; omega
   ·have := h2 (j + 1) (by omega)
    rw [List.drop_drop, show size + j * size = (j + 1) * size by rw [Nat.add_mul]; omega]
    exact this
theorem RowL.ext {F : Env} (e : Ext E F) : ∀ {n : Nat} {vs : List Value}, RowL HT E ct size n vs → RowL HT F ct size n vs
 | 0, vs, h => h
 | n + 1, vs, ⟨a, b, h1, h2, h3, h4⟩ => ⟨a, b, h1, h2, VTs.ext HT e _ h3, h4.ext e⟩
def CTs.flat : CTs → Bool
 | .nil => true
 | .cons t ts => t.flat && ts.flat
theorem VTs_one : ∀ (ts : CTs) {vs : List Value}, ts.flat = true → VTs HT E ts vs → ∀ v ∈ vs, v.oneCell' = true
 | .nil, vs, _, h, v, hv => by rw [show vs = [] from h] at hv; cases hv
 | .cons t ts, vs, hf, ⟨u, r, e, h1, h2⟩, v, hv => by
  simp only [CTs.flat, Bool.and_eq_true] at hf
  rw [e] at hv
  rcases List.mem_cons.1 hv with rfl | hv
  ·exact VT_flat h1 hf.1
  ·exact VTs_one ts hf.2 h2 v hv
theorem RowL.one (hf : ct.flat = true) : ∀ {n : Nat} {vs : List Value}, RowL HT E ct size n vs → ∀ v ∈ vs, v.oneCell' = true
 | 0, vs, h, v, hv => by rw [show vs = [] from h] at hv; cases hv
 | n + 1, vs, ⟨a, b, e, h1, h2, h3⟩, v, hv => by
  rw [e] at hv
  rcases List.mem_append.1 hv with hv | hv
  ·exact VTs_one ct hf h2 v hv
  ·exact h3.one hf v hv
theorem RowL.zeros {z : Array Value} (hz : VTs HT E ct z.toList) (hs : z.size = size) (h0 : 0 < size) (n : Nat) : RowL HT E ct size n (Builtin.zeroCells z n).toList := by
 refine RowL.iff.2 ⟨by rw [Array.length_toList, zeroCells_size, hs], fun j hj => ?_⟩
 have : ((Builtin.zeroCells z n).toList.drop (j * size)).take size = z.toList := by
  apply List.ext_getElem?
  intro i
  by_cases hi : i < size
  ·have hlt : j * size + i < n * size := by
    have : (j + 1) * size ≤ n * size := Nat.mul_le_mul_right _ hj
    rw [Nat.add_mul] at this; omega
   rw [List.getElem?_take_of_lt hi, List.getElem?_drop]
   unfold Builtin.zeroCells
   rw [Array.toList_map, List.getElem?_map, hs]
   have : (Array.range (n * size)).toList[j * size + i]? = some (j * size + i) := by
    rw [Array.getElem?_toList, Array.getElem?_range]; simp [hlt]
   rw [this]
   simp only [Option.map_some]
   have hm : (j * size + i) % size = i := by rw [Nat.mul_comm, Nat.mul_add_mod]; exact Nat.mod_eq_of_lt hi
   rw [hm]
   have hi' : i < z.size := by omega
   rw [Array.getElem?_toList, Array.getElem?_eq_getElem hi', getElem!_pos z i hi']
  ·rw [List.getElem?_eq_none (by rw [List.length_take]; omega), List.getElem?_eq_none (by rw [Array.length_toList]; omega)]
 rw [this]; exact hz
/-- A row in memory. -/
theorem M.rowAt (h : M HT E st w) {τ k len : Nat} {elem : TypeId} (hty : HT τ = .row elem size ct) (hf : τ ∈ st.fp) (hno : ∀ p ∈ st.op, p.2 ≠ τ) (hs : E.S k = some (τ, len)) (hro : roK τ = false) :
  ∃ arr : Array Value, w.heap[k]? = some (.cells arr elem (0, 0)) ∧ RowL HT E ct size len arr.toList := by
 rcases h.heap k τ len hs hf with ⟨b, hb, _⟩ | hk
 ·exact absurd rfl (hno _ hb)
 ·unfold HOk at hk
  rw [hty] at hk
  obtain ⟨arr, h1, h2, h3⟩ := hk
  exact ⟨arr, h1, RowL.iff.2 ⟨by rw [Array.length_toList]; exact h2.2 hro, h3⟩⟩
/-- A row in memory; what lies behind it. -/
theorem M.rowAtR (h : M HT E st w) {τ k len : Nat} {elem : TypeId} (hty : HT τ = .row elem size ct) (hf : τ ∈ st.fp) (hno : ∀ p ∈ st.op, p.2 ≠ τ) (hs : E.S k = some (τ, len)) :
  ∃ (arr : Array Value) (D R : List Value), w.heap[k]? = some (.cells arr elem (0, 0)) ∧ arr.toList = D ++ R ∧ RowL HT E ct size len D := by
 rcases h.heap k τ len hs hf with ⟨b, hb, _⟩ | hk
 ·exact absurd rfl (hno _ hb)
 ·unfold HOk at hk
  rw [hty] at hk
  obtain ⟨arr, h1, h2, h3⟩ := hk
  refine ⟨arr, arr.toList.take (len * size), arr.toList.drop (len * size), h1, (List.take_append_drop _ _).symm, RowL.iff.2 ⟨by rw [List.length_take, Array.length_toList]; omega, fun j hj => ?_⟩⟩
  have := h3 j hj
  have hm : (j + 1) * size ≤ len * size := Nat.mul_le_mul_right _ hj
  rw [Nat.add_mul, Nat.one_mul] at hm
  rw [List.drop_take, List.take_take, Nat.min_eq_left (by omega)]
  exact this
theorem HOk.row {τ k len : Nat} {elem : TypeId} (hty : HT τ = .row elem size ct) {arr : Array Value} (ha : w.heap[k]? = some (.cells arr elem (0, 0))) (hr : RowL HT E ct size len arr.toList) : HOk HT E w k τ len := by
 unfold HOk
 rw [hty]
 exact ⟨arr, ha, ⟨by rw [← Array.length_toList, hr.len]; exact Nat.le_refl _, fun _ => by rw [← Array.length_toList]; exact hr.len⟩, (RowL.iff.1 hr).2⟩
def St.tch (st : St) (τ : Nat) : St := { st with tm := addU st.tm τ }
theorem M.tch (h : M HT E st w) (τ : Nat) : M HT E (st.tch τ) w := ⟨h.nx, h.g, h.cs, h.vt, h.vs, h.bk, h.inj, h.heap, h.dom, h.an, h.bt, h.born, h.md, h.op, h.gh⟩
theorem Ref.tch {r : World} (h : Ref E st r w) (τ : Nat) : Ref E (st.tch τ) r w :=
 ⟨h.os, h.tape, h.output, h.size, fun hw i hi g1 g2 g3 => h.blk hw i hi g1 (fun υ n hs hm => g2 υ n hs (mem_addU.2 (.inr hm))) g3, fun h0 i hi ha => h.agr (fun hm => h0 (mem_addU.2 (.inr hm))) i hi ha, fun i hi hp => h.frn i hi (hp.imp id fun ⟨h0, h1⟩ => ⟨h0, fun υ n hs hm => h1 υ n hs (mem_addU.2 (.inr hm))⟩)⟩
/-- A block that is told by its kind alone is written. -/
theorem M.typPut (h : M HT E st w) {w' : World} {τ k len : Nat} (ho : (HT τ).isOpq = false) (hno : ∀ p ∈ st.op, p.2 ≠ τ) (hs : E.S k = some (τ, len)) (hoth : ∀ i, i ≠ k → w'.heap[i]? = w.heap[i]?) (hsz : w'.heap.size = w.heap.size) (hk : HOk HT E w' k τ len) :
  M HT E (st.tch τ) w' := by
 have ne : ∀ b z, st.bk.get b = some z → z.solid = true → E.β b ≠ k := fun b z hb hz he => by
  have own := (h.bk b z hb).1.own' hz
  cases hty : z.ty with
  | none => rw [hty, he] at own; rw [own.1] at hs; cases hs
  | some τ' =>
   rw [hty, he] at own
   obtain ⟨⟨m, hm⟩, _⟩ := own
   rw [hs] at hm; injection hm with hm; injection hm with hm _
   cases z with
   | cells el cs' f ty => simp only [Blk.ty] at hty; subst hty; exact hno (b, τ') ((h.op b τ').2 ⟨el, cs', f, hb⟩) hm.symm
   | _ => cases hty
 have ag : AgrA E w w' := fun i hi => hoth i (fun e => by
  rw [e] at hi
  have := (h.dom _ _ hs).2.2.1 hi
  rw [ho] at this; cases this)
 refine ⟨h.nx, h.g, h.cs, h.vt, h.vs, fun b z hb => ⟨(h.bk b z hb).1.agree (fun hz => hoth _ (ne b z hb hz)), (h.bk b z hb).2⟩, h.inj, fun i τ' n hi hf => ?_, fun i t hi => by rw [hsz]; exact h.dom i t hi, fun i hi => by rw [hsz]; exact h.an i hi, h.bt, h.born, h.md, h.op, facts_world h.gh ag⟩
 by_cases e : i = k
 ·subst e
  rw [hs] at hi; injection hi with hi; injection hi with h1 h2; subst h1; subst h2
  exact .inr hk
 ·exact (h.heap i τ' n hi hf).imp id (fun hr => hr.agree (fun _ => hoth i e) ag)
theorem Ref.typPut {r : World} (hr : Ref E st r w) (h : M HT E st w) {w' : World} {τ k len : Nat} (hs : E.S k = some (τ, len)) (hoth : ∀ i, i ≠ k → w'.heap[i]? = w.heap[i]?) (hsz : w'.heap.size = w.heap.size)
  (h1 : w'.os = w.os) (h2 : w'.tape = w.tape) (h3 : w'.output = w.output) : Ref E (st.tch τ) r w' := by
 refine ⟨h1.trans hr.os, h2.trans hr.tape, h3.trans hr.output, by rw [hsz]; exact hr.size, fun hw i hi g1 g2 g3 => ?_, fun h0 i hi ha => ?_, fun i hi hp => ?_⟩
 ·by_cases e : i = k
  ·subst e; exact absurd (mem_addU.2 (.inl rfl)) (g2 τ len hs)
  ·rw [hoth i e]
   exact hr.blk hw i hi g1 (fun υ n hs hm => g2 υ n hs (mem_addU.2 (.inr hm))) g3
 ·by_cases e : i = k
  ·subst e
   rw [HT.opq0 τ ((h.dom _ _ hs).2.2.1 (h.bt.2.1 _ ha))] at h0
   exact absurd (mem_addU.2 (.inl rfl)) h0
  ·rw [hoth i e]
   exact hr.agr (fun hm => h0 (mem_addU.2 (.inr hm))) i hi ha
 ·by_cases e : i = k
  ·subst e
   rcases hp with hp | ⟨_, hp⟩
   ·exact absurd hp (h.dom _ _ hs).2.1
   ·exact absurd (mem_addU.2 (.inl rfl)) (hp τ len hs)
  ·rw [hoth i e]
   exact hr.frn i hi (hp.imp id fun ⟨h0, h1⟩ => ⟨h0, fun υ n hs hm => h1 υ n hs (mem_addU.2 (.inr hm))⟩)
/-- New memory is told by its kind at once. -/
theorem M.pubN (h : M HT E st w) {k τ n : Nat} (hp : Prv E k) (hlt : k < w.heap.size) (hne : ∀ b z, st.bk.get b = some z → z.solid = true → E.β b ≠ k) (hτ : τ ∈ st.fp) (ho : (HT τ).isOpq = false) (hk : HOk HT (E.pub k (τ, n)) w k τ n) : M HT (E.pub k (τ, n)) st w := by
 have e := pub_ext (τ, n) hp
 refine ⟨h.nx, h.g, h.cs, fun x t hx => ⟨VT.ext HT e _ (h.vt x t hx).1, (h.vt x t hx).2⟩, fun x t hx => ⟨V.ext HT e _ (h.vs x t hx).1, (h.vs x t hx).2⟩, fun c y hc => ?_, h.inj, fun i τ' n' hi hf => ?_, fun i t hi => ?_, h.an, ⟨fun i hi => ?_, h.bt.2⟩, fun i τ' n' hi => ?_, h.md, h.op, facts_ext h.gh e⟩
 ·obtain ⟨g1, g2⟩ := h.bk c y hc
  exact ⟨g1.ext e g2 (fun hs ⟨p1, p2, p3⟩ => ⟨by rw [Env.pub_ne]; exact p1; exact hne c y hc hs, p2, p3⟩), g2⟩
 ·by_cases hi' : i = k
  ·subst hi'
   rw [Env.pub_self] at hi; injection hi with hi; injection hi with h1 h2; subst h1; subst h2
   exact .inr hk
  ·rw [Env.pub_ne _ _ hi'] at hi
   exact (h.heap i τ' n' hi hf).imp id (fun hr => hr.ext e)
 ·by_cases hi' : i = k
  ·subst hi'
   rw [Env.pub_self] at hi; injection hi with hi; subst hi
   refine ⟨hlt, hp.2.2, fun ha => absurd ha hp.2.1, fun hh => ?_⟩
   rw [ho] at hh; cases hh
  ·rw [Env.pub_ne _ _ hi'] at hi
   exact h.dom i t hi
 ·obtain ⟨t, ht⟩ := h.bt.1 i hi
  exact ⟨t, e.S _ _ ht⟩
 ·by_cases hi' : i = k
  ·subst hi'
   rw [Env.pub_self] at hi; injection hi with hi; injection hi with h1 h2; subst h1
   exact .inr hτ
  ·rw [Env.pub_ne _ _ hi'] at hi
   exact h.born i τ' n' hi
theorem newTyp (h : M HT E st w) {r : World} (hr : Ref E st r w) (o : Obj) {τ n : Nat} (hτ : τ ∈ st.fp) (ho : (HT τ).isOpq = false) (hk : ∀ F, Ext E F → (w.alloc o).heap[w.heap.size]? = some o → HOk HT F (w.alloc o) w.heap.size τ n) :
  ∃ E', Ext E E' ∧ M HT E' st (w.alloc o) ∧ Ref E' st r (w.alloc o) ∧ E'.S w.heap.size = some (τ, n) := by
 have prv := h.newPrv
 have e := pub_ext (τ, n) prv
 refine ⟨_, e, (h.alloc o).pubN prv (by rw [World.size_alloc]; omega) (fun b z hb hz he => ?_) hτ ho (hk _ e (heap_alloc_new w o)), pub_ref (b := 0) (h.alloc o) (hr.alloc o) prv rfl rfl, Env.pub_self _ _ _⟩
 have := (h.bk b z hb).1.lt hz
 omega
end
end Go.Proofs.YtbjhcjgniciooaaGreatDoor.E
