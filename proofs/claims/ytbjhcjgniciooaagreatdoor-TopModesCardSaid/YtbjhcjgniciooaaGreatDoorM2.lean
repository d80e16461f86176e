/- TopModes: a part of the proof, merged. -/
import Derived.Test.YtbjhcjgniciooaaGreatDoorM1
namespace Go.Proofs.YtbjhcjgniciooaaGreatDoor.E
set_option linter.unusedVariables false
set_option linter.unusedSimpArgs false
section
variable {HT : Th} {E : Env} {st : St} {w : World}
/-! ### A letter whose kind may be nil -/
def St.setVs (st : St) (x : Nat) (a : AV) : St := { st with vs := st.vs.set x a }
def St.setVt (st : St) (x : Nat) (t : CT) : St := { st with vt := st.vt.set x t }
theorem Up.setVs (h : M HT E st w) {x : Nat} {a : AV} (hv : V HT E a (E.ν x)) (hx : x < E.n) : Up HT E st w E (st.setVs x a) :=
 ⟨Ext.refl E, ⟨h.nx, h.g, h.cs, h.vt, fun y b hy => by
  have hy : (st.vs.set x a).get y = some b := hy
  rw [PT.get_set] at hy
  by_cases e : y = x
  ·rw [if_pos e] at hy; injection hy with hy; subst hy; subst e; exact ⟨hv, hx⟩
  ·rw [if_neg e] at hy; exact h.vs y b hy, h.bk, h.inj, h.heap, h.dom, h.an, h.bt, h.born, h.md, h.op, h.gh⟩, rfl, rfl, rfl, rfl, Sam.refl E⟩
theorem Up.setVt (h : M HT E st w) {x : Nat} {t : CT} (hv : VT HT E t (E.ν x)) (hx : x < E.n) : Up HT E st w E (st.setVt x t) :=
 ⟨Ext.refl E, ⟨h.nx, h.g, h.cs, fun y b hy => by
  have hy : (st.vt.set x t).get y = some b := hy
  rw [PT.get_set] at hy
  by_cases e : y = x
  ·rw [if_pos e] at hy; injection hy with hy; subst hy; subst e; exact ⟨hv, hx⟩
  ·rw [if_neg e] at hy; exact h.vt y b hy, h.vs, h.bk, h.inj, h.heap, h.dom, h.an, h.bt, h.born, h.md, h.op, h.gh⟩, rfl, rfl, rfl, rfl, Sam.refl E⟩
/-- The kinds as '==' sees them. -/
def ckind : CT → Nat
 | .ptr _ true => 1
 | .map _ true => 3
 | .fn true _ => 4
 | .iface true _ => 5
 | _ => 0
/-- It is nil; it is not. -/
def splitNil (st : St) (x : Nat) : CT → Option (St × St)
 | .ptr τ true => some (st.setVs x .ptr0, (st.newB (.sealed τ)).setVs x (.ptr st.nx 0))
 | .map τ true => some (st.setVs x .map0, (st.newB (.sealed τ)).setVs x (.map st.nx))
 | .fn true fs => some (st.setVs x .fn0, st.setVt x (.fn false fs))
 | .iface true ts => some (st.setVs x .if0, st.setVt x (.iface false ts))
 | _ => none
/-- A value of a sort, nil or not. -/
def kindV (k : Nat) (v : Value) (n : Bool) : Prop :=
 (k = 1 ∧ ∃ p, v = .pointer p ∧ p.isNone = n) ∨ (k = 3 ∧ ∃ p, v = .map p ∧ p.isNone = n) ∨
  (k = 4 ∧ ((v = .nilFunc ∧ n = true) ∨ (∃ f x y, v = .func f x y ∧ n = false))) ∨ (k = 5 ∧ ((v = .nilIface ∧ n = true) ∨ (∃ t x, v = .iface t x ∧ n = false)))
theorem VF_func : ∀ {fs : FTs} {v : Value}, VF HT E fs v → ∃ f x y, v = .func f x y
 | .nil, _, h => h.elim
 | .cons f a b r, _, h => by
  rcases h with ⟨x, y, rfl, _⟩ | h
  ·exact ⟨_, _, _, rfl⟩
  ·exact VF_func h
theorem VI_iface : ∀ {ts : ITs} {v : Value}, VI HT E ts v → ∃ t x, v = .iface t x
 | .nil, _, h => h.elim
 | .cons t c r, _, h => by
  rcases h with ⟨x, rfl, _⟩ | h
  ·exact ⟨_, _, rfl⟩
  ·exact VI_iface h
/-- The kinds that are never nil. -/
def nkind : CT → Nat
 | .ptr _ false => 1
 | .map _ false => 3
 | .fn false _ => 4
 | .iface false _ => 5
 | _ => 0
theorem nkind_ok (h : M HT E st w) {x : Nat} {t : CT} (ht : st.vt.get x = some t) (hk : nkind t ≠ 0) : kindV (nkind t) (E.ν x) false := by
 obtain ⟨hv, hx⟩ := h.vt x t ht
 unfold nkind at hk ⊢
 split
 ·rcases hv with ⟨e, _⟩ | ⟨k, n, e, _⟩
  ·cases e
  ·exact .inl ⟨rfl, _, e, rfl⟩
 ·rcases hv with ⟨e, _⟩ | ⟨k, n, e, _⟩
  ·cases e
  ·exact .inr (.inl ⟨rfl, _, e, rfl⟩)
 ·rcases hv with ⟨e, _⟩ | hv
  ·cases e
  ·obtain ⟨f, a, b, e⟩ := VF_func hv
   exact .inr (.inr (.inl ⟨rfl, .inr ⟨f, a, b, e, rfl⟩⟩))
 ·rcases hv with ⟨e, _⟩ | hv
  ·cases e
  ·obtain ⟨f, a, e⟩ := VI_iface hv
   exact .inr (.inr (.inr ⟨rfl, .inr ⟨f, a, e, rfl⟩⟩))
 ·split at hk <;> first | exact absurd rfl hk | (rename_i h1 h2 h3 h4; exact absurd rfl (by first | exact h1 _ | exact h2 _ | exact h3 _ | exact h4 _))
theorem splitNil_ok (h : M HT E st w) {x : Nat} {t : CT} (ht : st.vt.get x = some t) {s1 s2 : St} (hs : splitNil st x t = some (s1, s2)) :
  (kindV (ckind t) (E.ν x) true ∧ Up HT E st w E s1) ∨ (kindV (ckind t) (E.ν x) false ∧ ∃ E', Up HT E st w E' s2) := by
 obtain ⟨hv, hx⟩ := h.vt x t ht
 unfold splitNil at hs
 split at hs <;> try cases hs
 ·rcases hv with ⟨_, e⟩ | ⟨k, n, e, hS⟩
  ·exact .inl ⟨.inl ⟨rfl, none, e, rfl⟩, Up.setVs h e hx⟩
  ·obtain ⟨E', u, h1, h2⟩ := inst_p h hS
   refine .inr ⟨.inl ⟨rfl, _, e, rfl⟩, E', u.trans (Up.setVs u.m ⟨?_, h2⟩ (Nat.lt_of_lt_of_le hx u.ext.n))⟩
   rw [← u.ext.ν x hx, e, h1]
 ·rcases hv with ⟨_, e⟩ | ⟨k, n, e, hS⟩
  ·exact .inl ⟨.inr (.inl ⟨rfl, none, e, rfl⟩), Up.setVs h e hx⟩
  ·obtain ⟨E', u, h1, h2⟩ := inst_p h hS
   refine .inr ⟨.inr (.inl ⟨rfl, _, e, rfl⟩), E', u.trans (Up.setVs u.m ⟨?_, h2⟩ (Nat.lt_of_lt_of_le hx u.ext.n))⟩
   rw [← u.ext.ν x hx, e, h1]
 ·rcases hv with ⟨_, e⟩ | hv
  ·exact .inl ⟨.inr (.inr (.inl ⟨rfl, .inl ⟨e, rfl⟩⟩)), Up.setVs h e hx⟩
  ·obtain ⟨f, a, b, e⟩ := VF_func hv
   exact .inr ⟨.inr (.inr (.inl ⟨rfl, .inr ⟨f, a, b, e, rfl⟩⟩)), E, Up.setVt h (.inr hv) hx⟩
 ·rcases hv with ⟨_, e⟩ | hv
  ·exact .inl ⟨.inr (.inr (.inr ⟨rfl, .inl ⟨e, rfl⟩⟩)), Up.setVs h e hx⟩
  ·obtain ⟨f, a, e⟩ := VI_iface hv
   exact .inr ⟨.inr (.inr (.inr ⟨rfl, .inr ⟨f, a, e, rfl⟩⟩)), E, Up.setVt h (.inr hv) hx⟩
theorem kindV_nil {d : TypeDesc} {k : Nat} {v u : Value} {n : Bool} (hk : dkind d = k) (hv : kindV k v n) {b : AV} (hu : V HT E b u) (hb : isNil b = some true) (hkb : akind b = k) : nilV d v u = some n := by
 rcases hv with ⟨rfl, p, rfl, e⟩ | ⟨rfl, p, rfl, e⟩ | ⟨rfl, e⟩ | ⟨rfl, e⟩
 ·obtain ⟨el, rfl⟩ := dk1 hk
  rcases shape_of hu hb with ⟨_, q, rfl, e2⟩ | ⟨e', _⟩ | ⟨e', _⟩ | ⟨e', _⟩ | ⟨e', _⟩ <;> try (rw [hkb] at e'; cases e')
  rw [Option.isNone_iff_eq_none] at e2; subst e2; rw [← e]; cases p <;> rfl
 ·obtain ⟨k, el, rfl⟩ := dk3 hk
  rcases shape_of hu hb with ⟨e', _⟩ | ⟨e', _⟩ | ⟨_, q, rfl, e2⟩ | ⟨e', _⟩ | ⟨e', _⟩ <;> try (rw [hkb] at e'; cases e')
  rw [Option.isNone_iff_eq_none] at e2; subst e2; rw [← e]; cases p <;> rfl
 ·obtain ⟨_, _, _, rfl⟩ := dk4 hk
  rcases shape_of hu hb with ⟨e', _⟩ | ⟨e', _⟩ | ⟨e', _⟩ | ⟨_, e2⟩ | ⟨e', _⟩ <;> try (rw [hkb] at e'; cases e')
  rcases e with ⟨rfl, rfl⟩ | ⟨_, _, _, rfl, rfl⟩ <;> rcases e2 with ⟨rfl, h2⟩ | ⟨_, _, _, rfl, h2⟩ <;> first | rfl | cases h2
 ·obtain ⟨_, rfl⟩ := dk5 hk
  rcases shape_of hu hb with ⟨e', _⟩ | ⟨e', _⟩ | ⟨e', _⟩ | ⟨e', _⟩ | ⟨_, e2⟩ <;> try (rw [hkb] at e'; cases e')
  rcases e with ⟨rfl, rfl⟩ | ⟨_, _, rfl, rfl⟩ <;> rcases e2 with ⟨rfl, h2⟩ | ⟨_, _, rfl, h2⟩ <;> first | rfl | cases h2
/-! ### Structs -/
/-- Two structs' fields: none: not told; otherwise whether they are alike, if it is known. -/
def eqFs (C : Cx) (st : St) (xs ys : List AV) : List Field → Option (Option Bool)
 | [] => some (some true)
 | f :: fs =>
  if f.name = "_" then none else
  match eqFs C st xs ys fs with
  | none => none
  | some r =>
   match C.und f.type, xs[f.offset]?, ys[f.offset]? with
   | some (.int _), some (.int k a), some (.int l b) =>
    if k = l then match st.dec (.eq (a.sub b)) with
     | some true => some r
     | some false => some (some false)
     | none => some (if r = some false then some false else none)
    else none
   | some .string, some a, some b =>
    match slen a, slen b with
    | some _, some _ => match strEq st a b with
     | (.bool true, _) => some r
     | (.bool false, _) => some (some false)
     | _ => some (if r = some false then some false else none)
    | _, _ => none
   | _, _, _ => none
def flatD : TypeDesc → Bool
 | .struct _ | .array _ _ => false
 | _ => true
theorem und_isAgg {C : Cx} (hC : CxOk C) {t : Nat} {d : TypeDesc} (hd : C.und t = some d) (hn : flatD d = true) (w' : World) : (isAgg t).run C.P w' = .ok false w' := by
 unfold isAgg
 rw [Sem.run_bind, run_underlying (hC.und hd) w']
 cases d <;> first | rfl | cases hn
theorem part_run {C : Cx} (hC : CxOk C) {t : Nat} {d : TypeDesc} (hd : C.und t = some d) (hn : flatD d = true) {cs : Array Value} {o : Nat} {v : Value} (hv : cs[o]? = some v) (w' : World) :
  (part t cs o).run C.P w' = .ok v w' := by
 unfold part
 rw [Sem.run_bind, und_isAgg hC hd hn w']
 simp only [Result.andThen_ok, Bool.false_eq_true, if_false, hv]
 rfl
theorem eqFs_ok {C : Cx} (hC : CxOk C) (h : M HT E st w) {xs ys : Array Value} {as bs : List AV} (hx : Vs HT E as xs.toList) (hy : Vs HT E bs ys.toList) (n : Nat) :
  ∀ (fs : List Field) {r : Option Bool}, eqFs C st as bs fs = some r → ∃ b, (∀ w', (Op.eqFields (n + 1) xs ys fs).run C.P w' = .ok b w') ∧ ∀ c, r = some c → b = c
 | [], r, hr => by
  simp only [eqFs, Option.some.injEq] at hr
  exact ⟨true, fun _ => rfl, fun c hc => by rw [← hr] at hc; injection hc⟩
 | f :: fs, r, hr => by
  unfold eqFs at hr
  split at hr
  ·cases hr
  rename_i hnm
  split at hr
  ·cases hr
  rename_i r' hr'
  obtain ⟨b', hb', hc'⟩ := eqFs_ok hC h hx hy n fs hr'
  have get : ∀ {zs : Array Value} {cs : List AV} {i : Nat} {a : AV}, Vs HT E cs zs.toList → cs[i]? = some a → ∃ v, zs[i]? = some v ∧ V HT E a v := fun hz ha => by
   obtain ⟨v, h1, h2⟩ := hz.get ha
   exact ⟨v, by simpa using h1, h2⟩
  have step : ∀ {d : TypeDesc} {u v : Value} {c : Bool}, C.und f.type = some d → flatD d = true → xs[f.offset]? = some u → ys[f.offset]? = some v →
    (∀ w', (Op.equalIn (n + 1) f.type u v).run C.P w' = .ok c w') → ∀ w', (Op.eqFields (n + 1) xs ys (f :: fs)).run C.P w' = .ok (c && b') w' := fun hd hn hu hv he w' => by
   simp only [Op.eqFields, if_pos (show f.name ≠ "_" from hnm), Sem.run_bind, part_run hC hd hn hu, part_run hC hd hn hv, Result.andThen_ok, he]
   rename_i c
   cases c
   ·rfl
   ·simp only [Bool.not_true, Bool.false_eq_true, if_false, Bool.true_and]; exact hb' w'
  split at hr
  ·rename_i k0 k a l b hd ha hb
   split at hr
   ·rename_i hkl
    subst hkl
    obtain ⟨u, hu, hu2, ba, _⟩ := get hx ha
    obtain ⟨v, hv, hv2, bb, _⟩ := get hy hb
    have run := step (c := (a.ev E.ρ == b.ev E.ρ)) hd rfl hu hv (fun w' => by rw [hu2, hv2]; exact run_equalIn_int w' n _ _ _ _ _ (hC.und hd))
    refine ⟨_, run, fun c hc => ?_⟩
    rw [eq_dec, ← Lin.ev_sub]
    split at hr
    ·rename_i g
     have := h.dec g
     injection hr with hr
     simp only [Cnd.holds] at this
     rw [this, Bool.true_and]; exact hc' c (hr.trans hc)
    ·rename_i g
     have := h.dec g
     injection hr with hr
     simp only [Cnd.holds] at this
     rw [this, Bool.false_and]; rw [← hr] at hc; injection hc
    ·injection hr with hr
     split at hr
     ·rename_i e
      rw [← hr] at hc; injection hc with hc
      rw [← hc, hc' false e, Bool.and_false]
     ·rw [← hr] at hc; cases hc
   ·cases hr
  ·rename_i a b hd ha hb
   split at hr
   ·rename_i m1 m2 g1 g2
    obtain ⟨u, hu, hu2⟩ := get hx ha
    obtain ⟨v, hv, hv2⟩ := get hy hb
    obtain ⟨s, rfl, _⟩ := slen_ok hu2 g1
    obtain ⟨t, rfl, _⟩ := slen_ok hv2 g2
    have run := step (c := (s.toList == t.toList)) hd rfl hu hv (fun w' => run_equalIn_string w' n _ _ _ (hC.und hd))
    obtain ⟨E', _, hq⟩ := strEq_ok h hu2 hv2
    refine ⟨_, run, fun c hc => ?_⟩
    split at hr
    ·rename_i s' g
     rw [g] at hq
     injection hr with hr
     have : (s.toList == t.toList) = true := by injection (show Value.bool _ = Value.bool _ from hq)
     rw [this, Bool.true_and]; exact hc' c (hr.trans hc)
    ·rename_i s' g
     rw [g] at hq
     injection hr with hr
     have : (s.toList == t.toList) = false := by injection (show Value.bool _ = Value.bool _ from hq)
     rw [this, Bool.false_and]; rw [← hr] at hc; injection hc
    ·injection hr with hr
     split at hr
     ·rename_i e
      rw [← hr] at hc; injection hc with hc
      rw [← hc, hc' false e, Bool.and_false]
     ·rw [← hr] at hc; cases hc
   ·cases hr
  ·cases hr
end
end Go.Proofs.YtbjhcjgniciooaaGreatDoor.E
namespace Go.Proofs.YtbjhcjgniciooaaGreatDoor.E
set_option linter.unusedVariables false
set_option linter.unusedSimpArgs false
section
variable {C : Cx} {E : Env} {st : St} {w : World}
/-! ### What a type's table says, run -/
theorem r_info (hC : CxOk C) {t : Nat} {i : TypeInfo} (h : C.inf t = some i) (w' : World) : (typeInfo t).run C.P w' = .ok i w' := by
 unfold typeInfo; simp only [Sem.run_bind, run_program, Result.andThen_ok, hC.inf t i h]; rfl
theorem r_size (hC : CxOk C) {t : Nat} {i : TypeInfo} (h : C.inf t = some i) (w' : World) : (sizeOf t).run C.P w' = .ok i.size w' := by
 unfold sizeOf; simp only [Sem.run_bind, r_info hC h, Result.andThen_ok]; rfl
theorem r_zero (hC : CxOk C) {t : Nat} {i : TypeInfo} {z : Value} (h : C.inf t = some i) (hz : i.zero = some z) (w' : World) : (zeroValue t).run C.P w' = .ok z w' := by
 unfold zeroValue; simp only [Sem.run_bind, r_info hC h, Result.andThen_ok, hz]; rfl
theorem r_und (hC : CxOk C) {t : Nat} {d : TypeDesc} (h : C.und t = some d) (w' : World) : (underlying t).run C.P w' = .ok d w' := run_underlying (hC.und h) w'
def isRow : TypeDesc → Bool
 | .struct _ | .array _ _ => true
 | _ => false
theorem r_agg (hC : CxOk C) {t : Nat} {d : TypeDesc} (h : C.und t = some d) (w' : World) : (isAgg t).run C.P w' = .ok (isRow d) w' := by
 unfold isAgg
 rw [Sem.run_bind, r_und hC h w']
 cases d <;> rfl
/-! ### == and != -/
def flipB (ng : Bool) : AV → Option AV
 | .bool b => some (.bool (if ng then !b else b))
 | .cond c => some (.cond (if ng then c.neg else c))
 | _ => none
/-- '==' (or '!=') of two values of one type. -/
def eqOp (C : Cx) (st : St) (ng : Bool) (t : TypeId) (cst : Bool) (a b : AV) : Option (List (AV × St)) :=
 match C.und t with
 | none => none
 | some d =>
  match d, a, b with
  | .bool, .bool x, .bool y => some [(.bool (if ng then !(x == y) else x == y), st)]
  | .bool, .cond c, .bool y => some [(.cond (if ng == y then c.neg else c), st)]
  | .bool, .bool y, .cond c => some [(.cond (if ng == y then c.neg else c), st)]
  | .struct fs, .agg xs, .agg ys =>
   if C.sEq.contains t then
    match eqFs C st xs ys fs.toList with
    | none => none
    | some (some r) => some [(.bool (if ng then !r else r), st)]
    | some none => some [newC st]
   else none
  | _, _, _ =>
   if dkind d = 5 && !cst then none else
   match nilA d a b with
   | some r => some [(.bool (if ng then !r else r), st)]
   | none =>
    match a with
    | .var x =>
     if isNil b = some true ∧ akind b = dkind d then
      match st.vt.get x with
      | some ct => if ckind ct = dkind d ∧ dkind d ≠ 0 then
        match splitNil st x ct with
        | some (s1, s2) => some [(.bool !ng, s1), (.bool ng, s2)]
        | none => none
       else if nkind ct = dkind d ∧ dkind d ≠ 0 then some [(.bool ng, st)] else none
      | none => none
     else none
    | .tsl _ _ => (match b with
     | .sl0 => if dkind d = 2 then some [newC st] else none
     | _ => none)
    | _ => none
def isC : Operand → Bool
 | .const _ => true
 | _ => false
def eqO (ng : Bool) : BinOp := if ng then .neq else .eql
def eqGuardM (t : TypeId) (x y : Operand) (a b : Value) : Sem Unit :=
 match a, b with
 | .nilIface, .nilIface => (if (isC x || isC y) = true then pure () else do
  if ← Op.eqGuardIn Op.maxDepth t a b then unsupported (.noEntry "binop/eql: two nil values of an interface type with methods, neither of them the literal nil") : Sem Unit)
 | .agg _, .agg _ => do
  if !(← program).eqGuardType (← program).depth t then return
  if ← Op.eqGuardIn Op.maxDepth t a b then unsupported (.noEntry "binop/eql: two nil values of an interface type with methods, in a part of a struct or an array")
 | _, _ => pure ()
theorem eqGuard_M (ng : Bool) (t : TypeId) (x y : Operand) (a b : Value) : eqGuard (eqO ng) t x y a b = eqGuardM t x y a b := by
 cases ng <;> (unfold eqGuard eqGuardM; cases a <;> cases b <;> rfl)
theorem eqGuard_ok {P : Program} (ng : Bool) (t : TypeId) (x y : Operand) (a b : Value) (h : (∀ xs ys, a = .agg xs → b = .agg ys → P.eqGuardType P.depth t = false) ∧ (a = .nilIface → b = .nilIface → (isC x || isC y) = true)) (w' : World) :
  (eqGuard (eqO ng) t x y a b).run P w' = .ok () w' := by
 rw [eqGuard_M]
 obtain ⟨h1, h2⟩ := h
 cases a
 case nilIface =>
  cases b
  case nilIface => unfold eqGuardM; simp only; rw [if_pos (h2 rfl rfl)]; rfl
  all_goals rfl
 case agg xs =>
  cases b
  case agg ys =>
   unfold eqGuardM
   simp only [Sem.run_bind, run_program, Result.andThen_ok, h1 xs ys rfl rfl]
   rfl
  all_goals rfl
 all_goals rfl
theorem eqOp_ok (hC : CxOk C) (h : M C.HT E st w) {ng : Bool} {t : TypeId} {cst : Bool} {a b : AV} {outs : List (AV × St)} (ho : eqOp C st ng t cst a b = some outs) {x y : Value} (ha : V C.HT E a x) (hb : V C.HT E b y)
  {ox oy : Operand} (hcst : cst = true → (isC ox || isC oy) = true) :
  Many C.HT E st w (fun w' => (do eqGuard (eqO ng) t ox oy x y; binOp (eqO ng) t x y : Sem Value).run C.P w') outs := by
 have bin : ∀ {r : Bool} {w' : World}, ((∀ xs ys, x = .agg xs → y = .agg ys → C.P.eqGuardType C.P.depth t = false) ∧ (x = .nilIface → y = .nilIface → cst = true)) →
   ((binOp .eql t x y).run C.P w' = .ok (.bool r) w' ∧ (binOp .neq t x y).run C.P w' = .ok (.bool (!r)) w') →
   (do eqGuard (eqO ng) t ox oy x y; binOp (eqO ng) t x y : Sem Value).run C.P w' = .ok (.bool (if ng then !r else r)) w' := fun hg hr => by
  rw [Sem.run_bind, eqGuard_ok ng t ox oy x y ⟨hg.1, fun e1 e2 => hcst (hg.2 e1 e2)⟩]
  simp only [Result.andThen_ok]
  cases ng
  ·exact hr.1
  ·exact hr.2
 unfold eqOp at ho
 split at ho
 ·cases ho
 rename_i d hd
 have hu := hC.und hd
 split at ho
 ·rename_i p q
  injection ho with ho; subst ho
  cases (show x = _ from ha); cases (show y = _ from hb)
  exact (One.same h (fun w' => bin ⟨fun _ _ e => (nomatch e), fun e => (nomatch e)⟩ (eql_equal t _ _ rfl (run_equalIn_bool' w' 9999 t p q hu))) (by cases ng <;> rfl)).many
 ·rename_i c q
  injection ho with ho; subst ho
  obtain ⟨ha, hbc⟩ := ha
  cases ha; cases (show y = _ from hb)
  refine (One.same h (v := .bool (if ng then !(c.holds E.ρ == q) else c.holds E.ρ == q)) (fun w' => bin ⟨fun _ _ e => (nomatch e), fun e => (nomatch e)⟩ (eql_equal t _ _ rfl (run_equalIn_bool' w' 9999 t _ q hu))) ?_).many
  refine ⟨?_, ?_⟩
  ·cases ng <;> cases q <;> simp [Cnd.holds_neg]
  ·split
   ·cases c <;> first | exact hbc | exact below_addk (below_sc hbc _) _
   ·exact hbc
 ·rename_i q c
  injection ho with ho; subst ho
  obtain ⟨hb, hbc⟩ := hb
  cases hb; cases (show x = _ from ha)
  refine (One.same h (v := .bool (if ng then !(q == c.holds E.ρ) else q == c.holds E.ρ)) (fun w' => bin ⟨fun _ _ e => (nomatch e), fun e => (nomatch e)⟩ (eql_equal t _ _ rfl (run_equalIn_bool' w' 9999 t q _ hu))) ?_).many
  refine ⟨?_, ?_⟩
  ·cases ng <;> cases q <;> simp [Cnd.holds_neg]
  ·split
   ·cases c <;> first | exact hbc | exact below_addk (below_sc hbc _) _
   ·exact hbc
 ·rename_i fs xs ys
  split at ho
  ·rename_i hs
   obtain ⟨g1, g2⟩ := hC.sEq t (List.contains_iff_mem.1 hs)
   obtain ⟨vx, rfl, hx⟩ := ha
   obtain ⟨vy, rfl, hy⟩ := hb
   have hfs : C.P.fieldsOf t = fs := by unfold Program.fieldsOf; rw [hu]
   split at ho
   ·cases ho
   ·rename_i r hr
    injection ho with ho; subst ho
    obtain ⟨b, e1, e2⟩ := eqFs_ok hC h hx hy 9998 fs.toList hr
    have := e2 r rfl
    subst this
    exact (One.same h (fun w' => bin ⟨fun _ _ _ _ => g2, fun e => (nomatch e)⟩ (eql_equal t _ _ rfl (by rw [run_equalIn_struct w' 9999 t vx vy (by rw [hfs]; exact hu) g1, hfs]; exact e1 w'))) (by cases ng <;> rfl)).many
   ·rename_i hr
    injection ho with ho; subst ho
    obtain ⟨b, e1, _⟩ := eqFs_ok hC h hx hy 9998 fs.toList hr
    obtain ⟨E', u, v⟩ := newC_ok h (if ng then !b else b)
    exact One.many ⟨_, fun w' => bin ⟨fun _ _ _ _ => g2, fun e => (nomatch e)⟩ (eql_equal t _ _ rfl (by rw [run_equalIn_struct w' 9999 t vx vy (by rw [hfs]; exact hu) g1, hfs]; exact e1 w')), E', u, v⟩
  ·cases ho
 ·split at ho
  ·cases ho
  rename_i hcs
  have nilrun : ∀ {r : Bool} {w' : World}, nilV d x y = some r → (do eqGuard (eqO ng) t ox oy x y; binOp (eqO ng) t x y : Sem Value).run C.P w' = .ok (.bool (if ng then !r else r)) w' := fun hn => by
   refine bin ⟨fun xs ys e1 e2 => ?_, fun e1 e2 => ?_⟩ (nilV_eq hu hn _)
   ·subst e1; cases d <;> cases hn
   ·subst e1; subst e2
    cases d <;> first | cases hn | skip
    simp only [Bool.and_eq_true, decide_eq_true_eq, Bool.not_eq_true', not_and, Bool.not_eq_false] at hcs
    exact hcs rfl
  split at ho
  ·rename_i r hr
   injection ho with ho; subst ho
   exact (One.same h (fun w' => nilrun (nilA_ok ha hb hr)) (by cases ng <;> rfl)).many
  ·split at ho
   ·rename_i z
    split at ho
    ·rename_i hbn
     split at ho
     ·rename_i ct hct
      split at ho
      ·rename_i hk
       split at ho
       ·rename_i s1 s2 hs
        injection ho with ho; subst ho
        obtain ⟨ha, _⟩ := ha
        rcases splitNil_ok h hct hs with ⟨k, u⟩ | ⟨k, E', u⟩
        ·rw [← ha] at k
         refine ⟨_, fun w' => nilrun (kindV_nil hk.1.symm k hb hbn.1 (hbn.2.trans hk.1.symm)), (.bool !ng, s1), List.mem_cons_self .., E, u, ?_⟩
         cases ng <;> rfl
        ·rw [← ha] at k
         refine ⟨_, fun w' => nilrun (kindV_nil hk.1.symm k hb hbn.1 (hbn.2.trans hk.1.symm)), (.bool ng, s2), List.mem_cons_of_mem _ (List.mem_cons_self ..), E', u, ?_⟩
         cases ng <;> rfl
       ·cases ho
      ·split at ho
       ·rename_i hk
        injection ho with ho; subst ho
        obtain ⟨ha, _⟩ := ha
        have k := nkind_ok h hct (by rw [hk.1]; exact hk.2)
        rw [← ha] at k
        refine ⟨_, fun w' => nilrun (kindV_nil hk.1.symm k hb hbn.1 (hbn.2.trans hk.1.symm)), (.bool ng, st), List.mem_cons_self .., E, Up.refl h, ?_⟩
        cases ng <;> rfl
       ·cases ho
     ·cases ho
    ·cases ho
   ·split at ho
    ·split at ho <;> try cases ho
     rename_i hk
     obtain ⟨el, rfl⟩ := dk2 hk
     obtain ⟨p, m, c, rfl, _⟩ := ha
     have hb : y = .slice none 0 0 := hb
     subst hb
     obtain ⟨E', u, v⟩ := newC_ok h (if ng then !p.isNone else p.isNone)
     have e : nilV (.slice el) (.slice p m c) (.slice none 0 0) = some p.isNone := by cases p <;> rfl
     exact One.many ⟨_, fun w' => nilrun e, E', u, v⟩
    ·cases ho
   ·cases ho
end
end Go.Proofs.YtbjhcjgniciooaaGreatDoor.E
namespace Go.Proofs.YtbjhcjgniciooaaGreatDoor.E
set_option linter.unusedVariables false
set_option linter.unusedSimpArgs false
section
variable {C : Cx} {E : Env} {st : St} {w : World}
/-! ### Shifts -/
def shOp (st : St) (l : Bool) (k : IntKind) (a b : Lin) : Option (AV × St) :=
 if st.ge b then
  if a.ts.isEmpty && b.ts.isEmpty then
   if l then some (.int k (.k (k.wrap (a.c * 2 ^ (min b.c.toNat k.bits)))), st) else some (.int k (.k (a.c.fdiv (2 ^ (min b.c.toNat k.bits)))), st)
  else if !l && st.ge a then some (rng st k (.k 0) a)
  else some (anyI st k)
 else none
theorem shOp_ok {HT : Th} (h : M HT E st w) (P : Program) {l : Bool} {k j : IntKind} {a b : Lin} {r : AV × St} (hr : shOp st l k a b = some r) (t : TypeId)
  (va : V HT E (.int k a) (.int k (a.ev E.ρ))) (vb : V HT E (.int j b) (.int j (b.ev E.ρ))) :
  One HT E st w (fun w' => (binOp (if l then .shl else .shr) t (.int k (a.ev E.ρ)) (.int j (b.ev E.ρ))).run P w') r := by
 obtain ⟨_, ba, a1, a2⟩ := va
 obtain ⟨_, bb, b1, b2⟩ := vb
 unfold shOp at hr
 split at hr
 ·rename_i hb
  have hb := h.ge hb
  have run : ∀ w', (binOp (if l then .shl else .shr) t (.int k (a.ev E.ρ)) (.int j (b.ev E.ρ))).run P w' = .ok (.int k (if l then k.wrap (a.ev E.ρ * 2 ^ (min (b.ev E.ρ).toNat k.bits)) else (a.ev E.ρ).fdiv (2 ^ (min (b.ev E.ρ).toNat k.bits)))) w' := fun w' => by
   cases l <;> simp only [Bool.false_eq_true, if_true, if_false, binOp, Op.shift] <;> rw [if_neg (by omega)] <;> rfl
  have fr := fdiv_range k (a.ev E.ρ) (min (b.ev E.ρ).toNat k.bits) a1 a2
  have res : k.min ≤ (if l then k.wrap (a.ev E.ρ * 2 ^ (min (b.ev E.ρ).toNat k.bits)) else (a.ev E.ρ).fdiv (2 ^ (min (b.ev E.ρ).toNat k.bits))) ∧ (if l then k.wrap (a.ev E.ρ * 2 ^ (min (b.ev E.ρ).toNat k.bits)) else (a.ev E.ρ).fdiv (2 ^ (min (b.ev E.ρ).toNat k.bits))) ≤ k.max := by
   cases l
   ·exact ⟨fr.1, fr.2.1⟩
   ·exact wrap_range _ _
  split at hr
  ·rename_i hc
   simp only [Bool.and_eq_true] at hc
   rw [ev_const hc.1, ev_const hc.2] at run res ⊢
   split at hr
   ·rename_i hl
    injection hr with hr; subst hr; subst hl
    exact One.same h run ⟨by rw [Lin.ev_k]; rfl, below_k _ _, by rw [Lin.ev_k]; exact res⟩
   ·rename_i hl
    injection hr with hr; subst hr
    have hl : l = false := by simpa using hl
    subst hl
    exact One.same h run ⟨by rw [Lin.ev_k]; rfl, below_k _ _, by rw [Lin.ev_k]; exact res⟩
  ·split at hr
   ·rename_i hc
    simp only [Bool.and_eq_true, Bool.not_eq_true'] at hc
    injection hr with hr; subst hr
    have ha := h.ge hc.2
    have hl := hc.1
    subst hl
    obtain ⟨E', u, v, _⟩ := rng_ok (lo := .k 0) (hi := a) h k _ (by simpa using (fr.2.2 ha).1) (fr.2.2 ha).2 (below_k _ _) ba fr.1 fr.2.1
    exact ⟨_, run, E', u, v⟩
   ·injection hr with hr; subst hr
    obtain ⟨E', u, v⟩ := anyI_ok h k _ res.1 res.2
    exact ⟨_, run, E', u, v⟩
 ·cases hr
/-! ### An operator -/
def binA (C : Cx) (st : St) (op : BinOp) (t : TypeId) (cst : Bool) (a b : AV) : Option (List (AV × St)) :=
 match op with
 | .shl => match a, b with
  | .int k e, .int _ f => (shOp st true k e f).map ([·])
  | _, _ => none
 | .shr => match a, b with
  | .int k e, .int _ f => (shOp st false k e f).map ([·])
  | _, _ => none
 | op =>
  match a, b with
  | .int k e, .int j f => if k = j then (bopI st op k e f).map ([·]) else none
  | a, b =>
   if (slen a).isSome && (slen b).isSome then (bopS st op a b).map ([·])
   else match op with
    | .eql => eqOp C st false t cst a b
    | .neq => eqOp C st true t cst a b
    | _ => none
theorem map_one {r : Option (AV × St)} {outs : List (AV × St)} (h : r.map ([·]) = some outs) : ∃ o, r = some o ∧ outs = [o] := by
 cases r with
 | none => cases h
 | some o => injection h with h; exact ⟨o, rfl, h.symm⟩
theorem run_guarded {P : Program} {ng : Bool} {op : BinOp} (t : TypeId) (ox oy : Operand) (x y : Value) (hx : intStr x = true) (w' : World) :
  (do eqGuard op t ox oy x y; binOp op t x y : Sem Value).run P w' = (binOp op t x y).run P w' := by
 have : (eqGuard op t ox oy x y).run P w' = .ok () w' := by
  cases op <;> first | rfl | (cases x <;> first | rfl | cases hx)
 rw [Sem.run_bind, this]; rfl
theorem binA_ok (hC : CxOk C) (h : M C.HT E st w) {op : BinOp} {t : TypeId} {cst : Bool} {a b : AV} {outs : List (AV × St)} (ho : binA C st op t cst a b = some outs) {x y : Value} (ha : V C.HT E a x) (hb : V C.HT E b y)
  {ox oy : Operand} (hcst : cst = true → (isC ox || isC oy) = true) :
  Many C.HT E st w (fun w' => (do eqGuard op t ox oy x y; binOp op t x y : Sem Value).run C.P w') outs := by
 have ints : ∀ {k j : IntKind} {e f : Lin} {l : Bool}, a = .int k e → b = .int j f → (shOp st l k e f).map ([·]) = some outs → op = (if l then .shl else .shr) → Many C.HT E st w (fun w' => (do eqGuard op t ox oy x y; binOp op t x y : Sem Value).run C.P w') outs := fun e1 e2 hm hop => by
  subst e1 e2
  obtain ⟨o, hr, rfl⟩ := map_one hm
  obtain ⟨hx, hx'⟩ := ha
  obtain ⟨hy, hy'⟩ := hb
  subst hx hy
  have := shOp_ok h C.P hr t ⟨rfl, hx'⟩ ⟨rfl, hy'⟩
  rw [← hop] at this
  obtain ⟨v, h1, h2⟩ := this
  exact One.many ⟨v, fun w' => (run_guarded (ng := false) t ox oy _ _ rfl w').trans (h1 w'), h2⟩
 unfold binA at ho
 split at ho
 ·split at ho
  ·exact ints rfl rfl ho rfl
  ·cases ho
 ·split at ho
  ·exact ints rfl rfl ho rfl
  ·cases ho
 ·split at ho
  ·split at ho
   ·rename_i hk
    subst hk
    obtain ⟨o, hr, rfl⟩ := map_one ho
    obtain ⟨hx, hx'⟩ := ha
    obtain ⟨hy, hy'⟩ := hb
    subst hx hy
    obtain ⟨v, h1, h2⟩ := bopI_ok h C.P hr t ⟨rfl, hx'⟩ ⟨rfl, hy'⟩
    exact One.many ⟨v, fun w' => (run_guarded (ng := false) t ox oy _ _ rfl w').trans (h1 w'), h2⟩
   ·cases ho
  ·split at ho
   ·rename_i hs
    simp only [Bool.and_eq_true] at hs
    obtain ⟨o, hr, rfl⟩ := map_one ho
    obtain ⟨n, hn⟩ := Option.isSome_iff_exists.1 hs.1
    obtain ⟨m, hm⟩ := Option.isSome_iff_exists.1 hs.2
    obtain ⟨s, rfl, _⟩ := slen_ok ha hn
    obtain ⟨s', rfl, _⟩ := slen_ok hb hm
    obtain ⟨v, h1, h2⟩ := bopS_ok h C.P hr t ha hb
    exact One.many ⟨v, fun w' => (run_guarded (ng := false) t ox oy _ _ rfl w').trans (h1 w'), h2⟩
   ·split at ho
    ·exact eqOp_ok (ng := false) hC h ho ha hb hcst
    ·exact eqOp_ok (ng := true) hC h ho ha hb hcst
    ·cases ho
/-! ### One operand -/
def unA (st : St) (op : UnOp) (a : AV) : Option (AV × St) :=
 match op, a with
 | .not, .bool b => some (.bool !b, st)
 | .not, .cond c => some (.cond c.neg, st)
 | .neg, .int k e => some (mkI st k (e.sc (-1)))
 | .xor, .int k e => if e.ts.isEmpty then some (.int k (.k (bitsV .xor k (if k.signed then -1 else k.max) e.c)), st) else some (anyI st k)
 | _, _ => none
theorem unA_ok {HT : Th} (h : M HT E st w) (P : Program) {op : UnOp} {a : AV} {r : AV × St} (hr : unA st op a = some r) {x : Value} (ha : V HT E a x) : One HT E st w (fun w' => (Op.unary op x).run P w') r := by
 unfold unA at hr
 split at hr
 ·injection hr with hr; subst hr
  cases (show x = _ from ha)
  exact One.same h (fun w' => rfl) rfl
 ·rename_i c
  injection hr with hr; subst hr
  obtain ⟨e, hb⟩ := ha
  subst e
  exact One.same h (v := .bool (!c.holds E.ρ)) (fun w' => rfl) ⟨by rw [Cnd.holds_neg], by cases c <;> first | exact hb | exact below_addk (below_sc hb _) _⟩
 ·rename_i k e
  injection hr with hr; subst hr
  obtain ⟨e1, hb, _⟩ := ha
  subst e1
  obtain ⟨E', u, v⟩ := mkI_ok h k (below_sc hb (-1))
  rw [Lin.ev_sc] at v
  exact ⟨.int k (k.wrap (-1 * e.ev E.ρ)), fun w' => by show Result.ok (Value.int k (k.wrap (0 - e.ev E.ρ))) w' = _; rw [show (0 - e.ev E.ρ) = -1 * e.ev E.ρ by omega], E', u, v⟩
 ·rename_i k e
  obtain ⟨e1, hb, _⟩ := ha
  subst e1
  have run : ∀ w', (Op.unary .xor (.int k (e.ev E.ρ))).run P w' = .ok (.int k (bitsV .xor k (if k.signed then -1 else k.max) (e.ev E.ρ))) w' := fun w' => intBits_run _ _ _ _ _ _ (.inr (.inr (.inl rfl)))
  have rg := bitsV_range .xor k (if k.signed then -1 else k.max) (e.ev E.ρ)
  split at hr
  ·rename_i hc
   injection hr with hr; subst hr
   rw [ev_const hc] at run rg ⊢
   exact One.same h run ⟨by rw [Lin.ev_k], below_k _ _, by rw [Lin.ev_k]; exact rg⟩
  ·injection hr with hr; subst hr
   obtain ⟨E', u, v⟩ := anyI_ok h k _ rg.1 rg.2
   exact ⟨_, run, E', u, v⟩
 ·cases hr
/-! ### Another type -/
def cvA (C : Cx) (st : St) (s d : TypeId) (a : AV) : Option (AV × St) :=
 match C.und s, C.und d with
 | some _, some (.int k) => match a with
  | .int _ e => some (mkI st k e)
  | _ => none
 | some (.int _), some .string => match a with
  | .int _ e => some (.strv (.v st.nx), st.newI (.k 1) (.k 4))
  | _ => none
 | some .string, some .string => if (slen a).isSome then some (a, st) else none
 | _, _ => none
theorem encode_size (n : Int) : 1 ≤ (Utf8.encode n).size ∧ (Utf8.encode n).size ≤ 4 := by
 unfold Utf8.encode
 dsimp only
 generalize (if Utf8.valid n = true then n.toNat else Utf8.runeError) = c
 split
 ·exact ⟨by show 1 ≤ 1; decide, by show 1 ≤ 4; decide⟩
 ·split
  ·exact ⟨by show 1 ≤ 2; decide, by show 2 ≤ 4; decide⟩
  ·split
   ·exact ⟨by show 1 ≤ 3; decide, by show 3 ≤ 4; decide⟩
   ·exact ⟨by show 1 ≤ 4; decide, by show 4 ≤ 4; decide⟩
theorem cvA_ok (hC : CxOk C) (h : M C.HT E st w) {s d : TypeId} {a : AV} {r : AV × St} (hr : cvA C st s d a = some r) {x : Value} (ha : V C.HT E a x) : One C.HT E st w (fun w' => (convert s d x).run C.P w') r := by
 unfold cvA at hr
 split at hr
 ·rename_i ds k hs hd
  split at hr
  ·rename_i j e
   injection hr with hr; subst hr
   obtain ⟨e1, hb, _⟩ := ha
   subst e1
   obtain ⟨E', u, v⟩ := mkI_ok h k hb
   refine ⟨_, fun w' => ?_, E', u, v⟩
   unfold convert
   simp only [Sem.run_bind, r_und hC hs, r_und hC hd, Result.andThen_ok]
   rfl
  ·cases hr
 ·rename_i k hs hd
  split at hr
  ·rename_i j e
   injection hr with hr; subst hr
   obtain ⟨e1, hb, _⟩ := ha
   subst e1
   have sz := encode_size (e.ev E.ρ)
   have u := Up.newI h (lo := .k 1) (hi := .k 4) ((Utf8.encode (e.ev E.ρ)).size : Nat) (by simp; omega) (by simp; omega) (below_k _ _) (below_k _ _)
   refine ⟨.string (Utf8.encode (e.ev E.ρ)), fun w' => ?_, _, u, by rw [← h.nx]; exact ⟨_, rfl, by simp, below_v (Nat.lt_succ_self _)⟩⟩
   unfold convert
   simp only [Sem.run_bind, r_und hC hs, r_und hC hd, Result.andThen_ok]
   rfl
  ·cases hr
 ·rename_i hs hd
  split at hr
  ·rename_i hl
   injection hr with hr; subst hr
   obtain ⟨n, hn⟩ := Option.isSome_iff_exists.1 hl
   obtain ⟨t, rfl, _⟩ := slen_ok ha hn
   refine One.same h (fun w' => ?_) ha
   unfold convert
   simp only [Sem.run_bind, r_und hC hs, r_und hC hd, Result.andThen_ok]
   rfl
  ·cases hr
 ·cases hr
end
end Go.Proofs.YtbjhcjgniciooaaGreatDoor.E
namespace Go.Proofs.YtbjhcjgniciooaaGreatDoor.E
set_option linter.unusedVariables false
set_option linter.unusedSimpArgs false
section
variable {C : Cx} {E : Env} {st : St} {w : World}
theorem add_addr (b o n : Nat) : (⟨b, o, none⟩ : Addr).add n = ⟨b, o + n, none⟩ := by
 unfold Addr.add
 split
 ·rename_i h; rw [h]; rfl
 ·rfl
/-! ### A part of a struct -/
def partA (C : Cx) (t : TypeId) (cs : List AV) (off : Nat) : Option AV :=
 match C.und t, C.inf t with
 | some d, some i => if isRow d then (if off + i.size ≤ cs.length then some (.agg ((cs.drop off).take i.size)) else none) else cs[off]?
 | _, _ => none
theorem partA_ok (hC : CxOk C) {t : TypeId} {cs : List AV} {off : Nat} {a : AV} (hp : partA C t cs off = some a) {vs : Array Value} (hv : Vs C.HT E cs vs.toList) :
  ∃ v, (∀ w', (part t vs off).run C.P w' = .ok v w') ∧ V C.HT E a v := by
 unfold partA at hp
 split at hp
 ·rename_i d i hd hi
  split at hp
  ·rename_i hr
   split at hp
   ·injection hp with hp; subst hp
    refine ⟨.agg (vs.extract off (off + i.size)), fun w' => ?_, _, rfl, ?_⟩
    ·unfold part
     simp only [Sem.run_bind, r_agg hC hd, r_size hC hi, Result.andThen_ok, hr, if_true]
     rfl
    ·have : (vs.extract off (off + i.size)).toList = (vs.toList.drop off).take i.size := by
      rw [Array.toList_extract, List.extract_eq_take_drop]; congr 1; omega
     rw [this]
     exact (hv.drop off).take i.size
   ·cases hp
  ·rename_i hr
   obtain ⟨v, h1, h2⟩ := hv.get hp
   have h1 : vs[off]? = some v := by simpa using h1
   refine ⟨v, fun w' => ?_, h2⟩
   unfold part
   simp only [Sem.run_bind, r_agg hC hd, Result.andThen_ok, hr, if_false, h1]
   rfl
 ·cases hp
def fieldA (C : Cx) (t : TypeId) (a : AV) (f : Nat) : Option AV :=
 match C.und t, a with
 | some (.struct fs), .agg cs => match fs.toList[f]? with
  | some fd => partA C fd.type cs fd.offset
  | none => none
 | _, _ => none
theorem fieldA_ok (hC : CxOk C) (h : M C.HT E st w) {t : TypeId} {a r : AV} {f : Nat} (hr : fieldA C t a f = some r) {x : Value} (ha : V C.HT E a x) : One C.HT E st w (fun w' => (Instr.field t x f).run C.P w') (r, st) := by
 unfold fieldA at hr
 split at hr
 ·rename_i fs cs hd
  split at hr
  ·rename_i fd hf
   obtain ⟨vs, rfl, hv⟩ := ha
   obtain ⟨v, h1, h2⟩ := partA_ok hC hr hv
   refine One.same h (fun w' => ?_) h2
   unfold Instr.field
   have : fs[f]? = some fd := by simpa using hf
   simp only [Sem.run_bind, r_und hC hd, Result.andThen_ok, this]
   simp only [asAgg, Sem.run_bind, Sem.run_pure, Result.andThen_ok, h1]
  ·cases hr
 ·cases hr
def fieldAddrA (C : Cx) (t : TypeId) (a : AV) (f : Nat) : Option AV :=
 match C.und t with
 | some (.struct fs) => match fs.toList[f]? with
  | some fd => match C.inf fd.type with
   | some i => if i.size = 0 then none else match a with
    | .ptr b o => some (.ptr b (o + fd.offset))
    | .elem τ g => some (.elem τ (g + fd.offset))
    | _ => none
   | none => none
  | none => none
 | _ => none
theorem fieldAddrA_ok (hC : CxOk C) (h : M C.HT E st w) {t : TypeId} {a r : AV} {f : Nat} (hr : fieldAddrA C t a f = some r) {x : Value} (ha : V C.HT E a x) : One C.HT E st w (fun w' => (Instr.fieldAt t x f).run C.P w') (r, st) := by
 unfold fieldAddrA at hr
 split at hr <;> try cases hr
 rename_i fs hd
 split at hr <;> try cases hr
 rename_i fd hf
 split at hr <;> try cases hr
 rename_i i hi
 split at hr <;> try cases hr
 rename_i hz
 have hf' : fs[f]? = some fd := by simpa using hf
 have run : ∀ (b o : Nat) (w' : World), (Instr.fieldAt t (.pointer (some ⟨b, o, none⟩)) f).run C.P w' = .ok (.pointer (some ⟨b, o + fd.offset, none⟩)) w' := fun b o w' => by
  unfold Instr.fieldAt
  simp only [Sem.run_bind, r_und hC hd, Result.andThen_ok, hf', Instr.sureAddr, Sem.run_pure, fieldPlace, r_size hC hi, if_neg hz, add_addr]
 split at hr <;> try cases hr
 ·obtain ⟨e, hb⟩ := ha
  subst e
  exact One.same h (run _ _) ⟨rfl, hb⟩
 ·obtain ⟨b, j, len, e, h1, h2⟩ := ha
  subst e
  exact One.same h (run _ _) ⟨b, j, len, by rw [Nat.add_assoc], h1, h2⟩
/-! ### An element's address -/
/-- Is an index within? -/
def St.inb (st : St) (i n : Lin) : Bool := st.ge i && (st.ge ((n.sub i).addk (-1)) || st.ge ((((n.sub i).addk (-1)).sc 2).addk 1))
theorem M.inb {HT : Th} (h : M HT E st w) {i n : Lin} (hi : st.inb i n = true) : 0 ≤ i.ev E.ρ ∧ i.ev E.ρ < n.ev E.ρ := by
 unfold St.inb at hi
 simp only [Bool.and_eq_true] at hi
 have h1 := h.ge hi.1
 rcases (Bool.or_eq_true _ _).mp hi.2 with hi | hi
 ·have h2 := h.ge hi
  rw [Lin.ev_addk, Lin.ev_sub] at h2
  omega
 ·have h2 := h.ge hi
  rw [Lin.ev_addk, Lin.ev_sc, Lin.ev_addk, Lin.ev_sub] at h2
  omega
def indexAddrA (C : Cx) (st : St) (t : TypeId) (a i : AV) : Option AV :=
 match i with
 | .int _ e => match C.und t with
  | some (.array len el) => match C.inf el with
   | some ti => match a with
    | .ptr b o => if e.ts.isEmpty && decide (0 ≤ e.c) && decide (e.c < len) then some (.ptr b (o + e.c.toNat * ti.size)) else none
    | _ => none
   | none => none
  | some (.slice el) => match C.inf el with
   | some ti => match a with
    | .sl b o n _ _ => if e.ts.isEmpty && decide (0 ≤ e.c) && decide (e.c < n) then some (.ptr b (o + e.c.toNat * ti.size)) else none
    | .tsl τ n => if st.inb e n && decide (ti.size = (C.HT τ).size) then some (.elem τ 0) else none
    | _ => none
   | none => none
  | _ => none
 | _ => none
theorem indexAddrA_ok (hC : CxOk C) (h : M C.HT E st w) {t : TypeId} {a i r : AV} (hr : indexAddrA C st t a i = some r) {x y : Value} (ha : V C.HT E a x) (hi : V C.HT E i y) : One C.HT E st w (fun w' => (Instr.indexAt t x y).run C.P w') (r, st) := by
 unfold indexAddrA at hr
 split at hr <;> try cases hr
 rename_i k e
 obtain ⟨ey, hbi, _⟩ := hi
 subst ey
 split at hr <;> try cases hr
 ·rename_i len el hd
  split at hr <;> try cases hr
  rename_i ti hti
  split at hr <;> try cases hr
  rename_i b o
  split at hr <;> try cases hr
  rename_i hc
  simp only [Bool.and_eq_true, decide_eq_true_eq] at hc
  obtain ⟨ex, hb⟩ := ha
  subst ex
  refine One.same h (v := .pointer (some ⟨E.β b, o + e.c.toNat * ti.size, none⟩)) (fun w' => ?_) ⟨rfl, hb⟩
  rw [ev_const hc.1.1]
  unfold Instr.indexAt
  simp only [asIntOf, Sem.run_bind, Sem.run_pure, Result.andThen_ok, r_und hC hd, Instr.sureAddr]
  rw [if_pos ⟨hc.1.2, hc.2⟩]
  simp only [Sem.run_bind, r_size hC hti, Result.andThen_ok, add_addr]
  rfl
 ·rename_i el hd
  split at hr <;> try cases hr
  rename_i ti hti
  have run : ∀ (b o n c : Nat) (w' : World), 0 ≤ e.ev E.ρ → e.ev E.ρ < n → (Instr.indexAt t (.slice (some ⟨b, o, none⟩) n c) (.int k (e.ev E.ρ))).run C.P w' = .ok (.pointer (some ⟨b, o + (e.ev E.ρ).toNat * ti.size, none⟩)) w' := fun b o n c w' h1 h2 => by
   unfold Instr.indexAt
   simp only [asIntOf, Sem.run_bind, Sem.run_pure, Result.andThen_ok, r_und hC hd, Instr.sureAddr]
   rw [if_pos ⟨h1, h2⟩]
   simp only [Sem.run_bind, r_size hC hti, Result.andThen_ok, add_addr]
   rfl
  split at hr <;> try cases hr
  ·rename_i b o n cap z
   split at hr <;> try cases hr
   rename_i hc
   simp only [Bool.and_eq_true, decide_eq_true_eq] at hc
   obtain ⟨c, ex, _, _, hb, _⟩ := ha
   subst ex
   have ee := ev_const hc.1.1 E.ρ
   refine One.same h (fun w' => run _ _ _ _ w' (by omega) (by omega)) ⟨by rw [ee], hb⟩
  ·rename_i τ n
   split at hr <;> try cases hr
   rename_i hc
   simp only [Bool.and_eq_true, decide_eq_true_eq] at hc
   obtain ⟨ad, m, c, ex, hm, _, ho⟩ := ha
   subst ex
   have hin := h.inb hc.1
   rcases ho with ⟨_, h0, _⟩ | ⟨b, j, len, e1, e2, e3, e4⟩
   ·omega
   ·subst e1
    refine One.same h (fun w' => run _ _ _ _ w' hin.1 (by omega)) ⟨b, j + (e.ev E.ρ).toNat, len, by rw [hc.2, Nat.add_mul, Nat.add_zero], e2, by omega⟩
/-! ### A byte of a text, an element of an array's value -/
def indexA (C : Cx) (st : St) (t : TypeId) (a i : AV) : Option (AV × St) :=
 match i with
 | .int _ e => match C.und t with
  | some .string => match a with
   | .str l =>
    if e.ts.isEmpty && decide (0 ≤ e.c) then match l[e.c.toNat]? with
     | some n => some (.int .u8 (.k n), st)
     | none => none
    else if st.inb e (.k l.length) then some (rng st .u8 (.k 0) (.k 255)) else none
   | .strv n => if st.inb e n then some (rng st .u8 (.k 0) (.k 255)) else none
   | _ => none
  | some (.array len el) => match C.inf el with
   | some ti => match a with
    | .agg cs => if e.ts.isEmpty && decide (0 ≤ e.c) && decide (e.c < len) then (partA C el cs (e.c.toNat * ti.size)).map (·, st) else none
    | _ => none
   | none => none
  | _ => none
 | _ => none
theorem bytes_get (s : ByteArray) (i : Nat) : s[i]? = s.data.toList[i]? := by
 by_cases h : i < s.size
 ·rw [getElem?_pos s i h, List.getElem?_eq_getElem (by simpa using h)]
  rfl
 ·rw [getElem?_neg s i h, List.getElem?_eq_none (by simpa using h)]
theorem indexA_ok (hC : CxOk C) (h : M C.HT E st w) {t : TypeId} {a i : AV} {r : AV × St} (hr : indexA C st t a i = some r) {x y : Value} (ha : V C.HT E a x) (hi : V C.HT E i y) : One C.HT E st w (fun w' => (Instr.index t x y).run C.P w') r := by
 unfold indexA at hr
 split at hr <;> try cases hr
 rename_i k e
 obtain ⟨ey, hbi, _⟩ := hi
 subst ey
 split at hr <;> try cases hr
 ·rename_i hd
  have byte : ∀ (s : ByteArray), 0 ≤ e.ev E.ρ → e.ev E.ρ < s.size → ∃ b : UInt8, s.data.toList[(e.ev E.ρ).toNat]? = some b ∧ ∀ w', (Instr.index t (.string s) (.int k (e.ev E.ρ))).run C.P w' = .ok (.int .u8 b.toNat) w' := fun s h1 h2 => by
   have hlt : (e.ev E.ρ).toNat < s.data.toList.length := by simp; omega
   refine ⟨_, List.getElem?_eq_getElem hlt, fun w' => ?_⟩
   unfold Instr.index
   simp only [asIntOf, Sem.run_bind, Sem.run_pure, Result.andThen_ok, r_und hC hd]
   rw [if_pos h1, bytes_get, List.getElem?_eq_getElem hlt]
   rfl
  have any : ∀ (s : ByteArray), 0 ≤ e.ev E.ρ → e.ev E.ρ < s.size → One C.HT E st w (fun w' => (Instr.index t (.string s) (.int k (e.ev E.ρ))).run C.P w') (rng st .u8 (.k 0) (.k 255)) := fun s h1 h2 => by
   obtain ⟨b, _, hrun⟩ := byte s h1 h2
   have hlt := b.toNat_lt
   obtain ⟨E', u, v, _⟩ := rng_ok (lo := .k 0) (hi := .k 255) h .u8 (b.toNat : Int) (by simp) (by simp; omega) (below_k _ _) (below_k _ _) (by show (0 : Int) ≤ _; omega) (by show _ ≤ (255 : Int); omega)
   exact ⟨_, hrun, E', u, v⟩
  split at hr <;> try cases hr
  ·rename_i l
   obtain ⟨s, ex, hs⟩ := ha
   subst ex
   have hsz : s.size = l.length := by rw [size_len, hs]
   split at hr
   ·rename_i hc
    simp only [Bool.and_eq_true, decide_eq_true_eq] at hc
    split at hr <;> try cases hr
    rename_i n hn
    have ee := ev_const hc.1 E.ρ
    have hlt := (List.getElem?_eq_some_iff.1 hn).1
    obtain ⟨b, hb, hrun⟩ := byte s (by omega) (by omega)
    have e2 : b.toNat = n := by
     rw [← hs, List.getElem?_map, ← ee, hb] at hn
     simpa using hn
    have hlt := b.toNat_lt
    refine One.same h hrun ⟨by rw [Lin.ev_k, e2], below_k _ _, ?_, ?_⟩
    ·rw [Lin.ev_k]; show (0 : Int) ≤ _; omega
    ·rw [Lin.ev_k]; show _ ≤ (255 : Int); omega
   ·split at hr <;> try cases hr
    rename_i hc
    have hin := h.inb hc
    rw [Lin.ev_k] at hin
    exact any s hin.1 (by omega)
  ·rename_i n
   split at hr <;> try cases hr
   rename_i hc
   obtain ⟨s, ex, hs, _⟩ := ha
   subst ex
   have hin := h.inb hc
   exact any s hin.1 (by omega)
 ·rename_i len el hd
  split at hr <;> try cases hr
  rename_i ti hti
  split at hr <;> try cases hr
  rename_i cs
  split at hr <;> try cases hr
  rename_i hc
  simp only [Bool.and_eq_true, decide_eq_true_eq] at hc
  cases hp : partA C el cs (e.c.toNat * ti.size) with
  | none => rw [hp] at hr; cases hr
  | some q =>
   rw [hp] at hr
   injection hr with hr; subst hr
   obtain ⟨vs, ex, hv⟩ := ha
   subst ex
   obtain ⟨v, h1, h2⟩ := partA_ok hC hp hv
   refine One.same h (fun w' => ?_) h2
   rw [ev_const hc.1.1]
   unfold Instr.index
   simp only [asIntOf, Sem.run_bind, Sem.run_pure, Result.andThen_ok, r_und hC hd]
   rw [if_pos ⟨hc.1.2, hc.2⟩]
   simp only [Sem.run_bind, r_size hC hti, Result.andThen_ok, h1]
end
end Go.Proofs.YtbjhcjgniciooaaGreatDoor.E
namespace Go.Proofs.YtbjhcjgniciooaaGreatDoor.E
set_option linter.unusedVariables false
set_option linter.unusedSimpArgs false
section
variable {C : Cx} {E : Env} {st : St} {w : World}
/-! ### Slicing -/
def isB (v : Option Value) (n d : Nat) : Prop := (v = none ∧ n = d) ∨ ∃ k, v = some (.int k n)
theorem r_bound {P : Program} (k : IntKind) (n y : Nat) (c : BoundsCode) (h : n ≤ y) (w' : World) : (Instr.sliceBound (.int k n) y c).run P w' = .ok n w' := by
 unfold Instr.sliceBound
 simp only [asIntOf, Sem.run_bind, Sem.run_pure, Result.andThen_ok]
 rw [if_pos (by omega)]
 simp
theorem r_bounds {P : Program} (isS : Bool) (len cap : Nat) {lo hi mx : Option Value} {l h m : Nat} (h1 : isB lo l 0) (h2 : isB hi h len) (h3 : isB mx m cap) (hl : l ≤ h) (hh : h ≤ m) (hm : m ≤ cap) (hx : mx ≠ none → hi ≠ none) (w' : World) :
  (Instr.sliceBounds isS len cap lo hi mx).run P w' = .ok (l, h, m) w' := by
 unfold Instr.sliceBounds
 rcases h1 with ⟨rfl, rfl⟩ | ⟨k1, rfl⟩ <;> rcases h2 with ⟨rfl, rfl⟩ | ⟨k2, rfl⟩ <;> rcases h3 with ⟨rfl, rfl⟩ | ⟨k3, rfl⟩ <;>
  first
  | (simp only [Sem.run_bind, Sem.run_pure, Result.andThen_ok, r_bound _ _ _ _ hl, r_bound _ _ _ _ hh, r_bound _ _ _ _ hm]; done)
  | (exact absurd rfl (hx (by simp)))
def linOf : Option AV → Option (Option Lin)
 | none => some none
 | some (.int _ e) => some (some e)
 | _ => none
def optV (HT : Th) (E : Env) (a : Option AV) (v : Option Value) : Prop := match a, v with
 | none, none => True
 | some a, some v => V HT E a v
 | _, _ => False
theorem linOf_ok {HT : Th} {a : Option AV} {r : Option Lin} (h : linOf a = some r) {v : Option Value} (hv : optV HT E a v) :
  (r = none ∧ v = none) ∨ ∃ e k, r = some e ∧ v = some (.int k (e.ev E.ρ)) ∧ e.below E.n := by
 unfold linOf at h
 split at h
 ·injection h with h
  cases v with
  | none => exact .inl ⟨h.symm, rfl⟩
  | some _ => exact hv.elim
 ·injection h with h
  cases v with
  | none => exact hv.elim
  | some v => obtain ⟨e, hb, _⟩ := hv; exact .inr ⟨_, _, h.symm, by rw [e], hb⟩
 ·cases h
def cN (e : Lin) : Option Nat := if e.ts.isEmpty && decide (0 ≤ e.c) then some e.c.toNat else none
theorem cN_ok {e : Lin} {n : Nat} (h : cN e = some n) (ρ : Nat → Int) : e.ev ρ = n := by
 unfold cN at h
 split at h
 ·rename_i hc
  simp only [Bool.and_eq_true, decide_eq_true_eq] at hc
  injection h with h
  rw [ev_const hc.1, ← h]; omega
 ·cases h
def leCap (h : Nat) : Option Nat → Bool
 | some c => decide (h ≤ c)
 | none => false
/-- Whole slices: from, to, capacity. -/
def sliceExact (b o n : Nat) (cap : Option Nat) (sz : Nat) (l h : Nat) (mx : Option Nat) : Option AV :=
 if l ≤ h ∧ (h ≤ n ∨ leCap h cap = true) then
  match mx with
  | some m => if h ≤ m ∧ (m ≤ n ∨ leCap m cap = true) then (if m = l then some (.sl b o 0 (some 0) sz) else some (.sl b (o + l * sz) (h - l) (some (m - l)) sz)) else none
  | none => match cap with
   | some c => if c = l then some (.sl b o 0 (some 0) sz) else some (.sl b (o + l * sz) (h - l) (some (c - l)) sz)
   | none => if l = 0 ∨ l < n then some (.sl b (o + l * sz) (h - l) none sz) else some .emp
 else none
def mxOk (st : St) (h n : Lin) : Option Lin → Bool
 | none => true
 | some m => st.ge (m.sub h) && st.ge (n.sub m)
def sliceA (C : Cx) (st : St) (t : TypeId) (a : AV) (lo hi mx : Option AV) : Option AV :=
 match linOf lo, linOf hi, linOf mx with
 | some lo, some hi, some mx =>
  if mx.isSome && hi.isNone then none else
  match C.und t with
  | some .string =>
   if mx.isSome then none else
   match slen a with
   | some n =>
    let l := lo.getD (.k 0)
    let h := hi.getD n
    match a, cN l, cN h with
    | .str s, some l, some h => if l ≤ h ∧ h ≤ s.length then some (.str ((s.drop l).take (h - l))) else none
    | _, _, _ => if st.ge l && st.ge (h.sub l) && st.ge (n.sub h) then some (.strv (h.sub l)) else none
   | none => none
  | some (.slice el) => match C.inf el with
   | none => none
   | some ti => match a with
    | .sl0 => match cN (lo.getD (.k 0)), cN (hi.getD (.k 0)), cN (mx.getD (.k 0)) with
     | some 0, some 0, some 0 => some .sl0
     | _, _, _ => none
    | .tsl τ n =>
     let l := lo.getD (.k 0)
     let h := hi.getD n
     if st.ge l && st.ge (h.sub l) && st.ge (n.sub h) && decide (ti.size = (C.HT τ).size) && mxOk st h n mx && !hdK τ then some (.tsl τ (h.sub l)) else none
    | .sl b o n cap z => if z ≠ ti.size then none else match cN (lo.getD (.k 0)), cN (hi.getD (.k n)) with
     | some l, some h => match mx with
      | none => sliceExact b o n cap ti.size l h none
      | some m => match cN m with
       | some m => sliceExact b o n cap ti.size l h (some m)
       | none => none
     | _, _ => none
    | _ => none
  | _ => none
 | _, _, _ => none
theorem r_slice_string (hC : CxOk C) {t : TypeId} (hd : C.und t = some .string) (s : ByteArray) {lo hi : Option Value} {l h : Nat} (h1 : isB lo l 0) (h2 : isB hi h s.size) (hl : l ≤ h) (hh : h ≤ s.size) (w' : World) :
  (Instr.sliceAt t (.string s) lo hi none).run C.P w' = .ok (.string (s.extract l h)) w' := by
 unfold Instr.sliceAt
 simp only [Sem.run_bind, r_und hC hd, Result.andThen_ok]
 unfold Instr.slice
 simp only [Sem.run_bind, r_und hC hd, Result.andThen_ok]
 simp only [Option.isSome_none, Bool.false_eq_true, if_false, Sem.run_bind, r_bounds false s.size s.size h1 h2 (.inl ⟨rfl, rfl⟩) hl hh (Nat.le_refl _) (fun e => absurd rfl e), Result.andThen_ok, Sem.run_pure]
theorem r_slice_slice (hC : CxOk C) {t el : TypeId} {ti : TypeInfo} (hd : C.und t = some (.slice el)) (hi' : C.inf el = some ti) (ad : Option Addr) (len cap : Nat) {lo hi mx : Option Value} {l h m : Nat} (h1 : isB lo l 0) (h2 : isB hi h len) (h3 : isB mx m cap)
  (hl : l ≤ h) (hh : h ≤ m) (hm : m ≤ cap) (hx : mx ≠ none → hi ≠ none) (w' : World) :
  (Instr.sliceAt t (.slice ad len cap) lo hi mx).run C.P w' = .ok (.slice (if m = l then ad else ad.map (·.add (l * ti.size))) (h - l) (m - l)) w' := by
 unfold Instr.sliceAt
 simp only [Sem.run_bind, r_und hC hd, Result.andThen_ok]
 unfold Instr.slice
 simp only [Sem.run_bind, r_und hC hd, Result.andThen_ok, r_bounds true len cap h1 h2 h3 hl hh hm hx, r_size hC hi', Sem.run_pure]
theorem isB_lin {HT : Th} {r : Option Lin} {v : Option Value} (h : (r = none ∧ v = none) ∨ ∃ e k, r = some e ∧ v = some (.int k (e.ev E.ρ)) ∧ e.below E.n) {d : Lin} {n dn : Nat} (hd : d.ev E.ρ = dn) (hn : (r.getD d).ev E.ρ = n) : isB v n dn := by
 rcases h with ⟨rfl, rfl⟩ | ⟨e, k, rfl, rfl, _⟩
 ·refine .inl ⟨rfl, ?_⟩
  have : (n : Int) = dn := hn.symm.trans hd
  omega
 ·refine .inr ⟨k, ?_⟩
  rw [show e.ev E.ρ = n from hn]
theorem map_extract (s : ByteArray) (l h : Nat) (hl : l ≤ h) (hh : h ≤ s.size) : ((s.extract l h).data.toList.map UInt8.toNat) = ((s.data.toList.map UInt8.toNat).drop l).take (h - l) := by
 rw [ByteArray.data_extract, Array.toList_extract, List.extract_eq_take_drop, List.map_take, List.map_drop]
theorem size_extract (s : ByteArray) (l h : Nat) (hl : l ≤ h) (hh : h ≤ s.size) : (s.extract l h).size = h - l := by
 rw [ByteArray.size_extract]; omega
theorem sliceExact_ok (hC : CxOk C) (h' : M C.HT E st w) {t el : TypeId} {ti : TypeInfo} (hd : C.und t = some (.slice el)) (hi' : C.inf el = some ti) {b o n : Nat} {cap : Option Nat} {l h : Nat} {mxn : Option Nat} {r : AV}
  (hr : sliceExact b o n cap ti.size l h mxn = some r) {x : Value} (hx : V C.HT E (.sl b o n cap ti.size) x) {lo hi mx : Option Value} (h1 : isB lo l 0) (h2 : isB hi h n) (h3 : match mxn with | none => mx = none | some m => ∃ k, mx = some (.int k m)) (hmx : mx ≠ none → hi ≠ none) :
  One C.HT E st w (fun w' => (Instr.sliceAt t x lo hi mx).run C.P w') (r, st) := by
 obtain ⟨c, rfl, hc1, hc2, hb, hκ⟩ := hx
 have cut : ∀ {l m : Nat}, l ≤ m → m ≤ c → o + l * ti.size + (m - l) * ti.size ≤ E.κ b := fun h1 h2 => by
  rename_i l m
  have e1 : l * ti.size + (m - l) * ti.size = m * ti.size := by rw [← Nat.add_mul]; congr 1; omega
  have e2 : m * ti.size ≤ c * ti.size := Nat.mul_le_mul_right _ h2
  omega
 have z0 : o + 0 * ti.size ≤ E.κ b := by omega
 have cap' : ∀ {k : Nat}, (k ≤ n ∨ leCap k cap = true) → k ≤ c := fun g => by
  rcases g with g | g
  ·omega
  ·cases cap with
   | none => cases g
   | some c' => rw [hc2 c' rfl]; exact of_decide_eq_true g
 unfold sliceExact at hr
 by_cases hlh : l ≤ h ∧ (h ≤ n ∨ leCap h cap = true)
 case neg => rw [if_neg hlh] at hr; cases hr
 rw [if_pos hlh] at hr
 have hhc := cap' hlh.2
 cases mxn with
 | some m =>
  obtain ⟨k, rfl⟩ := h3
  dsimp only at hr
  by_cases hm : h ≤ m ∧ (m ≤ n ∨ leCap m cap = true)
  case neg => rw [if_neg hm] at hr; cases hr
  rw [if_pos hm] at hr
  have hmc := cap' hm.2
  have run := fun w' => r_slice_slice hC hd hi' (some ⟨E.β b, o, none⟩) n c h1 h2 (.inr ⟨k, rfl⟩) hlh.1 hm.1 hmc hmx w'
  by_cases e : m = l
  ·rw [if_pos e] at hr
   injection hr with hr; subst hr
   refine One.same h' run ⟨0, ?_, by omega, fun c' hc' => by injection hc', hb, z0⟩
   rw [if_pos e, show h - l = 0 by omega, show m - l = 0 by omega]
  ·rw [if_neg e] at hr
   injection hr with hr; subst hr
   refine One.same h' run ⟨m - l, ?_, by omega, fun c' hc' => by injection hc', hb, cut (by omega) hmc⟩
   rw [if_neg e]
   simp only [Option.map_some, add_addr]
 | none =>
  subst h3
  have run := fun w' => r_slice_slice hC hd hi' (some ⟨E.β b, o, none⟩) n c h1 h2 (.inl ⟨rfl, rfl⟩) hlh.1 hhc (Nat.le_refl _) hmx w'
  dsimp only at hr
  cases cap with
  | some c' =>
   have := hc2 c' rfl
   subst this
   dsimp only at hr
   by_cases e : c = l
   ·rw [if_pos e] at hr
    injection hr with hr; subst hr
    refine One.same h' run ⟨0, ?_, by omega, fun c' hc' => by injection hc', hb, z0⟩
    rw [if_pos e, show h - l = 0 by omega, show c - l = 0 by omega]
   ·rw [if_neg e] at hr
    injection hr with hr; subst hr
    refine One.same h' run ⟨c - l, ?_, by omega, fun c' hc' => by injection hc', hb, cut (by omega) (Nat.le_refl _)⟩
    rw [if_neg e]
    simp only [Option.map_some, add_addr]
  | none =>
   have hn : h ≤ n := by
    rcases hlh.2 with g | g
    ·exact g
    ·cases g
   dsimp only at hr
   by_cases e : l = 0 ∨ l < n
   ·rw [if_pos e] at hr
    injection hr with hr; subst hr
    refine One.same h' run ⟨c - l, ?_, by omega, (fun c' hc' => by cases hc'), hb, cut (by omega) (Nat.le_refl _)⟩
    simp only [Option.map_some, add_addr]
    by_cases e2 : c = l
    ·rw [if_pos e2]
     rcases e with rfl | e
     ·simp
     ·omega
    ·rw [if_neg e2]
   ·rw [if_neg e] at hr
    injection hr with hr; subst hr
    have hl : h - l = 0 := by omega
    exact One.same h' run ⟨_, _, by rw [hl]⟩
theorem sliceA_ok (hC : CxOk C) (h : M C.HT E st w) {t : TypeId} {a r : AV} {lo hi mx : Option AV} (hr : sliceA C st t a lo hi mx = some r) {x : Value} {vlo vhi vmx : Option Value} (ha : V C.HT E a x) (h1 : optV C.HT E lo vlo) (h2 : optV C.HT E hi vhi) (h3 : optV C.HT E mx vmx) :
  One C.HT E st w (fun w' => (Instr.sliceAt t x vlo vhi vmx).run C.P w') (r, st) := by
 unfold sliceA at hr
 split at hr <;> try cases hr
 rename_i lo' hi' mx' e1 e2 e3
 have g1 := linOf_ok e1 h1
 have g2 := linOf_ok e2 h2
 have g3 := linOf_ok e3 h3
 split at hr
 ·cases hr
 rename_i hmh
 have hmx : vmx ≠ none → vhi ≠ none := fun q1 q2 => by
  rcases g3 with ⟨rfl, rfl⟩ | ⟨e, k, rfl, rfl, _⟩
  ·exact q1 rfl
  ·rcases g2 with ⟨rfl, rfl⟩ | ⟨e', k', rfl, rfl, _⟩
   ·exact hmh rfl
   ·cases q2
 have below : ∀ {r : Option Lin} {v : Option Value} {d : Lin}, ((r = none ∧ v = none) ∨ ∃ e k, r = some e ∧ v = some (.int k (e.ev E.ρ)) ∧ e.below E.n) → d.below E.n → (r.getD d).below E.n := fun h hd => by
  rcases h with ⟨rfl, rfl⟩ | ⟨e, k, rfl, rfl, hb⟩
  ·exact hd
  ·exact hb
 split at hr
 ·rename_i hd
  split at hr
  ·cases hr
  rename_i hm
  have hm' : vmx = none := by
   rcases g3 with ⟨_, rfl⟩ | ⟨e, k, rfl, rfl, _⟩
   ·rfl
   ·exact absurd rfl hm
  subst hm'
  split at hr <;> try cases hr
  rename_i n hn
  obtain ⟨s, rfl, hs, hbn⟩ := slen_ok ha hn
  dsimp only at hr
  split at hr
  ·rename_i s' l hh hl hhh
   split at hr <;> try cases hr
   rename_i hc
   obtain ⟨s2, e, hs2⟩ := ha
   cases e
   have hsz : s.size = s'.length := by rw [size_len, hs2]
   have c1 := cN_ok hl E.ρ
   have c2 := cN_ok hhh E.ρ
   refine One.same h (fun w' => r_slice_string hC hd s (isB_lin (HT := C.HT) g1 (d := .k 0) (by simp) c1) (isB_lin (HT := C.HT) g2 hs.symm c2) hc.1 (by omega) w') ⟨_, rfl, ?_⟩
   rw [map_extract s _ _ hc.1 (by omega), hs2]
  ·split at hr <;> try cases hr
   rename_i hc
   simp only [Bool.and_eq_true] at hc
   have c1 := h.ge hc.1.1
   have c2 := h.ge hc.1.2
   have c3 := h.ge hc.2
   rw [Lin.ev_sub] at c2 c3
   obtain ⟨l, hl⟩ := Int.eq_ofNat_of_zero_le c1
   obtain ⟨hh, hhh⟩ := Int.eq_ofNat_of_zero_le (show 0 ≤ (hi'.getD n).ev E.ρ by omega)
   refine One.same h (fun w' => r_slice_string hC hd s (isB_lin (HT := C.HT) g1 (d := .k 0) (by simp) hl) (isB_lin (HT := C.HT) g2 hs.symm hhh) (by omega) (by omega) w') ⟨_, rfl, ?_, below_sub (below g2 hbn) (below g1 (below_k _ _))⟩
   rw [size_extract s _ _ (by omega) (by omega), Lin.ev_sub, hl, hhh]
   omega
 ·rename_i el hd
  split at hr <;> try cases hr
  rename_i ti hti
  split at hr <;> try cases hr
  ·split at hr <;> try cases hr
   rename_i c1 c2 c3
   cases (show x = _ from ha)
   have c1 := cN_ok c1 E.ρ
   have c2 := cN_ok c2 E.ρ
   have c3 := cN_ok c3 E.ρ
   refine One.same h (fun w' => r_slice_slice hC hd hti none 0 0 (isB_lin (HT := C.HT) g1 (d := .k 0) (by simp) c1) (isB_lin (HT := C.HT) g2 (d := .k 0) (by simp) c2) (isB_lin (HT := C.HT) g3 (d := .k 0) (by simp) c3) (Nat.le_refl _) (Nat.le_refl _) (Nat.le_refl _) hmx w') ?_
   rfl
  ·rename_i τ n
   dsimp only at hr
   split at hr <;> try cases hr
   rename_i hc
   simp only [Bool.and_eq_true, decide_eq_true_eq] at hc
   obtain ⟨⟨⟨⟨⟨k1, k2⟩, k3⟩, k4⟩, k5⟩, hhd⟩ := hc
   obtain ⟨ad, m, c, rfl, hm, hbn, ho⟩ := ha
   have c1 := h.ge k1
   have c2 := h.ge k2
   have c3 := h.ge k3
   rw [Lin.ev_sub] at c2 c3
   obtain ⟨l, hl⟩ := Int.eq_ofNat_of_zero_le c1
   obtain ⟨hh, hhh⟩ := Int.eq_ofNat_of_zero_le (show 0 ≤ (hi'.getD n).ev E.ρ by omega)
   have hmc : m ≤ c := by rcases ho with ⟨_, h0, _⟩ | ⟨_, _, _, _, _, h3, _⟩ <;> omega
   obtain ⟨mm, hmm, hm1, hm2⟩ : ∃ mm : Nat, isB vmx mm c ∧ hh ≤ mm ∧ mm ≤ c := by
    rcases g3 with ⟨rfl, rfl⟩ | ⟨e, k, rfl, rfl, _⟩
    ·exact ⟨c, .inl ⟨rfl, rfl⟩, by omega, Nat.le_refl _⟩
    ·unfold mxOk at k5
     rw [Bool.and_eq_true] at k5
     have q1 := h.ge k5.1
     have q2 := h.ge k5.2
     rw [Lin.ev_sub] at q1 q2
     obtain ⟨mm, hmm⟩ := Int.eq_ofNat_of_zero_le (show 0 ≤ e.ev E.ρ by omega)
     exact ⟨mm, .inr ⟨k, by rw [hmm]⟩, by omega, by omega⟩
   refine One.same h (fun w' => r_slice_slice hC hd hti ad m c (isB_lin (HT := C.HT) g1 (d := .k 0) (by simp) hl) (isB_lin (HT := C.HT) g2 hm.symm hhh) hmm (by omega) hm1 hm2 hmx w') ⟨_, _, _, rfl, by rw [Lin.ev_sub, hl, hhh]; omega, below_sub (below g2 hbn) (below g1 (below_k _ _)), ?_⟩
   rcases ho with ⟨rfl, h0, hc0⟩ | ⟨b, j, len, rfl, hS, hj1, hj2⟩
   ·exact .inl ⟨by split <;> rfl, by omega, by omega⟩
   ·refine .inr ?_
    by_cases e : mm = l
    ·refine ⟨b, j, len, by rw [if_pos e], hS, by omega, by omega, fun hro => by have := hj2.2.1 hro; omega, fun hh => by rw [hh] at hhd; cases hhd⟩
    ·refine ⟨b, j + l, len, ?_, hS, by omega, by omega, fun hro => by have := hj2.2.1 hro; omega, fun hh => by rw [hh] at hhd; cases hhd⟩
     rw [if_neg e]
     simp only [Option.map_some, add_addr, k4, Nat.add_mul]
  ·rename_i b o n cap z
   split at hr
   ·cases hr
   rename_i hz
   have hz : z = ti.size := Decidable.of_not_not hz
   subst hz
   split at hr <;> try cases hr
   rename_i l hh hl hhh
   have c1 := cN_ok hl E.ρ
   have c2 := cN_ok hhh E.ρ
   have i1 := isB_lin (HT := C.HT) g1 (d := .k 0) (dn := 0) (by simp) c1
   have i2 := isB_lin (HT := C.HT) g2 (d := .k n) (dn := n) (by simp) c2
   split at hr
   ·have : vmx = none := by
     rcases g3 with ⟨_, h⟩ | ⟨_, _, h, _⟩
     ·exact h
     ·cases h
    exact sliceExact_ok hC h hd hti hr ha i1 i2 this hmx
   ·split at hr <;> try cases hr
    rename_i e m hm
    have c3 := cN_ok hm E.ρ
    refine sliceExact_ok hC h hd hti hr ha i1 i2 ?_ hmx
    rcases g3 with ⟨h, _⟩ | ⟨e', k, h, rfl, _⟩
    ·cases h
    ·injection h with h; subst h
     exact ⟨k, by rw [c3]⟩
 ·cases hr
end
end Go.Proofs.YtbjhcjgniciooaaGreatDoor.E
