/- TopModes: a part of the proof, merged. -/
import Derived.Deep.MidRow
import Derived.Test.YtbjhcjgniciooaaGreatDoorM2
namespace Go.Proofs.YtbjhcjgniciooaaGreatDoor.E
set_option linter.unusedVariables false
set_option linter.unusedSimpArgs false
section
variable {C : Cx} {E : Env} {st : St} {w : World}
/-! ### Values of one cell -/
def CT.flat : CT → Bool
 | .agg _ => false
 | _ => true
def one (st : St) : AV → Bool
 | .top | .agg _ | .tup _ => false
 | .var x => match st.vt.get x with | some t => t.flat | none => false
 | _ => true
theorem VT_flat {HT : Th} {t : CT} {v : Value} (h : VT HT E t v) (hf : t.flat = true) : v.oneCell' = true := by
 cases t
 case agg => cases hf
 case int => obtain ⟨n, rfl, _⟩ := h; rfl
 case uid => obtain ⟨n, rfl, _⟩ := h; rfl
 case bool => obtain ⟨n, rfl⟩ := h; rfl
 case str => obtain ⟨n, rfl, _⟩ := h; rfl
 case sl => obtain ⟨_, _, _, rfl, _⟩ := h; rfl
 case ptr => rcases h with ⟨_, rfl⟩ | ⟨_, _, rfl, _⟩ <;> rfl
 case map => rcases h with ⟨_, rfl⟩ | ⟨_, _, rfl, _⟩ <;> rfl
 case fn =>
  rcases h with ⟨_, rfl⟩ | h
  ·rfl
  ·obtain ⟨_, _, _, rfl⟩ := VF_func h; rfl
 case iface =>
  rcases h with ⟨_, rfl⟩ | h
  ·rfl
  ·obtain ⟨_, _, rfl⟩ := VI_iface h; rfl
theorem one_ok {HT : Th} (h : M HT E st w) {a : AV} {v : Value} (hv : V HT E a v) (ho : one st a = true) : v.oneCell' = true := by
 cases a <;> simp only [one] at ho <;> try cases ho
 case bool => rw [show v = _ from hv]; rfl
 case cond => rw [hv.1]; rfl
 case int => rw [hv.1]; rfl
 case str => obtain ⟨_, rfl, _⟩ := hv; rfl
 case strv => obtain ⟨_, rfl, _⟩ := hv; rfl
 case ptr0 => rw [show v = _ from hv]; rfl
 case ptr => rw [hv.1]; rfl
 case sl0 => rw [show v = _ from hv]; rfl
 case sl => obtain ⟨_, rfl, _⟩ := hv; rfl
 case tsl => obtain ⟨_, _, _, rfl, _⟩ := hv; rfl
 case elem => obtain ⟨_, _, _, rfl, _⟩ := hv; rfl
 case map0 => rw [show v = _ from hv]; rfl
 case map => rw [hv.1]; rfl
 case func => obtain ⟨_, _, rfl, _⟩ := hv; rfl
 case fn0 => rw [show v = _ from hv]; rfl
 case iface => obtain ⟨_, rfl, _⟩ := hv; rfl
 case if0 => rw [show v = _ from hv]; rfl
 case emp => obtain ⟨_, _, rfl⟩ := hv; rfl
 case var x =>
  split at ho
  ·rename_i t ht
   rw [hv.1]
   exact VT_flat (h.vt x t ht).1 ho
  ·cases ho
theorem cells_one {v : Value} (h : v.oneCell' = true) : v.cells = #[v] := by cases v <;> first | rfl | cases h
def avCells (st : St) : AV → Option (List AV)
 | .agg cs => if cs.all (one st) then some cs else none
 | a => if one st a then some [a] else none
theorem avCells_ok {HT : Th} (h : M HT E st w) {a : AV} {v : Value} (hv : V HT E a v) {cs : List AV} (hc : avCells st a = some cs) : Vs HT E cs v.cells.toList ∧ ∀ c ∈ v.cells.toList, c.oneCell' = true := by
 have single : one st a = true → cs = [a] → Vs HT E cs v.cells.toList ∧ ∀ c ∈ v.cells.toList, c.oneCell' = true := fun ho e => by
  have h1 := one_ok h hv ho
  rw [cells_one h1, e]
  exact ⟨⟨v, [], rfl, hv, rfl⟩, fun c hc => by simp at hc; rw [hc]; exact h1⟩
 unfold avCells at hc
 split at hc
 ·rename_i cs'
  split at hc <;> try cases hc
  rename_i hall
  obtain ⟨x, rfl, hx⟩ := hv
  refine ⟨hx, fun c hc => ?_⟩
  obtain ⟨i, hi⟩ := List.getElem?_of_mem hc
  have hlt : i < cs.length := by rw [hx.len]; exact (List.getElem?_eq_some_iff.1 hi).1
  have ho := List.all_eq_true.1 hall cs[i] (List.getElem_mem hlt)
  exact one_ok h ((Vs_iff.1 hx).2 i _ c (List.getElem?_eq_getElem hlt) hi) ho
 ·split at hc <;> try cases hc
  rename_i ho
  exact single ho rfl
/-! ### A literal -/
def setL (cs : List AV) (off : Nat) : List AV → List AV
 | [] => cs
 | x :: xs => setL (cs.set off x) (off + 1) xs
def fillA (st : St) (place : Nat → Option (Nat × Nat)) (cs : List AV) : List (Nat × AV) → Option (List AV)
 | [] => some cs
 | (i, a) :: rest =>
  match place i, avCells st a with
  | some (off, size), some xs => if xs.length = size ∧ off + xs.length ≤ cs.length then fillA st place (setL cs off xs) rest else none
  | _, _ => none
theorem foldl_zip (xs : List Value) (off k : Nat) (cs : Array Value) : (xs.zipIdx k).foldl (fun cs p => cs.setIfInBounds (off + p.2) p.1) cs = (match xs with | [] => cs | x :: r => (r.zipIdx (k + 1)).foldl (fun cs p => cs.setIfInBounds (off + p.2) p.1) (cs.setIfInBounds (off + k) x)) := by
 cases xs <;> rfl
theorem setL_ok {HT : Th} : ∀ (xs : List AV) (vs : List Value) (cs : List AV) (arr : Array Value) (off k : Nat), Vs HT E xs vs → Vs HT E cs arr.toList → Vs HT E (setL cs (off + k) xs) ((vs.zipIdx k).foldl (fun cs p => cs.setIfInBounds (off + p.2) p.1) arr).toList
 | [], vs, cs, arr, off, k, hx, hc => by
  rw [show vs = [] from hx]; exact hc
 | x :: xs, vs, cs, arr, off, k, hx, hc => by
  obtain ⟨v, r, rfl, h1, h2⟩ := hx
  rw [foldl_zip]
  have := setL_ok xs r (cs.set (off + k) x) (arr.setIfInBounds (off + k) v) off (k + 1) h2 (by rw [Array.toList_setIfInBounds]; exact hc.set _ h1)
  exact this
theorem fillA_ok {HT : Th} (h : M HT E st w) {place : Nat → Option (Nat × Nat)} : ∀ {parts : List (Nat × AV)} {vparts : List (Nat × Value)} {cs : List AV} {arr : Array Value} {out : List AV},
  fillA st place cs parts = some out → Vs HT E cs arr.toList → (parts.map (·.1) = vparts.map (·.1)) → Vs HT E (parts.map (·.2)) (vparts.map (·.2)) → ∃ res, Instr.fill place arr vparts = some res ∧ Vs HT E out res.toList
 | [], vparts, cs, arr, out, hf, hc, he, hv => by
  have : vparts = [] := by cases vparts <;> first | rfl | cases he
  subst this
  injection hf with hf; subst hf
  exact ⟨arr, rfl, hc⟩
 | (i, a) :: rest, vparts, cs, arr, out, hf, hc, he, hv => by
  cases vparts with
  | nil => cases he
  | cons p vrest =>
   obtain ⟨j, v⟩ := p
   simp only [List.map_cons, List.cons.injEq] at he
   obtain ⟨rfl, he⟩ := he
   obtain ⟨v', r', e, hv1, hv2⟩ := hv
   simp only [List.map_cons, List.cons.injEq] at e
   obtain ⟨rfl, rfl⟩ := e
   unfold fillA at hf
   split at hf <;> try cases hf
   rename_i off size xs hp hx
   split at hf <;> try cases hf
   rename_i hsz
   obtain ⟨hcx, _⟩ := avCells_ok h hv1 hx
   have hlen := hcx.len
   have hcl := hc.len
   have e1 : v.cells.size = size := by rw [← hsz.1, hlen]; simp
   have e2 : off + v.cells.size ≤ arr.size := by
    have : v.cells.size = xs.length := by rw [hlen]; simp
    have : arr.size = cs.length := by rw [hcl]; simp
    omega
   have step := setL_ok xs v.cells.toList cs arr off 0 hcx hc
   rw [Nat.add_zero] at step
   obtain ⟨res, g1, g2⟩ := fillA_ok h hf step he hv2
   refine ⟨res, ?_, g2⟩
   unfold Instr.fill
   rw [hp]
   simp only
   have c1 : (decide (v.cells.size ≠ size) || decide (off + v.cells.size > arr.size)) = false := by simp [e1]; omega
   rw [c1]
   simp only [Bool.false_eq_true, if_false]
   rw [← Array.foldl_toList, Array.toList_zipIdx]
   exact g1
/-- The zero of a type, as it is known. -/
def zeroA (C : Cx) (t : TypeId) : Option (List AV) :=
 match C.inf t with
 | some i => match i.zero with
  | some z => some (z.cells.toList.map ofVal)
  | none => none
 | none => none
theorem Vs_ofVal {HT : Th} : ∀ (vs : List Value), Vs HT E (vs.map ofVal) vs
 | [] => rfl
 | v :: vs => ⟨v, vs, rfl, V_ofVal v, Vs_ofVal vs⟩
theorem zeroA_ok (hC : CxOk C) {t : TypeId} {cs : List AV} (h : zeroA C t = some cs) : ∃ z, (∀ w', (zeroValue t).run C.P w' = .ok z w') ∧ Vs C.HT E cs z.cells.toList := by
 unfold zeroA at h
 split at h <;> try cases h
 rename_i i hi
 split at h <;> try cases h
 rename_i z hz
 exact ⟨z, r_zero hC hi hz, Vs_ofVal _⟩
/-- The fields' places. -/
def placesA (C : Cx) : List Field → Option (List (Nat × Nat))
 | [] => some []
 | f :: fs => match C.inf f.type, placesA C fs with
  | some i, some r => some ((f.offset, i.size) :: r)
  | _, _ => none
theorem mapM_places (hC : CxOk C) (w' : World) : ∀ (fs : List Field) {r : List (Nat × Nat)}, placesA C fs = some r → (fs.mapM (fun f => do pure (f.offset, ← sizeOf f.type) : Field → Sem (Nat × Nat))).run C.P w' = .ok r w'
 | [], r, h => by injection h with h; subst h; rfl
 | f :: fs, r, h => by
  unfold placesA at h
  split at h <;> try cases h
  rename_i i r' hi hr
  rw [List.mapM_cons, Sem.run_bind, Sem.run_bind, r_size hC hi]
  simp only [Result.andThen_ok, Sem.run_pure, Sem.run_bind, mapM_places hC w' fs hr]
def buildA (C : Cx) (st : St) (t : TypeId) (parts : List (Nat × AV)) : Option AV :=
 match zeroA C t, C.und t with
 | some z, some (.struct fs) => match placesA C fs.toList with
  | some pl => (fillA st (pl[·]?) z parts).map .agg
  | none => none
 | some z, some (.array _ el) => match C.inf el with
  | some i => (fillA st (fun k => some (k * i.size, i.size)) z parts).map .agg
  | none => none
 | _, _ => none
theorem buildA_ok (hC : CxOk C) (h : M C.HT E st w) {t : TypeId} {parts : List (Nat × AV)} {r : AV} (hr : buildA C st t parts = some r) {vparts : Array (Nat × Value)} (he : parts.map (·.1) = vparts.toList.map (·.1)) (hv : Vs C.HT E (parts.map (·.2)) (vparts.toList.map (·.2))) :
  One C.HT E st w (fun w' => (Instr.build t vparts).run C.P w') (r, st) := by
 unfold buildA at hr
 split at hr <;> try cases hr
 ·rename_i z fs hz hd
  split at hr <;> try cases hr
  rename_i pl hpl
  obtain ⟨zv, hz1, hz2⟩ := zeroA_ok (E := E) hC hz
  cases hf : fillA st (pl[·]?) z parts with
  | none => rw [hf] at hr; cases hr
  | some out =>
   rw [hf] at hr
   injection hr with hr; subst hr
   obtain ⟨res, g1, g2⟩ := fillA_ok h hf hz2 he hv
   refine One.same h (fun w' => ?_) ⟨res, rfl, g2⟩
   unfold Instr.build
   simp only [Sem.run_bind, hz1, Result.andThen_ok, r_und hC hd]
   rw [Array.mapM_eq_mapM_toList]
   have e : (fun k => pl.toArray[k]?) = (fun k : Nat => pl[k]?) := by funext k; simp
   rw [Sem.run_map, mapM_places hC w' fs.toList hpl]
   simp only [Result.andThen_ok]
   have g1' : Instr.fill (fun x => pl.toArray[x]?) zv.cells vparts.toList = some res := by rw [e]; exact g1
   rw [g1']
   rfl
 ·rename_i z n el hz hd
  split at hr <;> try cases hr
  rename_i i hi
  obtain ⟨zv, hz1, hz2⟩ := zeroA_ok (E := E) hC hz
  cases hf : fillA st (fun k => some (k * i.size, i.size)) z parts with
  | none => rw [hf] at hr; cases hr
  | some out =>
   rw [hf] at hr
   injection hr with hr; subst hr
   obtain ⟨res, g1, g2⟩ := fillA_ok h hf hz2 he hv
   refine One.same h (fun w' => ?_) ⟨res, rfl, g2⟩
   unfold Instr.build
   simp only [Sem.run_bind, hz1, Result.andThen_ok, r_und hC hd, r_size hC hi, g1]
   rfl
/-! ### len, min, max -/
def lenA (C : Cx) (t : TypeId) (a : AV) : Option AV :=
 match C.und t, a with
 | some .string, a => (slen a).map (.int .i64 ·)
 | some (.array n _), _ => if n < 1000000 then some (.int .i64 (.k n)) else none
 | some (.slice _), .sl0 => some (.int .i64 (.k 0))
 | some (.slice _), .emp => some (.int .i64 (.k 0))
 | some (.slice _), .sl _ _ n _ _ => some (.int .i64 (.k n))
 | some (.slice _), .tsl _ n => some (.int .i64 n)
 | _, _ => none
/-- A length is a number of its kind. -/
def lenOk (st : St) : AV → Bool
 | .int _ e => st.ge ((Lin.k IntKind.i64.max).sub e)
 | _ => false
theorem lenA_ok (hC : CxOk C) (h : M C.HT E st w) {t : TypeId} {a r : AV} (hr : lenA C t a = some r) (hl : lenOk st r = true) {x : Value} (ha : V C.HT E a x) : One C.HT E st w (fun w' => (Builtin.len_ #[t] 0 #[x]).run C.P w') (r, st) := by
 have fin : ∀ (n : Nat) (e : Lin), (∀ w', (Builtin.len_ #[t] 0 #[x]).run C.P w' = .ok (goInt n) w') → e.ev E.ρ = n → e.below E.n → r = .int .i64 e → One C.HT E st w (fun w' => (Builtin.len_ #[t] 0 #[x]).run C.P w') (r, st) := fun n e hrun he hb hre => by
  subst hre
  have := h.ge hl
  rw [Lin.ev_sub, Lin.ev_k] at this
  refine One.same h hrun ⟨by rw [he]; rfl, hb, ?_, by omega⟩
  rw [he]
  have := min_nonpos .i64
  omega
 unfold lenA at hr
 split at hr <;> try cases hr
 ·rename_i a _ a2 hd
  cases hs : slen a with
  | none => rw [hs] at hr; cases hr
  | some n =>
   rw [hs] at hr
   injection hr with hr
   obtain ⟨s, rfl, h1, h2⟩ := slen_ok ha hs
   refine fin s.size n (fun w' => ?_) h1.symm h2 hr.symm
   simp [Builtin.len_, r_und hC hd]
 ·rename_i n el hd
  split at hr <;> try cases hr
  exact fin n (.k n) (fun w' => by simp [Builtin.len_, r_und hC hd]) (by simp) (below_k _ _) rfl
 ·rename_i el hd
  cases (show x = _ from ha)
  exact fin 0 (.k 0) (fun w' => by simp [Builtin.len_, r_und hC hd]) (by simp) (below_k _ _) rfl
 ·rename_i el hd
  obtain ⟨ad, c, rfl⟩ := ha
  exact fin 0 (.k 0) (fun w' => by simp [Builtin.len_, r_und hC hd]) (by simp) (below_k _ _) rfl
 ·rename_i el b o n cap z hd
  obtain ⟨c, rfl, _⟩ := ha
  exact fin n (.k n) (fun w' => by simp [Builtin.len_, r_und hC hd]) (by simp) (below_k _ _) rfl
 ·rename_i el τ n hd
  obtain ⟨ad, m, c, rfl, h1, h2, _⟩ := ha
  exact fin m n (fun w' => by simp [Builtin.len_, r_und hC hd]) h1.symm h2 rfl
/-- min or max of two numbers of one kind. -/
def mmA (st : St) (mx : Bool) (k : IntKind) (a b : Lin) : AV × St :=
 if st.ge (b.sub a) then (if mx then (.int k b, st) else (.int k a, st))
 else if st.ge (a.sub b) then (if mx then (.int k a, st) else (.int k b, st))
 else if mx then match rng st k a (if st.ge a && st.ge b then a.add b else .k k.max) with | (r, s) => (r, s.know ((Lin.v st.nx).sub b))
 else match rng st k (if st.ge a && st.ge b then .k 0 else .k k.min) a with | (r, s) => (r, s.know (b.sub (Lin.v st.nx)))
theorem mmA_ok {HT : Th} (h : M HT E st w) {mx : Bool} {k : IntKind} {a b : Lin} (va : V HT E (.int k a) (.int k (a.ev E.ρ))) (vb : V HT E (.int k b) (.int k (b.ev E.ρ))) :
  ∃ E', Up HT E st w E' (mmA st mx k a b).2 ∧ V HT E' (mmA st mx k a b).1 (.int k (if mx then max (a.ev E.ρ) (b.ev E.ρ) else min (a.ev E.ρ) (b.ev E.ρ))) := by
 have va0 := va
 have vb0 := vb
 obtain ⟨_, ba, a1, a2⟩ := va
 obtain ⟨_, bb, b1, b2⟩ := vb
 unfold mmA
 split
 ·rename_i hg
  have hg := h.ge hg
  rw [Lin.ev_sub] at hg
  cases mx
  ·exact ⟨E, Up.refl h, by simp only [Bool.false_eq_true, if_false]; rw [Int.min_eq_left (by omega)]; exact va0⟩
  ·exact ⟨E, Up.refl h, by simp only [if_true]; rw [Int.max_eq_right (by omega)]; exact vb0⟩
 ·split
  ·rename_i hg
   have hg := h.ge hg
   rw [Lin.ev_sub] at hg
   cases mx
   ·exact ⟨E, Up.refl h, by simp only [Bool.false_eq_true, if_false]; rw [Int.min_eq_right (by omega)]; exact vb0⟩
   ·exact ⟨E, Up.refl h, by simp only [if_true]; rw [Int.max_eq_left (by omega)]; exact va0⟩
  ·have bn := h.nx
   cases mx
   ·simp only [Bool.false_eq_true, if_false]
    have lo : ∀ lo : Lin, lo.below E.n → lo.ev E.ρ ≤ min (a.ev E.ρ) (b.ev E.ρ) → ∃ E', Up HT E st w E' ((rng st k lo a).2.know (b.sub (Lin.v st.nx))) ∧ V HT E' (rng st k lo a).1 (.int k (min (a.ev E.ρ) (b.ev E.ρ))) := fun lo hb hl => by
     obtain ⟨E', u, v, hx⟩ := rng_ok (lo := lo) (hi := a) h k (min (a.ev E.ρ) (b.ev E.ρ)) hl (Int.min_le_left _ _) hb ba (by omega) (by omega)
     have bx : (Lin.v st.nx).below E'.n := below_v (by have := u.m.nx; rw [this]; exact Nat.lt_succ_self _)
     exact ⟨E', u.trans (Up.know u.m (by rw [Lin.ev_sub, Lin.ev_v, hx, u.ext.ev bb]; have := Int.min_le_right (a.ev E.ρ) (b.ev E.ρ); omega) (below_sub (bb.mono u.ext.n) bx)), v⟩
    split
    ·rename_i hg
     simp only [Bool.and_eq_true] at hg
     have g1 := h.ge hg.1
     have g2 := h.ge hg.2
     exact lo (.k 0) (below_k _ _) (by rw [Lin.ev_k]; omega)
    ·exact lo (.k k.min) (below_k _ _) (by rw [Lin.ev_k]; omega)
   ·simp only [if_true]
    have up : ∀ hi : Lin, hi.below E.n → max (a.ev E.ρ) (b.ev E.ρ) ≤ hi.ev E.ρ → ∃ E', Up HT E st w E' ((rng st k a hi).2.know ((Lin.v st.nx).sub b)) ∧ V HT E' (rng st k a hi).1 (.int k (max (a.ev E.ρ) (b.ev E.ρ))) := fun hi hb hl => by
     obtain ⟨E', u, v, hx⟩ := rng_ok (lo := a) (hi := hi) h k (max (a.ev E.ρ) (b.ev E.ρ)) (Int.le_max_left _ _) hl ba hb (by omega) (by omega)
     have bx : (Lin.v st.nx).below E'.n := below_v (by have := u.m.nx; rw [this]; exact Nat.lt_succ_self _)
     exact ⟨E', u.trans (Up.know u.m (by rw [Lin.ev_sub, Lin.ev_v, hx, u.ext.ev bb]; have := Int.le_max_right (a.ev E.ρ) (b.ev E.ρ); omega) (below_sub bx (bb.mono u.ext.n))), v⟩
    split
    ·rename_i hg
     simp only [Bool.and_eq_true] at hg
     have g1 := h.ge hg.1
     have g2 := h.ge hg.2
     exact up (a.add b) (below_add ba bb) (by rw [Lin.ev_add]; omega)
    ·exact up (.k k.max) (below_k _ _) (by rw [Lin.ev_k]; omega)
end
end Go.Proofs.YtbjhcjgniciooaaGreatDoor.E
namespace Go.Proofs.YtbjhcjgniciooaaGreatDoor.E
set_option linter.unusedVariables false
set_option linter.unusedSimpArgs false
/-! ### The number by which a value is told -/
def numA : AV → Option Lin
 | .int _ e => some e
 | .str l => some (.k l.length)
 | .strv n => some n
 | .tsl _ n => some n
 | .sl0 | .emp | .ptr0 | .ptr _ _ | .elem _ _ | .map0 | .map _ | .func _ _ _ | .fn0 | .iface _ _ | .if0 => some (.k 0)
 | .sl _ _ n _ _ => some (.k n)
 | .bool b => some (.k (if b then 1 else 0))
 | _ => none
section
variable {HT : Th} {E : Env} {st : St} {w : World}
theorem numA_ok {a : AV} {v : Value} {e : Lin} (hv : V HT E a v) (hn : numA a = some e) : e.ev E.ρ = numV v ∧ e.below E.n := by
 cases a <;> simp only [numA, Option.some.injEq] at hn <;> try cases hn
 case bool b => rw [show v = .bool b from hv]; cases b <;> exact ⟨by simp [numV], below_k _ _⟩
 case int k => obtain ⟨rfl, h1, _⟩ := hv; exact ⟨rfl, h1⟩
 case str l => obtain ⟨s, rfl, h1⟩ := hv; exact ⟨by rw [Lin.ev_k, ← h1, ← size_len]; rfl, below_k _ _⟩
 case strv => obtain ⟨s, rfl, h1, h2⟩ := hv; exact ⟨h1.symm, h2⟩
 case ptr0 => rw [show v = _ from hv]; exact ⟨by simp [numV], below_k _ _⟩
 case ptr => obtain ⟨rfl, _⟩ := hv; exact ⟨by simp [numV], below_k _ _⟩
 case sl0 => rw [show v = _ from hv]; exact ⟨by simp [numV], below_k _ _⟩
 case sl => obtain ⟨c, rfl, _⟩ := hv; exact ⟨by simp [numV], below_k _ _⟩
 case tsl τ => obtain ⟨_, m, c, rfl, h1, h2, _⟩ := hv; exact ⟨h1.symm, h2⟩
 case elem => obtain ⟨_, _, _, rfl, _⟩ := hv; exact ⟨by simp [numV], below_k _ _⟩
 case map0 => rw [show v = _ from hv]; exact ⟨by simp [numV], below_k _ _⟩
 case map => obtain ⟨rfl, _⟩ := hv; exact ⟨by simp [numV], below_k _ _⟩
 case func => obtain ⟨_, _, rfl, _⟩ := hv; exact ⟨by simp [numV], below_k _ _⟩
 case fn0 => rw [show v = _ from hv]; exact ⟨by simp [numV], below_k _ _⟩
 case iface => obtain ⟨_, rfl, _⟩ := hv; exact ⟨by simp [numV], below_k _ _⟩
 case if0 => rw [show v = _ from hv]; exact ⟨by simp [numV], below_k _ _⟩
 case emp => obtain ⟨_, _, rfl⟩ := hv; exact ⟨by simp [numV], below_k _ _⟩
def subT (cs : List AV) : List (Nat × Int) → Option Lin
 | [] => some (.k 0)
 | (i, k) :: ts => match cs[i]? with
  | some a => match numA a, subT cs ts with
   | some e, some r => some ((e.sc k).add r)
   | _, _ => none
  | none => none
def subL (cs : List AV) (r : Lin) : Option Lin := (subT cs r.ts).map (·.addk r.c)
theorem subT_ok {cs : List AV} {vs : List Value} (hv : Vs HT E cs vs) : ∀ {ts : List (Nat × Int)} {e : Lin}, subT cs ts = some e → e.ev E.ρ = Lin.evT (numAt vs) ts ∧ e.below E.n
 | [], e, h => by injection h with h; subst h; exact ⟨by simp [Lin.evT], below_k _ _⟩
 | (i, k) :: ts, e, h => by
  unfold subT at h
  split at h <;> try cases h
  rename_i a ha
  split at h <;> try cases h
  rename_i e1 r h1 h2
  obtain ⟨v, hv1, hv2⟩ := hv.get ha
  obtain ⟨g1, g2⟩ := numA_ok hv2 h1
  obtain ⟨g3, g4⟩ := subT_ok hv h2
  refine ⟨?_, below_add (below_sc g2 _) g4⟩
  rw [Lin.ev_add, Lin.ev_sc, g1, g3]
  simp only [Lin.evT, numAt, hv1]
theorem subL_ok {cs : List AV} {vs : List Value} (hv : Vs HT E cs vs) {r e : Lin} (h : subL cs r = some e) : e.ev E.ρ = r.ev (numAt vs) ∧ e.below E.n := by
 unfold subL at h
 cases h1 : subT cs r.ts with
 | none => rw [h1] at h; cases h
 | some e1 =>
  rw [h1] at h
  injection h with h; subst h
  obtain ⟨g1, g2⟩ := subT_ok hv h1
  refine ⟨?_, below_addk g2 _⟩
  rw [Lin.ev_addk, g1]; unfold Lin.ev; omega
def knowR (cs : List AV) : List Lin → St → St
 | [], st => st
 | r :: rs, st => match subL cs r with
  | some e => knowR cs rs (st.know e)
  | none => knowR cs rs st
theorem knowR_ok {cs : List AV} {vs : List Value} (hv : Vs HT E cs vs) : ∀ {rs : List Lin} {st : St}, M HT E st w → relOk rs vs → Up HT E st w E (knowR cs rs st)
 | [], st, h, _ => Up.refl h
 | r :: rs, st, h, hr => by
  unfold knowR
  have h2 : relOk rs vs := fun x hx => hr x (List.mem_cons_of_mem _ hx)
  split
  ·rename_i e he
   obtain ⟨g1, g2⟩ := subL_ok hv he
   have u := Up.know h (c := e) (by rw [g1]; exact hr r (List.mem_cons_self ..)) g2
   exact u.trans (knowR_ok hv u.m h2)
  ·exact knowR_ok hv h h2
def checkR (st : St) (cs : List AV) (rs : List Lin) : Bool := rs.all fun r => match subL cs r with | some e => st.ge e | none => false
theorem checkR_ok (h : M HT E st w) {cs : List AV} {vs : List Value} (hv : Vs HT E cs vs) {rs : List Lin} (hc : checkR st cs rs = true) : relOk rs vs := fun r hr => by
 have := List.all_eq_true.1 hc r hr
 split at this
 ·rename_i e he
  rw [← (subL_ok hv he).1]; exact h.ge this
 ·cases this
/-! ### A block of which the kind alone is told is opened -/
def St.opn (st : St) (b τ : Nat) (elem : TypeId) (cs : List AV) : St := { st with bk := st.bk.set b (.cells elem cs true (some τ)), op := (b, τ) :: st.op }
theorem M.opened (h : M HT E st w) {b τ n : Nat} (hb : st.bk.get b = some (.sealed τ)) {elem : TypeId} {cs : List AV} {arr : Array Value} (ha : w.heap[E.β b]? = some (.cells arr elem (0, 0))) (hv : Vs HT E cs arr.toList) (hs : E.S (E.β b) = some (τ, n)) (ho : (HT τ).isOpq = false) (hno : ∀ p ∈ st.op, p.2 ≠ τ) :
  M HT E (st.opn b τ elem cs) w := by
 have hbn := (h.bk b _ hb).2
 have bget : ∀ c z, (st.opn b τ elem cs).bk.get c = some z → (c = b ∧ z = .cells elem cs true (some τ)) ∨ (c ≠ b ∧ st.bk.get c = some z) := fun c z hz => by
  have hz : (st.bk.set b (.cells elem cs true (some τ))).get c = some z := hz
  rw [PT.get_set] at hz
  by_cases e : c = b
  ·rw [if_pos e] at hz; injection hz with hz; exact .inl ⟨e, hz.symm⟩
  ·rw [if_neg e] at hz; exact .inr ⟨e, hz⟩
 have other : ∀ c z, st.bk.get c = some z → z.solid = true → E.β c ≠ E.β b := fun c z hc hz he => by
  have own := (h.bk c z hc).1.own' hz
  cases hty : z.ty with
  | none => rw [hty, he] at own; rw [own.1] at hs; cases hs
  | some τ' =>
   rw [hty, he] at own
   obtain ⟨⟨m, hm⟩, _⟩ := own
   rw [hs] at hm; injection hm with hm; injection hm with hm _
   cases z with
   | cells el cs' f ty => simp only [Blk.ty] at hty; subst hty; exact hno (c, τ') ((h.op c τ').2 ⟨el, cs', f, hc⟩) hm.symm
   | _ => cases hty
 refine ⟨h.nx, h.g, h.cs, h.vt, h.vs, fun c z hc => ?_, fun c c' z z' hc hc' hz hz' hβ => ?_, fun i τ' n' hi ht => ?_, h.dom, h.an, h.bt, h.born, h.md, fun c υ => ?_, h.gh⟩
 ·rcases bget c z hc with ⟨rfl, rfl⟩ | ⟨_, hc⟩
  ·exact ⟨⟨arr, arr.toList, [], ha, by simp, hv, fun _ => rfl, ⟨⟨n, hs⟩, ho⟩, fun e => by cases e⟩, hbn⟩
  ·exact h.bk c z hc
 ·rcases bget c z hc with ⟨e1, e2⟩ | ⟨hne, gc⟩
  ·rcases bget c' z' hc' with ⟨e3, e4⟩ | ⟨hne', gc'⟩
   ·rw [e1, e3]
   ·rw [e1] at hβ; exact absurd hβ.symm (other c' z' gc' hz')
  ·rcases bget c' z' hc' with ⟨e3, e4⟩ | ⟨hne', gc'⟩
   ·rw [e3] at hβ; exact absurd hβ (other c z gc hz)
   ·exact h.inj c c' z z' gc gc' hz hz' hβ
 ·rcases h.heap i τ' n' hi ht with ⟨b', hb', hβ⟩ | hk
  ·exact .inl ⟨b', List.mem_cons_of_mem _ hb', hβ⟩
  ·exact .inr hk
 ·show (c, υ) ∈ (b, τ) :: st.op ↔ _
  constructor
  ·intro hc
   rcases List.mem_cons.1 hc with he | hc
   ·injection he with e1 e2; subst e1; subst e2
    exact ⟨elem, cs, true, by show (st.bk.set _ _).get _ = _; rw [PT.get_set, if_pos rfl]⟩
   ·obtain ⟨el, cs', f, hc⟩ := (h.op c υ).1 hc
    have : c ≠ b := fun e => by rw [e, hb] at hc; cases hc
    exact ⟨el, cs', f, by show (st.bk.set b _).get c = _; rw [PT.get_set, if_neg this]; exact hc⟩
  ·rintro ⟨el, cs', f, hc⟩
   rcases bget c _ hc with ⟨e1, e2⟩ | ⟨_, hc⟩
   ·injection e2 with _ _ _ e2; injection e2 with e2; subst e1; subst e2; exact List.mem_cons_self ..
   ·exact List.mem_cons_of_mem _ ((h.op c υ).2 ⟨el, cs', f, hc⟩)
def openAlt (st : St) (b τ : Nat) (elem : TypeId) (alt : Alt) : List St :=
 match insts alt.1 st with
 | (cs, st1) => match alt.2.2 with
  | none => [(knowR cs alt.2.1 st1).opn b τ elem cs]
  | some (i, fs) => fs.map fun f => (knowR cs alt.2.1 st1).opn b τ elem (cs.set i (.func f [.ptr b 0] []))
def openA (HT : Th) (st : St) (b : Nat) : Option (List St) :=
 match st.bk.get b with
 | some (.sealed τ) => match HT τ with
  | .obj elem alts => if st.fp.any (fun x => Nat.beq x τ) && st.op.all (fun p => !Nat.beq p.2 τ) then some (alts.flatMap (openAlt st b τ elem)) else none
  | _ => none
 | _ => none
mutual
theorem inst_keeps : ∀ (t : CT) (st : St), (inst t st).2.op = st.op ∧ ∀ b, b < st.nx → (inst t st).2.bk.get b = st.bk.get b ∧ st.nx ≤ (inst t st).2.nx
 | t, st => by
  cases t <;> unfold inst
  case agg cs =>
   have := insts_keeps cs st
   split; rename_i l st' he; rw [he] at this; exact this
  all_goals
   repeat' split
   all_goals first
    | exact ⟨rfl, fun b hb => ⟨rfl, Nat.le_refl _⟩⟩
    | exact ⟨rfl, fun b hb => ⟨rfl, Nat.le_succ _⟩⟩
    | exact ⟨rfl, fun b hb => ⟨by show (st.bk.set st.nx _).get b = _; rw [PT.get_set, if_neg (Nat.ne_of_lt hb)], Nat.le_succ _⟩⟩
theorem insts_keeps : ∀ (ts : CTs) (st : St), (insts ts st).2.op = st.op ∧ ∀ b, b < st.nx → (insts ts st).2.bk.get b = st.bk.get b ∧ st.nx ≤ (insts ts st).2.nx
 | .nil, st => ⟨rfl, fun b hb => ⟨rfl, Nat.le_refl _⟩⟩
 | .cons t ts, st => by
  have h1 := inst_keeps t st
  have h2 := insts_keeps ts (inst t st).2
  unfold insts
  exact ⟨h2.1.trans h1.1, fun b hb => ⟨((h2.2 b (Nat.lt_of_lt_of_le hb (h1.2 b hb).2)).1).trans (h1.2 b hb).1, Nat.le_trans (h1.2 b hb).2 (h2.2 b (Nat.lt_of_lt_of_le hb (h1.2 b hb).2)).2⟩⟩
end
theorem knowR_keeps (cs : List AV) : ∀ (rs : List Lin) (st : St), (knowR cs rs st).op = st.op ∧ (knowR cs rs st).bk = st.bk
 | [], st => ⟨rfl, rfl⟩
 | r :: rs, st => by
  unfold knowR
  split
  ·exact knowR_keeps cs rs _
  ·exact knowR_keeps cs rs _
theorem set_same {α : Type} : ∀ {l : List α} {i : Nat} {v : α}, l[i]? = some v → l.set i v = l
 | [], _, _, h => by simp at h
 | a :: l, 0, v, h => by simp at h; rw [h]; rfl
 | a :: l, i + 1, v, h => by simp at h; show a :: l.set i v = _; rw [set_same h]
theorem open_ok (h : M HT E st w) {b : Nat} {l : List St} (ho : openA HT st b = some l) : ∃ s ∈ l, ∃ E', Up HT E st w E' s := by
 unfold openA at ho
 split at ho <;> try cases ho
 rename_i τ hb
 split at ho <;> try cases ho
 rename_i elem alts hty
 split at ho <;> try cases ho
 rename_i hc
 simp only [Bool.and_eq_true] at hc
 obtain ⟨c1, c2⟩ := hc
 obtain ⟨τ', g1, g2⟩ := List.any_eq_true.1 c1
 have g2 := Nat.eq_of_beq_eq_true g2; subst g2
 have hno : ∀ p ∈ st.op, p.2 ≠ τ' := fun p hp e => by
  have := List.all_eq_true.1 c2 p hp
  rw [e] at this; simp at this
 obtain ⟨⟨n, hs, _⟩, hbn⟩ := h.bk b _ hb
 have hopq : (HT τ').isOpq = false := by rw [show HT τ' = HTy.obj elem alts from hty]; rfl
 rcases h.heap _ _ _ hs g1 with ⟨b', hb', _⟩ | hk
 ·exact absurd rfl (hno _ hb')
 ·unfold HOk at hk
  rw [show HT τ' = HTy.obj elem alts from hty] at hk
  obtain ⟨arr, k1, alt, k2, k3, k4, k5⟩ := hk
  obtain ⟨E1, u1, v1⟩ := insts_ok alt.1 h k3
  have u2 := knowR_ok v1 u1.m k4
  have u := u1.trans u2
  have kp := insts_keeps alt.1 st
  have kq := knowR_keeps (insts alt.1 st).1 alt.2.1 (insts alt.1 st).2
  have hβ := u1.ext.β b hbn
  have done : ∀ cs, Vs HT E1 cs arr.toList → Up HT E st w E1 ((knowR (insts alt.1 st).1 alt.2.1 (insts alt.1 st).2).opn b τ' elem cs) := fun cs hv => by
   have m := u.m.opened (b := b) (τ := τ') (n := n) (elem := elem) (cs := cs) (arr := arr) (by rw [kq.2, (kp.2 b (by rw [← h.nx]; exact hbn)).1]; exact hb) (by rw [← hβ]; exact k1) hv (by rw [← hβ, u1.S.S]; exact hs) hopq (fun p hp => by rw [kq.1, kp.1] at hp; exact hno p hp)
   exact ⟨u.ext, m, u.md, u.tm, u.fp, u.wild, u.S⟩
  cases hself : alt.2.2 with
  | none => exact ⟨_, List.mem_flatMap.2 ⟨alt, k2, by unfold openAlt; dsimp only; rw [hself]; exact List.mem_cons_self ..⟩, E1, done _ v1⟩
  | some p =>
   obtain ⟨i, fs⟩ := p
   rw [hself] at k5
   obtain ⟨f, hf, hv⟩ := k5
   refine ⟨_, List.mem_flatMap.2 ⟨alt, k2, by unfold openAlt; dsimp only; rw [hself]; exact List.mem_map.2 ⟨f, hf, rfl⟩⟩, E1, done _ ?_⟩
   have := v1.set i (a := .func f [.ptr b 0] []) (v := .func (.func f) #[.pointer (some ⟨E.β b, 0, none⟩)] #[]) ⟨_, _, rfl, ⟨_, [], rfl, ⟨by rw [hβ], Nat.lt_of_lt_of_le hbn u1.ext.n⟩, rfl⟩, rfl⟩
   rwa [set_same hv] at this
end
end Go.Proofs.YtbjhcjgniciooaaGreatDoor.E
namespace Go.Proofs.YtbjhcjgniciooaaGreatDoor.E
set_option linter.unusedVariables false
set_option linter.unusedSimpArgs false
section
variable {C : Cx} {E : Env} {st : St} {w : World}
def asm (st : St) (c : Cnd) (a : AV) : List (AV × St) :=
 match st.assume c with
 | some s => [(a, s)]
 | none => []
def evP (st : St) (fr : List AV) : List (Nat × Operand) → List (Nat × AV)
 | [] => []
 | (i, x) :: r => (i, evO st fr x) :: evP st fr r
def evL (st : St) (fr : List AV) : List Operand → List AV
 | [] => []
 | x :: r => evO st fr x :: evL st fr r
theorem evL_ok (h : M C.HT E st w) {fr : List AV} {a : Act} (hf : FrOk C.HT E fr a) : ∀ (xs : List Operand), Vs C.HT E (evL st fr xs) (xs.map a.eval)
 | [] => rfl
 | x :: xs => ⟨_, _, rfl, evO_ok h hf x, evL_ok h hf xs⟩
theorem evP_ok (h : M C.HT E st w) {fr : List AV} {a : Act} (hf : FrOk C.HT E fr a) : ∀ (xs : List (Nat × Operand)), (evP st fr xs).map (·.1) = (xs.map fun (i, x) => (i, a.eval x)).map (·.1) ∧ Vs C.HT E ((evP st fr xs).map (·.2)) ((xs.map fun (i, x) => (i, a.eval x)).map (·.2))
 | [] => ⟨rfl, rfl⟩
 | (i, x) :: xs => by
  obtain ⟨h1, h2⟩ := evP_ok h hf xs
  exact ⟨by simp only [evP, List.map_cons]; rw [h1], _, _, rfl, evO_ok h hf x, h2⟩
def optE (st : St) (fr : List AV) (x : Option Operand) : Option AV := x.map (evO st fr)
theorem optE_ok (h : M C.HT E st w) {fr : List AV} {a : Act} (hf : FrOk C.HT E fr a) (x : Option Operand) : optV C.HT E (optE st fr x) (x.map a.eval) := by
 cases x with
 | none => trivial
 | some x => exact evO_ok h hf x
def one1 (st : St) (r : Option AV) : Option (List (AV × St)) := r.map fun a => [(a, st)]
def one2 (r : Option (AV × St)) : Option (List (AV × St)) := r.map ([·])
def isOne (st : St) : AV → Bool
 | .ptr _ _ | .elem _ _ | .func _ _ _ | .iface _ _ => true
 | .var x => match st.vt.get x with
  | some (.fn false _) | some (.iface false _) => true
  | _ => false
 | _ => false
def pureOp0 (C : Cx) (st : St) (fr : List AV) (o : Oper) : Option (List (AV × St)) :=
 match o.op with
 | .move x => some [(evO st fr x, st)]
 | .assign x => some [(evO st fr x, st)]
 | .pick c a b => match evO st fr c with
  | .bool true => some [(evO st fr a, st)]
  | .bool false => some [(evO st fr b, st)]
  | .cond k => some (asm st k (evO st fr a) ++ asm st k.neg (evO st fr b))
  | _ => none
 | .nilCheck x => if isOne st (evO st fr x) then some [(evO st fr x, st)] else none
 | .binOp op t x y _ => binA C st op t (isC x || isC y) (evO st fr x) (evO st fr y)
 | .unOp op _ x => one2 (unA st op (evO st fr x))
 | .convert s d x => one2 (cvA C st s d (evO st fr x))
 | .makeInterface t x => match C.und t with
  | none => none
  | some (.interface _) => none
  | some _ => some [(.iface t (evO st fr x), st)]
 | .makeFunc (.func f) first cap => some [(.func f (evL st fr first.toList) (evL st fr cap.toList), st)]
 | .field t x f => one1 st (fieldA C t (evO st fr x) f)
 | .fieldAddr t x f => one1 st (fieldAddrA C t (evO st fr x) f)
 | .indexAddr t x i => one1 st (indexAddrA C st t (evO st fr x) (evO st fr i))
 | .index t x i => one2 (indexA C st t (evO st fr x) (evO st fr i))
 | .slice t x lo hi mx => one1 st (sliceA C st t (evO st fr x) (optE st fr lo) (optE st fr hi) (optE st fr mx))
 | .extract x i => match evO st fr x with
  | .tup cs => one1 st cs[i]?
  | _ => none
 | .build t parts => one1 st (buildA C st t (evP st fr parts.toList))
 | .call c => match c.callee with
  | .builtin .len => match c.args.toList, c.argTypes.toList with
   | [x], [t] => match lenA C t (evO st fr x) with
    | some r => if lenOk st r then some [(r, st)] else none
    | none => none
   | _, _ => none
  | .builtin .min => match c.args.toList with
   | [x, y] => match evO st fr x, evO st fr y with
    | .int k a, .int l b => if k = l then some [mmA st false k a b] else none
    | _, _ => none
   | _ => none
  | .builtin .max => match c.args.toList with
   | [x, y] => match evO st fr x, evO st fr y with
    | .int k a, .int l b => if k = l then some [mmA st true k a b] else none
    | _, _ => none
   | _ => none
  | _ => none
 | _ => none
def PureOk (C : Cx) (E : Env) (st : St) (w : World) (s : Sem Next) (outs : List (AV × St)) : Prop :=
 ∃ v, (∀ w', s.run C.P w' = .ok (.value v) w') ∧ ∃ r ∈ outs, ∃ E', Up C.HT E st w E' r.2 ∧ V C.HT E' r.1 v
theorem Many.pureOk {s : Sem Value} {outs : List (AV × St)} (h : Many C.HT E st w (fun w' => s.run C.P w') outs) : PureOk C E st w (do pure (.value (← s))) outs := by
 obtain ⟨v, h1, h2⟩ := h
 exact ⟨v, fun w' => by rw [Sem.run_bind, show s.run C.P w' = .ok v w' from h1 w']; rfl, h2⟩
theorem One.pureOk {s : Sem Value} {r : AV × St} (h : One C.HT E st w (fun w' => s.run C.P w') r) : PureOk C E st w (do pure (.value (← s))) [r] := h.many.pureOk
theorem asm_ok (h : M C.HT E st w) {c : Cnd} {a : AV} {v : Value} (hb : c.lin.below E.n) (hc : c.holds E.ρ = true) (hv : V C.HT E a v) : ∃ r ∈ asm st c a, ∃ E', Up C.HT E st w E' r.2 ∧ V C.HT E' r.1 v := by
 obtain ⟨s, e, u⟩ := h.assume hb hc
 exact ⟨(a, s), by unfold asm; rw [e]; exact List.mem_cons_self .., E, u, hv⟩
theorem VF_func' : ∀ {fs : FTs} {v : Value}, VF C.HT E fs v → ∃ f x y, v = .func (.func f) x y
 | .nil, _, h => h.elim
 | .cons f a b r, _, h => by
  rcases h with ⟨x, y, rfl, _⟩ | h
  ·exact ⟨_, _, _, rfl⟩
  ·exact VF_func' h
theorem isOne_ok (h : M C.HT E st w) {q : AV} {u : Value} (hv : V C.HT E q u) (hi : isOne st q = true) : (∃ p, u = .pointer (some p)) ∨ (∃ t v, u = .iface t v) ∨ (∃ f x y, u = .func (.func f) x y) := by
 cases q
 case ptr => exact .inl ⟨_, hv.1⟩
 case elem => obtain ⟨_, _, _, e, _⟩ := hv; exact .inl ⟨_, e⟩
 case func => obtain ⟨_, _, e, _⟩ := hv; exact .inr (.inr ⟨_, _, _, e⟩)
 case iface => obtain ⟨_, e, _⟩ := hv; exact .inr (.inl ⟨_, _, e⟩)
 case var z =>
  simp only [isOne] at hi
  split at hi
  ·rename_i fs ht
   obtain ⟨h1, _⟩ := h.vt z _ ht
   rw [← hv.1] at h1
   rcases h1 with ⟨e, _⟩ | h1
   ·cases e
   ·exact .inr (.inr (VF_func' h1))
  ·rename_i ts ht
   obtain ⟨h1, _⟩ := h.vt z _ ht
   rw [← hv.1] at h1
   rcases h1 with ⟨e, _⟩ | h1
   ·cases e
   ·exact .inr (.inl (VI_iface h1))
  ·cases hi
 all_goals cases hi
theorem pureOp0_ok (hC : CxOk C) (h : M C.HT E st w) {fr : List AV} {a : Act} (hf : FrOk C.HT E fr a) {o : Oper} {outs : List (AV × St)} (ho : pureOp0 C st fr o = some outs) : PureOk C E st w (execOp a.eval o) outs := by
 obtain ⟨dst, op, type, pos, after, guard⟩ := o
 have same : ∀ x : Operand, PureOk C E st w (pure (.value (a.eval x))) [(evO st fr x, st)] := fun x =>
  ⟨a.eval x, fun _ => rfl, _, List.mem_cons_self .., E, Up.refl h, evO_ok h hf x⟩
 have o1 : ∀ {r : Option AV} {s : Sem Value}, one1 st r = some outs → (∀ r', r = some r' → One C.HT E st w (fun w' => s.run C.P w') (r', st)) → PureOk C E st w (do pure (.value (← s))) outs := fun hr hs => by
  unfold one1 at hr
  rename_i r s
  cases r with
  | none => cases hr
  | some r => injection hr with hr; subst hr; exact (hs r rfl).pureOk
 have o2 : ∀ {r : Option (AV × St)} {s : Sem Value}, one2 r = some outs → (∀ r', r = some r' → One C.HT E st w (fun w' => s.run C.P w') r') → PureOk C E st w (do pure (.value (← s))) outs := fun hr hs => by
  unfold one2 at hr
  rename_i r s
  cases r with
  | none => cases hr
  | some r => injection hr with hr; subst hr; exact (hs r rfl).pureOk
 cases op <;> simp only [pureOp0] at ho <;> try cases ho
 case move x => exact same x
 case assign x => exact same x
 case pick c x y =>
  have hc := evO_ok h hf c
  have go : ∀ b : Bool, a.eval c = .bool b → ∀ w', (execOp a.eval ⟨dst, .pick c x y, type, pos, after, guard⟩).run C.P w' = .ok (.value (if b then a.eval x else a.eval y)) w' := fun b e w' => by
   simp only [execOp, e]; cases b <;> rfl
  split at ho
  ·rename_i e
   rw [e] at hc
   injection ho with ho; subst ho
   exact ⟨_, go true hc, _, List.mem_cons_self .., E, Up.refl h, evO_ok h hf x⟩
  ·rename_i e
   rw [e] at hc
   injection ho with ho; subst ho
   exact ⟨_, go false hc, _, List.mem_cons_self .., E, Up.refl h, evO_ok h hf y⟩
  ·rename_i k e
   rw [e] at hc
   injection ho with ho; subst ho
   obtain ⟨hc, hb⟩ := hc
   refine ⟨_, go _ hc, ?_⟩
   cases hk : k.holds E.ρ with
   | true =>
    obtain ⟨r, h1, h2⟩ := asm_ok h hb hk (evO_ok h hf x)
    exact ⟨r, List.mem_append.2 (.inl h1), h2⟩
   | false =>
    obtain ⟨r, h1, h2⟩ := asm_ok h (c := k.neg) (by cases k <;> first | exact hb | exact below_addk (below_sc hb _) _) (by rw [Cnd.holds_neg, hk]; rfl) (evO_ok h hf y)
    exact ⟨r, List.mem_append.2 (.inr h1), h2⟩
  ·cases ho
 case build t parts =>
  obtain ⟨e1, e2⟩ := evP_ok h hf parts.toList
  refine o1 ho (fun r hr => buildA_ok hC h hr ?_ ?_)
  ·rw [Array.toList_map]; exact e1
  ·rw [Array.toList_map]; exact e2
 case nilCheck x =>
  split at ho <;> try cases ho
  rename_i hi
  have hv := evO_ok h hf x
  have fin : (execOp a.eval ⟨dst, .nilCheck x, type, pos, after, guard⟩ = pure (.value (a.eval x))) → PureOk C E st w (execOp a.eval ⟨dst, .nilCheck x, type, pos, after, guard⟩) [(evO st fr x, st)] := fun e => by
   rw [e]; exact same x
  apply fin
  generalize evO st fr x = q at hi hv
  generalize hq : a.eval x = u at hv
  have simple : (∃ p, u = .pointer (some p)) ∨ (∃ t v, u = .iface t v) ∨ (∃ f x y, u = .func (.func f) x y) → execOp a.eval ⟨dst, .nilCheck x, type, pos, after, guard⟩ = pure (.value u) := fun hs => by
   rcases hs with ⟨p, rfl⟩ | ⟨t, v, rfl⟩ | ⟨f, y, z, rfl⟩ <;> simp only [execOp, hq]
  exact simple (isOne_ok h hv hi)
 case binOp op t x y yt => exact (binA_ok hC h ho (evO_ok h hf x) (evO_ok h hf y) (ox := x) (oy := y) (fun e => e)).pureOk
 case unOp op t x => exact o2 ho (fun r hr => unA_ok h C.P hr (evO_ok h hf x))
 case convert s d x => exact o2 ho (fun r hr => cvA_ok hC h hr (evO_ok h hf x))
 case makeInterface t x =>
  split at ho <;> try cases ho
  rename_i d hn hd
  refine One.pureOk (One.same h (v := .iface t (a.eval x)) (fun w' => ?_) ⟨_, rfl, evO_ok h hf x⟩)
  unfold Instr.makeInterface
  simp only [Sem.run_bind, r_und hC hd, Result.andThen_ok]
  cases d <;> first | rfl | exact absurd rfl (hn _)
 case makeFunc fn first cap =>
  cases fn <;> simp only at ho <;> try cases ho
  rename_i f
  refine One.pureOk (One.same h (v := .func (.func f) (first.map a.eval) (cap.map a.eval)) (fun w' => rfl) ⟨_, _, rfl, ?_, ?_⟩)
  ·rw [Array.toList_map]; exact evL_ok h hf _
  ·rw [Array.toList_map]; exact evL_ok h hf _
 case slice t x lo hi mx => exact o1 ho (fun r hr => sliceA_ok hC h hr (evO_ok h hf x) (optE_ok h hf lo) (optE_ok h hf hi) (optE_ok h hf mx))
 case fieldAddr t x f => exact o1 ho (fun r hr => fieldAddrA_ok hC h hr (evO_ok h hf x))
 case field t x f => exact o1 ho (fun r hr => fieldA_ok hC h hr (evO_ok h hf x))
 case indexAddr t x i => exact o1 ho (fun r hr => indexAddrA_ok hC h hr (evO_ok h hf x) (evO_ok h hf i))
 case index t x i => exact o2 ho (fun r hr => indexA_ok hC h hr (evO_ok h hf x) (evO_ok h hf i))
 case extract x i =>
  split at ho <;> try cases ho
  rename_i cs e
  have hv := evO_ok h hf x
  rw [e] at hv
  obtain ⟨vs, hx, hv⟩ := hv
  refine o1 ho (fun r hr => ?_)
  obtain ⟨v, h1, h2⟩ := hv.get hr
  refine One.same h (fun w' => ?_) h2
  rw [hx]
  unfold Instr.extract
  have : vs[i]? = some v := by simpa using h1
  simp only [this]; rfl
 case call c =>
  obtain ⟨callee, args, argTypes⟩ := c
  have ar : ∀ {l : List Operand}, args.toList = l → args.map a.eval = (l.map a.eval).toArray := fun e => by rw [← e, ← List.map_toArray, Array.toArray_toList]
  cases callee with
  | value f => cases ho
  | invoke r m => cases ho
  | builtin bi =>
  cases bi <;> try cases ho
  case len =>
   dsimp only at ho
   split at ho <;> try cases ho
   rename_i x t e1 e2
   split at ho <;> try cases ho
   rename_i r hr
   split at ho <;> try cases ho
   rename_i hl
   have e2 : argTypes = #[t] := by rw [← Array.toArray_toList (xs := argTypes), e2]
   have := (lenA_ok hC h hr hl (evO_ok h hf x)).pureOk
   simp only [execOp, resolve]
   rw [ar e1, e2]
   exact this
  case min =>
   dsimp only at ho
   split at ho <;> try cases ho
   rename_i x y e1
   split at ho <;> try cases ho
   rename_i k p l q ep eq
   split at ho <;> try cases ho
   rename_i hk
   subst hk
   have hx := evO_ok h hf x
   have hy := evO_ok h hf y
   rw [ep] at hx; rw [eq] at hy
   obtain ⟨ex, hx'⟩ := hx
   obtain ⟨ey, hy'⟩ := hy
   obtain ⟨E', u, v⟩ := mmA_ok (mx := false) h ⟨rfl, hx'⟩ ⟨rfl, hy'⟩
   refine ⟨_, fun w' => ?_, _, List.mem_cons_self .., E', u, v⟩
   simp only [execOp, resolve]
   rw [ar e1]
   simp only [List.map_cons, List.map_nil, ex, ey]
   show Result.ok (Next.value (Value.int k (if q.ev E.ρ < p.ev E.ρ then q.ev E.ρ else p.ev E.ρ))) w' = _
   congr 3
   simp only [Bool.false_eq_true, if_false]
   split
   ·rw [Int.min_eq_right (by omega)]
   ·rw [Int.min_eq_left (by omega)]
  case max =>
   dsimp only at ho
   split at ho <;> try cases ho
   rename_i x y e1
   split at ho <;> try cases ho
   rename_i k p l q ep eq
   split at ho <;> try cases ho
   rename_i hk
   subst hk
   have hx := evO_ok h hf x
   have hy := evO_ok h hf y
   rw [ep] at hx; rw [eq] at hy
   obtain ⟨ex, hx'⟩ := hx
   obtain ⟨ey, hy'⟩ := hy
   obtain ⟨E', u, v⟩ := mmA_ok (mx := true) h ⟨rfl, hx'⟩ ⟨rfl, hy'⟩
   refine ⟨_, fun w' => ?_, _, List.mem_cons_self .., E', u, v⟩
   simp only [execOp, resolve]
   rw [ar e1]
   simp only [List.map_cons, List.map_nil, ex, ey]
   show Result.ok (Next.value (Value.int k (if q.ev E.ρ > p.ev E.ρ then q.ev E.ρ else p.ev E.ρ))) w' = _
   congr 3
   simp only [if_true]
   split
   ·rw [Int.max_eq_right (by omega)]
   ·rw [Int.max_eq_left (by omega)]
/-- A block is opened before it is reached into. -/
def opnPtr (C : Cx) (st : St) : AV → List St
 | .ptr b _ => match openA C.HT st b with
  | some l => l
  | none => [st]
 | _ => [st]
theorem opnPtr_ok (h : M C.HT E st w) (a : AV) : ∃ s ∈ opnPtr C st a, ∃ E', Up C.HT E st w E' s := by
 unfold opnPtr
 split
 ·split
  ·rename_i l hl; exact open_ok h hl
  ·exact ⟨st, List.mem_cons_self .., E, Up.refl h⟩
 ·exact ⟨st, List.mem_cons_self .., E, Up.refl h⟩
def opnX : Op → Option Operand
 | .fieldAddr _ x _ => some x
 | .nilCheck x => some x
 | _ => none
def pureOp (C : Cx) (st : St) (fr : List AV) (o : Oper) : Option (List (AV × St)) :=
 match opnX o.op with
 | none => pureOp0 C st fr o
 | some x => (pureOp0 C st fr o).map fun outs => outs.flatMap fun p => (opnPtr C p.2 (evO st fr x)).map fun s => (p.1, s)
theorem pureOp_ok (hC : CxOk C) (h : M C.HT E st w) {fr : List AV} {a : Act} (hf : FrOk C.HT E fr a) {o : Oper} {outs : List (AV × St)} (ho : pureOp C st fr o = some outs) : PureOk C E st w (execOp a.eval o) outs := by
 unfold pureOp at ho
 split at ho
 ·exact pureOp0_ok hC h hf ho
 ·rename_i x hx
  cases h0 : pureOp0 C st fr o with
  | none => rw [h0] at ho; cases ho
  | some l =>
   rw [h0] at ho
   simp only [Option.map_some, Option.some.injEq] at ho
   subst ho
   obtain ⟨v, h1, r, h2, E1, u, h3⟩ := pureOp0_ok hC h hf h0
   obtain ⟨s, g1, E2, g2⟩ := opnPtr_ok u.m (evO st fr x)
   exact ⟨v, h1, (r.1, s), List.mem_flatMap.2 ⟨r, h2, List.mem_map.2 ⟨s, g1, rfl⟩⟩, E2, u.trans g2, V.ext C.HT g2.ext _ h3⟩
end
end Go.Proofs.YtbjhcjgniciooaaGreatDoor.E
namespace Go.Proofs.YtbjhcjgniciooaaGreatDoor.E
set_option linter.unusedVariables false
set_option linter.unusedSimpArgs false
/-! ### Cells -/
theorem cell_of {w : World} {b : Nat} {arr : Array Value} {e : TypeId} {f : Nat × Nat} (h : w.heap[b]? = some (.cells arr e f)) (o : Nat) : w.cell? ⟨b, o, none⟩ = arr[o]? := by
 unfold World.cell?; simp only [h]; rfl
theorem frozen_of {w : World} {b : Nat} {arr : Array Value} {e : TypeId} (h : w.heap[b]? = some (.cells arr e (0, 0))) (o : Nat) : w.frozen? ⟨b, o, none⟩ = false := by
 unfold World.frozen?; simp only [h]; simp
theorem setCell_same {w : World} {b : Nat} {arr : Array Value} {e : TypeId} {f : Nat × Nat} (h : w.heap[b]? = some (.cells arr e f)) (o : Nat) (v : Value) : (w.setCell ⟨b, o, none⟩ v).heap[b]? = some (.cells (arr.setIfInBounds o v) e f) := by
 unfold World.setCell
 simp only [Array.getElem?_modify, if_true, h, Option.map_some]
 rfl
theorem setCell_other {w : World} {b k : Nat} (o : Nat) (v : Value) (h : k ≠ b) : (w.setCell ⟨b, o, none⟩ v).heap[k]? = w.heap[k]? := by
 unfold World.setCell
 simp only [Array.getElem?_modify]
 rw [if_neg (Ne.symm h)]
def setArr (arr : Array Value) (o : Nat) : List Value → Array Value
 | [] => arr
 | v :: vs => setArr (arr.setIfInBounds o v) (o + 1) vs
theorem setArr_size : ∀ (vs : List Value) (arr : Array Value) (o : Nat), (setArr arr o vs).size = arr.size
 | [], _, _ => rfl
 | v :: vs, arr, o => by rw [setArr, setArr_size vs]; simp
/-- What many stores leave. -/
structure Stored (w w' : World) (b : Nat) (arr : Array Value) (e : TypeId) : Prop where
 os : w'.os = w.os
 tape : w'.tape = w.tape
 output : w'.output = w.output
 size : w'.heap.size = w.heap.size
 other : ∀ k, k ≠ b → w'.heap[k]? = w.heap[k]?
 same : w'.heap[b]? = some (.cells arr e (0, 0))
theorem run_stores (P : Program) (b : Nat) (e : TypeId) : ∀ (vs : List Value) (arr : Array Value) (o i : Nat) (w : World), w.heap[b]? = some (.cells arr e (0, 0)) → o + i + vs.length ≤ arr.size → (∀ v ∈ vs, v.oneCell' = true) →
  ∃ w', (storeCells ⟨b, o, none⟩ vs i).run P w = .ok () w' ∧ Stored w w' b (setArr arr (o + i) vs) e
 | [], arr, o, i, w, h, _, _ => ⟨w, rfl, rfl, rfl, rfl, rfl, fun _ _ => rfl, h⟩
 | v :: vs, arr, o, i, w, h, hl, h1 => by
  simp only [List.length_cons] at hl
  have hc : w.cell? ⟨b, o + i, none⟩ = some arr[o + i] := by rw [cell_of h, Array.getElem?_eq_getElem (by omega)]
  have st := setCell_same h (o + i) v
  obtain ⟨w', g1, g2⟩ := run_stores P b e vs (arr.setIfInBounds (o + i) v) o (i + 1) _ st (by simp; omega) (fun u hu => h1 u (List.mem_cons_of_mem _ hu))
  refine ⟨w', ?_, g2.os, g2.tape, g2.output, by rw [g2.size]; simp [World.setCell], fun k hk => (g2.other k hk).trans (setCell_other _ _ hk), g2.same⟩
  rw [storeCells, Sem.run_bind, add_addr, run_store P w _ v .plain (h1 v (List.mem_cons_self ..)), hc]
  simp only [frozen_of h, Bool.false_eq_true, if_false, Result.andThen_ok]
  exact g1
section
variable {C : Cx} {E : Env} {st : St} {w : World}
theorem setL_arr {HT : Th} : ∀ (xs : List AV) (vs : List Value) (cs : List AV) (arr : Array Value) (pre rest : List Value) (o : Nat), Vs HT E xs vs → Vs HT E cs pre → arr.toList = pre ++ rest → o + xs.length ≤ cs.length →
  ∃ pre', Vs HT E (setL cs o xs) pre' ∧ (setArr arr o vs).toList = pre' ++ rest
 | [], vs, cs, arr, pre, rest, o, hx, hc, ha, _ => by
  rw [show vs = [] from hx]; exact ⟨pre, hc, ha⟩
 | x :: xs, vs, cs, arr, pre, rest, o, hx, hc, ha, hl => by
  obtain ⟨v, r, rfl, h1, h2⟩ := hx
  simp only [List.length_cons] at hl
  have hp := hc.len
  have := setL_arr xs r (cs.set o x) (arr.setIfInBounds o v) (pre.set o v) rest (o + 1) h2 (hc.set o h1) (by
   rw [Array.toList_setIfInBounds, ha, List.set_append_left _ _ (by omega)]) (by simp; omega)
  exact this
/-- An open block of cells. -/
theorem M.cells {HT : Th} (h : M HT E st w) {b : Nat} {elem : TypeId} {cs : List AV} {full : Bool} {ty : Option Nat} (hb : st.bk.get b = some (.cells elem cs full ty)) :
  ∃ (arr : Array Value) (pre rest : List Value), w.heap[E.β b]? = some (.cells arr elem (0, 0)) ∧ arr.toList = pre ++ rest ∧ Vs HT E cs pre ∧ (full = true → rest = []) ∧ Own HT E (E.β b) ty ∧ b < E.n ∧ (ty = none → arr.size = E.κ b) := by
 obtain ⟨⟨arr, pre, rest, h1, h2, h3, h4, h5, h7⟩, h6⟩ := h.bk b _ hb
 exact ⟨arr, pre, rest, h1, h2, h3, h4, h5, h6, h7⟩
/-! ### A load from a block that is known -/
theorem load_core (hC : CxOk C) {t : TypeId} {k o : Nat} {elem : TypeId} {m : Nat × Nat} {cs : List AV} {arr : Array Value} {pre rest : List Value} (h1 : w.heap[k]? = some (.cells arr elem m)) (h2 : arr.toList = pre ++ rest) (h3 : Vs C.HT E cs pre) {r : AV} (hr : partA C t cs o = some r) :
  ∃ v, (∀ w', w'.heap[k]? = w.heap[k]? → (Instr.loadAt t (.pointer (some ⟨k, o, none⟩))).run C.P w' = .ok v w') ∧ V C.HT E r v := by
 have hp := h3.len
 have at_ : ∀ i, i < cs.length → arr[i]? = pre[i]? := fun i hi => by
  have : arr.toList[i]? = pre[i]? := by rw [h2, List.getElem?_append_left (by omega)]
  simpa using this
 unfold partA at hr
 split at hr <;> try cases hr
 rename_i d i hd hi
 split at hr
 ·rename_i hrow
  split at hr <;> try cases hr
  rename_i hlen
  have hv := (h3.drop o).take i.size
  refine ⟨.agg ((pre.drop o).take i.size).toArray, fun w' hw => ?_, _, rfl, by simpa using hv⟩
  have hsz : ((pre.drop o).take i.size).length = i.size := by simp; omega
  refine run_loadAt_mid (P := C.P) w' k o t ((pre.drop o).take i.size) d (fun j v hj => ?_) (hC.und hd) (by cases d <;> first | rfl | cases hrow) (by rw [hC.inf t i hi, hsz]; rfl)
  have hjl := (List.getElem?_eq_some_iff.1 hj).1
  rw [cell_of (hw.trans h1), at_ _ (by omega)]
  rw [List.getElem?_take_of_lt (by omega), List.getElem?_drop] at hj
  exact hj
 ·rename_i hrow
  have hlt := (List.getElem?_eq_some_iff.1 hr).1
  obtain ⟨v, g1, g2⟩ := h3.get hr
  refine ⟨v, fun w' hw => ?_, g2⟩
  unfold Instr.loadAt loadVar
  have hrow : isRow d = false := by simpa using hrow
  simp only [Instr.sureAddr, Sem.run_bind, Sem.run_pure, Result.andThen_ok, r_agg hC hd, hrow, Bool.false_eq_true, if_false]
  show (Sem.load .plain _ Sem.pure).run C.P w' = _
  simp only [Sem.run, cell_of (hw.trans h1), at_ _ hlt, g1]
theorem load_ok (hC : CxOk C) (h : M C.HT E st w) {t : TypeId} {b o : Nat} {elem : TypeId} {cs : List AV} {full : Bool} {ty : Option Nat} (hb : st.bk.get b = some (.cells elem cs full ty)) {r : AV} (hr : partA C t cs o = some r) :
  ∃ v, (∀ w', w'.heap[E.β b]? = w.heap[E.β b]? → (Instr.loadAt t (.pointer (some ⟨E.β b, o, none⟩))).run C.P w' = .ok v w') ∧ V C.HT E r v := by
 obtain ⟨arr, pre, rest, h1, h2, h3, _⟩ := h.cells hb
 exact load_core hC h1 h2 h3 hr
theorem loadF_ok (hC : CxOk C) (h : M C.HT E st w) {t : TypeId} {b o : Nat} {cs : List AV} (hb : st.bk.get b = some (.frz cs)) {r : AV} (hr : partA C t cs o = some r) :
  ∃ v, (∀ w', w'.heap[E.β b]? = w.heap[E.β b]? → (Instr.loadAt t (.pointer (some ⟨E.β b, o, none⟩))).run C.P w' = .ok v w') ∧ V C.HT E r v := by
 obtain ⟨⟨arr, e, m, h1, h2, _⟩, _⟩ := h.bk b _ hb
 exact load_core hC h1 (rest := []) (by simp) h2 hr
/-! ### A text's bytes as a row: marked, and read alone -/
def frzA (C : Cx) (st : St) (s d : TypeId) (a : AV) : Option (List (AV × St)) :=
 match C.und d with
 | some (.slice e) => match C.und e with
  | some (.int .u8) => if Nat.beq s d then match a with
   | .sl b o n c z => match st.bk.get b with
    | some (.cells _ cs true none) => some [(.sl b o n c z, st.put b (.frz cs))]
    | _ => none
   | _ => none
   else none
  | _ => none
 | _ => none
theorem frz_ok (hC : CxOk C) (h : M C.HT E st w) {r : World} (hr : Ref E st r w) {s d : TypeId} {a : AV} {outs : List (AV × St)} (ho : frzA C st s d a = some outs) {v : Value} (hv : V C.HT E a v) :
  ∃ v' w', (convert s d v).run C.P w = .ok v' w' ∧ ∃ o ∈ outs, ∃ E', Ext E E' ∧ M C.HT E' o.2 w' ∧ Ref E' o.2 r w' ∧ V C.HT E' o.1 v' := by
 unfold frzA at ho
 split at ho <;> try cases ho
 rename_i e hd
 split at ho <;> try cases ho
 rename_i he
 split at ho <;> try cases ho
 rename_i hsd
 have := Nat.eq_of_beq_eq_true hsd; subst this
 split at ho <;> try cases ho
 rename_i b o n c z
 split at ho <;> try cases ho
 rename_i el cs hb
 obtain ⟨arr, pre, rest, h1, h2, h3, h4, h5, h6, h7⟩ := h.cells hb
 have hrest := h4 rfl; subst hrest
 rw [List.append_nil] at h2
 obtain ⟨c', rfl, g1, g2, g3, g4⟩ := hv
 have hsh : w.shape? (E.β b) = some (el, arr.size) := by unfold World.shape?; rw [h1]
 let w' := w.freeze ⟨E.β b, arr.size, none⟩ 1
 have hw' : w' = { w with heap := w.heap.modify (E.β b) fun
   | .cells c elem (lo, hi) => .cells c elem (if lo == hi then (arr.size, arr.size + 1) else (min lo arr.size, max hi (arr.size + 1)))
   | o => o } := rfl
 have same : w'.heap[E.β b]? = some (.cells arr el (arr.size, arr.size + 1)) := by
  rw [hw']; simp only [Array.getElem?_modify, if_true, h1, Option.map_some]; rfl
 have other : ∀ k, k ≠ E.β b → w'.heap[k]? = w.heap[k]? := fun k hk => by
  rw [hw']; simp only [Array.getElem?_modify]; rw [if_neg (Ne.symm hk)]
 have size : w'.heap.size = w.heap.size := by rw [hw']; simp
 have run : (convert s s (.slice (some ⟨E.β b, o, none⟩) n c')).run C.P w = .ok (.slice (some ⟨E.β b, o, none⟩) n c') w' := by
  unfold convert
  simp only [Sem.run_bind, r_und hC hd, r_und hC he, Result.andThen_ok, beq_self_eq_true, markStringish]
  simp [hsh]
  rfl
 refine ⟨_, w', run, _, List.mem_cons_self .., E, Ext.refl E, h.put hb rfl rfl rfl other size ⟨arr, el, _, same, by rw [h2]; exact h3, h5⟩, hr.put h hb rfl rfl other size rfl rfl rfl, ⟨c', rfl, g1, g2, g3, g4⟩⟩
/-! ### A store into an open block -/
def storeA (C : Cx) (st : St) (t : TypeId) (b o : Nat) (a : AV) : Option St :=
 match st.bk.get b, avCells st a, C.inf t with
 | some (.cells elem cs full ty), some xs, some i => if xs.length = i.size ∧ o + xs.length ≤ cs.length then some (st.put b (.cells elem (setL cs o xs) full ty)) else none
 | _, _, _ => none
theorem store_ok (hC : CxOk C) (h : M C.HT E st w) {r : World} (hr : Ref E st r w) {t : TypeId} {b o : Nat} {a : AV} {st' : St} (hs : storeA C st t b o a = some st') {v : Value} (hv : V C.HT E a v) :
  ∃ w', (Instr.storeAt t (.pointer (some ⟨E.β b, o, none⟩)) v).run C.P w = .ok () w' ∧ M C.HT E st' w' ∧ Ref E st' r w' := by
 unfold storeA at hs
 split at hs <;> try cases hs
 rename_i elem cs full ty xs i hb hx hi
 split at hs <;> try cases hs
 rename_i hl
 obtain ⟨arr, pre, rest, h1, h2, h3, h4, h5, h6, h7⟩ := h.cells hb
 obtain ⟨hxs, hone⟩ := avCells_ok h hv hx
 have hp := h3.len
 have hxl := hxs.len
 have hsz : arr.size = pre.length + rest.length := by rw [← Array.length_toList, h2, List.length_append]
 obtain ⟨w', g1, g2⟩ := run_stores C.P (E.β b) elem v.cells.toList arr o 0 w h1 (by omega) hone
 rw [Nat.add_zero] at g2
 obtain ⟨pre', q1, q2⟩ := setL_arr xs v.cells.toList cs arr pre rest o hxs h3 h2 hl.2
 refine ⟨w', ?_, ?_, ?_⟩
 ·unfold Instr.storeAt storeVar
  simp only [Instr.sureAddr, Sem.run_bind, Sem.run_pure, Result.andThen_ok, r_size hC hi]
  rw [if_neg (by rw [← hl.1, hxl]; simp)]
  exact g1
 ·exact h.put hb rfl rfl rfl g2.other g2.size ⟨_, pre', rest, g2.same, q2, q1, h4, h5, by rw [setArr_size]; exact h7⟩
 ·exact hr.put h hb rfl rfl g2.other g2.size g2.os g2.tape g2.output
/-! ### New blocks -/
theorem new_ok (h : M C.HT E st w) {r : World} (hr : Ref E st r w) {t : TypeId} {cs : List AV} {arr : Array Value} (hv : Vs C.HT E cs arr.toList) :
  ∃ E', Ext E E' ∧ M C.HT E' (st.newB (.cells t cs true none)) (w.alloc (.cells arr t)) ∧ Ref E' (st.newB (.cells t cs true none)) r (w.alloc (.cells arr t)) ∧ E'.β st.nx = w.heap.size ∧ st.nx < E'.n ∧ E'.κ st.nx = arr.size := by
 have e := E.frc_ext 0 (.bool false) w.heap.size arr.size
 have hn : (E.frc 0 (.bool false) w.heap.size arr.size).β st.nx = w.heap.size := by rw [← h.nx]; simp
 refine ⟨_, e, h.newB (.cells arr t) _ e rfl (E.frc_sam _ _ _ _) (by simp) ?_ (fun _ _ _ _ hh => by cases hh), ?_, hn, by rw [← h.nx]; exact Nat.lt_succ_self _, by rw [← h.nx]; simp⟩
 ·refine ⟨arr, arr.toList, [], ?_, by simp, Vs.ext C.HT e _ hv, fun _ => rfl, ?_, by simp⟩
  ·rw [Env.frc_β]; exact heap_alloc_new w _
  ·rw [Env.frc_β]; exact h.newPrv
 ·exact ((hr.ext e rfl rfl h.md).alloc _).st rfl rfl
def boxA (st : St) (t : TypeId) (a : AV) : Option (AV × St) :=
 match avCells st a with
 | some cs => some (.ptr st.nx 0, st.newB (.cells t cs true none))
 | none => none
/-- What an operation does that may write. -/
def DoesV (C : Cx) (E : Env) (st : St) (r w : World) (s : Sem Value) (outs : List (AV × St)) : Prop :=
 ∃ v w', s.run C.P w = .ok v w' ∧ ∃ o ∈ outs, ∃ E', Ext E E' ∧ M C.HT E' o.2 w' ∧ Ref E' o.2 r w' ∧ V C.HT E' o.1 v
theorem box_ok (hC : CxOk C) (h : M C.HT E st w) {r : World} (hr : Ref E st r w) {t : TypeId} {a : AV} {o : AV × St} (ho : boxA st t a = some o) {v : Value} (hv : V C.HT E a v) : DoesV C E st r w (Instr.box t v) [o] := by
 unfold boxA at ho
 split at ho <;> try cases ho
 rename_i cs hc
 obtain ⟨h1, _⟩ := avCells_ok h hv hc
 obtain ⟨E', e, m, rf, hn, hl, _⟩ := new_ok h hr (t := t) h1
 exact ⟨.pointer (some ⟨w.heap.size, 0, none⟩), _, rfl, _, List.mem_cons_self .., E', e, m, rf, by rw [← hn]; exact ⟨rfl, hl⟩⟩
def allocA (C : Cx) (st : St) (t : TypeId) : Option (AV × St) :=
 match zeroA C t with
 | some cs => some (.ptr st.nx 0, st.newB (.cells t cs true none))
 | none => none
theorem alloc_ok (hC : CxOk C) (h : M C.HT E st w) {r : World} (hr : Ref E st r w) {t : TypeId} {o : AV × St} (ho : allocA C st t = some o) : DoesV C E st r w (Instr.alloc t true (.tuple #[])) [o] := by
 unfold allocA at ho
 split at ho <;> try cases ho
 rename_i cs hc
 obtain ⟨z, hz, hv⟩ := zeroA_ok (E := E) hC hc
 obtain ⟨E', e, m, rf, hn, hl, _⟩ := new_ok h hr (t := t) hv
 refine ⟨.pointer (some ⟨w.heap.size, 0, none⟩), _, ?_, _, List.mem_cons_self .., E', e, m, rf, by rw [← hn]; exact ⟨rfl, hl⟩⟩
 unfold Instr.alloc
 rw [Sem.run_bind, hz w]
 rfl
end
end Go.Proofs.YtbjhcjgniciooaaGreatDoor.E
namespace Go.Proofs.YtbjhcjgniciooaaGreatDoor.E
set_option linter.unusedVariables false
set_option linter.unusedSimpArgs false
section
variable {C : Cx} {E : Env} {st : St} {w : World}
/-! ### Rows of zeros -/
def zerosA (z : List AV) (n : Nat) : List AV := (List.range n).map fun j => z.getD (j % z.length) .top
theorem zeros_ok {HT : Th} {z : List AV} {zv : Array Value} (h : Vs HT E z zv.toList) (n : Nat) : Vs HT E (zerosA z n) ((Array.range n).map (zv[· % zv.size]!)).toList := by
 have hl := h.len
 have hl' : z.length = zv.size := by rw [hl]; simp
 rw [Array.toList_map, Array.toList_range]
 unfold zerosA
 rw [Vs_iff]
 refine ⟨by simp, fun i a v ha hv => ?_⟩
 simp only [List.getElem?_map, Option.map_eq_some_iff] at ha hv
 obtain ⟨j, hj, rfl⟩ := ha
 obtain ⟨j', hj', rfl⟩ := hv
 rw [hj] at hj'
 injection hj' with hj'
 subst hj'
 rw [hl']
 cases hz : z[j % zv.size]? with
 | none => rw [List.getD_eq_getElem?_getD, hz]; trivial
 | some a =>
  obtain ⟨v, h1, h2⟩ := h.get hz
  rw [List.getD_eq_getElem?_getD, hz]
  have h1 : zv[j % zv.size]? = some v := by simpa using h1
  rw [getElem!_def, h1]
  exact h2
theorem zarr_of {HT : Th} {z : List AV} {zv : Array Value} (h : Vs HT E z zv.toList) (n : Nat) : ∃ zarr : Array Value, (n = 0 → zarr = #[]) ∧ (n ≠ 0 → zarr = zv) ∧ Vs HT E (if n = 0 then [] else zerosA z n) ((Array.range n).map (zarr[· % zarr.size]!)).toList := by
 by_cases h0 : n = 0
 ·subst h0
  exact ⟨#[], fun _ => rfl, fun h => absurd rfl h, by simp [Vs]⟩
 ·exact ⟨zv, fun h => absurd h h0, fun _ => rfl, by rw [if_neg h0]; exact zeros_ok h n⟩
def buildSliceA (C : Cx) (st : St) (t : TypeId) (len : Nat) (parts : List (Nat × AV)) : Option (AV × St) :=
 match C.und t with
 | some (.slice el) => match C.inf el, zeroA C el with
  | some ti, some z =>
   if len * ti.size ≤ 100000 then
    match fillA st (fun i => some (i * ti.size, ti.size)) (if len * ti.size = 0 then [] else zerosA z (len * ti.size)) parts with
    | some cs => some (.sl st.nx 0 len (some len) ti.size, st.newB (.cells el cs true none))
    | none => none
   else none
  | _, _ => none
 | _ => none
theorem fill_size : ∀ {place : Nat → Option (Nat × Nat)} {cells : Array Value} {ps : List (Nat × Value)} {r : Array Value}, Instr.fill place cells ps = some r → r.size = cells.size
 | place, cells, [], r, h => by injection h with h; rw [h]
 | place, cells, (i, v) :: rest, r, h => by
  unfold Instr.fill at h
  split at h
  ·cases h
  ·split at h
   ·cases h
   ·rw [fill_size h]
    generalize v.cells.zipIdx = l
    rename_i off size _ hcond
    rw [← Array.foldl_toList]
    generalize l.toList = l
    clear h hcond
    induction l generalizing cells with
    | nil => rfl
    | cons p l ih => rw [List.foldl_cons, ih]; simp
theorem buildSlice_ok (hC : CxOk C) (h : M C.HT E st w) {r : World} (hr : Ref E st r w) {t : TypeId} {len : Nat} {parts : List (Nat × AV)} {o : AV × St} (ho : buildSliceA C st t len parts = some o) {vparts : Array (Nat × Value)} (he : parts.map (·.1) = vparts.toList.map (·.1)) (hv : Vs C.HT E (parts.map (·.2)) (vparts.toList.map (·.2))) :
  DoesV C E st r w (Instr.buildSlice t len vparts) [o] := by
 unfold buildSliceA at ho
 split at ho <;> try cases ho
 rename_i el hd
 split at ho <;> try cases ho
 rename_i ti z hti hz
 split at ho <;> try cases ho
 rename_i hsz
 split at ho <;> try cases ho
 rename_i cs hf
 obtain ⟨zv, hz1, hz2⟩ := zeroA_ok (E := E) hC hz
 obtain ⟨zarr, hzr, hzr2, hzv⟩ := zarr_of hz2 (len * ti.size)
 obtain ⟨res, g1, g2⟩ := fillA_ok h hf hzv he hv
 have hrs := fill_size g1
 obtain ⟨E', e, m, rf, hn, hl, hk⟩ := new_ok h hr (t := el) g2
 refine ⟨.slice (some ⟨w.heap.size, 0, none⟩) len len, _, ?_, _, List.mem_cons_self .., E', e, m, rf, len, by rw [hn], Nat.le_refl _, fun c' hc' => (by injection hc'), hl, ?_⟩
 ·unfold Instr.buildSlice
  simp only [Sem.run_bind, r_und hC hd, Result.andThen_ok, r_size hC hti]
  rw [if_neg (by omega)]
  by_cases h0 : len * ti.size = 0
  ·rw [if_pos h0]
   rw [hzr h0] at g1
   simp only [Sem.run_bind, Sem.run_pure, Result.andThen_ok, g1]
   rfl
  ·rw [if_neg h0]
   rw [hzr2 h0] at g1
   simp only [Sem.run_bind, Sem.run_pure, Result.andThen_ok, hz1, g1]
   rfl
 ·rw [hk, hrs]; simp
/-! ### make of a slice -/
def makeSliceA (C : Cx) (st : St) (t : TypeId) (l c : AV) : Option (AV × St) :=
 match l, c with
 | .int .i64 l, .int .i64 c => match cN l, cN c with
  | some l, some c => match C.und t with
   | some (.slice el) => match C.inf el, zeroA C el with
    | some ti, some z =>
     if l ≤ c ∧ c ≤ 100000 ∧ ti.bytes ≤ 100000 ∧ ti.size ≤ 1000 then
      some (.sl st.nx 0 l (some c) ti.size, st.newB (.cells el (if c * ti.size = 0 then [] else zerosA z (c * ti.size)) true none))
     else none
    | _, _ => none
   | _ => none
  | _, _ => none
 | _, _ => none
theorem wrap_small (c : Nat) (h : c ≤ 100000) : IntKind.i64.wrap (c : Int) = c := by
 have h1 : (100000 : Int) ≤ IntKind.i64.max := by decide
 have h2 := min_nonpos .i64
 exact wrap_in .i64 _ (by omega) (by omega)
theorem run_askRoom {P : Program} (n : Nat) (w' : World) : (askRoom n).run P w' = .ok () w' := by
 unfold askRoom
 split <;> rfl
theorem makeSlice_ok (hC : CxOk C) (h : M C.HT E st w) {r : World} (hr : Ref E st r w) {t : TypeId} {l c : AV} {o : AV × St} (ho : makeSliceA C st t l c = some o) {vl vc : Value} (hl : V C.HT E l vl) (hc : V C.HT E c vc) :
  DoesV C E st r w (Instr.makeSlice t vl vc) [o] := by
 unfold makeSliceA at ho
 split at ho <;> try cases ho
 rename_i l c
 split at ho <;> try cases ho
 rename_i ln cn hln hcn
 split at ho <;> try cases ho
 rename_i el hd
 split at ho <;> try cases ho
 rename_i ti z hti hz
 split at ho <;> try cases ho
 rename_i hb
 obtain ⟨el1, _⟩ := hl
 obtain ⟨ec1, _⟩ := hc
 subst el1; subst ec1
 rw [cN_ok hln, cN_ok hcn]
 obtain ⟨zv, hz1, hz2⟩ := zeroA_ok (E := E) hC hz
 obtain ⟨zarr, hzr, hzr2, hzv⟩ := zarr_of hz2 (cn * ti.size)
 obtain ⟨E', e, m, rf, hn, hlt, hk⟩ := new_ok h hr (t := el) hzv
 refine ⟨.slice (some ⟨w.heap.size, 0, none⟩) ln cn, _, ?_, _, List.mem_cons_self .., E', e, m, rf, cn, by rw [hn], hb.1, fun c' hc' => (by injection hc'), hlt, ?_⟩
 ·unfold Instr.makeSlice
  have e1 := wrap_small cn hb.2.1
  have e2 := wrap_small ln (by omega)
  simp only [Sem.run_bind, r_und hC hd, Result.andThen_ok, asInt, asIntOf, Sem.run_pure, r_info hC hti, e1, e2]
  have c1 : (decide ((cn : Int) < 0) || decide ((ti.bytes : Int) * (cn : Int) > 2 ^ 48)) = false := by
   have : (ti.bytes : Int) * cn ≤ 100000 * 100000 := Int.mul_le_mul (by omega) (by omega) (by omega) (by omega)
   simp only [Bool.or_eq_false_iff, decide_eq_false_iff_not]
   omega
  have c2 : ((decide ((cn : Int) < 0) || decide ((ti.bytes : Int) * (cn : Int) > 2 ^ 48)) || decide ((ln : Int) < 0) || decide ((ln : Int) > (cn : Int))) = false := by
   rw [c1]; simp; omega
  rw [c2]
  simp only [Bool.false_eq_true, if_false, Sem.run_bind, run_askRoom, Result.andThen_ok, r_size hC hti, Int.toNat_natCast]
  by_cases h0 : cn * ti.size = 0
  ·rw [if_pos h0, hzr h0]
   rfl
  ·rw [if_neg h0, hzr2 h0]
   simp only [Sem.run_bind, hz1, Result.andThen_ok]
   rfl
 ·rw [hk]; simp
end
end Go.Proofs.YtbjhcjgniciooaaGreatDoor.E
