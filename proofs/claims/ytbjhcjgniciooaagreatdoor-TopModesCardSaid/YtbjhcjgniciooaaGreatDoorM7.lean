/- TopModes: a part of the proof, merged. -/
import Derived.OrdersHeld
import Derived.Test.YtbjhcjgniciooaaGreatDoorM6
namespace Go.Proofs.YtbjhcjgniciooaaGreatDoor.E
set_option linter.unusedVariables false
set_option linter.unusedSimpArgs false
section
variable {C : Cx} {E : Env} {st : St} {w : World}
/-! ### Maps of a kind -/
def keyCT (kd : TypeDesc) (kc : CT) (k : AV) : Bool :=
 match kd, kc, k with
 | .int _, .int a _ _, .int b _ => a == b
 | .string, .str _ _, k => (slen k).isSome
 | _, _, _ => false
theorem keyV {HT : Th} {kd : TypeDesc} {kc : CT} {k : AV} (h : keyCT kd kc k = true) {kv : Value} (hk : V HT E k kv) {u : Value} (hu : VT HT E kc u) : ∃ b, Instr.sameNow kd kv u = some b ∧ (b = true → Instr.sameBits 10000 u kv = true) := by
 unfold keyCT at h
 split at h <;> try cases h
 ·rename_i k0 a lo hi b e
  have := eq_of_beq h; subst this
  obtain ⟨rfl, _⟩ := hk
  obtain ⟨n, rfl, _⟩ := hu
  refine ⟨e.ev E.ρ == n, by simp [Instr.sameNow], fun hb => ?_⟩
  have := eq_of_beq hb
  simp [Instr.sameBits, this]
 ·obtain ⟨n, hn⟩ := Option.isSome_iff_exists.1 h
  obtain ⟨s, rfl, _⟩ := slen_ok hk hn
  obtain ⟨t, rfl, _⟩ := hu
  refine ⟨s == t, by simp [Instr.sameNow], fun hb => ?_⟩
  have : s.toList = t.toList := by rw [beq_toListBytes] at hb; exact eq_of_beq hb
  simp only [Instr.sameBits]
  rw [beq_toListBytes, this]; simp
theorem findT {HT : Th} {kd : TypeDesc} {kc : CT} {k : AV} (h : keyCT kd kc k = true) {kv : Value} (hk : V HT E k kv) : ∀ (ents : List MapEntry) (i : Nat), (∀ e ∈ ents, VT HT E kc e.key) →
  ∃ r, Instr.findNow kd kv ents i = some r ∧ ∀ j v, r = some (j, v) → i ≤ j ∧ ∃ e, ents[j - i]? = some e ∧ v = e.val ∧ Instr.sameBits 10000 e.key kv = true
 | [], i, _ => ⟨none, rfl, fun _ _ h => by cases h⟩
 | e :: es, i, hv => by
  obtain ⟨b, h1, h2⟩ := keyV h hk (hv e (List.mem_cons_self ..))
  cases b with
  | true => exact ⟨some (i, e.val), by simp only [Instr.findNow, h1], fun j v hj => by injection hj with hj; injection hj with e1 e2; subst e1; subst e2; exact ⟨Nat.le_refl _, e, by simp, rfl, h2 rfl⟩⟩
  | false =>
   obtain ⟨r, g1, g2⟩ := findT h hk es (i + 1) (fun e he => hv e (List.mem_cons_of_mem _ he))
   refine ⟨r, by simp only [Instr.findNow, h1]; exact g1, fun j v hj => ?_⟩
   obtain ⟨k1, e', k2, k3, k4⟩ := g2 j v hj
   refine ⟨by omega, e', ?_, k3, k4⟩
   rw [show j - i = (j - (i + 1)) + 1 by omega, List.getElem?_cons_succ]; exact k2
theorem M.mapAt {HT : Th} (h : M HT E st w) {τ k n : Nat} {kt vt : CT} (hty : HT τ = .map kt vt) (hf : τ ∈ st.fp) (hno : ∀ p ∈ st.op, p.2 ≠ τ) (hs : E.S k = some (τ, n)) :
  ∃ ents clock, w.heap[k]? = some (.map ents clock) ∧ ∀ e ∈ ents.toList, VT HT E kt e.key ∧ VT HT E vt e.val := by
 rcases h.heap k τ n hs hf with ⟨b, hb, _⟩ | hk
 ·exact absurd rfl (hno _ hb)
 ·unfold HOk at hk
  rw [hty] at hk
  exact hk
/-- Is what is told where there is none of the kind? -/
def zIn : CT → AV → Bool
 | .int k lo hi, .int k' e => k == k' && e.ts.isEmpty && decide (lo ≤ e.c) && decide (e.c ≤ hi)
 | .bool, .bool _ => true
 | _, _ => false
theorem zIn_ok {HT : Th} {E : Env} {t : CT} {a : AV} (h : zIn t a = true) {v : Value} (hv : V HT E a v) : VT HT E t v := by
 unfold zIn at h
 split at h
 ·rename_i k lo hi k' e
  simp only [Bool.and_eq_true, decide_eq_true_eq, beq_iff_eq] at h
  obtain ⟨⟨⟨rfl, h2⟩, h3⟩, h4⟩ := h
  obtain ⟨rfl, _, h5, h6⟩ := hv
  have : e.ev E.ρ = e.c := by
   unfold Lin.ev
   rw [List.isEmpty_iff.1 h2]; simp [Lin.evT]
  exact ⟨_, rfl, by omega, by omega, h5, h6⟩
 ·exact ⟨_, hv⟩
 ·cases h
def lookupT (C : Cx) (st : St) (t : TypeId) (m k : AV) (ok : Bool) : Option (List (AV × St)) :=
 match C.und t, m with
 | some (.map kt et), .map b => match C.und kt, zeroV C et, st.bk.get b with
  | some kd, some z, some (.sealed τ) => match C.HT τ with
   | .map kc vc => if keyKind kd && keyCT kd kc k && hasFp st τ && noOp st τ then some (if !ok && zIn vc z then [(lookRes ok (inst vc st).1 true, (inst vc st).2)] else [(lookRes ok z false, st), (lookRes ok (inst vc st).1 true, (inst vc st).2)]) else none
   | _ => none
  | _, _, _ => none
 | _, _ => none
theorem lookupT_ok (hC : CxOk C) (h : M C.HT E st w) {t : TypeId} {m k : AV} {ok : Bool} {outs : List (AV × St)} (ho : lookupT C st t m k ok = some outs) {vm vk : Value} (hm : V C.HT E m vm) (hk : V C.HT E k vk) :
  ∃ v, (Instr.lookup t vm vk ok).run C.P w = .ok v w ∧ ∃ o ∈ outs, ∃ E', Up C.HT E st w E' o.2 ∧ V C.HT E' o.1 v := by
 unfold lookupT at ho
 split at ho <;> try cases ho
 rename_i kt et b hd
 split at ho <;> try cases ho
 rename_i kd z τ hkd hz hb
 split at ho <;> try cases ho
 rename_i kc vc hty
 split at ho <;> try cases ho
 rename_i hc
 simp only [Bool.and_eq_true] at hc
 obtain ⟨⟨⟨c1, c2⟩, c3⟩, c4⟩ := hc
 obtain ⟨⟨n, hs, _⟩, _⟩ := h.bk b _ hb
 obtain ⟨ents, clock, h1, h2⟩ := h.mapAt hty (hasFp_ok c3) (noOp_ok c4) hs
 obtain ⟨zv, hz1, hz2⟩ := zeroV_ok (E := E) hC hz
 obtain ⟨em, _⟩ := hm
 subst em
 obtain ⟨r, g1, g2⟩ := findT c2 hk ents.toList 0 (fun e he => (h2 e he).1)
 have run : (Instr.lookup t (.map (some (E.β b))) vk ok).run C.P w = .ok (if ok then .tuple #[(match r with | some (_, v) => v | none => zv), .bool r.isSome] else (match r with | some (_, v) => v | none => zv)) w := by
  unfold Instr.lookup
  simp only [Sem.run_bind, r_und hC hd, Result.andThen_ok]
  have : (getObj (E.β b)).run C.P w = .ok (.map ents clock) w := by
   unfold getObj
   simp only [Sem.run, h1]
  cases r with
  | none => simp only [this, Result.andThen_ok, Sem.run_pure, Sem.run_bind, r_checkKey hC hkd c1, r_findKey hC hkd g1, hz1]; rfl
  | some p => obtain ⟨i, v⟩ := p; simp only [this, Result.andThen_ok, Sem.run_pure, Sem.run_bind, r_checkKey hC hkd c1, r_findKey hC hkd g1]; rfl
 cases r with
 | none =>
  split
  ·rename_i hz0
   simp only [Bool.and_eq_true, Bool.not_eq_true'] at hz0
   obtain ⟨hok, hz0⟩ := hz0
   subst hok
   obtain ⟨E1, u1, v1⟩ := inst_ok vc h (zIn_ok hz0 hz2)
   exact ⟨_, run, _, List.mem_cons_self .., E1, u1, v1⟩
  ·exact ⟨_, run, _, List.mem_cons_self .., E, Up.refl h, lookRes_ok false hz2⟩
 | some p =>
  obtain ⟨j, v⟩ := p
  obtain ⟨_, e, k2, k3, _⟩ := g2 j v rfl
  have hm : e ∈ ents.toList := List.mem_of_getElem? k2
  obtain ⟨E1, u1, v1⟩ := inst_ok vc h (h2 e hm).2
  rw [← k3] at v1
  refine ⟨_, run, (lookRes ok (inst vc st).1 true, (inst vc st).2), ?_, E1, u1, lookRes_ok true v1⟩
  split
  ·exact List.mem_cons_self ..
  ·exact List.mem_cons_of_mem _ (List.mem_cons_self ..)
def mapUpdT (C : Cx) (st : St) (t : TypeId) (m k v : AV) : Option St :=
 match C.und t, m with
 | some (.map kt _), .map b => match C.und kt, st.bk.get b with
  | some kd, some (.sealed τ) => match C.HT τ with
   | .map kc vc => if keyKind kd && keyCT kd kc k then match conf C.HT cfuel kc k st with
    | some s1 => match conf C.HT cfuel vc v s1 with
     | some s2 => if hasFp s2 τ && noOp s2 τ then some (s2.tch τ) else none
     | none => none
    | none => none
    else none
   | _ => none
  | _, _ => none
 | _, _ => none
theorem mapUpdT_ok (hC : CxOk C) (h : M C.HT E st w) {r : World} (hr : Ref E st r w) {t : TypeId} {m k v : AV} {st' : St} (ho : mapUpdT C st t m k v = some st') {vm vk vv : Value} (hm : V C.HT E m vm) (hk : V C.HT E k vk) (hv : V C.HT E v vv) :
  ∃ w', (Instr.mapUpdate t vm vk vv).run C.P w = .ok () w' ∧ ∃ E', Ext E E' ∧ M C.HT E' st' w' ∧ Ref E' st' r w' := by
 unfold mapUpdT at ho
 split at ho <;> try cases ho
 rename_i kt et b hd
 split at ho <;> try cases ho
 rename_i kd τ hkd hb
 split at ho <;> try cases ho
 rename_i kc vc hty
 split at ho <;> try cases ho
 rename_i hc
 simp only [Bool.and_eq_true] at hc
 obtain ⟨c1, c2⟩ := hc
 split at ho <;> try cases ho
 rename_i s1 hs1
 split at ho <;> try cases ho
 rename_i s2 hs2
 split at ho <;> try cases ho
 rename_i hc
 simp only [Bool.and_eq_true] at hc
 obtain ⟨E1, p1, v1⟩ := conf_ok _ _ _ _ _ hs1 E w h
 obtain ⟨E2, p2, v2⟩ := conf_ok _ _ _ _ _ hs2 E1 w p1.m
 have p := p1.trans p2
 obtain ⟨⟨n, hs, _⟩, hbn⟩ := h.bk b _ hb
 have hs2 := p.ext.S _ _ hs
 obtain ⟨ents, clock, h1, h2⟩ := p.m.mapAt hty (hasFp_ok hc.1) (noOp_ok hc.2) hs2
 obtain ⟨em, _⟩ := hm
 subst em
 have tk := VT.ext C.HT p2.ext _ (v1 _ hk)
 have tv := v2 _ (V.ext C.HT p1.ext _ hv)
 obtain ⟨r', g1, g2⟩ := findT c2 (V.ext C.HT p.ext _ hk) ents.toList 0 (fun e he => (h2 e he).1)
 have getO : (getObj (E.β b)).run C.P w = .ok (.map ents clock) w := by
  unfold getObj
  simp only [Sem.run, h1]
 have set0 : ∀ o', (setObj (E.β b) o').run C.P w = .ok () { w with heap := w.heap.setIfInBounds (E.β b) o' } := fun o' => setObj_run h1 (fun _ _ _ e => by cases e)
 have fin : ∀ (ents' : Array MapEntry) (c' : Nat), (∀ e ∈ ents'.toList, VT C.HT E2 kc e.key ∧ VT C.HT E2 vc e.val) → (Instr.mapUpdate t (.map (some (E.β b))) vk vv).run C.P w = .ok () { w with heap := w.heap.setIfInBounds (E.β b) (.map ents' c') } →
   ∃ w', (Instr.mapUpdate t (.map (some (E.β b))) vk vv).run C.P w = .ok () w' ∧ ∃ E', Ext E E' ∧ M C.HT E' (s2.tch τ) w' ∧ Ref E' (s2.tch τ) r w' := fun ents' c' he run => by
  have same := setObj_same (o' := .map ents' c') h1
  have other : ∀ i, i ≠ E.β b → ({ w with heap := w.heap.setIfInBounds (E.β b) (.map ents' c') } : World).heap[i]? = w.heap[i]? := fun i hi => setObj_other hi
  have ok : HOk C.HT E2 { w with heap := w.heap.setIfInBounds (E.β b) (.map ents' c') } (E.β b) τ n := by
   unfold HOk
   rw [show C.HT τ = _ from hty]
   exact ⟨ents', c', same, he⟩
  exact ⟨_, run, E2, p.ext, p.m.typPut (by rw [show C.HT τ = _ from hty]; rfl) (noOp_ok hc.2) hs2 other (by simp) ok, (p.ref r hr).typPut p.m hs2 other (by simp) rfl rfl rfl⟩
 cases r' with
 | none =>
  refine fin (ents.push { key := vk, val := vv, born := clock }) (clock + 1) (fun e he => ?_) ?_
  ·rw [Array.toList_push] at he
   rcases List.mem_append.1 he with he | he
   ·exact h2 e he
   ·rw [List.mem_singleton.1 he]; exact ⟨tk, tv⟩
  ·unfold Instr.mapUpdate
   simp only [Sem.run_bind, r_und hC hd, Result.andThen_ok, getO, r_checkKey hC hkd c1, r_findKey hC hkd g1, set0]
 | some q =>
  obtain ⟨j, v'⟩ := q
  obtain ⟨_, e, k2, k3, k4⟩ := g2 j v' rfl
  have k2 : ents[j]? = some e := by simpa using k2
  refine fin (ents.modify j fun e => { e with key := vk, val := vv }) clock (fun e' he => ?_) ?_
  ·rw [Array.toList_modify] at he
   have : ents.toList.modify j (fun e => { e with key := vk, val := vv }) = ents.toList.set j { e with key := vk, val := vv } := by
    rw [List.modify_eq_set, show ents.toList[j]? = some e by simpa using k2]; rfl
   rw [this] at he
   rcases List.mem_or_eq_of_mem_set he with he | he
   ·exact h2 e' he
   ·rw [he]; exact ⟨tk, tv⟩
  ·unfold Instr.mapUpdate
   simp only [Sem.run_bind, r_und hC hd, Result.andThen_ok, getO, r_checkKey hC hkd c1, r_findKey hC hkd g1, Nat.zero_add, Instr.keyThatStays, k2, Option.map_some, Option.getD_some]
   rw [if_pos k4]
   simp only [Sem.run_pure, Result.andThen_ok, set0]
/-! ### A block that is shut: others of its kind are shut, it is opened -/
def opnS (HT : Th) (st : St) (b : Nat) : Option (List St) :=
 match st.bk.get b with
 | some (.sealed τ) => match sealK HT (Nat.beq τ) sfuel st with
  | some s => openA HT s b
  | none => none
 | _ => none
theorem opnS_ok {HT : Th} (h : M HT E st w) {b : Nat} {l : List St} (ho : opnS HT st b = some l) : ∃ s ∈ l, ∃ E', Pb HT E st w E' s := by
 unfold opnS at ho
 split at ho <;> try cases ho
 split at ho <;> try cases ho
 rename_i s hs
 obtain ⟨⟨E1, p1⟩, _⟩ := sealK_ok _ hs h
 obtain ⟨s2, h1, E2, u⟩ := open_ok p1.m ho
 exact ⟨s2, h1, E2, p1.trans (u.pb p1.m)⟩
def loadS (C : Cx) (st : St) (t : TypeId) (b o : Nat) : Outs :=
 match opnS C.HT st b with
 | some l => bindO (fun s => match s.bk.get b with
  | some (.cells _ cs _ _) => (partA C t cs o).map fun a => [(a, s)]
  | _ => none) l
 | none => none
def storeS (C : Cx) (st : St) (t : TypeId) (b o : Nat) (a : AV) : Outs :=
 match opnS C.HT st b with
 | some l => bindO (fun s => (storeA C s t b o a).map fun s' => [(.top, s')]) l
 | none => none
def isCL : Option AV → Bool
 | none => true
 | some (.int _ e) => e.ts.isEmpty
 | _ => false
/-- A slice of one's own, told by its kind. -/
def toT (C : Cx) (t : TypeId) (a : AV) (st : St) : Option (AV × St) :=
 match rowOf C t, a with
 | some (_, _, _, τ, _), .sl b o n c z => match conf C.HT cfuel (.sl τ 0 bigD) (.sl b o n c z) st with
  | some s => some (.tsl τ (.k n), s)
  | none => none
 | _, _ => none
theorem toT_ok {HT : Th} (h : M C.HT E st w) {t : TypeId} {a a' : AV} {s : St} (ho : toT C t a st = some (a', s)) {v : Value} (hv : V C.HT E a v) : ∃ E', Pb C.HT E st w E' s ∧ V C.HT E' a' v := by
 unfold toT at ho
 split at ho <;> try cases ho
 rename_i τ ct b o n c z hr
 split at ho <;> try cases ho
 rename_i hs
 obtain ⟨E1, p1, v1⟩ := conf_ok _ _ _ _ _ hs E w h
 obtain ⟨ad, m, c', e, _, so⟩ := slVal (v1 _ hv)
 obtain ⟨c2, e2, _⟩ := hv
 rw [e2] at e; injection e with e3 e4 e5
 subst e3; subst e4; subst e5
 exact ⟨E1, p1, by rw [e2]; exact tslV so (by rw [Lin.ev_k]) (below_k _ _)⟩
/-- A small number that is not known: each one. -/
def idxAt (C : Cx) (st : St) (t : TypeId) (a : AV) (k : IntKind) (e : Lin) (j : Nat) : Outs :=
 match st.assume (.eq (e.addk (-(j : Int)))) with
 | some s => one1 s (indexAddrA C s t a (.int k (.k j)))
 | none => some []
def splitIdx (C : Cx) (st : St) (t : TypeId) (a i : AV) : Outs :=
 match i with
 | .int k e => if st.ge e && st.ge ((Lin.k 7).sub e) then bindO (idxAt C st t a k e) [0, 1, 2, 3, 4, 5, 6, 7] else none
 | _ => none
theorem splitIdx_ok (hC : CxOk C) (h : M C.HT E st w) {t : TypeId} {a i : AV} {outs : List (AV × St)} (ho : splitIdx C st t a i = some outs) {x y : Value} (ha : V C.HT E a x) (hi : V C.HT E i y) :
  ∃ v, (∀ w', (Instr.indexAt t x y).run C.P w' = .ok v w') ∧ ∃ o ∈ outs, ∃ E', Up C.HT E st w E' o.2 ∧ V C.HT E' o.1 v := by
 unfold splitIdx at ho
 split at ho <;> try cases ho
 rename_i k e
 split at ho <;> try cases ho
 rename_i hc
 simp only [Bool.and_eq_true] at hc
 have g1 := h.ge hc.1
 have g2 := h.ge hc.2
 rw [Lin.ev_sub, Lin.ev_k] at g2
 obtain ⟨rfl, hb, r1, r2⟩ := hi
 obtain ⟨n, hn⟩ := Int.eq_ofNat_of_zero_le g1
 have hmem : n ∈ [0, 1, 2, 3, 4, 5, 6, 7] := by
  have : n < 8 := by omega
  simp only [List.mem_cons, List.not_mem_nil, or_false]
  omega
 obtain ⟨os, k1, k2⟩ := bindO_mem ho n hmem
 unfold idxAt at k1
 obtain ⟨s, hs, up⟩ := h.assume (c := .eq (e.addk (-(n : Int)))) (below_addk hb _) (by simp only [Cnd.holds, Lin.ev_addk, decide_eq_true_eq]; omega)
 rw [hs] at k1
 unfold one1 at k1
 dsimp only at k1
 cases hr : indexAddrA C s t a (.int k (.k n)) with
 | none => rw [hr] at k1; cases k1
 | some z =>
  rw [hr] at k1
  injection k1 with k1; subst k1
  obtain ⟨v, run, E2, u, hv⟩ := indexAddrA_ok hC up.m hr (V.ext C.HT up.ext _ ha) (y := .int k (e.ev E.ρ)) ⟨by rw [Lin.ev_k, hn], below_k _ _, by rw [Lin.ev_k, ← hn]; exact ⟨r1, r2⟩⟩
  exact ⟨v, run, _, k2 _ (List.mem_cons_self ..), E2, up.trans u, hv⟩
/-- A store in a row; if it does not fit, the first count grows by one. -/
def storeG (C : Cx) (st : St) (t : TypeId) (τ f : Nat) (a : AV) : Option St :=
 match storeT C st t τ f a with
 | some s => some s
 | none => storeT C (st.grow 1 (.k 0)) t τ f a
theorem storeG_ok (hC : CxOk C) (h : M C.HT E st w) {r : World} (hr : Ref E st r w) {t : TypeId} {τ f : Nat} {a : AV} {st' : St} (ho : storeG C st t τ f a = some st') {v u : Value} (hv : V C.HT E (.elem τ f) v) (hu : V C.HT E a u) :
  ∃ w', (Instr.storeAt t v u).run C.P w = .ok () w' ∧ ∃ E', Ext E E' ∧ M C.HT E' st' w' ∧ Ref E' st' r w' := by
 unfold storeG at ho
 split at ho
 ·rename_i s hs
  injection ho with ho; subst ho
  exact storeT_ok hC h hr hs hv hu
 ·obtain ⟨mg, xg⟩ := h.grow 1 0 (l := .k 0) (by rw [Lin.ev_k]; rfl) (below_k _ _)
  obtain ⟨w', run, E', k1, k2, k3⟩ := storeT_ok hC mg (r := r) ⟨hr.os, hr.tape, hr.output, hr.size, hr.blk, hr.agr, hr.frn⟩ ho (V.ext C.HT xg _ hv) (V.ext C.HT xg _ hu)
  exact ⟨w', run, E', xg.trans k1, k2, k3⟩
def tyOp (C : Cx) (st : St) (fr : List AV) (o : Oper) : Outs :=
 match o.op with
 | .load t x => match evO st fr x with
  | .elem τ f => one2 (loadT C st t τ f)
  | .ptr b o => loadS C st t b o
  | _ => none
 | .store t x v => match evO st fr x with
  | .elem τ f => (storeG C st t τ f (evO st fr v)).map fun s => [(.top, s)]
  | .ptr b o => storeS C st t b o (evO st fr v)
  | _ => none
 | .makeSlice t l c => one2 (makeSliceT C st t (evO st fr l) (evO st fr c))
 | .lookup t m k ok => lookupT C st t (evO st fr m) (evO st fr k) ok
 | .mapUpdate t m k v => (mapUpdT C st t (evO st fr m) (evO st fr k) (evO st fr v)).map fun s => [(.top, s)]
 | .insert t m k v => (mapUpdT C st t (evO st fr m) (evO st fr k) (evO st fr v)).map fun s => [(.top, s)]
 | .slice t x lo hi mx => match toT C t (evO st fr x) st with
  | some (a, s) => one1 s (sliceA C s t a (optE st fr lo) (optE st fr hi) (optE st fr mx))
  | none => none
 | .indexAddr t x i => match toT C t (evO st fr x) st with
  | some (a, s) => one1 s (indexAddrA C s t a (evO st fr i))
  | none => splitIdx C st t (evO st fr x) (evO st fr i)
 | .call c => match c.callee with
  | .builtin .append => match c.args.toList, c.argTypes.toList with
   | [s, x], [sT, xT] => one2 (appendT C st sT xT (evO st fr s) (evO st fr x))
   | _, _ => none
  | .builtin .copy => match c.args.toList, c.argTypes.toList with
   | [d, s], [dT, sT] => one2 (copyT C st dT sT (evO st fr d) (evO st fr s))
   | _, _ => none
  | _ => none
 | _ => none
theorem optV_ext {HT : Th} {F : Env} (e : Ext E F) {a : Option AV} {v : Option Value} (h : optV HT E a v) : optV HT F a v := by
 cases a <;> cases v <;> first | trivial | exact h.elim | exact V.ext HT e _ h
theorem tyOp_ok (hC : CxOk C) (h : M C.HT E st w) {r : World} (hr : Ref E st r w) {fr : List AV} {a : Act} (hf : FrOk C.HT E fr a) {o : Oper} {outs : List (AV × St)} (ho : tyOp C st fr o = some outs) : OpRes C E r outs ((execOp a.eval o).run C.P w) := by
 obtain ⟨dst, op, type, pos, after, guard⟩ := o
 cases op <;> simp only [tyOp] at ho <;> try cases ho
 case load t x =>
  have hx := evO_ok h hf x
  split at ho <;> try cases ho
  ·rename_i τ f e
   rw [e] at hx
   obtain ⟨p, hp, rfl⟩ := one2_some ho
   obtain ⟨u, run, E', up, hv⟩ := loadT_ok hC h hp hx
   exact DoesV.res (st := st) (s := Instr.loadAt t (a.eval x)) ⟨u, w, run, _, List.mem_cons_self .., E', up.ext, up.m, up.ref h hr, hv⟩
  ·rename_i b o e
   rw [e] at hx
   obtain ⟨hx, hbn⟩ := hx
   unfold loadS at ho
   split at ho <;> try cases ho
   rename_i l hl
   obtain ⟨s, hs, E1, p1⟩ := opnS_ok h hl
   obtain ⟨os, k1, k2⟩ := bindO_mem ho s hs
   split at k1 <;> try cases k1
   rename_i el cs fl ty hb
   cases hp : partA C t cs o with
   | none => rw [hp] at k1; cases k1
   | some q =>
    rw [hp] at k1
    injection k1 with k1; subst k1
    obtain ⟨v, g1, g2⟩ := load_ok hC p1.m hb hp
    refine DoesV.res (st := st) (s := Instr.loadAt t (a.eval x)) ⟨v, w, ?_, (q, s), k2 _ (List.mem_cons_self ..), E1, p1.ext, p1.m, p1.ref r hr, g2⟩
    rw [hx, p1.ext.β b hbn]; exact g1 w rfl
 case store t x v =>
  have hx := evO_ok h hf x
  have hv := evO_ok h hf v
  split at ho <;> try cases ho
  ·rename_i τ f e
   rw [e] at hx
   obtain ⟨s, hs, rfl⟩ := map_top ho
   obtain ⟨w', run, E', k1, k2, k3⟩ := storeG_ok hC h hr hs hx hv
   refine ⟨undef, w', .inr ⟨?_, rfl⟩, _, List.mem_cons_self .., E', k1, k2, k3, trivial⟩
   simp only [execOp, Sem.run_bind, run, Result.andThen_ok]; rfl
  ·rename_i b o e
   rw [e] at hx
   obtain ⟨hx, hbn⟩ := hx
   unfold storeS at ho
   split at ho <;> try cases ho
   rename_i l hl
   obtain ⟨s, hs, E1, p1⟩ := opnS_ok h hl
   obtain ⟨os, k1, k2⟩ := bindO_mem ho s hs
   obtain ⟨s', hs', rfl⟩ := map_top k1
   obtain ⟨w', run, g1, g2⟩ := store_ok hC p1.m (p1.ref r hr) hs' (V.ext C.HT p1.ext _ hv)
   refine ⟨undef, w', .inr ⟨?_, rfl⟩, _, k2 _ (List.mem_cons_self ..), E1, p1.ext, g1, g2, trivial⟩
   simp only [execOp, Sem.run_bind]
   rw [hx, p1.ext.β b hbn, run]; rfl
 case makeSlice t l c =>
  obtain ⟨p, hp, rfl⟩ := one2_some ho
  exact (makeSliceT_ok hC h hr hp (evO_ok h hf l) (evO_ok h hf c)).res
 case lookup t m k ok =>
  obtain ⟨v, run, p, hp, E', up, hv⟩ := lookupT_ok hC h ho (evO_ok h hf m) (evO_ok h hf k)
  exact DoesV.res (st := st) (s := Instr.lookup t (a.eval m) (a.eval k) ok) ⟨v, w, run, p, hp, E', up.ext, up.m, up.ref h hr, hv⟩
 case mapUpdate t m k v =>
  obtain ⟨s, hs, rfl⟩ := map_top ho
  obtain ⟨w', run, E', k1, k2, k3⟩ := mapUpdT_ok hC h hr hs (evO_ok h hf m) (evO_ok h hf k) (evO_ok h hf v)
  refine ⟨undef, w', .inr ⟨?_, rfl⟩, _, List.mem_cons_self .., E', k1, k2, k3, trivial⟩
  simp only [execOp, Sem.run_bind, run, Result.andThen_ok]; rfl
 case insert t m k v =>
  obtain ⟨s, hs, rfl⟩ := map_top ho
  obtain ⟨w', run, E', k1, k2, k3⟩ := mapUpdT_ok hC h hr hs (evO_ok h hf m) (evO_ok h hf k) (evO_ok h hf v)
  refine ⟨undef, w', .inr ⟨?_, rfl⟩, _, List.mem_cons_self .., E', k1, k2, k3, trivial⟩
  simp only [execOp, Sem.run_bind, run, Result.andThen_ok]; rfl
 case slice t x lo hi mx =>
  split at ho <;> try cases ho
  rename_i q s hq
  obtain ⟨E1, p1, hv⟩ := toT_ok (HT := C.HT) h hq (evO_ok h hf x)
  unfold one1 at ho
  cases hr' : sliceA C s t q (optE st fr lo) (optE st fr hi) (optE st fr mx) with
  | none => rw [hr'] at ho; cases ho
  | some z =>
   rw [hr'] at ho
   injection ho with ho; subst ho
   obtain ⟨v, run, E2, u, hv2⟩ := sliceA_ok hC p1.m hr' hv (optV_ext p1.ext (optE_ok h hf lo)) (optV_ext p1.ext (optE_ok h hf hi)) (optV_ext p1.ext (optE_ok h hf mx))
   exact DoesV.res (st := st) (s := Instr.sliceAt t (a.eval x) (lo.map a.eval) (hi.map a.eval) (mx.map a.eval)) ⟨v, w, run w, _, List.mem_cons_self .., E2, p1.ext.trans u.ext, u.m, u.ref p1.m (p1.ref r hr), hv2⟩
 case indexAddr t x i =>
  split at ho
  case h_2 =>
   obtain ⟨v, run, o, g1, E2, u, hv2⟩ := splitIdx_ok hC h ho (evO_ok h hf x) (evO_ok h hf i)
   exact DoesV.res (st := st) (s := Instr.indexAt t (a.eval x) (a.eval i)) ⟨v, w, run w, o, g1, E2, u.ext, u.m, u.ref h hr, hv2⟩
  rename_i q s hq
  obtain ⟨E1, p1, hv⟩ := toT_ok (HT := C.HT) h hq (evO_ok h hf x)
  unfold one1 at ho
  cases hr' : indexAddrA C s t q (evO st fr i) with
  | none => rw [hr'] at ho; cases ho
  | some z =>
   rw [hr'] at ho
   injection ho with ho; subst ho
   obtain ⟨v, run, E2, u, hv2⟩ := indexAddrA_ok hC p1.m hr' hv (V.ext C.HT p1.ext _ (evO_ok h hf i))
   exact DoesV.res (st := st) (s := Instr.indexAt t (a.eval x) (a.eval i)) ⟨v, w, run w, _, List.mem_cons_self .., E2, p1.ext.trans u.ext, u.m, u.ref p1.m (p1.ref r hr), hv2⟩
 case call c =>
  obtain ⟨callee, args, argTypes⟩ := c
  have ar : ∀ {l : List Operand}, args.toList = l → args.map a.eval = (l.map a.eval).toArray := fun e => by rw [← e, ← List.map_toArray, Array.toArray_toList]
  cases callee with
  | value f => cases ho
  | invoke r m => cases ho
  | builtin bi =>
  cases bi <;> try cases ho
  case append =>
   dsimp only at ho
   split at ho <;> try cases ho
   rename_i s x sT xT e1 e2
   obtain ⟨o, h1, rfl⟩ := one2_some ho
   have e2 : argTypes = #[sT, xT] := by rw [← Array.toArray_toList (xs := argTypes), e2]
   have := (appendT_ok (ty := type) hC h hr h1 (evO_ok h hf s) (evO_ok h hf x)).res
   simp only [execOp, resolve]
   rw [ar e1, e2]
   exact this
  case copy =>
   dsimp only at ho
   split at ho <;> try cases ho
   rename_i s x sT xT e1 e2
   obtain ⟨o, h1, rfl⟩ := one2_some ho
   have e2 : argTypes = #[sT, xT] := by rw [← Array.toArray_toList (xs := argTypes), e2]
   have := (copyT_ok (sT := xT) (ty := type) hC h hr h1 (evO_ok h hf s) (evO_ok h hf x)).res
   simp only [execOp, resolve]
   rw [ar e1, e2]
   exact this
end
end Go.Proofs.YtbjhcjgniciooaaGreatDoor.E
namespace Go.Proofs.YtbjhcjgniciooaaGreatDoor.E
set_option linter.unusedVariables false
set_option linter.unusedSimpArgs false
def putF (fr : List AV) (d : Option Tmp) (a : AV) : List AV := match d with | some t => fr.set t a | none => fr
abbrev Frs := Option (List (List AV × St))
/-- The two ways of a condition. -/
def splitB (st : St) : AV → Option (List (Bool × St))
 | .bool b => some [(b, st)]
 | .cond c => match st.dec c with
  | some b => some [(b, st)]
  | none => some ((match st.assume c with | some s => [(true, s)] | none => []) ++ (match st.assume c.neg with | some s => [(false, s)] | none => []))
 | _ => none
def isUndef : AV → Bool
 | .tup [] => true
 | _ => false
def wantedA (ops : Array Oper) (st : St) (fr : List AV) (o : Oper) : Option (List (Bool × List AV × St)) :=
 match o.guard with
 | none => some [(true, fr, st)]
 | some (j, want) => match (ops[j]?).bind (·.dst) with
  | none => none
  | some d => match fr[d]? with
   | none => none
   | some a => if isUndef a then some [(false, fr, st)] else (splitB st (resv st a)).map fun l => l.map fun p => (p.1 == want, fr.set d (.bool p.1), p.2)
section
variable {C : Cx} {E : Env} {st : St} {w : World}
theorem splitB_ok (h : M C.HT E st w) {a : AV} {v : Value} (hv : V C.HT E a v) {l : List (Bool × St)} (hl : splitB st a = some l) : ∃ b, v = .bool b ∧ ∃ s, (b, s) ∈ l ∧ Up C.HT E st w E s := by
 unfold splitB at hl
 split at hl
 ·injection hl with hl; subst hl
  exact ⟨_, hv, _, List.mem_cons_self .., Up.refl h⟩
 ·rename_i c
  obtain ⟨rfl, hb⟩ := hv
  cases hd : st.dec c with
  | some b =>
   rw [hd] at hl
   injection hl with hl; subst hl
   exact ⟨_, rfl, st, by rw [h.dec hd]; exact List.mem_cons_self .., Up.refl h⟩
  | none =>
   rw [hd] at hl
   injection hl with hl; subst hl
   refine ⟨_, rfl, ?_⟩
   cases hc : c.holds E.ρ with
   | true =>
    obtain ⟨s, e1, u⟩ := h.assume hb hc
    rw [e1]
    exact ⟨s, by simp, u⟩
   | false =>
    have hb' : c.neg.lin.below E.n := by
     cases c with
     | ge e => exact below_addk (below_sc hb _) _
     | eq e => exact hb
     | ne e => exact hb
    obtain ⟨s, e1, u⟩ := h.assume hb' (by rw [Cnd.holds_neg, hc]; rfl)
    rw [e1]
    exact ⟨s, by simp, u⟩
 ·cases hl
theorem Vs.setA {HT : Th} {E : Env} {as : List AV} {vs : List Value} (h : Vs HT E as vs) (i : Nat) {a : AV} (ha : ∀ v, vs[i]? = some v → V HT E a v) : Vs HT E (as.set i a) vs := by
 induction as generalizing vs i with
 | nil => exact h
 | cons b as ih =>
  obtain ⟨v, r, rfl, h1, h2⟩ := h
  cases i with
  | zero => exact ⟨v, r, rfl, ha v rfl, h2⟩
  | succ i => exact ⟨v, r, rfl, h1, ih h2 i (fun u hu => ha u (by simpa using hu))⟩
theorem FrOk.setA {HT : Th} {E : Env} {fr : List AV} {a : Act} (h : FrOk HT E fr a) (i : Nat) {x : AV} (hx : ∀ v, a.tmps.toList[i]? = some v → V HT E x v) : FrOk HT E (fr.set i x) a := ⟨h.t.setA i hx, h.d⟩
theorem wantedA_ok (h : M C.HT E st w) {fr : List AV} {a : Act} (hf : FrOk C.HT E fr a) {ops : Array Oper} {o : Oper} {l : List (Bool × List AV × St)} (hl : wantedA ops st fr o = some l) :
  ∃ f s, (Region.wanted o (yielded ops a.tmps), f, s) ∈ l ∧ Up C.HT E st w E s ∧ FrOk C.HT E f a := by
 unfold wantedA at hl
 unfold Region.wanted
 cases hg : o.guard with
 | none =>
  rw [hg] at hl
  injection hl with hl; subst hl
  exact ⟨fr, st, List.mem_cons_self .., Up.refl h, hf⟩
 | some g =>
  obtain ⟨j, want⟩ := g
  rw [hg] at hl
  simp only at hl ⊢
  unfold yielded
  cases hd : (ops[j]?).bind (·.dst) with
  | none => rw [hd] at hl; cases hl
  | some d =>
   rw [hd] at hl
   simp only at hl
   cases hfr : fr[d]? with
   | none => rw [hfr] at hl; cases hl
   | some x =>
    rw [hfr] at hl
    simp only at hl
    obtain ⟨v, e1, hv⟩ := hf.t.get hfr
    have e2 : a.tmps[d]? = some v := by rw [← e1]; simp
    simp only [Option.bind_some, e2]
    cases hu : isUndef x with
    | true =>
     rw [hu] at hl
     simp only [if_true, Option.some.injEq] at hl
     subst hl
     have : v = undef := by
      unfold isUndef at hu
      split at hu
      ·obtain ⟨y, rfl, hy⟩ := hv
       have : y.toList = [] := hy
       have : y = #[] := Array.toList_eq_nil_iff.1 this
       rw [this]; rfl
      ·cases hu
     subst this
     exact ⟨fr, st, by simp [undef], Up.refl h, hf⟩
    | false =>
     rw [hu] at hl
     simp only [Bool.false_eq_true, if_false] at hl
     cases hs : splitB st (resv st x) with
     | none => rw [hs] at hl; cases hl
     | some l' =>
      rw [hs] at hl
      simp only [Option.map_some, Option.some.injEq] at hl
      subst hl
      obtain ⟨b, rfl, s, hm, u⟩ := splitB_ok h (V_resv h hv) hs
      exact ⟨_, s, List.mem_map.2 ⟨(b, s), hm, by simp; rfl⟩, u, hf.setA d (fun u hu => by rw [e1] at hu; injection hu with hu; subst hu; rfl)⟩
/-! ### An operation -/
def rowFirst (o : Oper) : Bool := match o.op with
 | .makeSlice _ _ _ => true
 | .call c => match c.callee with
  | .builtin _ => true
  | _ => false
 | _ => false
def runA (C : Cx) (F : Fx) (call : Callee) (st : St) (fr : List AV) (o : Oper) : Outs :=
 match pureOp C st fr o with
 | some outs => some outs
 | none => match (if rowFirst o then tyOp C st fr o else none) with
  | some outs => some outs
  | none => match memOp C st fr o with
   | some outs => some outs
   | none => match tyOp C st fr o with
    | some outs => some outs
    | none => match o.op with
     | .call c => callA F call st fr c
     | _ => none
theorem runA_ok {F : Fx} {call : Callee} (hC : CxOk C) (hF : FxOk C F) (hc : CallOk C F call) (h : M C.HT E st w) {r : World} (hr : Ref E st r w) {fr : List AV} {a : Act} (hf : FrOk C.HT E fr a) {o : Oper} {outs : List (AV × St)}
  (ho : runA C F call st fr o = some outs) {Q : Exit → Act → World → Prop} {K : Act → World → Prop}
  (hK : ∀ v w', Got C E r outs v w' → K (a.put o.dst v) w') : o.wp C.P a w K Q := by
 unfold runA at ho
 cases h1 : pureOp C st fr o with
 | some os =>
  rw [h1] at ho
  injection ho with ho; subst ho
  obtain ⟨v, g1, p, g2, E', u, g3⟩ := pureOp_ok hC h hf h1
  unfold Oper.wp
  have g := hK v w ⟨p, g2, E', u.ext, u.m, u.ref h hr, g3⟩
  rw [g1 w]; exact g
 | none =>
  rw [h1] at ho
  simp only at ho
  have res : ∀ {os}, OpRes C E r os ((execOp a.eval o).run C.P w) → os = outs → o.wp C.P a w K Q := fun ⟨v, w', g1, g2⟩ e => by
   subst e
   unfold Oper.wp
   have g := hK v w' g2
   rcases g1 with g1 | ⟨g1, rfl⟩
   ·rw [g1]; exact g
   ·rw [g1]; exact g
  cases h0 : (if rowFirst o then tyOp C st fr o else none) with
  | some os =>
   rw [h0] at ho
   injection ho with ho
   split at h0
   ·exact res (tyOp_ok hC h hr hf h0) ho
   ·cases h0
  | none =>
  rw [h0] at ho
  simp only at ho
  cases h2 : memOp C st fr o with
  | some os =>
   rw [h2] at ho
   injection ho with ho
   exact res (memOp_ok hC h hr hf h2) ho
  | none =>
   rw [h2] at ho
   simp only at ho
   cases h3 : tyOp C st fr o with
   | some os =>
    rw [h3] at ho
    injection ho with ho
    exact res (tyOp_ok hC h hr hf h3) ho
   | none =>
   rw [h3] at ho
   simp only at ho
   split at ho
   ·rename_i c hop
    exact callA_ok hF hc h hr hf (ty := 0) ho hop hK
   ·cases ho
def stepA (C : Cx) (F : Fx) (call : Callee) (ops : Array Oper) (o : Oper) (fr : List AV) (st : St) : Frs :=
 match wantedA ops st fr o with
 | none => none
 | some l => bindO (fun p => if p.1 then (runA C F call p.2.2 p.2.1 o).map (fun outs => outs.map fun q => (putF p.2.1 o.dst q.1, q.2)) else some [(putF p.2.1 o.dst (.tup []), p.2.2)]) l
/-- Behind a piece of work: one of some frames and states. -/
def Gotf (C : Cx) (E : Env) (r : World) (outs : List (List AV × St)) (a : Act) (w : World) : Prop := ∃ o ∈ outs, ∃ E', Ext E E' ∧ M C.HT E' o.2 w ∧ Ref E' o.2 r w ∧ FrOk C.HT E' o.1 a
theorem V_undef (HT : Th) (E : Env) : V HT E (.tup []) undef := ⟨#[], rfl, rfl⟩
theorem stepA_ok {F : Fx} {call : Callee} (hC : CxOk C) (hF : FxOk C F) (hc : CallOk C F call) (h : M C.HT E st w) {r : World} (hr : Ref E st r w) {fr : List AV} {a : Act} (hf : FrOk C.HT E fr a) {ops : Array Oper} {i : Nat} {o : Oper} (hi : ops[i]? = some o)
  {outs : List (List AV × St)} (ho : stepA C F call ops o fr st = some outs) {Q : Exit → Act → World → Prop} {K : Act → World → Prop}
  (hK : ∀ a' w', Gotf C E r outs a' w' → K a' w') : wpOp C.P ops Q i K a w := by
 unfold stepA at ho
 cases hl : wantedA ops st fr o with
 | none => rw [hl] at ho; cases ho
 | some l =>
  rw [hl] at ho
  simp only at ho
  obtain ⟨f, s, hs, u, hf1⟩ := wantedA_ok h hf hl
  obtain ⟨os, e1, e2⟩ := bindO_mem ho _ hs
  have hf' := hf1.ext u.ext
  unfold wpOp
  simp only [hi]
  cases hw : Region.wanted o (yielded ops a.tmps) with
  | true =>
   rw [hw] at e1
   simp only [if_true] at e1
   simp only [if_true]
   cases hr' : runA C F call s f o with
   | none => rw [hr'] at e1; cases e1
   | some outs1 =>
    rw [hr'] at e1
    simp only [Option.map_some, Option.some.injEq] at e1
    subst e1
    refine .inl (runA_ok hC hF hc u.m (u.ref h hr) hf' hr' fun v w' g => hK _ _ ?_)
    obtain ⟨q, g1, E', g2, g3, g4, g5⟩ := g
    exact ⟨(putF f o.dst q.1, q.2), e2 _ (List.mem_map.2 ⟨q, g1, rfl⟩), E', g2, g3, g4, (hf1.ext g2).put o.dst g5⟩
  | false =>
   rw [hw] at e1
   simp only [Bool.false_eq_true, if_false, Option.some.injEq] at e1
   subst e1
   simp only [Bool.false_eq_true, if_false]
   exact hK _ _ ⟨(putF f o.dst (.tup []), s), e2 _ (List.mem_cons_self ..), E, u.ext, u.m, u.ref h hr, hf'.put o.dst (V_undef _ _)⟩
/-! ### Operations in their order -/
def opsA (C : Cx) (F : Fx) (call : Callee) (ops : Array Oper) : List Oper → List AV → St → Frs
 | [], fr, st => some [(fr, st)]
 | o :: os, fr, st => match stepA C F call ops o fr st with
  | none => none
  | some l => bindO (fun p => opsA C F call ops os p.1 p.2) l
theorem Gotf.mono {F : Env} {r : World} {o1 o2 : List (List AV × St)} {a : Act} {w : World} (e : Ext E F) (h : ∀ o ∈ o1, o ∈ o2) (g : Gotf C F r o1 a w) : Gotf C E r o2 a w :=
 let ⟨o, h1, E', h2, h3⟩ := g; ⟨o, h o h1, E', e.trans h2, h3⟩
theorem opsA_ok {F : Fx} {call : Callee} (hC : CxOk C) (hF : FxOk C F) (hc : CallOk C F call) {ops : Array Oper} {r : World} {Q : Exit → Act → World → Prop} : ∀ (os : List Oper) (k : Nat) (hk : ops.toList.drop k = os) {E : Env} {st : St} {w : World} {fr : List AV} {a : Act} {outs : List (List AV × St)}
  (h : M C.HT E st w) (hr : Ref E st r w) (hf : FrOk C.HT E fr a) (ho : opsA C F call ops os fr st = some outs) (hQ : ∀ a' w', Gotf C E r outs a' w' → Q .normal a' w'),
  wpOps C.P ops Q (List.range' k (ops.size - k)) a w
 | [], k, hk, E, st, w, fr, a, outs, h, hr, hf, ho, hQ => by
  have : ops.size - k = 0 := by
   have := congrArg List.length hk
   simpa using this
  rw [this]
  injection ho with ho; subst ho
  exact hQ _ _ ⟨_, List.mem_cons_self .., E, Ext.refl E, h, hr, hf⟩
 | o :: os, k, hk, E, st, w, fr, a, outs, h, hr, hf, ho, hQ => by
  have hlen : ops.size - k = os.length + 1 := by
   have := congrArg List.length hk
   simpa using this
  have hi : ops[k]? = some o := by
   have : (ops.toList.drop k)[0]? = some o := by rw [hk]; rfl
   simpa using this
  have hk' : ops.toList.drop (k + 1) = os := by
   rw [← List.drop_drop, hk]; rfl
  have hn : ops.size - (k + 1) = os.length := by omega
  rw [hlen, List.range'_succ, wpOps_cons]
  unfold opsA at ho
  cases hs : stepA C F call ops o fr st with
  | none => rw [hs] at ho; cases ho
  | some l =>
   rw [hs] at ho
   simp only at ho
   refine stepA_ok hC hF hc h hr hf hi hs fun a' w' g => ?_
   obtain ⟨p, g1, E', g2, g3, g4, g5⟩ := g
   obtain ⟨os', e1, e2⟩ := bindO_mem ho p g1
   have := opsA_ok hC hF hc os (k + 1) hk' g3 g4 g5 e1 fun a'' w'' g => hQ _ _ (Gotf.mono g2 e2 g)
   rw [hn] at this
   exact this
end
end Go.Proofs.YtbjhcjgniciooaaGreatDoor.E
namespace Go.Proofs.YtbjhcjgniciooaaGreatDoor.E
set_option linter.unusedVariables false
set_option linter.unusedSimpArgs false
/-! ### Operations in any order: watches on what was read early -/
def dirD (ops : Array Oper) (j i : Nat) : Bool := match ops[j]? with
 | some o => o.after.any fun e => Region.binds .any e && e.on == i
 | none => false
/-- One waits for the other, if by way of others. -/
def reach (ops : Array Oper) (i : Nat) : Nat → Nat → Bool
 | 0, j => dirD ops j i
 | n + 1, j => dirD ops j i || (match ops[j]? with
  | some o => o.after.any fun e => Region.binds .any e && reach ops i n e.on
  | none => false)
def dirA (ops : Array Oper) (j i : Nat) : Bool := reach ops i 3 j
def rdyP (ops : Array Oper) (L : Nat → Bool) (j : Nat) : Prop := L j = false ∧ ∃ o, ops[j]? = some o ∧ ∀ e ∈ o.after, Region.binds .any e = true → L e.on = true
def updL (L : Nat → Bool) (i : Nat) : Nat → Bool := fun j => decide (j = i) || L j
def wpT (P : Program) (ops : Array Oper) (Q : Exit → Act → World → Prop) : Nat → (Nat → (World → Prop) → Prop) → (Nat → Bool) → Act → World → Prop
 | 0, W, L, a, w => (∀ j, ¬ rdyP ops L j) ∧ Q .normal a w
 | n + 1, W, L, a, w => ((∀ j, ¬ rdyP ops L j) → Q .normal a w) ∧
  ∀ j, rdyP ops L j → wpOp P ops Q j (fun a' w' => (∀ i S, W i S → dirA ops j i = false → S w') ∧ wpT P ops Q n (fun i S => W i S ∧ dirA ops j i = false) (updL L j) a' w') a w
section
variable {P : Program} {ops : Array Oper} {Q : Exit → Act → World → Prop}
theorem wpT_mono : ∀ (n : Nat) {W W' : Nat → (World → Prop) → Prop} {L : Nat → Bool} {a : Act} {w : World}, (∀ i S, W' i S → W i S) → wpT P ops Q n W L a w → wpT P ops Q n W' L a w
 | 0, _, _, _, _, _, _, h => h
 | n + 1, W, W', L, a, w, hW, h => ⟨h.1, fun j hj => wpOp_mono (fun a' w' k => ⟨fun i S hi hd => k.1 i S (hW i S hi) hd, wpT_mono n (fun i S hi => ⟨hW i S hi.1, hi.2⟩) k.2⟩) (h.2 j hj)⟩
theorem mem_rdy {L : Nat → Bool} {listed : Array Bool} (hs : listed.size = ops.size) (h1 : ∀ j, j < ops.size → listed[j]? = some (L j)) (h2 : ∀ j, ops.size ≤ j → L j = false) (j : Nat) :
  j ∈ Region.ready .any ops listed ↔ rdyP ops L j := by
 rw [mem_ready]
 unfold rdyP
 have hg : ∀ k, listed.getD k false = L k := fun k => by
  rcases Nat.lt_or_ge k ops.size with hk | hk
  ·rw [Array.getD_eq_getD_getElem?, h1 k hk]; rfl
  ·rw [Array.getD_eq_getD_getElem?, Array.getElem?_eq_none (by omega), h2 k hk]; rfl
 constructor
 ·rintro ⟨g1, o, g2, g3⟩
  have hj := (Array.getElem?_eq_some_iff.1 g2).1
  refine ⟨?_, o, g2, fun e he hb => by rw [← hg]; exact g3 e he hb⟩
  rw [Array.getD_eq_getD_getElem?, h1 j hj] at g1
  exact g1
 ·rintro ⟨g1, o, g2, g3⟩
  have hj := (Array.getElem?_eq_some_iff.1 g2).1
  refine ⟨?_, o, g2, fun e he hb => by rw [hg]; exact g3 e he hb⟩
  rw [Array.getD_eq_getD_getElem?, h1 j hj]
  exact g1
theorem wpT_any : ∀ (n : Nat) {W : Nat → (World → Prop) → Prop} {L : Nat → Bool} {listed : Array Bool} {a : Act} {w : World}, listed.size = ops.size → (∀ j, j < ops.size → listed[j]? = some (L j)) → (∀ j, ops.size ≤ j → L j = false) →
  wpT P ops Q n W L a w → wpAny P .any ops Q n listed a w
 | 0, W, L, listed, a, w, hs, h1, h2, h => by
  refine ⟨?_, h.2⟩
  rw [List.eq_nil_iff_forall_not_mem]
  exact fun j hj => h.1 j ((mem_rdy hs h1 h2 j).1 hj)
 | n + 1, W, L, listed, a, w, hs, h1, h2, h => by
  refine ⟨fun he => h.1 fun j hj => ?_, fun j hj => ?_⟩
  ·have := (mem_rdy hs h1 h2 j).2 hj
   rw [he] at this; cases this
  ·have hj' := (mem_rdy hs h1 h2 j).1 hj
   obtain ⟨o, g2, _⟩ := hj'.2
   have hjs := (Array.getElem?_eq_some_iff.1 g2).1
   refine wpOp_mono (fun a' w' k => wpT_any n (by simpa using hs) (fun i hi => ?_) (fun i hi => ?_) k.2) (h.2 j hj')
   ·by_cases e : i = j
    ·subst e
     rw [Array.getElem?_setIfInBounds_self_of_lt (by omega)]
     simp [updL]
    ·rw [Array.getElem?_setIfInBounds_ne (Ne.symm e), h1 i hi]
     simp [updL, e]
   ·have : i ≠ j := by omega
    simp [updL, this, h2 i hi]
theorem rdy_upd {L : Nat → Bool} {i j : Nat} (hj : rdyP ops L j) (hne : j ≠ i) : rdyP ops (updL L i) j := by
 obtain ⟨h0, o, ho, hall⟩ := hj
 exact ⟨by simp [updL, hne, h0], o, ho, fun e he hb => by simp [updL, hall e he hb]⟩
/-- What is done was done when it could be. -/
def Cl (ops : Array Oper) (L : Nat → Bool) : Prop := ∀ j o, ops[j]? = some o → L j = true → ∀ e ∈ o.after, Region.binds .any e = true → L e.on = true
theorem Cl.upd {L : Nat → Bool} (h : Cl ops L) {i : Nat} (hr : rdyP ops L i) : Cl ops (updL L i) := by
 intro j o hj hl e he hb
 obtain ⟨_, oi, hoi, hall⟩ := hr
 by_cases hji : j = i
 ·subst hji
  rw [hj] at hoi; injection hoi with hoi; subst hoi
  simp [updL, hall e he hb]
 ·have : L j = true := by simpa [updL, hji] using hl
  simp [updL, h j o hj this e he hb]
theorem dirD_ok {i j : Nat} (h : dirD ops j i = true) : ∃ o, ops[j]? = some o ∧ ∃ e ∈ o.after, Region.binds .any e = true ∧ e.on = i := by
 unfold dirD at h
 split at h
 ·rename_i o ho
  obtain ⟨e, he, h1⟩ := Array.any_eq_true'.1 h
  simp only [Bool.and_eq_true, beq_iff_eq] at h1
  exact ⟨o, ho, e, he, h1.1, h1.2⟩
 ·cases h
theorem reach_ok {L : Nat → Bool} (hC : Cl ops L) {i : Nat} : ∀ (n j : Nat), reach ops i n j = true → ∃ o, ops[j]? = some o ∧ ((∀ e ∈ o.after, Region.binds .any e = true → L e.on = true) → L i = true)
 | 0, j, h => by
  obtain ⟨o, ho, e, he, hb, rfl⟩ := dirD_ok h
  exact ⟨o, ho, fun k => k e he hb⟩
 | n + 1, j, h => by
  unfold reach at h
  rw [Bool.or_eq_true] at h
  rcases h with h | h
  ·obtain ⟨o, ho, e, he, hb, rfl⟩ := dirD_ok h
   exact ⟨o, ho, fun k => k e he hb⟩
  ·split at h
   ·rename_i o ho
    obtain ⟨e, he, h1⟩ := Array.any_eq_true'.1 h
    simp only [Bool.and_eq_true] at h1
    refine ⟨o, ho, fun k => ?_⟩
    obtain ⟨o2, ho2, h2⟩ := reach_ok hC n e.on h1.2
    exact h2 fun e2 he2 hb2 => hC e.on o2 ho2 (k e he h1.1) e2 he2 hb2
   ·cases h
theorem not_dir {L : Nat → Bool} (hC : Cl ops L) {i j : Nat} (hi : L i = false) (hj : rdyP ops L j) : dirA ops j i = false := by
 obtain ⟨h0, o, ho, hall⟩ := hj
 cases hd : dirA ops j i with
 | false => rfl
 | true =>
  obtain ⟨o2, ho2, h2⟩ := reach_ok hC 3 j hd
  rw [ho] at ho2; injection ho2 with ho2; subst ho2
  rw [h2 hall] at hi; cases hi
/-- An operation that may come up now may be taken first. -/
theorem takeT {i : Nat} {oi : Oper} {v : Value} {S : World → Prop} (hi : ops[i]? = some oi) (hsel : ∀ (j : Nat) (o : Oper) cs b, ops[j]? = some o → o.op ≠ .select cs b)
  (hQ : ∀ c a w, Q (.panic c) (a.put oi.dst v) w → Q (.panic c) a w) :
  ∀ (n : Nat) (W : Nat → (World → Prop) → Prop) (L : Nat → Bool) (a : Act) (w : World),
   (∀ j oj, ops[j]? = some oj → j ≠ i → L j = false → dirA ops j i = false → oi.apart ops oj = true) →
   Cl ops L → rdyP ops L i → YieldsIf P ops S oi v a → S w → (∀ k T, W k T → T w) →
   wpT P ops Q n (fun k T => W k T ∨ (k = i ∧ T = S)) (updL L i) (a.put oi.dst v) w → wpT P ops Q (n + 1) W L a w := by
 intro n
 induction n with
 | zero =>
  intro W L a w hfree hC hr hy hS hW H
  refine ⟨fun h => absurd hr (h i), fun j hj => ?_⟩
  by_cases hji : j = i
  ·subst hji; exact hy.wpOp hi hS ⟨fun k T hk _ => hW k T hk, wpT_mono 0 (fun k T hk => .inl hk.1) H⟩
  ·exact absurd (rdy_upd hj hji) (H.1 j)
 | succ n ih =>
  intro W L a w hfree hC hr hy hS hW H
  refine ⟨fun h => absurd hr (h i), fun j hj => ?_⟩
  by_cases hji : j = i
  ·subst hji; exact hy.wpOp hi hS ⟨fun k T hk _ => hW k T hk, wpT_mono (n + 1) (fun k T hk => .inl hk.1) H⟩
  ·have h1 := H.2 j (rdy_upd hj hji)
   have hd : dirA ops j i = false := not_dir hC hr.1 hj
   have hCj := hC.upd hj
   obtain ⟨hL, oj, hoj, hall⟩ := hj
   have h2 := wpOp_putIf hoj (hfree j oj hoj hji hL hd) (fun cs b => hsel i oi cs b hi) (fun cs b => hsel j oj cs b hoj) hQ hy h1
   refine wpOp_mono (fun a' w' h3 => ?_) h2
   obtain ⟨hy', hk, hrest⟩ := h3
   refine ⟨fun k T hT hd' => hk k T (.inl hT) hd', ?_⟩
   refine ih _ (updL L j) a' w' (fun k ok hok hki hun hno => hfree k ok hok hki ?_ hno) hCj (rdy_upd hr (Ne.symm hji)) hy' (hk i S (.inr ⟨rfl, rfl⟩) hd) (fun k T hT => hk k T (.inl hT.1) hT.2) ?_
   ·simp only [updL, Bool.or_eq_false_iff] at hun; exact hun.2
   ·have e : updL (updL L j) i = updL (updL L i) j := by
     funext k; simp only [updL]; cases decide (k = i) <;> cases decide (k = j) <;> rfl
    rw [e]
    refine wpT_mono n (fun k T hT => ?_) hrest
    rcases hT with hT | ⟨rfl, rfl⟩
    ·exact ⟨.inl hT.1, hT.2⟩
    ·exact ⟨.inr ⟨rfl, rfl⟩, hd⟩
end
/-! ### Sets of operations as bits -/
def predF (acc : Nat) : List Edge → Nat
 | [] => acc
 | e :: es => predF (if Region.binds .any e then acc ||| 2 ^ e.on else acc) es
def predM (o : Oper) : Nat := predF 0 o.after.toList
def rdyB (m j : Nat) (o : Oper) : Bool := !m.testBit j && Nat.beq (predM o &&& m) (predM o)
theorem predF_bit : ∀ (es : List Edge) (acc i : Nat), (predF acc es).testBit i = (acc.testBit i || es.any fun e => Region.binds .any e && e.on == i)
 | [], acc, i => by simp [predF]
 | e :: es, acc, i => by
  rw [predF, predF_bit es]
  cases hb : Region.binds .any e with
  | false => simp [hb]
  | true =>
   simp only [if_true, Nat.testBit_or, Nat.testBit_two_pow, List.any_cons, hb, Bool.true_and]
   rw [Bool.or_assoc]
   congr 2
theorem predM_bit (o : Oper) (i : Nat) : (predM o).testBit i = true ↔ ∃ e ∈ o.after, Region.binds .any e = true ∧ e.on = i := by
 unfold predM
 rw [predF_bit, Nat.zero_testBit, Bool.false_or, List.any_eq_true]
 simp only [Bool.and_eq_true, beq_iff_eq, Array.mem_toList_iff]
theorem rdyB_iff {ops : Array Oper} {m j : Nat} {o : Oper} (hj : ops[j]? = some o) : rdyB m j o = true ↔ rdyP ops m.testBit j := by
 unfold rdyB rdyP
 simp only [Bool.and_eq_true, Bool.not_eq_true', hj, Option.some.injEq, exists_eq_left', Nat.beq_eq]
 refine and_congr Iff.rfl ?_
 constructor
 ·intro h e he hb
  have h1 : (predM o).testBit e.on = true := (predM_bit o e.on).2 ⟨e, he, hb, rfl⟩
  rw [← h, Nat.testBit_and] at h1
  simp only [Bool.and_eq_true] at h1
  exact h1.2
 ·intro h
  apply Nat.eq_of_testBit_eq
  intro i
  rw [Nat.testBit_and]
  cases hp : (predM o).testBit i with
  | false => rfl
  | true =>
   obtain ⟨e, he, hb, rfl⟩ := (predM_bit o i).1 hp
   simp [h e he hb]
theorem upd_bit (m i : Nat) : updL m.testBit i = (m ||| 2 ^ i).testBit := by
 funext j
 simp only [updL, Nat.testBit_or, Nat.testBit_two_pow]
 rw [Bool.or_comm]
 congr 1
 simp [eq_comm]
def readyL (m : Nat) : List Oper → Nat → List (Nat × Oper)
 | [], _ => []
 | o :: os, k => if rdyB m k o then (k, o) :: readyL m os (k + 1) else readyL m os (k + 1)
theorem mem_readyL {m : Nat} : ∀ {os : List Oper} {k i : Nat} {o : Oper}, (i, o) ∈ readyL m os k ↔ k ≤ i ∧ os[i - k]? = some o ∧ rdyB m i o = true
 | [], k, i, o => by simp [readyL]
 | x :: os, k, i, o => by
  unfold readyL
  have ih := @mem_readyL m os (k + 1) i o
  have key : (k + 1 ≤ i ∧ os[i - (k + 1)]? = some o ∧ rdyB m i o = true) ∨ (i = k ∧ o = x ∧ rdyB m i o = true) ↔ (k ≤ i ∧ (x :: os)[i - k]? = some o ∧ rdyB m i o = true) := by
   rcases Nat.lt_trichotomy i k with h | h | h
   ·constructor
    ·rintro (⟨h1, _⟩ | ⟨h1, _⟩) <;> omega
    ·rintro ⟨h1, _⟩; omega
   ·subst h
    simp only [Nat.sub_self, List.getElem?_cons_zero, Option.some.injEq]
    constructor
    ·rintro (⟨h1, _⟩ | ⟨_, rfl, h2⟩)
     ·omega
     ·exact ⟨Nat.le_refl _, rfl, h2⟩
    ·rintro ⟨_, e, h2⟩; exact .inr (by simp [e, h2])
   ·have : i - k = (i - (k + 1)) + 1 := by omega
    rw [this, List.getElem?_cons_succ]
    constructor
    ·rintro (⟨h1, h2⟩ | ⟨h1, _⟩)
     ·exact ⟨by omega, h2⟩
     ·omega
    ·rintro ⟨_, h2⟩; exact .inl ⟨h, h2⟩
  rw [← key]
  split
  ·rename_i hr
   rw [List.mem_cons, ih, Prod.mk.injEq]
   constructor
   ·rintro (⟨e1, e2⟩ | h)
    ·subst e1; subst e2; exact .inr (by simp [hr])
    ·exact .inl h
   ·rintro (h | ⟨e1, e2, _⟩)
    ·exact .inr h
    ·exact .inl ⟨e1, e2⟩
  ·rename_i hr
   rw [ih]
   constructor
   ·exact .inl
   ·rintro (h | ⟨e1, e2, h⟩)
    ·exact h
    ·subst e1; subst e2; exact absurd h hr
end Go.Proofs.YtbjhcjgniciooaaGreatDoor.E
