/- TopModes: a part of the proof, merged. -/
import Derived.Test.YtbjhcjgniciooaaGreatDoorM3
namespace Go.Proofs.YtbjhcjgniciooaaGreatDoor.E
set_option linter.unusedVariables false
set_option linter.unusedSimpArgs false
theorem growBy_le (n : Nat) : ∀ (r c : Nat), c ≤ n + (n + 768) / 4 → Builtin.growBy n r c ≤ n + (n + 768) / 4
 | 0, c, h => h
 | r + 1, c, h => by
  unfold Builtin.growBy
  split
  ·exact h
  ·exact growBy_le n r _ (by omega)
theorem next_le (n c : Nat) (h : c < n) : Builtin.nextslicecap n c ≤ 2 * n + 192 := by
 unfold Builtin.nextslicecap
 split
 ·omega
 ·split
  ·omega
  ·have := growBy_le n 4 c (by omega)
   omega
theorem setArr_list : ∀ (vs : List Value) (arr : Array Value) (p : Nat), p + vs.length ≤ arr.size → (setArr arr p vs).toList = arr.toList.take p ++ vs ++ arr.toList.drop (p + vs.length)
 | [], arr, p, _ => by simp [setArr]
 | v :: vs, arr, p, h => by
  simp only [List.length_cons] at h
  rw [setArr, setArr_list vs _ (p + 1) (by simp; omega), Array.toList_setIfInBounds]
  have h1 : (arr.toList.set p v).take (p + 1) = arr.toList.take p ++ [v] := by
   have hp : p < arr.toList.length := by simp; omega
   rw [List.set_eq_take_append_cons_drop, if_pos hp, List.take_append, List.take_of_length_le (by simp; omega)]
   have : p + 1 - (arr.toList.take p).length = 1 := by simp; omega
   rw [this]; rfl
  have h2 : (arr.toList.set p v).drop (p + 1 + vs.length) = arr.toList.drop (p + (v :: vs).length) := by
   rw [List.drop_set_of_lt (by omega)]; simp [Nat.add_comm, Nat.add_left_comm]
  rw [h1, h2]; simp
section
variable {C : Cx} {E : Env} {st : St} {w : World}
/-- A block's new letter. -/
theorem M.move {HT : Th} {F : Env} (h : M HT E st w) {b : Nat} {k k' : Blk} (hb : st.bk.get b = some k) (hs : k.solid = true) (ht : k.ty = none) (e : Ext E F) (hF : F.n = E.n + 1) (hS : Sam E F) (hβ : F.β E.n = E.β b)
  (hk : BlkOk HT F w E.n k') (ht' : k'.ty = none) : M HT F { st.fr with bk := (st.bk.set b .dead).set st.nx k' } w := by
 have h' : M HT F st.fr w := h.ext e hS _ (by rw [hF, h.nx]; rfl) rfl rfl rfl rfl rfl rfl rfl rfl rfl rfl
 have hbn := (h.bk b k hb).2
 have bget : ∀ c z, ((st.bk.set b .dead).set st.nx k').get c = some z → (c = st.nx ∧ z = k') ∨ (c = b ∧ z = .dead) ∨ (c ≠ b ∧ st.bk.get c = some z) := fun c z hz => by
  rw [PT.get_set] at hz
  by_cases e1 : c = st.nx
  ·rw [if_pos e1] at hz; injection hz with hz; exact .inl ⟨e1, hz.symm⟩
  ·rw [if_neg e1, PT.get_set] at hz
   by_cases e2 : c = b
   ·rw [if_pos e2] at hz; injection hz with hz; exact .inr (.inl ⟨e2, hz.symm⟩)
   ·rw [if_neg e2] at hz; exact .inr (.inr ⟨e2, hz⟩)
 have hn : F.β st.nx = E.β b := by rw [← h.nx]; exact hβ
 refine ⟨h'.nx, h'.g, h'.cs, h'.vt, h'.vs, fun c z hc => ?_, fun c c' z z' hc hc' hz hz' hβ' => ?_, h'.heap, h'.dom, h'.an, h'.bt, h'.born, h'.md, fun c τ => ?_, h'.gh⟩
 ·rcases bget c z hc with ⟨rfl, rfl⟩ | ⟨rfl, rfl⟩ | ⟨_, hc⟩
  ·rw [← h.nx]; exact ⟨hk, by rw [hF]; exact Nat.lt_succ_self _⟩
  ·refine ⟨?_, Nat.lt_of_lt_of_le hbn e.n⟩
   have own := (h.bk _ k hb).1.own' hs
   rw [ht] at own
   show ¬ F.N (F.β _)
   rw [e.N, ← e.β _ hbn]; exact own.2.2
  ·exact h'.bk c z hc
 ·have other : ∀ c z, c ≠ b → st.bk.get c = some z → z.solid = true → F.β c ≠ E.β b := fun c z hne hc hz heq => by
   rw [← e.β c (h.bk c z hc).2] at heq
   exact hne (h.inj c b z k hc hb hz hs heq)
  rcases bget c z hc with ⟨e1, e2⟩ | ⟨e1, e2⟩ | ⟨hne, gc⟩
  ·rcases bget c' z' hc' with ⟨e3, e4⟩ | ⟨e3, e4⟩ | ⟨hne', gc'⟩
   ·rw [e1, e3]
   ·rw [e4] at hz'; cases hz'
   ·rw [e1, hn] at hβ'; exact absurd hβ'.symm (other c' z' hne' gc' hz')
  ·rw [e2] at hz; cases hz
  ·rcases bget c' z' hc' with ⟨e3, e4⟩ | ⟨e3, e4⟩ | ⟨hne', gc'⟩
   ·rw [e3, hn] at hβ'; exact absurd hβ' (other c z hne gc hz)
   ·rw [e4] at hz'; cases hz'
   ·exact h'.inj c c' z z' gc gc' hz hz' hβ'
 ·have ho : (c, τ) ∈ ({ st.fr with bk := (st.bk.set b .dead).set st.nx k' } : St).op ↔ (c, τ) ∈ st.op := Iff.rfl
  rw [ho, h.op c τ]
  constructor
  ·rintro ⟨el, cs, f, hc⟩
   have n1 : c ≠ st.nx := by have := (h.bk _ _ hc).2; rw [h.nx] at this; omega
   have n2 : c ≠ b := fun e1 => by rw [e1, hb] at hc; injection hc with hc; rw [hc] at ht; cases ht
   exact ⟨el, cs, f, by show ((st.bk.set b .dead).set st.nx k').get c = _; rw [PT.get_set, if_neg n1, PT.get_set, if_neg n2]; exact hc⟩
  ·rintro ⟨el, cs, f, hc⟩
   rcases bget c _ hc with ⟨_, e2⟩ | ⟨_, e2⟩ | ⟨_, hc⟩
   ·rw [← e2] at ht'; cases ht'
   ·cases e2
   ·exact ⟨el, cs, f, hc⟩
/-- A block is forgotten. -/
theorem M.kill {HT : Th} (h : M HT E st w) {b : Nat} {k : Blk} (hb : st.bk.get b = some k) (hs : k.solid = true) (ht : k.ty = none) : M HT E { st with bk := st.bk.set b .dead, md := b :: st.md } w := by
 have hbn := (h.bk b k hb).2
 have bget : ∀ c z, (st.bk.set b .dead).get c = some z → (c = b ∧ z = .dead) ∨ (c ≠ b ∧ st.bk.get c = some z) := fun c z hz => by
  rw [PT.get_set] at hz
  by_cases e2 : c = b
  ·rw [if_pos e2] at hz; injection hz with hz; exact .inl ⟨e2, hz.symm⟩
  ·rw [if_neg e2] at hz; exact .inr ⟨e2, hz⟩
 refine ⟨h.nx, h.g, h.cs, h.vt, h.vs, fun c z hc => ?_, fun c c' z z' hc hc' hz hz' hβ' => ?_, h.heap, h.dom, h.an, h.bt, h.born, fun c hc => ?_, fun c τ => ?_, h.gh⟩
 ·rcases bget c z hc with ⟨rfl, rfl⟩ | ⟨_, hc⟩
  ·have own := (h.bk _ k hb).1.own' hs
   rw [ht] at own
   exact ⟨own.2.2, hbn⟩
  ·exact h.bk c z hc
 ·rcases bget c z hc with ⟨e1, e2⟩ | ⟨hne, gc⟩
  ·rw [e2] at hz; cases hz
  ·rcases bget c' z' hc' with ⟨e3, e4⟩ | ⟨hne', gc'⟩
   ·rw [e4] at hz'; cases hz'
   ·exact h.inj c c' z z' gc gc' hz hz' hβ'
 ·rcases List.mem_cons.1 hc with rfl | hc
  ·exact hbn
  ·exact h.md c hc
 ·have ho : (c, τ) ∈ ({ st with bk := st.bk.set b .dead, md := b :: st.md } : St).op ↔ (c, τ) ∈ st.op := Iff.rfl
  rw [ho, h.op c τ]
  constructor
  ·rintro ⟨el, cs, f, hc⟩
   have n2 : c ≠ b := fun e1 => by rw [e1, hb] at hc; injection hc with hc; rw [hc] at ht; cases ht
   exact ⟨el, cs, f, by show (st.bk.set b .dead).get c = _; rw [PT.get_set, if_neg n2]; exact hc⟩
  ·rintro ⟨el, cs, f, hc⟩
   rcases bget c _ hc with ⟨_, e2⟩ | ⟨_, hc⟩
   ·cases e2
   ·exact ⟨el, cs, f, hc⟩
end
end Go.Proofs.YtbjhcjgniciooaaGreatDoor.E
namespace Go.Proofs.YtbjhcjgniciooaaGreatDoor.E
set_option linter.unusedVariables false
set_option linter.unusedSimpArgs false
theorem PT.setB_setB {α : Type} (t : PT α) (bs : List Bool) (x y : α) : (t.setB bs x).setB bs y = t.setB bs y := by
 induction bs generalizing t with
 | nil => cases t <;> rfl
 | cons b bs ih => cases t <;> cases b <;> simp [PT.setB, ih]
theorem PT.set_set {α : Type} (t : PT α) (n : Nat) (x y : α) : (t.set n x).set n y = t.set n y := PT.setB_setB _ _ _ _
section
variable {C : Cx} {E : Env} {st : St} {w : World}
/-! ### What a slice (or a text) holds -/
def srcCells (st : St) (z : Nat) : AV → Option (Nat × List AV)
 | .sl0 => some (0, [])
 | .emp => some (0, [])
 | .str l => if z = 1 then some (l.length, l.map fun (c : Nat) => AV.int .u8 (.k c)) else none
 | .sl b o n _ z' =>
  if z' = z then match st.bk.get b with
   | some (.cells _ cs _ _) => if o + n * z ≤ cs.length ∧ ((cs.drop o).take (n * z)).all (one st) then some (n, (cs.drop o).take (n * z)) else none
   | _ => none
  else none
 | _ => none
theorem src_ok {HT : Th} {P : Program} (h : M HT E st w) {z n : Nat} {a : AV} {cs : List AV} (hs : srcCells st z a = some (n, cs)) {v : Value} (hv : V HT E a v) :
  ∃ vs : Array Value, (∀ w', (Builtin.lenOf v).run P w' = .ok n w') ∧ (∀ w', w'.heap = w.heap → (Builtin.firstCells z n v).run P w' = .ok vs w') ∧ Vs HT E cs vs.toList ∧ (∀ c ∈ vs.toList, c.oneCell' = true) ∧ cs.length = n * z := by
 unfold srcCells at hs
 split at hs <;> try cases hs
 ·cases (show v = _ from hv)
  exact ⟨#[], fun _ => rfl, fun _ _ => rfl, rfl, fun c hc => by simp at hc, by simp⟩
 ·obtain ⟨ad, c, rfl⟩ := hv
  refine ⟨#[], fun _ => rfl, fun w' _ => ?_, rfl, fun c hc => by simp at hc, by simp⟩
  cases ad with
  | none => rfl
  | some a =>
   show (loadCells a (0 * z)).run P w' = _
   rw [Nat.zero_mul]; rfl
 ·rename_i l
  split at hs <;> try cases hs
  rename_i hz
  subst hz
  obtain ⟨s, rfl, hl⟩ := hv
  have hsz : s.size = l.length := by rw [size_len, hl]
  refine ⟨s.data.map fun b => .int .u8 b.toNat, fun w' => by show Result.ok s.size w' = _; rw [hsz], fun w' _ => ?_, ?_, fun c hc => ?_, by simp⟩
  ·show Result.ok ((s.extract 0 l.length).data.map fun b => Value.int .u8 b.toNat) w' = _
   rw [← hsz]; congr 2; simp
  ·rw [Array.toList_map, ← hl, List.map_map]
   rw [Vs_iff]
   refine ⟨by simp, fun i a v ha hv => ?_⟩
   simp only [List.getElem?_map, Option.map_eq_some_iff, Function.comp] at ha hv
   obtain ⟨x, hx, rfl⟩ := ha
   obtain ⟨y, hy, rfl⟩ := hv
   rw [hx] at hy; injection hy with hy; subst hy
   have := x.toNat_lt
   refine ⟨by rw [Lin.ev_k], below_k _ _, ?_, ?_⟩
   ·rw [Lin.ev_k]; show (0 : Int) ≤ _; omega
   ·rw [Lin.ev_k]; show _ ≤ (255 : Int); omega
  ·simp at hc; obtain ⟨x, _, rfl⟩ := hc; rfl
 ·rename_i b o _ cap z'
  split at hs <;> try cases hs
  rename_i hz
  subst hz
  split at hs <;> try cases hs
  rename_i el cs' full ty hb
  split at hs <;> try cases hs
  rename_i hl
  obtain ⟨c, rfl, _⟩ := hv
  obtain ⟨arr, pre, rest, h1, h2, h3, h4, h5, h6, h7⟩ := h.cells hb
  have hp := h3.len
  have hcs := (h3.drop o).take (n * z')
  have hlen : ((pre.drop o).take (n * z')).length = n * z' := by simp; omega
  refine ⟨((pre.drop o).take (n * z')).toArray, fun _ => rfl, fun w' hw => ?_, by simpa using hcs, fun c hc => ?_, by simp; omega⟩
  ·show (loadCells ⟨E.β b, o, none⟩ (n * z')).run P w' = _
   have := run_loadCells_list (P := P) w' ⟨E.β b, o, none⟩ ((pre.drop o).take (n * z')) (fun j v hj => ?_)
   ·rw [hlen] at this; exact this
   ·have hjl := (List.getElem?_eq_some_iff.1 hj).1
    rw [List.getElem?_take_of_lt (by omega), List.getElem?_drop] at hj
    rw [add_addr, cell_of (arr := arr) (e := el) (f := (0, 0)) (by rw [hw]; exact h1)]
    have : arr.toList[o + j]? = some v := by rw [h2, List.getElem?_append_left (by omega)]; exact hj
    simpa using this
  ·have hc : c ∈ (pre.drop o).take (n * z') := by simpa using hc
   obtain ⟨i, hi⟩ := List.getElem?_of_mem hc
   have hlt : i < ((cs'.drop o).take (n * z')).length := by rw [hcs.len]; exact (List.getElem?_eq_some_iff.1 hi).1
   have ho := List.all_eq_true.1 hl.2 _ (List.getElem_mem hlt)
   exact one_ok h ((Vs_iff.1 hcs).2 i _ c (List.getElem?_eq_getElem hlt) hi) ho
/-! ### append -/
def writeAt (cs : List AV) (p : Nat) (src : List AV) : List AV := cs.take p ++ src ++ cs.drop (p + src.length)
def xTyOk (C : Cx) (t : TypeId) : Bool :=
 match C.und t with
 | some (.slice _) | some .string => true
 | _ => false
/-- A row of its own, behind a draw of its capacity. -/
def growA (st : St) (el : TypeId) (need : Nat) (cells : List AV) (z : Nat) : AV × St := (.sl st.nx 0 need none z, st.newB (.cells el cells false none))
def isSl : AV → Bool
 | .sl0 | .emp | .sl _ _ _ _ _ => true
 | _ => false
def appendA (C : Cx) (st : St) (sT xT : TypeId) (s x : AV) : Option (AV × St) :=
 match C.und sT with
 | some (.slice el) => match C.inf el, zeroA C el with
  | some ti, some z =>
   if xTyOk C xT = true ∧ z.length = ti.size ∧ ti.bytes ≤ 100000 then
    match srcCells st ti.size x, srcCells st ti.size s with
    | some (n, src), some (sn, old) =>
     if sn + n ≤ 100000 then
      if n = 0 then (if isSl s then some (s, st) else none) else
      match s with
      | .sl0 => some (growA st el (sn + n) (old ++ src) ti.size)
      | .sl b o _ cap _ => match st.bk.get b with
       | some (.cells el' cs full none) => match cap with
        | some c =>
         if sn + n ≤ c then some (.sl b o (sn + n) cap ti.size, st.put b (.cells el' (writeAt cs (o + sn * ti.size) src) full none))
         else some (growA st el (sn + n) (old ++ src) ti.size)
        | none => if o = 0 ∧ el' = el then some (.sl st.nx 0 (sn + n) none ti.size, { st.fr with bk := (st.bk.set b .dead).set st.nx (.cells el (cs.take (sn * ti.size) ++ src) false none), md := b :: st.md }) else none
       | _ => none
      | _ => none
     else none
    | _, _ => none
   else none
  | _, _ => none
 | _ => none
theorem r_append2 (hC : CxOk C) {sT xT el ty : TypeId} {ti : TypeInfo} (hd : C.und sT = some (.slice el)) (hi : C.inf el = some ti) (hx : xTyOk C xT = true) (base : Option Addr) (sn sc n : Nat) (x : Value) {new : Array Value} {w : World}
  (hn : ∀ w', (Builtin.lenOf x).run C.P w' = .ok n w') (hnew : ∀ w', w'.heap = w.heap → (Builtin.firstCells ti.size n x).run C.P w' = .ok new w') :
  (sn + n ≤ sc → (Builtin.append_ #[sT, xT] ty #[.slice base sn sc, x]).run C.P w = (do (match base with | some a => storeCells (a.add (sn * ti.size)) new.toList | none => pure ()); pure (.slice base (sn + n) sc) : Sem Value).run C.P w) ∧
  (∀ (old : Array Value) (zv : Value), sc < sn + n → sn + n ≤ 500000000000 → (2 * (sn + n) + 192) * ti.bytes ≤ 2 ^ 48 → (∀ w', w'.heap = w.heap → (Builtin.firstCells ti.size sn (.slice base sn sc)).run C.P w' = .ok old w') → (∀ w', (zeroValue el).run C.P w' = .ok zv w') →
   ∃ nc, sn + n ≤ nc ∧ nc < 2 ^ 63 ∧ (Builtin.append_ #[sT, xT] ty #[.slice base sn sc, x]).run C.P w = .ok (.slice (some ⟨w.heap.size, 0, none⟩) (sn + n) nc) (({ w with drawn := w.drawn + 1 } : World).alloc (.cells (old ++ new ++ Builtin.zeroCells zv.cells (nc - (sn + n))) el))) := by
 have hxt : (∃ e, C.und xT = some (.slice e)) ∨ C.und xT = some .string := by
  unfold xTyOk at hx
  split at hx
  ·rename_i e he
   exact .inl ⟨_, he⟩
  ·rename_i he
   exact .inr he
  ·cases hx
 constructor
 ·intro hfit
  rcases hxt with ⟨e', hdx⟩ | hdx
  all_goals
   unfold Builtin.append_
   simp only [List.getElem?_toArray, List.getElem?_cons_zero, List.getElem?_cons_succ, Sem.run_bind, r_und hC hd, r_und hC hdx, Result.andThen_ok, r_size hC hi, Sem.run_pure, Bool.false_eq_true, if_false, hn, if_pos hfit, Bool.not_false, if_true, hnew w rfl]
   cases base
   ·rfl
   ·simp only [Sem.run_bind]; rfl
 ·intro old zv hgrow hsm hby hold hzero
  have hnx := next_le (sn + n) sc hgrow
  have c1 : ¬ (((sn + n : Nat) : Int) > IntKind.i64.max ∧ (False ∨ ti.bytes = 0)) := fun h => by
   have : (500000000000 : Int) ≤ IntKind.i64.max := by decide
   omega
  have c2 : ¬ (Builtin.nextslicecap (sn + n) sc * ti.bytes > 2 ^ 48) := by
   have : Builtin.nextslicecap (sn + n) sc * ti.bytes ≤ (2 * (sn + n) + 192) * ti.bytes := Nat.mul_le_mul_right _ hnx
   omega
  refine ⟨(Question.appendCap (sn + n) sc el).cut (w.tape w.drawn (.appendCap (sn + n) sc el)), Nat.le_add_right _ _, by
   show sn + n + _ % (2 ^ 63 - (sn + n)) < 2 ^ 63
   have := Nat.mod_lt (w.tape w.drawn (.appendCap (sn + n) sc el)) (show 0 < 2 ^ 63 - (sn + n) by omega)
   omega, ?_⟩
  have hch : (choose (.appendCap (sn + n) sc el)).run C.P w = .ok ((Question.appendCap (sn + n) sc el).cut (w.tape w.drawn (.appendCap (sn + n) sc el))) { w with drawn := w.drawn + 1 } := rfl
  rcases hxt with ⟨e', hdx⟩ | hdx
  all_goals
   unfold Builtin.append_
   simp only [List.getElem?_toArray, List.getElem?_cons_zero, List.getElem?_cons_succ, Sem.run_bind, r_und hC hd, r_und hC hdx, Result.andThen_ok, r_size hC hi, r_info hC hi, Sem.run_pure, Bool.false_eq_true, if_false, hn, if_neg (Nat.not_le.2 hgrow), Bool.not_false, if_true]
   rw [if_neg c1]
   simp only [Sem.run_bind, r_info hC hi, Result.andThen_ok]
   rw [if_neg c2]
   simp only [Sem.run_bind]
   rw [hch]
   simp only [Result.andThen_ok, r_info hC hi, run_askRoom]
   rw [hold { w with drawn := w.drawn + 1 } rfl]
   simp only [Result.andThen_ok]
   rw [hnew { w with drawn := w.drawn + 1 } rfl]
   simp only [Result.andThen_ok, hzero]
   rfl
theorem r_append (hC : CxOk C) {sT xT el ty : TypeId} {ti : TypeInfo} (hd : C.und sT = some (.slice el)) (hi : C.inf el = some ti) (hx : xTyOk C xT = true) (base : Option Addr) (sn sc n : Nat) (x : Value) {new : Array Value} {w : World}
  (hn : ∀ w', (Builtin.lenOf x).run C.P w' = .ok n w') (hnew : ∀ w', w'.heap = w.heap → (Builtin.firstCells ti.size n x).run C.P w' = .ok new w') :
  (sn + n ≤ sc → (Builtin.append_ #[sT, xT] ty #[.slice base sn sc, x]).run C.P w = (do (match base with | some a => storeCells (a.add (sn * ti.size)) new.toList | none => pure ()); pure (.slice base (sn + n) sc) : Sem Value).run C.P w) ∧
  (∀ (old : Array Value) (zv : Value), sc < sn + n → sn + n ≤ 500000000000 → (2 * (sn + n) + 192) * ti.bytes ≤ 2 ^ 48 → (∀ w', w'.heap = w.heap → (Builtin.firstCells ti.size sn (.slice base sn sc)).run C.P w' = .ok old w') → (∀ w', (zeroValue el).run C.P w' = .ok zv w') →
   ∃ nc, sn + n ≤ nc ∧ (Builtin.append_ #[sT, xT] ty #[.slice base sn sc, x]).run C.P w = .ok (.slice (some ⟨w.heap.size, 0, none⟩) (sn + n) nc) (({ w with drawn := w.drawn + 1 } : World).alloc (.cells (old ++ new ++ Builtin.zeroCells zv.cells (nc - (sn + n))) el))) :=
 let ⟨a, b⟩ := r_append2 hC hd hi hx base sn sc n x (ty := ty) hn hnew
 ⟨a, fun old zv h1 h2 h3 h4 h5 => let ⟨nc, g1, _, g2⟩ := b old zv h1 h2 h3 h4 h5; ⟨nc, g1, g2⟩⟩
theorem writeAt_ok {HT : Th} {cs src : List AV} {pre rest : List Value} {vs : List Value} {arr : Array Value} {p : Nat} (hc : Vs HT E cs pre) (hs : Vs HT E src vs) (ha : arr.toList = pre ++ rest) (hp : p ≤ cs.length) (hl : p + vs.length ≤ arr.size) :
  ∃ pre' rest', Vs HT E (writeAt cs p src) pre' ∧ (setArr arr p vs).toList = pre' ++ rest' ∧ (rest = [] → rest' = []) := by
 have hcl := hc.len
 have hsl := hs.len
 refine ⟨pre.take p ++ vs ++ pre.drop (p + vs.length), rest.drop (p + vs.length - pre.length), ?_, ?_, fun e => by rw [e]; simp⟩
 ·unfold writeAt
  rw [hsl]
  exact ((hc.take p).append hs).append (hc.drop _)
 ·rw [setArr_list vs arr p hl, ha, List.take_append_of_le_length (by omega), List.drop_append]
  simp [List.append_assoc]
theorem zeroCells_size (z : Array Value) (n : Nat) : (Builtin.zeroCells z n).size = n * z.size := by unfold Builtin.zeroCells; simp
theorem grow_ok (hC : CxOk C) (h : M C.HT E st w) {r : World} (hr : Ref E st r w) {el : TypeId} {need z nc : Nat} {cells : List AV} {arr rest : Array Value} (hv : Vs C.HT E cells arr.toList) (hnc : need ≤ nc) (hz : arr.size + rest.size = nc * z) {w1 : World} (h1 : w1.heap = w.heap) (h2 : w1.os = w.os) (h3 : w1.tape = w.tape) (h4 : w1.output = w.output) :
  ∃ E', Ext E E' ∧ M C.HT E' (growA st el need cells z).2 (w1.alloc (.cells (arr ++ rest) el)) ∧ Ref E' (growA st el need cells z).2 r (w1.alloc (.cells (arr ++ rest) el)) ∧ V C.HT E' (growA st el need cells z).1 (.slice (some ⟨w.heap.size, 0, none⟩) need nc) := by
 have h' := h.world h1
 have hr' := hr.world h1 h2 h3 h4
 have hsz : w1.heap.size = w.heap.size := by rw [h1]
 have e := E.frc_ext 0 (.bool false) w.heap.size (nc * z)
 refine ⟨_, e, h'.newB _ _ e rfl (E.frc_sam _ _ _ _) (by simp [hsz]) ?_ (fun _ _ _ _ hh => by cases hh), ((hr'.ext e rfl rfl h'.md).alloc _).st rfl rfl, ?_⟩
 ·refine ⟨arr ++ rest, arr.toList, rest.toList, ?_, by simp, Vs.ext C.HT e _ hv, (fun hh => by cases hh), ?_, by simp [hz]⟩
  ·rw [Env.frc_β, ← hsz]; exact heap_alloc_new w1 _
  ·rw [Env.frc_β]; exact h.newPrv
 ·rw [show (growA st el need cells z).1 = .sl st.nx 0 need none z from rfl, ← h.nx]
  exact ⟨nc, by simp, hnc, (fun c' hc' => by cases hc'), Nat.lt_succ_self _, by simp⟩
theorem append_ok (hC : CxOk C) (h : M C.HT E st w) {r : World} (hr : Ref E st r w) {sT xT ty : TypeId} {s x : AV} {o : AV × St} (ho : appendA C st sT xT s x = some o) {vs vx : Value} (hs : V C.HT E s vs) (hx : V C.HT E x vx) :
  DoesV C E st r w (Builtin.append_ #[sT, xT] ty #[vs, vx]) [o] := by
 unfold appendA at ho
 split at ho <;> try cases ho
 rename_i el hd
 split at ho <;> try cases ho
 rename_i ti z hti hz
 split at ho <;> try cases ho
 rename_i hc
 obtain ⟨hxt, hzl, hby⟩ := hc
 split at ho <;> try cases ho
 rename_i n src sn old hsrc hold
 split at ho <;> try cases ho
 rename_i hsm
 obtain ⟨zv, hz1, hz2⟩ := zeroA_ok (E := E) hC hz
 obtain ⟨new, n1, n2, n3, n4, n5⟩ := src_ok (P := C.P) h hsrc hx
 obtain ⟨olds, o1, o2, o3, o4, o5⟩ := src_ok (P := C.P) h hold hs
 have hzs : zv.cells.size = ti.size := by rw [← hzl, hz2.len]; simp
 have hns : new.size = n * ti.size := by rw [← n5, n3.len]; simp
 have hos : olds.size = sn * ti.size := by rw [← o5, o3.len]; simp
 have hbig : (2 * (sn + n) + 192) * ti.bytes ≤ 2 ^ 48 := by
  have : (2 * (sn + n) + 192) * ti.bytes ≤ 200192 * 100000 := Nat.mul_le_mul (by omega) hby
  omega
 have grow : ∀ (base : Option Addr) (sc : Nat), vs = .slice base sn sc → sc < sn + n → DoesV C E st r w (Builtin.append_ #[sT, xT] ty #[vs, vx]) [growA st el (sn + n) (old ++ src) ti.size] := fun base sc e hlt => by
  subst e
  obtain ⟨nc, g1, g2⟩ := (r_append hC hd hti hxt base sn sc n vx n1 n2 (ty := ty)).2 olds zv hlt (by omega) hbig o2 hz1
  obtain ⟨E', q1, q2, q3, q4⟩ := grow_ok (z := ti.size) (nc := nc) (rest := Builtin.zeroCells zv.cells (nc - (sn + n))) hC h hr (el := el) (cells := old ++ src) (arr := olds ++ new) (by rw [Array.toList_append]; exact o3.append n3) g1 (by
   rw [zeroCells_size, Array.size_append, hns, hos, hzs, ← Nat.add_mul, ← Nat.add_mul]; congr 1; omega) (w1 := { w with drawn := w.drawn + 1 }) rfl rfl rfl rfl
  exact ⟨_, _, g2, _, List.mem_cons_self .., E', q1, q2, q3, q4⟩
 have fits := fun (base : Option Addr) (sc : Nat) (hle : sn + n ≤ sc) => (r_append hC hd hti hxt base sn sc n vx n1 n2 (ty := ty)).1 hle
 by_cases hn0 : n = 0
 ·rw [if_pos hn0] at ho
  split at ho <;> try cases ho
  rename_i hsl
  have new0 : new.toList = [] := by
   have : new.size = 0 := by rw [hns, hn0]; simp
   exact List.eq_nil_of_length_eq_zero (by simpa using this)
  have run0 : ∀ base sc, vs = .slice base sn sc → sn ≤ sc → (Builtin.append_ #[sT, xT] ty #[vs, vx]).run C.P w = .ok vs w := fun base sc e hle => by
   subst e
   rw [fits base sc (by omega), new0, hn0]
   cases base <;> rfl
  refine ⟨vs, w, ?_, _, List.mem_cons_self .., E, Ext.refl E, h, hr, hs⟩
  cases s <;> simp only [isSl] at hsl <;> try cases hsl
  ·simp only [srcCells, Option.some.injEq, Prod.mk.injEq] at hold
   exact run0 none 0 (by rw [← hold.1]; exact hs) (by omega)
  ·simp only [srcCells] at hold
   split at hold <;> try cases hold
   split at hold <;> try cases hold
   split at hold <;> try cases hold
   obtain ⟨c, e, hc, _⟩ := hs
   exact run0 _ c e hc
  ·simp only [srcCells, Option.some.injEq, Prod.mk.injEq] at hold
   obtain ⟨a, c, e⟩ := hs
   exact run0 a c (by rw [e, ← hold.1]) (by omega)
 ·rw [if_neg hn0] at ho
  split at ho <;> try cases ho
  ·simp only [srcCells, Option.some.injEq, Prod.mk.injEq] at hold
   exact grow none 0 (by rw [← hold.1]; exact hs) (by omega)
  ·rename_i b o' sn' cap z'
   split at ho <;> try cases ho
   rename_i el' cs full hb
   have hold' := hold
   simp only [srcCells] at hold
   split at hold <;> try cases hold
   rename_i hzz
   subst hzz
   rw [hb] at hold
   dsimp only at hold
   split at hold <;> try cases hold
   rename_i hl
   obtain ⟨arr, pre, rest, h1, h2, h3, h4, h5, h6, h7⟩ := h.cells hb
   obtain ⟨c, e, hc1, hc2, hc3, hc4⟩ := hs
   have hpl := h3.len
   cases cap with
   | some c' =>
    dsimp only at ho
    have hcc := hc2 c' rfl
    subst hcc
    by_cases hle : sn + n ≤ c
    ·rw [if_pos hle] at ho
     injection ho with ho; subst ho
     subst e
     have hnl : new.toList.length = n * ti.size := by simpa using hns
     have hpos : (o' + sn * ti.size) + new.toList.length ≤ arr.size := by
      rw [hnl, h7 rfl]
      have : (sn + n) * ti.size ≤ c * ti.size := Nat.mul_le_mul_right _ hle
      rw [Nat.add_mul] at this
      omega
     obtain ⟨w', g1, g2⟩ := run_stores C.P (E.β b) el' new.toList arr (o' + sn * ti.size) 0 w h1 (by omega) n4
     rw [Nat.add_zero] at g2
     obtain ⟨pre', rest', k1, k2, k3⟩ := writeAt_ok h3 n3 h2 hl.1 hpos
     refine ⟨_, w', ?_, _, List.mem_cons_self .., E, Ext.refl E, h.put hb rfl rfl rfl g2.other g2.size ⟨_, pre', rest', g2.same, k2, k1, fun hf => k3 (h4 hf), h5, by rw [setArr_size]; exact h7⟩, hr.put h hb rfl rfl g2.other g2.size g2.os g2.tape g2.output, c, rfl, hle, fun c' hc' => by injection hc', hc3, hc4⟩
     rw [fits _ c hle]
     simp only [add_addr, Sem.run_bind, g1, Result.andThen_ok, Sem.run_pure]
    ·rw [if_neg hle] at ho
     injection ho with ho; subst ho
     exact grow _ c e (by omega)
   | none =>
    dsimp only at ho
    split at ho <;> try cases ho
    rename_i hoel
    obtain ⟨ho0, hel⟩ := hoel
    subst ho0; subst hel
    by_cases hle : sn + n ≤ c
    ·subst e
     have hnl : new.toList.length = n * ti.size := by simpa using hns
     have hpos : (0 + sn * ti.size) + new.toList.length ≤ arr.size := by
      rw [hnl, h7 rfl]
      have : (sn + n) * ti.size ≤ c * ti.size := Nat.mul_le_mul_right _ hle
      rw [Nat.add_mul] at this
      omega
     obtain ⟨w', g1, g2⟩ := run_stores C.P (E.β b) el' new.toList arr (0 + sn * ti.size) 0 w h1 (by omega) n4
     rw [Nat.add_zero] at g2
     have e := E.frc_ext 0 (.bool false) (E.β b) (E.κ b)
     have k1 : Vs C.HT E (cs.take (sn * ti.size) ++ src) (pre.take (sn * ti.size) ++ new.toList) := (h3.take _).append n3
     have k2 : (setArr arr (0 + sn * ti.size) new.toList).toList = (pre.take (sn * ti.size) ++ new.toList) ++ (pre ++ rest).drop (sn * ti.size + new.toList.length) := by
      rw [setArr_list _ _ _ hpos, h2, Nat.zero_add, List.take_append_of_le_length (by omega)]
     have hput := h.put (k' := .cells el' (cs.take (sn * ti.size) ++ src) false none) hb rfl rfl rfl g2.other g2.size ⟨_, _, _, g2.same, k2, k1, (fun hf => by cases hf), h5, by rw [setArr_size]; exact h7⟩
     have hmv := hput.move (F := E.frc 0 (.bool false) (E.β b) (E.κ b)) (k := .cells el' (cs.take (sn * ti.size) ++ src) false none) (k' := .cells el' (cs.take (sn * ti.size) ++ src) false none) (by show (st.bk.set b _).get b = _; rw [PT.get_set, if_pos rfl]) rfl rfl e rfl (E.frc_sam _ _ _ _) (by simp)
      ⟨_, _, _, by rw [Env.frc_β]; exact g2.same, k2, Vs.ext C.HT e _ k1, (fun hf => by cases hf), by rw [Env.frc_β]; exact h5.ext e (fun h => h), fun _ => by rw [setArr_size, Env.frc_κ]; exact h7 rfl⟩ rfl
     have e2 : ((st.put b (.cells el' (cs.take (sn * ti.size) ++ src) false none)).bk.set b .dead) = st.bk.set b .dead := PT.set_set _ _ _ _
     rw [e2] at hmv
     have hrf := hr.put (k' := .cells el' (cs.take (sn * ti.size) ++ src) false none) h hb rfl rfl g2.other g2.size g2.os g2.tape g2.output
     refine ⟨.slice (some ⟨E.β b, 0, none⟩) (sn + n) c, w', ?_, _, List.mem_cons_self .., _, e, hmv, (hrf.ext e rfl rfl hput.md).st rfl rfl, c, ?_, hle, (fun c' hc' => by cases hc'), ?_, ?_⟩
     ·rw [fits _ c hle]
      simp only [add_addr, Sem.run_bind, g1, Result.andThen_ok, Sem.run_pure]
     ·rw [← h.nx]; simp
     ·rw [← h.nx]; exact Nat.lt_succ_self _
     ·rw [← h.nx]; simp only [Env.frc_κ]; exact hc4
    ·have hk := h.kill hb rfl rfl
     have hrk : Ref E ({ st with bk := st.bk.set b .dead, md := b :: st.md } : St) r w := ⟨hr.os, hr.tape, hr.output, hr.size, fun hw i hi g1 g2 g3 => hr.blk hw i hi (fun c hc => g1 c (List.mem_cons_of_mem _ hc)) g2 g3, hr.agr, hr.frn⟩
     subst e
     obtain ⟨nc, g1, g2⟩ := (r_append hC hd hti hxt _ sn c n vx n1 n2 (ty := ty)).2 olds zv (by omega) (by omega) hbig o2 hz1
     obtain ⟨E', q1, q2, q3, q4⟩ := grow_ok (z := ti.size) (nc := nc) (rest := Builtin.zeroCells zv.cells (nc - (sn + n))) hC hk hrk (el := el') (cells := cs.take (sn * ti.size) ++ src) (arr := olds ++ new) (by rw [Array.toList_append]; exact o3.append n3) g1 (by
      rw [zeroCells_size, Array.size_append, hns, hos, hzs, ← Nat.add_mul, ← Nat.add_mul]; congr 1; omega) (w1 := { w with drawn := w.drawn + 1 }) rfl rfl rfl rfl
     exact ⟨_, _, g2, _, List.mem_cons_self .., E', q1, q2, q3, q4⟩
end
end Go.Proofs.YtbjhcjgniciooaaGreatDoor.E
namespace Go.Proofs.YtbjhcjgniciooaaGreatDoor.E
set_option linter.unusedVariables false
set_option linter.unusedSimpArgs false
section
variable {C : Cx} {E : Env} {st : St} {w : World}
/-! ### copy -/
def copySrc : AV → Option (Nat × (Nat → AV))
 | .sl b o n _ z => some (n, fun m => .sl b o m none z)
 | .sl0 => some (0, fun _ => .sl0)
 | .emp => some (0, fun _ => .emp)
 | _ => none
def copyA (C : Cx) (st : St) (dT : TypeId) (d s : AV) : Option (AV × St) :=
 match C.und dT with
 | some (.slice el) => match C.inf el, d, copySrc s with
  | some ti, .sl b o n _ z, some (n2, f) =>
   if z = ti.size ∧ n ≤ 100000 then
    match srcCells st ti.size (f (min n2 n)), st.bk.get b with
    | some (m, src), some (.cells el' cs full none) =>
     if m = min n2 n ∧ o ≤ cs.length then
      if m = 0 then some (.int .i64 (.k 0), st) else some (.int .i64 (.k m), st.put b (.cells el' (writeAt cs o src) full none))
     else none
    | _, _ => none
   else none
  | _, _, _ => none
 | _ => none
theorem copy_ok (hC : CxOk C) (h : M C.HT E st w) {r : World} (hr : Ref E st r w) {dT sT ty : TypeId} {d s : AV} {o : AV × St} (ho : copyA C st dT d s = some o) {vd vs : Value} (hd : V C.HT E d vd) (hs : V C.HT E s vs) :
  DoesV C E st r w (Builtin.copy_ #[dT, sT] ty #[vd, vs]) [o] := by
 unfold copyA at ho
 split at ho <;> try cases ho
 rename_i el hel
 split at ho <;> try cases ho
 rename_i ti b o' n cap z n2 f hti hcs
 split at ho <;> try cases ho
 rename_i hz
 obtain ⟨hz, hn⟩ := hz
 subst hz
 split at ho <;> try cases ho
 rename_i m src el' cs full hsrc hb
 split at ho <;> try cases ho
 rename_i hm
 obtain ⟨hm, hol⟩ := hm
 subst hm
 have base : ∃ base c, vs = .slice base n2 c ∧ ∀ m, m ≤ n2 → V C.HT E (f m) (.slice base m c) := by
  unfold copySrc at hcs
  split at hcs <;> try cases hcs
  ·obtain ⟨c, e, h1, h2, h3, h4⟩ := hs
   exact ⟨_, c, e, fun m hm => ⟨c, rfl, by omega, (fun c' hc' => by cases hc'), h3, h4⟩⟩
  ·exact ⟨none, 0, hs, fun m hm => by rw [show m = 0 by omega]; rfl⟩
  ·obtain ⟨a, c, e⟩ := hs
   exact ⟨a, c, e, fun m hm => ⟨a, c, by rw [show m = 0 by omega]⟩⟩
 obtain ⟨ba, bc, e, hf⟩ := base
 subst e
 obtain ⟨new, n1, n2', n3, n4, n5⟩ := src_ok (P := C.P) h hsrc (hf _ (Nat.min_le_left _ _))
 have hns : new.size = min n2 n * ti.size := by rw [← n5, n3.len]; simp
 obtain ⟨c, e, hc1, hc2, hc3, hc4⟩ := hd
 subst e
 have hlen : ∀ w', (Builtin.lenOf (.slice ba n2 bc)).run C.P w' = .ok n2 w' := fun _ => rfl
 have hfc : (Builtin.firstCells ti.size (min n2 n) (.slice ba n2 bc)).run C.P w = .ok new w := by
  have := n2' w rfl
  cases ba <;> exact this
 have run : (Builtin.copy_ #[dT, sT] ty #[.slice (some ⟨E.β b, o', none⟩) n c, .slice ba n2 bc]).run C.P w = (do storeCells ⟨E.β b, o', none⟩ new.toList; pure (goInt (min n2 n : Nat)) : Sem Value).run C.P w := by
  unfold Builtin.copy_
  simp only [List.getElem?_toArray, List.getElem?_cons_zero, List.getElem?_cons_succ, Sem.run_bind, r_und hC hel, Result.andThen_ok, hlen, r_size hC hti]
  rw [show Nat.min n2 n = min n2 n from rfl, hfc]
  rfl
 obtain ⟨arr, pre, rest, h1, h2, h3, h4, h5, h6, h7⟩ := h.cells hb
 have hpl := h3.len
 have i64 : (100000 : Int) ≤ IntKind.i64.max := by decide
 have mn := min_nonpos .i64
 have hmin : min n2 n ≤ n := Nat.min_le_right _ _
 split at ho
 ·rename_i hm0
  injection ho with ho; subst ho
  have : new.toList = [] := by
   have : new.size = 0 := by rw [hns, hm0]; simp
   exact List.eq_nil_of_length_eq_zero (by simpa using this)
  rw [this, hm0] at run
  exact ⟨_, w, run, _, List.mem_cons_self .., E, Ext.refl E, h, hr, rfl, below_k _ _, by rw [Lin.ev_k]; omega, by rw [Lin.ev_k]; omega⟩
 ·rename_i hm0
  injection ho with ho; subst ho
  have hnl : new.toList.length = min n2 n * ti.size := by simpa using hns
  have hpos : o' + new.toList.length ≤ arr.size := by
   rw [hnl, h7 rfl]
   have : min n2 n * ti.size ≤ c * ti.size := Nat.mul_le_mul_right _ (by omega)
   omega
  obtain ⟨w', g1, g2⟩ := run_stores C.P (E.β b) el' new.toList arr o' 0 w h1 (by omega) n4
  rw [Nat.add_zero] at g2
  obtain ⟨pre', rest', k1, k2, k3⟩ := writeAt_ok h3 n3 h2 hol hpos
  refine ⟨goInt (min n2 n : Nat), w', ?_, _, List.mem_cons_self .., E, Ext.refl E, h.put hb rfl rfl rfl g2.other g2.size ⟨_, pre', rest', g2.same, k2, k1, fun hf => k3 (h4 hf), h5, by rw [setArr_size]; exact h7⟩, hr.put h hb rfl rfl g2.other g2.size g2.os g2.tape g2.output, by rw [Lin.ev_k]; rfl, below_k _ _, by rw [Lin.ev_k]; omega, by rw [Lin.ev_k]; omega⟩
  rw [run, Sem.run_bind, g1]
  rfl
/-! ### Maps that are known -/
def keyEq (kd : TypeDesc) (a b : AV) : Option Bool :=
 match kd, a, b with
 | .int _, .int k a, .int k' b => if k = k' ∧ a.ts.isEmpty = true ∧ b.ts.isEmpty = true then some (a.c == b.c) else none
 | .string, .str x, .str y => some (x == y)
 | _, _, _ => none
theorem keyEq_ok {HT : Th} {kd : TypeDesc} {a b : AV} {x y : Value} (ha : V HT E a x) (hb : V HT E b y) {r : Bool} (h : keyEq kd a b = some r) : Instr.sameNow kd x y = some r ∧ (r = true → Instr.sameBits 10000 y x = true) := by
 unfold keyEq at h
 split at h <;> try cases h
 ·rename_i k0 k a k' b
  split at h <;> try cases h
  rename_i hc
  obtain ⟨rfl, e1, e2⟩ := hc
  obtain ⟨ex, _⟩ := ha
  obtain ⟨ey, _⟩ := hb
  subst ex; subst ey
  rw [ev_const e1, ev_const e2]
  refine ⟨by simp [Instr.sameNow], fun hr => ?_⟩
  have : a.c = b.c := by simpa using hr
  simp [Instr.sameBits, this]
 ·rename_i l m
  obtain ⟨s, ex, hs⟩ := ha
  obtain ⟨t, ey, ht⟩ := hb
  subst ex; subst ey
  have e : (s == t) = (l == m) := by rw [beq_toListBytes, toList_data, toList_data, nEq, hs, ht]
  refine ⟨by simp only [Instr.sameNow, e], fun hr => ?_⟩
  have e2 : (t == s) = (m == l) := by rw [beq_toListBytes, toList_data, toList_data, nEq, hs, ht]
  simp only [Instr.sameBits, e2]
  have : l = m := by simpa using hr
  simp [this]
def findA (kd : TypeDesc) (key : AV) : List (AV × AV) → Option (Option Nat)
 | [] => some none
 | (k, _) :: r => match keyEq kd key k with
  | some true => some (some 0)
  | some false => (findA kd key r).map (·.map (· + 1))
  | none => none
theorem findA_ok {HT : Th} {kd : TypeDesc} {key : AV} {kv : Value} (hk : V HT E key kv) : ∀ {es : List (AV × AV)} {ents : List MapEntry} {r : Option Nat} (i : Nat), Ents HT E es ents → findA kd key es = some r →
  (r = none → Instr.findNow kd kv ents i = some none) ∧ (∀ j, r = some j → ∃ e a k, ents[j]? = some e ∧ es[j]? = some (k, a) ∧ Instr.findNow kd kv ents i = some (some (i + j, e.val)) ∧ V HT E a e.val ∧ V HT E k e.key ∧ keyEq kd key k = some true)
 | [], ents, r, i, he, hf => by
  rw [show ents = [] from he]
  injection hf with hf
  exact ⟨fun _ => rfl, fun j hj => by rw [← hf] at hj; cases hj⟩
 | (k, a) :: es, ents, r, i, he, hf => by
  obtain ⟨e, ents', rfl, h1, h2, h3⟩ := he
  unfold findA at hf
  split at hf <;> try cases hf
  ·rename_i hq
   have hs := (keyEq_ok hk h1 hq).1
   refine ⟨(fun hn => nomatch hn), fun j hj => ?_⟩
   injection hj with hj; subst hj
   exact ⟨e, a, k, rfl, rfl, by simp only [Instr.findNow, hs, Nat.add_zero], h2, h1, hq⟩
  ·rename_i hq
   have hs := (keyEq_ok hk h1 hq).1
   cases hr : findA kd key es with
   | none => rw [hr] at hf; cases hf
   | some r' =>
    rw [hr] at hf
    injection hf with hf
    obtain ⟨g1, g2⟩ := findA_ok hk (i + 1) h3 hr
    have hfn : Instr.findNow kd kv (e :: ents') i = Instr.findNow kd kv ents' (i + 1) := by simp only [Instr.findNow, hs]
    refine ⟨fun hn => ?_, fun j hj => ?_⟩
    ·rw [hfn]; cases r' with
     | none => exact g1 rfl
     | some j => rw [← hf] at hn; cases hn
    ·cases r' with
     | none => rw [← hf] at hj; cases hj
     | some j' =>
      rw [← hf] at hj
      injection hj with hj; subst hj
      obtain ⟨e', a', k', q1, q2, q3, q4⟩ := g2 j' rfl
      exact ⟨e', a', k', q1, q2, by rw [hfn, q3]; show some (some (i + 1 + j', _)) = some (some (i + (j' + 1), _)); rw [show i + 1 + j' = i + (j' + 1) by omega], q4⟩
def keyKind : TypeDesc → Bool
 | .int _ | .string => true
 | _ => false
theorem r_checkKey (hC : CxOk C) {kt : TypeId} {kd : TypeDesc} (hd : C.und kt = some kd) (hk : keyKind kd = true) (em : Bool) (v : Value) (w' : World) : (Instr.checkKey em 10000 kt v).run C.P w' = .ok () w' := by
 have : ∀ n, (Instr.checkKey em (n + 1) kt v).run C.P w' = .ok () w' := fun n => by
  unfold Instr.checkKey
  simp only [Sem.run_bind, r_und hC hd, Result.andThen_ok]
  cases kd <;> first | rfl | cases hk
 exact this 9999
theorem r_findKey (hC : CxOk C) {kt : TypeId} {kd : TypeDesc} (hd : C.und kt = some kd) {v : Value} {ents : List MapEntry} {r : Option (Nat × Value)} (h : Instr.findNow kd v ents 0 = some r) (w' : World) : (Instr.findKey kt v ents).run C.P w' = .ok r w' := by
 unfold Instr.findKey
 simp only [Sem.run_bind, r_und hC hd, Result.andThen_ok, h]
 rfl
def zeroV (C : Cx) (t : TypeId) : Option AV :=
 match C.inf t with
 | some i => match i.zero with
  | some (.agg cs) => some (.agg (cs.toList.map ofVal))
  | some v => some (ofVal v)
  | none => none
 | none => none
theorem zeroV_ok (hC : CxOk C) {t : TypeId} {a : AV} (h : zeroV C t = some a) : ∃ z, (∀ w', (zeroValue t).run C.P w' = .ok z w') ∧ V C.HT E a z := by
 unfold zeroV at h
 split at h <;> try cases h
 rename_i i hi
 split at h <;> try cases h
 ·rename_i cs hz
  exact ⟨_, r_zero hC hi hz, cs, rfl, Vs_ofVal _⟩
 ·rename_i v _ hz
  exact ⟨_, r_zero hC hi hz, V_ofVal _⟩
/-- Keys of a sort. -/
def keySort (kd : TypeDesc) (a : AV) : Bool :=
 match kd, a with
 | .string, a => (slen a).isSome
 | .int q, .int k _ => q == k
 | _, _ => false
def lookRes (ok : Bool) (v : AV) (b : Bool) : AV := if ok then .tup [v, .bool b] else v
def lookupA (C : Cx) (st : St) (t : TypeId) (m k : AV) (ok : Bool) : Option (List (AV × St)) :=
 match C.und t with
 | some (.map kt et) => match C.und kt, zeroV C et, m with
  | some kd, some z, .map b => if keyKind kd then match st.bk.get b with
    | some (.map es) => match findA kd k es with
     | some (some i) => match es[i]? with
      | some (_, a) => some [(lookRes ok a true, st)]
      | none => none
     | some none => some [(lookRes ok z false, st)]
     | none => if keySort kd k && es.all (fun p => keySort kd p.1) then some ((lookRes ok z false, st) :: es.map (fun p => (lookRes ok p.2 true, st))) else none
    | _ => none
   else none
  | some kd, some z, .map0 => if keyKind kd then some [(lookRes ok z false, st)] else none
  | _, _, _ => none
 | _ => none
theorem lookRes_ok {HT : Th} {ok : Bool} {a : AV} {v : Value} (b : Bool) (h : V HT E a v) : V HT E (lookRes ok a b) (if ok then .tuple #[v, .bool b] else v) := by
 cases ok
 ·exact h
 ·exact ⟨#[v, .bool b], rfl, v, [.bool b], rfl, h, .bool b, [], rfl, rfl, rfl⟩
theorem same_some {HT : Th} {kd : TypeDesc} {k k' : AV} {v v' : Value} (h : keySort kd k = true) (h' : keySort kd k' = true) (hk : V HT E k v) (hk' : V HT E k' v') : ∃ q, Instr.sameNow kd v v' = some q := by
 unfold keySort at h
 split at h
 ·unfold keySort at h'
  obtain ⟨n, hn⟩ := Option.isSome_iff_exists.1 h
  obtain ⟨m, hm⟩ := Option.isSome_iff_exists.1 h'
  obtain ⟨s, e1, _⟩ := slen_ok hk hn
  obtain ⟨s', e2, _⟩ := slen_ok hk' hm
  exact ⟨s == s', by rw [e1, e2]; rfl⟩
 ·obtain ⟨rfl, _⟩ := hk
  cases k' <;> try (simp [keySort] at h'; done)
  obtain ⟨rfl, _⟩ := hk'
  simp only [keySort, beq_iff_eq] at h h'
  subst h; subst h'
  rename_i e1 e2 _ _
  exact ⟨e1.ev E.ρ == e2.ev E.ρ, by simp [Instr.sameNow]⟩
 ·cases h
theorem findNow_any {HT : Th} {kd : TypeDesc} {k : AV} {kv : Value} (hk : V HT E k kv) (hs : keySort kd k = true) : ∀ {es : List (AV × AV)} {ents : List MapEntry} (i : Nat), Ents HT E es ents → es.all (fun p => keySort kd p.1) = true →
  Instr.findNow kd kv ents i = some none ∨ ∃ j v, Instr.findNow kd kv ents i = some (some (j, v)) ∧ ∃ p ∈ es, V HT E p.2 v
 | [], ents, i, he, _ => by rw [show ents = [] from he]; exact .inl rfl
 | (k', a) :: es, ents, i, he, hall => by
  obtain ⟨e, ents', rfl, h1, h2, h3⟩ := he
  simp only [List.all_cons, Bool.and_eq_true] at hall
  obtain ⟨q, this⟩ := same_some hs hall.1 hk h1
  cases q with
  | true => exact .inr ⟨i, e.val, by simp only [Instr.findNow, this], _, List.mem_cons_self .., h2⟩
  | false =>
   rcases findNow_any hk hs (i + 1) h3 hall.2 with g | ⟨j, v, g, p, hp, hv⟩
   ·exact .inl (by simp only [Instr.findNow, this]; exact g)
   ·exact .inr ⟨j, v, by simp only [Instr.findNow, this]; exact g, p, List.mem_cons_of_mem _ hp, hv⟩
theorem lookup_ok (hC : CxOk C) (h : M C.HT E st w) {t : TypeId} {m k : AV} {ok : Bool} {outs : List (AV × St)} (ho : lookupA C st t m k ok = some outs) {vm vk : Value} (hm : V C.HT E m vm) (hk : V C.HT E k vk) :
  ∃ v, (∀ w', w'.heap = w.heap → (Instr.lookup t vm vk ok).run C.P w' = .ok v w') ∧ ∃ o ∈ outs, o.2 = st ∧ V C.HT E o.1 v := by
 unfold lookupA at ho
 split at ho <;> try cases ho
 rename_i kt et hd
 split at ho <;> try cases ho
 ·rename_i kd z b hkd hz
  split at ho <;> try cases ho
  rename_i hkk
  split at ho <;> try cases ho
  rename_i es hb
  obtain ⟨zv, hz1, hz2⟩ := zeroV_ok (E := E) hC hz
  obtain ⟨⟨ents, clock, h1, h2, h3⟩, h4⟩ := h.bk b _ hb
  obtain ⟨em, _⟩ := hm
  subst em
  have run : ∀ (r : Option (Nat × Value)) (w' : World), w'.heap = w.heap → Instr.findNow kd vk ents.toList 0 = some r → (Instr.lookup t (.map (some (E.β b))) vk ok).run C.P w' = .ok (if ok then .tuple #[(match r with | some (_, v) => v | none => zv), .bool r.isSome] else (match r with | some (_, v) => v | none => zv)) w' := fun r w' hw hf => by
   unfold Instr.lookup
   simp only [Sem.run_bind, r_und hC hd, Result.andThen_ok]
   have : (getObj (E.β b)).run C.P w' = .ok (.map ents clock) w' := by
    unfold getObj
    simp only [Sem.run, hw, h1]
   cases r with
   | none => simp only [this, Result.andThen_ok, Sem.run_pure, Sem.run_bind, r_checkKey hC hkd hkk, r_findKey hC hkd hf, hz1]; rfl
   | some p => obtain ⟨i, v⟩ := p; simp only [this, Result.andThen_ok, Sem.run_pure, Sem.run_bind, r_checkKey hC hkd hkk, r_findKey hC hkd hf]; rfl
  split at ho <;> try cases ho
  ·rename_i i hfa
   split at ho <;> try cases ho
   rename_i k' a hei
   obtain ⟨e, a', k'', q1, q2, q3, q4, _⟩ := (findA_ok hk 0 h2 hfa).2 i rfl
   rw [hei] at q2
   injection q2 with q2; injection q2 with _ q2; subst q2
   exact ⟨_, fun w' hw => run _ w' hw q3, _, List.mem_cons_self .., rfl, lookRes_ok true q4⟩
  ·rename_i hfa
   have := (findA_ok hk 0 h2 hfa).1 rfl
   exact ⟨_, fun w' hw => run _ w' hw this, _, List.mem_cons_self .., rfl, lookRes_ok false hz2⟩
  ·split at ho <;> try cases ho
   rename_i hall
   simp only [Bool.and_eq_true] at hall
   rcases findNow_any hk hall.1 0 h2 hall.2 with g | ⟨j, v, g, p, hp, hv⟩
   ·exact ⟨_, fun w' hw => run _ w' hw g, _, List.mem_cons_self .., rfl, lookRes_ok false hz2⟩
   ·exact ⟨_, fun w' hw => run _ w' hw g, _, List.mem_cons_of_mem _ (List.mem_map.2 ⟨p, hp, rfl⟩), rfl, lookRes_ok true hv⟩
 ·rename_i kd z hkd hz
  split at ho <;> try cases ho
  rename_i hkk
  obtain ⟨zv, hz1, hz2⟩ := zeroV_ok (E := E) hC hz
  cases (show vm = _ from hm)
  refine ⟨_, fun w' _ => ?_, _, List.mem_cons_self .., rfl, lookRes_ok false hz2⟩
  unfold Instr.lookup
  simp only [Sem.run_bind, r_und hC hd, Result.andThen_ok, Sem.run_pure, r_checkKey hC hkd hkk]
  have : (Instr.findKey kt vk (#[] : Array MapEntry).toList).run C.P w' = .ok none w' := r_findKey hC hkd rfl w'
  simp only [this, Result.andThen_ok, Sem.run_bind, hz1, Sem.run_pure]
end
end Go.Proofs.YtbjhcjgniciooaaGreatDoor.E
namespace Go.Proofs.YtbjhcjgniciooaaGreatDoor.E
set_option linter.unusedVariables false
set_option linter.unusedSimpArgs false
section
variable {C : Cx} {E : Env} {st : St} {w : World}
/-- A new object that is no row of cells. -/
theorem newObj_ok (h : M C.HT E st w) {r : World} (hr : Ref E st r w) (o : Obj) (k : Blk) (hc : k.ty = none)
  (hk : ∀ F : Env, Ext E F → F.β E.n = w.heap.size → Own C.HT F w.heap.size none → (w.alloc o).heap[w.heap.size]? = some o → BlkOk C.HT F (w.alloc o) E.n k) :
  ∃ E', Ext E E' ∧ M C.HT E' (st.newB k) (w.alloc o) ∧ Ref E' (st.newB k) r (w.alloc o) ∧ E'.β st.nx = w.heap.size ∧ st.nx < E'.n := by
 have e := E.frc_ext 0 (.bool false) w.heap.size 0
 refine ⟨_, e, h.newB o k e rfl (E.frc_sam _ _ _ _) (by simp) (hk _ e (by simp) h.newPrv (heap_alloc_new w o)) (fun _ _ _ _ hh => by rw [hh] at hc; cases hc), ((hr.ext e rfl rfl h.md).alloc _).st rfl rfl, by rw [← h.nx]; simp, by rw [← h.nx]; exact Nat.lt_succ_self _⟩
/-! ### make of a map -/
def makeMapA (C : Cx) (st : St) (t : TypeId) (r : Option AV) : Option (AV × St) :=
 match r with
 | none => some (.map st.nx, st.newB (.map []))
 | some (.int _ _) => match C.und t with
  | some (.map _ _) => some (.map st.nx, st.newB (.map []))
  | _ => none
 | _ => none
theorem makeMap_ok (hC : CxOk C) (h : M C.HT E st w) {r : World} (hr : Ref E st r w) {t : TypeId} {n : Option AV} {o : AV × St} (ho : makeMapA C st t n = some o) {vn : Option Value} (hn : optV C.HT E n vn) : DoesV C E st r w (Instr.makeMap t vn) [o] := by
 have fin : o = (.map st.nx, st.newB (.map [])) → (Instr.makeMap t vn).run C.P w = .ok (.map (some w.heap.size)) (w.alloc (.map #[] 0)) → DoesV C E st r w (Instr.makeMap t vn) [o] := fun e run => by
  subst e
  obtain ⟨E', e, m, rf, hb, hl⟩ := newObj_ok h hr (.map #[] 0) (.map []) rfl (fun F e hβ ho hh => ⟨#[], 0, by rw [hβ]; exact hh, rfl, by rw [hβ]; exact ho⟩)
  exact ⟨_, _, run, _, List.mem_cons_self .., E', e, m, rf, by rw [← hb]; exact ⟨rfl, hl⟩⟩
 unfold makeMapA at ho
 split at ho <;> try cases ho
 ·cases vn with
  | some v => exact hn.elim
  | none => exact fin rfl rfl
 ·rename_i k e
  split at ho <;> try cases ho
  rename_i kt et hd
  cases vn with
  | none => exact hn.elim
  | some v =>
   obtain ⟨e1, _⟩ := hn
   subst e1
   refine fin rfl ?_
   unfold Instr.makeMap
   simp only [Sem.run_bind, r_und hC hd, Result.andThen_ok, asInt, asIntOf, Sem.run_pure]
   rfl
/-! ### A store into a map -/
def mapUpdateA (C : Cx) (st : St) (t : TypeId) (m k v : AV) : Option St :=
 match C.und t, m with
 | some (.map kt _), .map b => match C.und kt, st.bk.get b with
  | some kd, some (.map es) => if keyKind kd then match findA kd k es with
    | some (some i) => some (st.put b (.map (es.set i (k, v))))
    | some none => some (st.put b (.map (es ++ [(k, v)])))
    | none => none
   else none
  | _, _ => none
 | _, _ => none
theorem Ents.len {HT : Th} : ∀ {es : List (AV × AV)} {l : List MapEntry}, Ents HT E es l → es.length = l.length
 | [], _, h => by rw [show _ = ([] : List MapEntry) from h]; rfl
 | _ :: es, _, h => by obtain ⟨e, l', rfl, _, _, h⟩ := h; simp [Ents.len h]
theorem Ents.set {HT : Th} : ∀ {es : List (AV × AV)} {l : List MapEntry} (i : Nat) {k v : AV} {e : MapEntry}, Ents HT E es l → V HT E k e.key → V HT E v e.val → Ents HT E (es.set i (k, v)) (l.set i e)
 | [], l, i, k, v, e, h, _, _ => by rw [show l = [] from h]; exact rfl
 | (k', v') :: es, l, 0, k, v, e, h, h1, h2 => by obtain ⟨e', l', rfl, _, _, h⟩ := h; exact ⟨e, l', rfl, h1, h2, h⟩
 | (k', v') :: es, l, i + 1, k, v, e, h, h1, h2 => by obtain ⟨e', l', rfl, g1, g2, h⟩ := h; exact ⟨e', _, rfl, g1, g2, Ents.set i h h1 h2⟩
theorem Ents.snoc {HT : Th} : ∀ {es : List (AV × AV)} {l : List MapEntry} {k v : AV} {e : MapEntry}, Ents HT E es l → V HT E k e.key → V HT E v e.val → Ents HT E (es ++ [(k, v)]) (l ++ [e])
 | [], l, k, v, e, h, h1, h2 => by rw [show l = [] from h]; exact ⟨e, [], rfl, h1, h2, rfl⟩
 | (k', v') :: es, l, k, v, e, h, h1, h2 => by obtain ⟨e', l', rfl, g1, g2, h⟩ := h; exact ⟨e', _, rfl, g1, g2, Ents.snoc h h1 h2⟩
theorem setObj_run {P : Program} {w : World} {b : Nat} {o o' : Obj} (h : w.heap[b]? = some o) (hn : ∀ c e f, o ≠ .cells c e f) : (setObj b o').run P w = .ok () { w with heap := w.heap.setIfInBounds b o' } := by
 unfold setObj
 simp only [Sem.run, h]
theorem setObj_same {w : World} {b : Nat} {o o' : Obj} (h : w.heap[b]? = some o) : ({ w with heap := w.heap.setIfInBounds b o' } : World).heap[b]? = some o' := by
 have hlt := (Array.getElem?_eq_some_iff.1 h).1
 show (w.heap.setIfInBounds b o')[b]? = _
 rw [Array.getElem?_setIfInBounds_self_of_lt hlt]
theorem setObj_other {w : World} {b k : Nat} {o' : Obj} (h : k ≠ b) : ({ w with heap := w.heap.setIfInBounds b o' } : World).heap[k]? = w.heap[k]? := by
 show (w.heap.setIfInBounds b o')[k]? = _
 rw [Array.getElem?_setIfInBounds_ne (Ne.symm h)]
theorem mapUpdate_ok (hC : CxOk C) (h : M C.HT E st w) {r : World} (hr : Ref E st r w) {t : TypeId} {m k v : AV} {st' : St} (ho : mapUpdateA C st t m k v = some st') {vm vk vv : Value} (hm : V C.HT E m vm) (hk : V C.HT E k vk) (hv : V C.HT E v vv) :
  ∃ w', (Instr.mapUpdate t vm vk vv).run C.P w = .ok () w' ∧ M C.HT E st' w' ∧ Ref E st' r w' := by
 unfold mapUpdateA at ho
 split at ho <;> try cases ho
 rename_i kt et b hd
 split at ho <;> try cases ho
 rename_i kd es hkd hb
 split at ho <;> try cases ho
 rename_i hkk
 obtain ⟨⟨ents, clock, h1, h2, h3⟩, h4⟩ := h.bk b _ hb
 obtain ⟨em, _⟩ := hm
 subst em
 have fin : ∀ (es' : List (AV × AV)) (ents' : Array MapEntry) (c' : Nat), Ents C.HT E es' ents'.toList → (Instr.mapUpdate t (.map (some (E.β b))) vk vv).run C.P w = .ok () { w with heap := w.heap.setIfInBounds (E.β b) (.map ents' c') } → st' = st.put b (.map es') →
   ∃ w', (Instr.mapUpdate t (.map (some (E.β b))) vk vv).run C.P w = .ok () w' ∧ M C.HT E st' w' ∧ Ref E st' r w' := fun es' ents' c' he run e => by
  subst e
  have same := setObj_same (o' := .map ents' c') h1
  have other : ∀ i, i ≠ E.β b → ({ w with heap := w.heap.setIfInBounds (E.β b) (.map ents' c') } : World).heap[i]? = w.heap[i]? := fun i hi => setObj_other hi
  exact ⟨_, run, h.put hb rfl rfl rfl other (by simp) ⟨ents', c', same, he, h3⟩, hr.put h hb rfl rfl other (by simp) rfl rfl rfl⟩
 have getO : ∀ w', w'.heap = w.heap → (getObj (E.β b)).run C.P w' = .ok (.map ents clock) w' := fun w' hw => by
  unfold getObj
  simp only [Sem.run, hw, h1]
 have set0 : ∀ o', (setObj (E.β b) o').run C.P w = .ok () { w with heap := w.heap.setIfInBounds (E.β b) o' } := fun o' => setObj_run h1 (fun _ _ _ e => by cases e)
 split at ho <;> try cases ho
 ·rename_i i hfa
  obtain ⟨e, a', k', q1, q2, q3, q4, q5, q6⟩ := (findA_ok hk 0 h2 hfa).2 i rfl
  have hb2 := (keyEq_ok hk q5 q6).2 rfl
  have q1' : ents[i]? = some e := by simpa using q1
  refine fin (es.set i (k, v)) (ents.modify i fun e => { e with key := vk, val := vv }) clock ?_ ?_ rfl
  ·rw [Array.toList_modify]
   have : ents.toList.modify i (fun e => { e with key := vk, val := vv }) = ents.toList.set i { e with key := vk, val := vv } := by
    rw [List.modify_eq_set, q1]; rfl
   rw [this]
   exact h2.set i hk hv
  ·unfold Instr.mapUpdate
   simp only [Sem.run_bind, r_und hC hd, Result.andThen_ok, getO w rfl, r_checkKey hC hkd hkk, r_findKey hC hkd q3, Nat.zero_add, Instr.keyThatStays, q1', Option.map_some, Option.getD_some]
   rw [if_pos hb2]
   simp only [Sem.run_pure, Result.andThen_ok, set0]
 ·rename_i hfa
  have := (findA_ok hk 0 h2 hfa).1 rfl
  refine fin (es ++ [(k, v)]) (ents.push { key := vk, val := vv, born := clock }) (clock + 1) ?_ ?_ rfl
  ·rw [Array.toList_push]
   exact h2.snoc hk hv
  ·unfold Instr.mapUpdate
   simp only [Sem.run_bind, r_und hC hd, Result.andThen_ok, getO w rfl, r_checkKey hC hkd hkk, r_findKey hC hkd this, set0]
/-! ### Ranging over a text -/
def rangeA (C : Cx) (st : St) (t : TypeId) (x : AV) : Option (AV × St) :=
 match C.und t, x with
 | some .string, .str l => some (.ptr st.nx 0, st.newB (.iter l 0))
 | some .string, .strv n => some (.ptr st.nx 0, st.newB (.iterv n (.k 0)))
 | _, _ => none
theorem range_ok (hC : CxOk C) (h : M C.HT E st w) {r : World} (hr : Ref E st r w) {t : TypeId} {x : AV} {o : AV × St} (ho : rangeA C st t x = some o) {vx : Value} (hx : V C.HT E x vx) : DoesV C E st r w (Instr.range t vx) [o] := by
 unfold rangeA at ho
 split at ho <;> try cases ho
 ·rename_i l hd
  obtain ⟨s, rfl, hs⟩ := hx
  obtain ⟨E', e, m, rf, hb, hl⟩ := newObj_ok h hr (.stringIter s 0) (.iter l 0) rfl (fun F e hβ ho hh => ⟨s, by rw [hβ]; exact hh, hs, by rw [hβ]; exact ho⟩)
  refine ⟨.pointer (some ⟨w.heap.size, 0, none⟩), _, ?_, _, List.mem_cons_self .., E', e, m, rf, by rw [← hb]; exact ⟨rfl, hl⟩⟩
  unfold Instr.range
  simp only [Sem.run_bind, r_und hC hd, Result.andThen_ok, Sem.run_pure]
  rfl
 ·rename_i n hd
  obtain ⟨s, rfl, hs, hbn⟩ := hx
  obtain ⟨E', e, m, rf, hb, hl⟩ := newObj_ok h hr (.stringIter s 0) (.iterv n (.k 0)) rfl (fun F e hβ ho hh => ⟨s, 0, by rw [hβ]; exact hh, by rw [e.ev hbn]; exact hs, by simp, hbn.mono e.n, below_k _ _, by rw [hβ]; exact ho⟩)
  refine ⟨.pointer (some ⟨w.heap.size, 0, none⟩), _, ?_, _, List.mem_cons_self .., E', e, m, rf, by rw [← hb]; exact ⟨rfl, hl⟩⟩
  unfold Instr.range
  simp only [Sem.run_bind, r_und hC hd, Result.andThen_ok, Sem.run_pure]
  rfl
/-! ### The next sign of a text -/
theorem decode_ascii (s : ByteArray) (p : Nat) {n : Nat} (h : (s.data.toList.map UInt8.toNat)[p]? = some n) (hn : n < 128) : Utf8.decode s p = (n, 1) := by
 have hlt : p < s.data.toList.length := by
  have := (List.getElem?_eq_some_iff.1 h).1
  simpa using this
 have hb : (s.get! (p + 0)).toNat = n := by
  have e : s.data.toList[p]? = some s.data.toList[p] := List.getElem?_eq_getElem hlt
  rw [List.getElem?_map, e] at h
  injection h with h
  rw [← h]
  show (s.data[p]!).toNat = _
  congr 1
  rw [getElem!_def]
  have : s.data[p]? = some s.data.toList[p] := by rw [← e]; simp
  rw [this]
 unfold Utf8.decode
 simp only [hb]
 rw [if_pos (by omega)]
theorem decode_range (s : ByteArray) (p : Nat) (hp : p < s.size) : 1 ≤ (Utf8.decode s p).2 ∧ p + (Utf8.decode s p).2 ≤ s.size ∧ (Utf8.decode s p).2 ≤ 4 ∧ (Utf8.decode s p).1 ≤ 1114111 := by
 have e : ∀ (c : Nat) (k : Nat), (Utf8.valid (c : Int)) = true → c ≤ 1114111 := fun c _ h => by
  unfold Utf8.valid at h
  simp only [Bool.or_eq_true, Bool.and_eq_true, decide_eq_true_eq] at h
  omega
 have lt : ∀ k, (s.get! k).toNat < 256 := fun k => (s.get! k).toNat_lt
 have re : Utf8.runeError ≤ 1114111 := by decide
 unfold Utf8.decode
 dsimp only
 have l0 := lt (p + 0)
 split
 ·simp only; omega
 ·split
  ·rename_i hc
   simp only [Bool.and_eq_true, decide_eq_true_eq] at hc
   have l1 := lt (p + 1)
   split
   ·simp only; omega
   ·simp only; omega
  ·split
   ·rename_i hc
    simp only [Bool.and_eq_true, decide_eq_true_eq] at hc
    split
    ·rename_i hv
     simp only [Bool.and_eq_true, decide_eq_true_eq] at hv
     have := e _ 0 hv.2
     simp only; omega
    ·simp only; omega
   ·split
    ·rename_i hc
     simp only [Bool.and_eq_true, decide_eq_true_eq] at hc
     split
     ·rename_i hv
      simp only [Bool.and_eq_true, decide_eq_true_eq] at hv
      have := e _ 0 hv.2
      simp only; omega
     ·simp only; omega
    ·simp only; omega
/-- The state behind a step through a text of which its length is known. -/
def stepV (st : St) (b : Nat) (n pos : Lin) : AV × St :=
 let s1 := st.newI (.k 1) ((n.sub pos))
 let s2 := s1.newI (.k 0) (.k 1114111)
 (.tup [.bool true, .int .i64 pos, .int .i32 (.v s1.nx)], s2.put b (.iterv n (pos.add (.v st.nx))))
def nextA (st : St) (it : AV) : Option (List (AV × St)) :=
 match it with
 | .ptr b 0 => match st.bk.get b with
  | some (.iter l pos) => if l.length ≤ 100000 then match l[pos]? with
    | some n => if n < 128 then some [(.tup [.bool true, .int .i64 (.k pos), .int .i32 (.k n)], st.put b (.iter l (pos + 1)))] else none
    | none => if l.length ≤ pos then some [(.tup [.bool false], st)] else none
   else none
  | some (.iterv n pos) =>
   if st.ge pos && st.ge ((Lin.k IntKind.i64.max).sub n) then
    some ((match st.assume (.ge (pos.sub n)) with | some s => [(.tup [.bool false], s)] | none => []) ++ (match st.assume (.ge ((n.sub pos).addk (-1))) with | some s => [stepV s b n pos] | none => []))
   else none
  | _ => none
 | _ => none
theorem next_ok (h : M C.HT E st w) {r : World} (hr : Ref E st r w) {it : AV} {outs : List (AV × St)} (ho : nextA st it = some outs) {vi : Value} (hi : V C.HT E it vi) (ty : TypeId) : DoesV C E st r w (Instr.next vi true ty) outs := by
 unfold nextA at ho
 split at ho <;> try cases ho
 rename_i b
 obtain ⟨ei, hbn⟩ := hi
 subst ei
 have i64 : (100000 : Int) ≤ IntKind.i64.max := by decide
 have m64 := min_nonpos .i64
 split at ho <;> try cases ho
 ·rename_i l pos hb
  split at ho <;> try cases ho
  rename_i hll
  obtain ⟨⟨s, h1, h2, h3⟩, h4⟩ := h.bk b _ hb
  have hsz : s.size = l.length := by rw [size_len, h2]
  have getO : (getObj (E.β b)).run C.P w = .ok (.stringIter s pos) w := by
   unfold getObj
   simp only [Sem.run, h1]
  split at ho <;> try cases ho
  ·rename_i n hn
   split at ho <;> try cases ho
   rename_i hlt
   have hpl := (List.getElem?_eq_some_iff.1 hn).1
   have hd := decode_ascii s pos (by rw [h2]; exact hn) hlt
   have same := setObj_same (o' := .stringIter s (pos + 1)) h1
   have other : ∀ i, i ≠ E.β b → ({ w with heap := w.heap.setIfInBounds (E.β b) (.stringIter s (pos + 1)) } : World).heap[i]? = w.heap[i]? := fun i hi => setObj_other hi
   refine ⟨.tuple #[.bool true, goInt pos, .int .i32 n], _, ?_, _, List.mem_cons_self .., E, Ext.refl E, h.put hb rfl rfl rfl other (by simp) ⟨s, same, h2, h3⟩, hr.put h hb rfl rfl other (by simp) rfl rfl rfl, _, rfl, _, _, rfl, rfl, _, _, rfl, ⟨by rw [Lin.ev_k]; rfl, below_k _ _, ?_, ?_⟩, _, _, rfl, ⟨by rw [Lin.ev_k], below_k _ _, ?_, ?_⟩, rfl⟩
   ·unfold Instr.next
    simp only [Sem.run_bind, getO, Result.andThen_ok]
    rw [if_pos (by omega), hd]
    simp only [Sem.run_bind, setObj_run h1 (fun _ _ _ e => by cases e), Result.andThen_ok]
    rfl
   ·rw [Lin.ev_k]; omega
   ·rw [Lin.ev_k]; omega
   ·rw [Lin.ev_k]; have := min_nonpos .i32; omega
   ·rw [Lin.ev_k]; have : (128 : Int) ≤ IntKind.i32.max := by decide
    omega
  ·rename_i hn
   split at ho <;> try cases ho
   rename_i hlp
   refine ⟨.tuple #[.bool false], w, ?_, _, List.mem_cons_self .., E, Ext.refl E, h, hr, _, rfl, _, _, rfl, rfl, rfl⟩
   unfold Instr.next
   simp only [Sem.run_bind, getO, Result.andThen_ok]
   rw [if_neg (by omega)]
   rfl
 ·rename_i n pos hb
  split at ho <;> try cases ho
  rename_i hg
  simp only [Bool.and_eq_true] at hg
  have g1 := h.ge hg.1
  have g2 := h.ge hg.2
  rw [Lin.ev_sub, Lin.ev_k] at g2
  obtain ⟨⟨s, p, h1, h2, h3, h4, h5, h6⟩, h7⟩ := h.bk b _ hb
  have getO : (getObj (E.β b)).run C.P w = .ok (.stringIter s p) w := by
   unfold getObj
   simp only [Sem.run, h1]
  by_cases hlt : p < s.size
  ·obtain ⟨s1, e1, u1⟩ := h.assume (c := .ge ((n.sub pos).addk (-1))) (below_addk (below_sub h4 h5) _) (by simp only [Cnd.holds, Lin.ev_addk, Lin.ev_sub, decide_eq_true_eq]; omega)
   obtain ⟨d1, d2, d3, d4⟩ := decode_range s p hlt
   rw [e1]
   generalize hdec : Utf8.decode s p = dec at d1 d2 d3 d4
   obtain ⟨c, wd⟩ := dec
   simp only at d1 d2 d3 d4
   have v1 := Up.newI u1.m (lo := .k 1) (hi := n.sub pos) (wd : Int) (by simp; omega) (by rw [Lin.ev_sub]; omega) (below_k _ _) (below_sub h4 h5)
   have x1 : (E.fr (wd : Int) (.bool false) 0).ρ s1.nx = wd := by rw [← u1.m.nx]; simp
   have v2 := Up.newI v1.m (lo := .k 0) (hi := .k 1114111) (c : Int) (by simp) (by simp; omega) (below_k _ _) (below_k _ _)
   have x2 : ((E.fr (wd : Int) (.bool false) 0).fr (c : Int) (.bool false) 0).ρ (s1.newI (.k 1) (n.sub pos)).nx = c := by rw [← v1.m.nx]; exact Env.fr_ρ _ _ _ _
   have uu := v1.trans v2
   have e12 := uu.ext
   have b2 : s1.bk.get b = some (.iterv n pos) := by
    have : s1.bk = st.bk := by
     unfold St.assume at e1
     split at e1
     ·injection e1 with e1; rw [← e1]
     ·cases e1
     ·injection e1 with e1; rw [← e1]; rfl
    rw [this]; exact hb
   have mm := uu.m
   have rr := uu.ref u1.m (u1.ref h hr)
   have same := setObj_same (o' := .stringIter s (p + wd)) h1
   have other : ∀ i, i ≠ E.β b → ({ w with heap := w.heap.setIfInBounds (E.β b) (.stringIter s (p + wd)) } : World).heap[i]? = w.heap[i]? := fun i hi => setObj_other hi
   have hβ := e12.β b h7
   have bs1 : (Lin.v s1.nx).below ((E.fr (wd : Int) (.bool false) 0).fr (c : Int) (.bool false) 0).n := below_v (by have := u1.m.nx; show _ < E.n + 1 + 1; omega)
   have bs2 : (Lin.v (s1.newI (.k 1) (n.sub pos)).nx).below ((E.fr (wd : Int) (.bool false) 0).fr (c : Int) (.bool false) 0).n := below_v (by have := v1.m.nx; rw [← this]; exact Nat.lt_succ_self _)
   have xe : ((E.fr (wd : Int) (.bool false) 0).fr (c : Int) (.bool false) 0).ρ s1.nx = wd := by rw [← v2.ext.ρ s1.nx (by have := u1.m.nx; show _ < E.n + 1; omega)]; exact x1
   refine ⟨.tuple #[.bool true, goInt p, .int .i32 c], { w with heap := w.heap.setIfInBounds (E.β b) (.stringIter s (p + wd)) }, ?_, _, List.mem_append.2 (.inr (List.mem_cons_self ..)), _, e12, mm.put (k' := .iterv n (pos.add (.v s1.nx))) b2 rfl rfl rfl (by rw [← hβ]; exact other) (by simp) ⟨s, p + wd, by rw [← hβ]; exact same, by rw [e12.ev h4]; exact h2, by rw [Lin.ev_add, Lin.ev_v, xe, e12.ev h5]; omega, h4.mono e12.n, below_add (h5.mono e12.n) bs1, by rw [← hβ]; exact h6.ext e12 (fun h => uu.S.prv e12 h)⟩, rr.put mm b2 rfl rfl (by rw [← hβ]; exact other) (by simp) rfl rfl rfl, _, rfl, _, _, rfl, rfl, _, _, rfl, ⟨by rw [e12.ev h5, ← h3]; rfl, h5.mono e12.n, ?_, ?_⟩, _, _, rfl, ⟨by rw [Lin.ev_v, x2], bs2, ?_, ?_⟩, rfl⟩
   ·unfold Instr.next
    simp only [Sem.run_bind, getO, Result.andThen_ok]
    rw [if_pos hlt, hdec]
    simp only [Sem.run_bind, setObj_run h1 (fun _ _ _ e => by cases e), Result.andThen_ok]
    rfl
   ·rw [e12.ev h5]; omega
   ·rw [e12.ev h5]; omega
   ·rw [Lin.ev_v, x2]; have := min_nonpos .i32; omega
   ·rw [Lin.ev_v, x2]; have : (1114111 : Int) ≤ IntKind.i32.max := by decide
    omega
  ·obtain ⟨s1, e1, u1⟩ := h.assume (c := .ge (pos.sub n)) (below_sub h5 h4) (by simp only [Cnd.holds, Lin.ev_sub, decide_eq_true_eq]; omega)
   rw [e1]
   refine ⟨.tuple #[.bool false], w, ?_, _, List.mem_append.2 (.inl (List.mem_cons_self ..)), E, Ext.refl E, u1.m, u1.ref h hr, _, rfl, _, _, rfl, rfl, rfl⟩
   unfold Instr.next
   simp only [Sem.run_bind, getO, Result.andThen_ok]
   rw [if_neg hlt]
   rfl
end
end Go.Proofs.YtbjhcjgniciooaaGreatDoor.E
