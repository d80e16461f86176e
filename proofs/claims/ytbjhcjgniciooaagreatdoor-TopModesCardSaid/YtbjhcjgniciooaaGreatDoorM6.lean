/- TopModes: a part of the proof, merged. -/
import Derived.Test.YtbjhcjgniciooaaGreatDoorM5
namespace Go.Proofs.YtbjhcjgniciooaaGreatDoor.E
set_option linter.unusedVariables false
set_option linter.unusedSimpArgs false
def bigD : Bd := ⟨0, 0, 250000000000⟩
theorem bigD_ev (g h : Nat) : bigD.ev g h = 250000000000 := by simp [bigD, Bd.ev]
def noOp (st : St) (τ : Nat) : Bool := st.op.all fun p => !Nat.beq p.2 τ
theorem noOp_ok {st : St} {τ : Nat} (h : noOp st τ = true) : ∀ p ∈ st.op, p.2 ≠ τ := fun p hp e => by
 have := List.all_eq_true.1 h p hp
 rw [e] at this; simp at this
section
variable {C : Cx} {E : Env} {st : St} {w : World}
/-- What a slice of a kind holds. -/
theorem rowSrc {HT : Th} {P : Program} (h : M HT E st w) {τ size : Nat} {elem : TypeId} {ct : CTs} (hty : HT τ = .row elem size ct) (hf : τ ∈ st.fp) (hno : ∀ p ∈ st.op, p.2 ≠ τ) {ad : Option Addr} {n c : Nat} (so : SlOk HT E τ ad n c) :
  ∃ vs : Array Value, (∀ w', w'.heap = w.heap → (Builtin.firstCells size n (.slice ad n c)).run P w' = .ok vs w') ∧ RowL HT E ct size n vs.toList := by
 have hsz : (HT τ).size = size := by rw [hty]; rfl
 rcases so with ⟨rfl, rfl, rfl⟩ | ⟨k, j, len, rfl, h1, h2, h3⟩
 ·exact ⟨#[], fun _ _ => rfl, rfl⟩
 ·obtain ⟨arr, D0, R0, k1, e0, k2⟩ := h.rowAtR hty hf hno h1
  rw [hsz]
  rw [show len = j + (n + (len - (j + n))) by omega] at k2
  obtain ⟨A, B, e1, r1, r2⟩ := k2.split
  obtain ⟨D, F, e2, r3, r4⟩ := r2.split
  have e1 : arr.toList = A ++ (B ++ R0) := by rw [e0, e1, List.append_assoc]
  have e2 : B ++ R0 = D ++ (F ++ R0) := by rw [e2, List.append_assoc]
  refine ⟨D.toArray, fun w' hw => ?_, by simpa using r3⟩
  show (loadCells ⟨k, j * size, none⟩ (n * size)).run P w' = _
  have := run_loadCells_list (P := P) w' ⟨k, j * size, none⟩ D (fun i v hi => ?_)
  ·rw [r3.len] at this; exact this
  ·rw [add_addr, cell_of (arr := arr) (e := elem) (f := (0, 0)) (by rw [hw]; exact k1)]
   have hil := (List.getElem?_eq_some_iff.1 hi).1
   have : arr.toList[j * size + i]? = some v := by
    rw [e1, ← r1.len, List.getElem?_append_right (by omega), Nat.add_sub_cancel_left, e2, List.getElem?_append_left hil]; exact hi
   simpa using this
theorem appendCore (hC : CxOk C) (h : M C.HT E st w) {r : World} (hr : Ref E st r w) {sT xT ty el : TypeId} {ti : TypeInfo} {τ size : Nat} {ct : CTs} (hro : roK τ = false) (hd : C.und sT = some (.slice el)) (hi : C.inf el = some ti) (hx : xTyOk C xT = true) (hty : C.HT τ = .row el size ct) (hsz : size = ti.size) (h0 : 0 < size) (hby : ti.bytes ≤ 200) (hfl : ct.flat = true)
  (hf : τ ∈ st.fp) (hno : ∀ p ∈ st.op, p.2 ≠ τ) {zv : Value} (hz1 : ∀ w', (zeroValue el).run C.P w' = .ok zv w') (hz2 : VTs C.HT E ct zv.cells.toList) (hz3 : zv.cells.size = size) {ad : Option Addr} {sn sc n : Nat} (so : SlOk C.HT E τ ad sn sc) {vx : Value} {new : Array Value}
  (hn : ∀ w', (Builtin.lenOf vx).run C.P w' = .ok n w') (hnew : ∀ w', w'.heap = w.heap → (Builtin.firstCells ti.size n vx).run C.P w' = .ok new w') (hrow : RowL C.HT E ct size n new.toList) (hb : sn + n ≤ 500000000000) :
  ∃ v w', (Builtin.append_ #[sT, xT] ty #[.slice ad sn sc, vx]).run C.P w = .ok v w' ∧ ∃ E', Ext E E' ∧ M C.HT E' (st.tch τ) w' ∧ Ref E' (st.tch τ) r w' ∧ ∃ a' c', v = .slice a' (sn + n) c' ∧ SlOk C.HT E' τ a' (sn + n) c' := by
 subst hsz
 have hs : (C.HT τ).size = ti.size := by rw [hty]; rfl
 obtain ⟨f1, f2⟩ := r_append hC hd hi hx ad sn sc n vx (ty := ty) hn hnew
 by_cases hle : sn + n ≤ sc
 ·rw [f1 hle]
  rcases so with ⟨rfl, rfl, rfl⟩ | ⟨k, j, len, rfl, h1, h2, h3⟩
  ·refine ⟨_, w, rfl, E, Ext.refl E, h.tch τ, hr.tch τ, none, 0, rfl, .inl ⟨rfl, by omega, rfl⟩⟩
  ·have h3' := h3.2.1 hro
   obtain ⟨arr, k1, k2⟩ := h.rowAt hty hf hno h1 hro
   have hal := k2.len
   rw [Array.length_toList] at hal
   have hnl := hrow.len
   rw [show len = (j + sn) + (n + (len - (j + sn + n))) by omega] at k2
   obtain ⟨A, B, e1, r1, r2⟩ := k2.split
   obtain ⟨D, F, e2, r3, r4⟩ := r2.split
   have hmul : (j + sn + n) * ti.size ≤ len * ti.size := Nat.mul_le_mul_right _ (by omega)
   rw [Nat.add_mul, Nat.add_mul] at hmul
   obtain ⟨w', g1, g2⟩ := run_stores C.P k el new.toList arr (j * ti.size + sn * ti.size) 0 w k1 (by omega) (hrow.one hfl)
   rw [Nat.add_zero] at g2
   have hsl := setArr_list new.toList arr (j * ti.size + sn * ti.size) (by omega)
   have hAl := r1.len
   rw [Nat.add_mul] at hAl
   have row' : RowL C.HT E ct ti.size len (setArr arr (j * ti.size + sn * ti.size) new.toList).toList := by
    rw [hsl, e1, List.take_append_of_le_length (by omega), List.take_of_length_le (by omega), e2]
    have hd2 : (A ++ (D ++ F)).drop (j * ti.size + sn * ti.size + new.toList.length) = F := by
     rw [← List.append_assoc, List.drop_append_of_le_length (by rw [List.length_append, hAl, r3.len, hnl]; omega), List.drop_of_length_le (by rw [List.length_append, hAl, r3.len, hnl]; omega), List.nil_append]
    rw [hd2, show len = ((j + sn) + n) + (len - (j + sn + n)) by omega]
    exact (r1.append hrow).append r4
   have ok : HOk C.HT E w' k τ len := HOk.row hty g2.same row'
   refine ⟨_, w', ?_, E, Ext.refl E, h.typPut (by rw [hty]; rfl) hno h1 g2.other g2.size ok, hr.typPut h h1 g2.other g2.size g2.os g2.tape g2.output, _, sc, rfl, .inr ⟨k, j, len, rfl, h1, hle, by omega, h3.2⟩⟩
   simp only [Sem.run_bind, hs, add_addr]
   rw [g1]; rfl
 ·obtain ⟨olds, o1, o2⟩ := rowSrc (P := C.P) h hty hf hno so
  have o1' : ∀ w', w'.heap = w.heap → (Builtin.firstCells ti.size sn (.slice ad sn sc)).run C.P w' = .ok olds w' := o1
  obtain ⟨nc, g1, g2⟩ := f2 olds zv (by omega) hb (by
   have : (2 * (sn + n) + 192) * ti.bytes ≤ 1000000000192 * 200 := Nat.mul_le_mul (by omega) hby
   omega) o1' hz1
  have row' : RowL C.HT E ct ti.size nc (olds ++ new ++ Builtin.zeroCells zv.cells (nc - (sn + n))).toList := by
   rw [Array.toList_append, Array.toList_append, show nc = (sn + n) + (nc - (sn + n)) by omega]
   refine (o2.append hrow).append ?_
   rw [show sn + n + (nc - (sn + n)) - (sn + n) = nc - (sn + n) by omega]
   exact RowL.zeros hz2 hz3 h0 _
  obtain ⟨E', e, m, rf, hs'⟩ := newTyp ((h.world (w' := { w with drawn := w.drawn + 1 }) rfl)) (hr.world (w' := { w with drawn := w.drawn + 1 }) rfl rfl rfl rfl) (.cells (olds ++ new ++ Builtin.zeroCells zv.cells (nc - (sn + n))) el) (τ := τ) (n := nc) hf (by rw [hty]; rfl) (fun F eF ha => HOk.row hty ha (row'.ext eF))
  refine ⟨_, _, g2, E', e, m.tch τ, rf.tch τ, _, nc, rfl, .inr ⟨_, 0, nc, by rw [Nat.zero_mul], hs', g1, by omega, SlX.at0 (Nat.le_refl _)⟩⟩
/-! ### append, where the kind alone is told -/
def isSlT (C : Cx) (t : TypeId) : Bool := match C.und t with
 | some (.slice _) => true
 | _ => false
def isStT (C : Cx) (t : TypeId) : Bool := match C.und t with
 | some .string => true
 | _ => false
def isB8 : CTs → Bool
 | .cons (.int k lo hi) .nil => k == .u8 && decide (lo ≤ 0) && decide (255 ≤ hi)
 | _ => false
/-- What is appended to: a kind of row. -/
def rowOf (C : Cx) (t : TypeId) : Option (TypeId × TypeInfo × List AV × Nat × CTs) :=
 match C.und t with
 | some (.slice el) => match C.inf el, zeroA C el, C.rk el with
  | some ti, some z, some τ => match C.HT τ with
   | .row el' size ct => if Nat.beq el el' && Nat.beq size ti.size && Nat.blt 0 size && Nat.ble ti.bytes 200 && Nat.beq z.length size && ct.flat && !roK τ then some (el, ti, z, τ, ct) else none
   | _ => none
  | _, _, _ => none
 | _ => none
theorem rowOf_ok {t : TypeId} {el : TypeId} {ti : TypeInfo} {z : List AV} {τ : Nat} {ct : CTs} (h : rowOf C t = some (el, ti, z, τ, ct)) :
  C.und t = some (.slice el) ∧ C.inf el = some ti ∧ zeroA C el = some z ∧ C.HT τ = .row el ti.size ct ∧ 0 < ti.size ∧ ti.bytes ≤ 200 ∧ z.length = ti.size ∧ ct.flat = true ∧ roK τ = false := by
 unfold rowOf at h
 split at h <;> try cases h
 rename_i el' hd
 split at h <;> try cases h
 rename_i ti' z' τ' hi hz hk
 split at h <;> try cases h
 rename_i el2 size ct' hty
 split at h <;> try cases h
 rename_i hc
 simp only [Bool.and_eq_true, Nat.beq_eq, Nat.blt_eq, Bool.not_eq_true'] at hc
 obtain ⟨⟨⟨⟨⟨⟨c1, c2⟩, c3⟩, c4⟩, c5⟩, c6⟩, c7⟩ := hc
 subst c1; subst c2
 exact ⟨hd, hi, hz, hty, c3, Nat.le_of_ble_eq_true c4, c5, c6, c7⟩
/-- Are all texts of a kind such of another? -/
def strLe (st : St) : CTs → CTs → Bool
 | .cons (.str lo d) .nil, .cons (.str lo' d') .nil => Nat.ble lo' lo && st.ge ((st.bd d').sub (st.bd d))
 | _, _ => false
theorem strLe_ok {HT : Th} (h : M HT E st w) {a b : CTs} (hl : strLe st a b = true) {vs : List Value} (hv : VTs HT E a vs) : VTs HT E b vs := by
 unfold strLe at hl
 split at hl <;> try cases hl
 rename_i lo d lo' d'
 simp only [Bool.and_eq_true] at hl
 obtain ⟨h1, h2⟩ := hl
 have h1 := Nat.le_of_ble_eq_true h1
 have h2 := h.ge h2
 rw [Lin.ev_sub, ev_bd h, ev_bd h] at h2
 obtain ⟨v, r, e, ⟨s, rfl, g1, g2⟩, k⟩ := hv
 exact ⟨_, r, e, ⟨s, rfl, by omega, by omega⟩, k⟩
/-- What is appended is told by another kind. -/
def appendU (C : Cx) (s1 : St) (el : TypeId) (ti : TypeInfo) (z : List AV) (τ : Nat) (ct : CTs) (s x : AV) : Option (AV × St) :=
 match x with
 | .tsl τ2 m => match C.HT τ2 with
  | .row el2 size2 ct2 => match numA s, confL (conf C.HT cfuel) ct z s1 with
   | some n, some s3 => if Nat.beq el el2 && Nat.beq size2 ti.size && strLe s3 ct2 ct && hasFp s3 τ2 && noOp s3 τ2 && hasFp s3 τ && noOp s3 τ && s3.ge ((Lin.k 250000000000).sub m) then some (.tsl τ (n.add m), s3.tch τ) else none
   | _, _ => none
  | _ => none
 | _ => none
def appendT (C : Cx) (st : St) (sT xT : TypeId) (s x : AV) : Option (AV × St) :=
 match rowOf C sT with
 | some (el, ti, z, τ, ct) =>
  match conf C.HT cfuel (.sl τ 0 bigD) s st with
  | some s1 =>
   if isStT C xT then
    match slen x, numA s, confL (conf C.HT cfuel) ct z s1 with
    | some m, some n, some s2 => if isB8 ct && st.ge ((Lin.k 250000000000).sub m) && hasFp s2 τ && noOp s2 τ then some (.tsl τ (n.add m), s2.tch τ) else none
    | _, _, _ => none
   else if isSlT C xT then
    match conf C.HT cfuel (.sl τ 0 bigD) x s1 with
    | some s2 => match numA s, numA x, confL (conf C.HT cfuel) ct z s2 with
     | some n, some m, some s3 => if hasFp s3 τ && noOp s3 τ then some (.tsl τ (n.add m), s3.tch τ) else none
     | _, _, _ => none
    | none => appendU C s1 el ti z τ ct s x
   else none
  | none => none
 | none => none
theorem slVal {HT : Th} {τ lo : Nat} {d : Bd} {v : Value} (h : VT HT E (.sl τ lo d) v) : ∃ a m c, v = .slice a m c ∧ m ≤ d.ev E.g E.h ∧ SlOk HT E τ a m c := by
 obtain ⟨a, m, c, e, ⟨_, h2⟩, h3⟩ := h
 exact ⟨a, m, c, e, h2, h3⟩
theorem bytes_row {HT : Th} {ct : CTs} (h : isB8 ct = true) (s : ByteArray) : RowL HT E ct 1 s.size (s.data.map fun b => Value.int .u8 b.toNat).toList := by
 unfold isB8 at h
 split at h <;> try cases h
 rename_i k lo hi
 simp only [Bool.and_eq_true, decide_eq_true_eq, beq_iff_eq] at h
 obtain ⟨⟨h1, h2⟩, h3⟩ := h
 subst h1
 rw [Array.toList_map, show s.size = s.data.toList.length by rw [Array.length_toList]; rfl]
 generalize s.data.toList = l
 induction l with
 | nil => rfl
 | cons b l ih =>
  refine ⟨[.int .u8 b.toNat], _, rfl, rfl, ⟨_, [], rfl, ⟨_, rfl, ?_, ?_, ?_, ?_⟩, rfl⟩, ih⟩
  ·omega
  ·have := b.toNat_lt; omega
  ·show (0 : Int) ≤ _; omega
  ·have := b.toNat_lt; show _ ≤ (255 : Int); omega
theorem tslV {HT : Th} {τ : Nat} {a : Option Addr} {m c : Nat} (so : SlOk HT E τ a m c) {n : Lin} (hn : n.ev E.ρ = m) (hb : n.below E.n) : V HT E (.tsl τ n) (.slice a m c) := ⟨a, m, c, rfl, hn.symm, hb, so⟩
theorem appendT_ok (hC : CxOk C) (h : M C.HT E st w) {r : World} (hr : Ref E st r w) {sT xT ty : TypeId} {s x : AV} {o : AV × St} (ho : appendT C st sT xT s x = some o) {vs vx : Value} (hs : V C.HT E s vs) (hx : V C.HT E x vx) :
  DoesV C E st r w (Builtin.append_ #[sT, xT] ty #[vs, vx]) [o] := by
 unfold appendT at ho
 split at ho <;> try cases ho
 rename_i el ti z τ ct hrow
 obtain ⟨hd, hi, hz, hty, h0, hby, hzl, hfl, hro⟩ := rowOf_ok hrow
 split at ho <;> try cases ho
 rename_i s1 hs1
 obtain ⟨E1, p1, v1⟩ := conf_ok _ _ _ _ _ hs1 E w h
 obtain ⟨ad, sn, sc, rfl, bn, so⟩ := slVal (v1 _ hs)
 rw [bigD_ev] at bn
 obtain ⟨zv, hz1, hz2⟩ := zeroA_ok (E := E) hC hz
 have hz3 : zv.cells.size = ti.size := by rw [← hzl, hz2.len]; simp
 split at ho
 ·rename_i hst
  split at ho <;> try cases ho
  rename_i m n s2 hm hn hs2
  split at ho <;> try cases ho
  rename_i hc
  simp only [Bool.and_eq_true] at hc
  obtain ⟨⟨⟨c1, c2⟩, c3⟩, c4⟩ := hc
  obtain ⟨E2, p2, v2⟩ := confL_ok (conf_ok _) _ _ _ _ hs2 E1 w p1.m
  have p := p1.trans p2
  obtain ⟨t, rfl, ht, hmb⟩ := slen_ok hx hm
  obtain ⟨gn, gb⟩ := numA_ok hs hn
  have hxt : xTyOk C xT = true := by
   unfold isStT at hst; unfold xTyOk
   split at hst <;> try cases hst
   rename_i e; rw [e]
  have c2 := h.ge c2
  rw [Lin.ev_sub, Lin.ev_k, ← ht] at c2
  have h1s : ti.size = 1 := by
   unfold isB8 at c1
   split at c1 <;> try cases c1
   have := v2 _ (Vs.ext C.HT p1.ext _ hz2)
   obtain ⟨_, _, e, _, e2⟩ := this
   have hl : zv.cells.toList.length = 1 := by rw [e, show _ = ([] : List Value) from e2]; rfl
   rw [Array.length_toList] at hl; omega
  obtain ⟨v, w', run, E', e, m', rf, a', c', rfl, so'⟩ := appendCore (ty := ty) hC p.m (p.ref r hr) (n := t.size) (vx := .string t) (new := t.data.map fun b => .int .u8 b.toNat) hro hd hi hxt hty rfl h0 hby hfl (hasFp_ok c3) (noOp_ok c4) hz1 (v2 _ (Vs.ext C.HT p1.ext _ hz2)) hz3 (so.ext p2.ext)
   (fun _ => rfl) (fun w' _ => by show Result.ok ((t.extract 0 t.size).data.map fun b => Value.int .u8 b.toNat) w' = _; congr 2; simp) (by rw [h1s]; exact bytes_row c1 t) (by omega)
  refine ⟨_, w', run, _, List.mem_cons_self .., E', p.ext.trans e, m', rf, tslV so' ?_ (below_add (gb.mono (p.ext.trans e).n) (hmb.mono (p.ext.trans e).n))⟩
  rw [Lin.ev_add, (p.ext.trans e).ev gb, (p.ext.trans e).ev hmb, gn, ← ht]
  simp [numV]
 ·split at ho <;> try cases ho
  rename_i hsl
  have hxt : xTyOk C xT = true := by
   unfold isSlT at hsl; unfold xTyOk
   split at hsl <;> try cases hsl
   rename_i e; rw [e]
  split at ho
  case h_2 =>
   unfold appendU at ho
   split at ho <;> try cases ho
   rename_i τ2 m
   split at ho <;> try cases ho
   rename_i el2 size2 ct2 hty2
   split at ho <;> try cases ho
   rename_i n s3 hn hs3
   split at ho <;> try cases ho
   rename_i hc
   simp only [Bool.and_eq_true, Nat.beq_eq] at hc
   obtain ⟨⟨⟨⟨⟨⟨⟨c1, c2⟩, c3⟩, c4⟩, c5⟩, c6⟩, c7⟩, c8⟩ := hc
   subst c1; subst c2
   obtain ⟨E3, p3, v3⟩ := confL_ok (conf_ok _) _ _ _ _ hs3 E1 w p1.m
   have p := p1.trans p3
   obtain ⟨ax, xn, xc, rfl, hxn, gmb, sx⟩ := V.ext C.HT p.ext _ hx
   have c8 := p.m.ge c8
   rw [Lin.ev_sub, Lin.ev_k] at c8
   obtain ⟨gn, gb⟩ := numA_ok hs hn
   obtain ⟨new, n1, n2⟩ := rowSrc (P := C.P) p.m hty2 (hasFp_ok c4) (noOp_ok c5) sx
   have n3 : RowL C.HT E3 ct ti.size xn new.toList := RowL.iff.2 ⟨(RowL.iff.1 n2).1, fun j hj => strLe_ok p.m c3 ((RowL.iff.1 n2).2 j hj)⟩
   obtain ⟨v, w', run, E', e, m', rf, a', c', rfl, so'⟩ := appendCore (ty := ty) hC p.m (p.ref r hr) (n := xn) (vx := .slice ax xn xc) (new := new) hro hd hi hxt hty rfl h0 hby hfl (hasFp_ok c6) (noOp_ok c7) hz1 (v3 _ (Vs.ext C.HT p1.ext _ hz2)) hz3 (so.ext p3.ext)
    (fun _ => rfl) n1 n3 (by omega)
   refine ⟨_, w', run, _, List.mem_cons_self .., E', p.ext.trans e, m', rf, tslV so' ?_ (below_add (gb.mono (p.ext.trans e).n) (gmb.mono e.n))⟩
   rw [Lin.ev_add, (p.ext.trans e).ev gb, e.ev gmb, gn, ← hxn]
   simp [numV]
  rename_i s2 hs2
  split at ho <;> try cases ho
  rename_i n m s3 hn hm hs3
  split at ho <;> try cases ho
  rename_i hc
  simp only [Bool.and_eq_true] at hc
  obtain ⟨c3, c4⟩ := hc
  obtain ⟨E2, p2, v2⟩ := conf_ok _ _ _ _ _ hs2 E1 w p1.m
  obtain ⟨E3, p3, v3⟩ := confL_ok (conf_ok _) _ _ _ _ hs3 E2 w p2.m
  obtain ⟨ax, xn, xc, rfl, bx, sx⟩ := slVal (v2 _ (V.ext C.HT p1.ext _ hx))
  rw [bigD_ev] at bx
  have p := (p1.trans p2).trans p3
  obtain ⟨gn, gb⟩ := numA_ok hs hn
  obtain ⟨gm, gmb⟩ := numA_ok hx hm
  obtain ⟨new, n1, n2⟩ := rowSrc (P := C.P) p.m hty (hasFp_ok c3) (noOp_ok c4) (sx.ext p3.ext)
  obtain ⟨v, w', run, E', e, m', rf, a', c', rfl, so'⟩ := appendCore (ty := ty) hC p.m (p.ref r hr) (n := xn) (vx := .slice ax xn xc) (new := new) hro hd hi hxt hty rfl h0 hby hfl (hasFp_ok c3) (noOp_ok c4) hz1 (v3 _ (Vs.ext C.HT (p1.ext.trans p2.ext) _ hz2)) hz3 (so.ext (p2.ext.trans p3.ext))
   (fun _ => rfl) n1 n2 (by omega)
  refine ⟨_, w', run, _, List.mem_cons_self .., E', p.ext.trans e, m', rf, tslV so' ?_ (below_add (gb.mono (p.ext.trans e).n) (gmb.mono (p.ext.trans e).n))⟩
  rw [Lin.ev_add, (p.ext.trans e).ev gb, (p.ext.trans e).ev gmb, gn, gm]
  simp [numV]
end
end Go.Proofs.YtbjhcjgniciooaaGreatDoor.E
namespace Go.Proofs.YtbjhcjgniciooaaGreatDoor.E
set_option linter.unusedVariables false
set_option linter.unusedSimpArgs false
section
variable {C : Cx} {E : Env} {st : St} {w : World}
/-! ### make of a row -/
theorem r_make (hC : CxOk C) {t el : TypeId} {ti : TypeInfo} (hd : C.und t = some (.slice el)) (hi : C.inf el = some ti) {zv : Value} (hz1 : ∀ w', (zeroValue el).run C.P w' = .ok zv w') (hzs : zv.cells.size = ti.size) (h0 : 0 < ti.size) (hby : ti.bytes ≤ 200) {k j : IntKind} (ln cn : Nat) (h1 : ln ≤ cn) (h2 : cn ≤ 250000000000) (w : World) :
  (Instr.makeSlice t (.int k ln) (.int j cn)).run C.P w = .ok (.slice (some ⟨w.heap.size, 0, none⟩) ln cn) (w.alloc (.cells (Builtin.zeroCells zv.cells cn) el)) := by
 unfold Instr.makeSlice
 have i64 : (250000000000 : Int) ≤ IntKind.i64.max := by decide
 have i0 := min_nonpos .i64
 have e1 : IntKind.i64.wrap (cn : Int) = cn := wrap_in .i64 _ (by omega) (by omega)
 have e2 : IntKind.i64.wrap (ln : Int) = ln := wrap_in .i64 _ (by omega) (by omega)
 simp only [Sem.run_bind, r_und hC hd, Result.andThen_ok, asInt, asIntOf, Sem.run_pure, r_info hC hi, e1, e2]
 have c1 : (decide ((cn : Int) < 0) || decide ((ti.bytes : Int) * (cn : Int) > 2 ^ 48)) = false := by
  have : (ti.bytes : Int) * cn ≤ 200 * 250000000000 := Int.mul_le_mul (by omega) (by omega) (by omega) (by omega)
  simp only [Bool.or_eq_false_iff, decide_eq_false_iff_not]
  omega
 have c2 : ((decide ((cn : Int) < 0) || decide ((ti.bytes : Int) * (cn : Int) > 2 ^ 48)) || decide ((ln : Int) < 0) || decide ((ln : Int) > (cn : Int))) = false := by
  rw [c1]; simp; omega
 rw [c2]
 simp only [Bool.false_eq_true, if_false, Sem.run_bind, run_askRoom, Result.andThen_ok, r_size hC hi, Int.toNat_natCast]
 by_cases hc : cn * ti.size = 0
 ·have : cn = 0 := by
   rcases Nat.mul_eq_zero.1 hc with h | h
   ·exact h
   ·omega
  subst this
  rw [if_pos hc]
  have e : ((Array.range (0 * ti.size)).map fun i => (#[] : Array Value)[i % (#[] : Array Value).size]!) = Builtin.zeroCells zv.cells 0 := by simp [Builtin.zeroCells]
  simp only [Sem.run_bind, Sem.run_pure, Result.andThen_ok]
  rw [e]; rfl
 ·rw [if_neg hc]
  simp only [Sem.run_bind, hz1, Result.andThen_ok]
  unfold Builtin.zeroCells
  rw [← hzs]
  rfl
def makeSliceT (C : Cx) (st : St) (t : TypeId) (l c : AV) : Option (AV × St) :=
 match rowOf C t, l, c with
 | some (_, _, z, τ, ct), .int _ l, .int _ c =>
  if st.ge l && st.ge (c.sub l) && st.ge ((Lin.k 250000000000).sub c) then
   match confL (conf C.HT cfuel) ct z st with
   | some s => if hasFp s τ then some (.tsl τ l, s) else none
   | none => none
  else none
 | _, _, _ => none
theorem makeSliceT_ok (hC : CxOk C) (h : M C.HT E st w) {r : World} (hr : Ref E st r w) {t : TypeId} {l c : AV} {o : AV × St} (ho : makeSliceT C st t l c = some o) {vl vc : Value} (hl : V C.HT E l vl) (hc : V C.HT E c vc) :
  DoesV C E st r w (Instr.makeSlice t vl vc) [o] := by
 unfold makeSliceT at ho
 split at ho <;> try cases ho
 rename_i el ti z τ ct k l k' c hrow
 obtain ⟨hd, hi, hz, hty, h0, hby, hzl, hfl, hro⟩ := rowOf_ok hrow
 split at ho <;> try cases ho
 rename_i hg
 simp only [Bool.and_eq_true] at hg
 obtain ⟨⟨g1, g2⟩, g3⟩ := hg
 split at ho <;> try cases ho
 rename_i s hs
 split at ho <;> try cases ho
 rename_i hf
 obtain ⟨E1, p1, v1⟩ := confL_ok (conf_ok _) _ _ _ _ hs E w h
 obtain ⟨zv, hz1, hz2⟩ := zeroA_ok (E := E) hC hz
 have hz3 : zv.cells.size = ti.size := by rw [← hzl, hz2.len]; simp
 obtain ⟨rfl, lb, _⟩ := hl
 obtain ⟨rfl, cb, _⟩ := hc
 have g1 := h.ge g1
 have g2 := h.ge g2
 have g3 := h.ge g3
 rw [Lin.ev_sub] at g2
 rw [Lin.ev_sub, Lin.ev_k] at g3
 have e1 : (l.ev E.ρ) = ((l.ev E.ρ).toNat : Int) := by omega
 have e2 : (c.ev E.ρ) = ((c.ev E.ρ).toNat : Int) := by omega
 have run := r_make hC hd hi hz1 hz3 h0 hby (k := k) (j := k') (l.ev E.ρ).toNat (c.ev E.ρ).toNat (by omega) (by omega) w
 rw [← e1, ← e2] at run
 obtain ⟨E2, e, m, rf, hs'⟩ := newTyp p1.m (p1.ref r hr) (.cells (Builtin.zeroCells zv.cells (c.ev E.ρ).toNat) el) (τ := τ) (n := (c.ev E.ρ).toNat) (hasFp_ok hf) (by rw [hty]; rfl) (fun F eF ha => HOk.row hty ha (RowL.zeros (VTs.ext C.HT eF _ (v1 _ hz2)) hz3 h0 _))
 refine ⟨_, _, run, _, List.mem_cons_self .., E2, p1.ext.trans e, m, rf, tslV (.inr ⟨_, 0, _, by rw [Nat.zero_mul], hs', by omega, by omega, SlX.at0 (Nat.le_refl _)⟩) ?_ (lb.mono (p1.ext.trans e).n)⟩
 rw [(p1.ext.trans e).ev lb]; exact e1
/-! ### copy -/
def copyT (C : Cx) (st : St) (dT sT : TypeId) (d s : AV) : Option (AV × St) :=
 match rowOf C dT with
 | some (_, _, _, τ, ct) =>
  match conf C.HT cfuel (.sl τ 0 bigD) d st with
  | some s1 => if isSlT C sT then match conf C.HT cfuel (.sl τ 0 bigD) s s1 with
   | some s2 => match numA d, numA s with
    | some n, some m => if hasFp s2 τ && noOp s2 τ then some (mmA (s2.tch τ) false .i64 m n) else none
    | _, _ => none
   | none => none
   else none
  | none => none
 | none => none
theorem copyT_ok (hC : CxOk C) (h : M C.HT E st w) {r : World} (hr : Ref E st r w) {dT sT ty : TypeId} {d s : AV} {o : AV × St} (ho : copyT C st dT sT d s = some o) {vd vs : Value} (hd' : V C.HT E d vd) (hs : V C.HT E s vs) :
  DoesV C E st r w (Builtin.copy_ #[dT, sT] ty #[vd, vs]) [o] := by
 unfold copyT at ho
 split at ho <;> try cases ho
 rename_i el ti z τ ct hrow
 obtain ⟨hd, hi, hz, hty, h0, hby, hzl, hfl, hro⟩ := rowOf_ok hrow
 split at ho <;> try cases ho
 rename_i s1 hs1
 split at ho <;> try cases ho
 split at ho <;> try cases ho
 rename_i s2 hs2
 split at ho <;> try cases ho
 rename_i n m hn hm
 split at ho <;> try cases ho
 rename_i hc
 simp only [Bool.and_eq_true] at hc
 obtain ⟨E1, p1, v1⟩ := conf_ok _ _ _ _ _ hs1 E w h
 obtain ⟨E2, p2, v2⟩ := conf_ok _ _ _ _ _ hs2 E1 w p1.m
 obtain ⟨ad, dn, dc, rfl, bn, so⟩ := slVal (v1 _ hd')
 obtain ⟨ax, xn, xc, rfl, bx, sx⟩ := slVal (v2 _ (V.ext C.HT p1.ext _ hs))
 rw [bigD_ev] at bn bx
 have p := p1.trans p2
 obtain ⟨gn, gb⟩ := numA_ok hd' hn
 obtain ⟨gm, gmb⟩ := numA_ok hs hm
 have so := so.ext p2.ext
 have hf := hasFp_ok hc.1
 have hno := noOp_ok hc.2
 have hsz : (C.HT τ).size = ti.size := by rw [hty]; rfl
 have sx' : SlOk C.HT E2 τ ax (min xn dn) xc := by
  rcases sx with ⟨rfl, rfl, rfl⟩ | ⟨k, j, len, e1, e2, e3, e4⟩
  ·exact .inl ⟨rfl, by omega, rfl⟩
  ·exact .inr ⟨k, j, len, e1, e2, by omega, by omega, e4.2⟩
 obtain ⟨new, n1, n2⟩ := rowSrc (P := C.P) p.m hty hf hno sx'
 have hfc : ∀ w', w'.heap = w.heap → (Builtin.firstCells ti.size (min xn dn) (.slice ax xn xc)).run C.P w' = .ok new w' := fun w' hw => by
  have := n1 w' hw
  cases ax <;> exact this
 have i64 : (250000000000 : Int) ≤ IntKind.i64.max := by decide
 have i0 := min_nonpos .i64
 have hnl := n2.len
 -- the result's number
 have fin : ∀ (w' : World) (E3 : Env), Ext E2 E3 → M C.HT E3 (s2.tch τ) w' → Ref E3 (s2.tch τ) r w' → (Builtin.copy_ #[dT, sT] ty #[.slice ad dn dc, .slice ax xn xc]).run C.P w = .ok (goInt (min xn dn : Nat)) w' → DoesV C E st r w (Builtin.copy_ #[dT, sT] ty #[.slice ad dn dc, .slice ax xn xc]) [mmA (s2.tch τ) false .i64 m n] := fun w' E3 e m3 rf run => by
  have ee := p.ext.trans e
  have em : m.ev E3.ρ = xn := by rw [ee.ev gmb, gm]; rfl
  have en : n.ev E3.ρ = dn := by rw [ee.ev gb, gn]; rfl
  obtain ⟨E4, u, v4⟩ := mmA_ok m3 (mx := false) (k := .i64) (a := m) (b := n) ⟨rfl, gmb.mono ee.n, by omega, by omega⟩ ⟨rfl, gb.mono ee.n, by omega, by omega⟩
  refine ⟨_, w', run, _, List.mem_cons_self .., E4, ee.trans u.ext, u.m, u.ref m3 rf, ?_⟩
  rw [em, en] at v4
  have : (if false = true then max (xn : Int) dn else min (xn : Int) dn) = ((min xn dn : Nat) : Int) := by simp; omega
  rw [this] at v4
  exact v4
 have run0 : (Builtin.copy_ #[dT, sT] ty #[.slice ad dn dc, .slice ax xn xc]).run C.P w = (do (match ad with | some a => storeCells a new.toList | none => pure ()); pure (goInt (min xn dn : Nat)) : Sem Value).run C.P w := by
  unfold Builtin.copy_
  simp only [List.getElem?_toArray, List.getElem?_cons_zero, List.getElem?_cons_succ, Sem.run_bind, r_und hC hd, Result.andThen_ok, show (Builtin.lenOf (.slice ax xn xc)).run C.P w = .ok xn w from rfl, r_size hC hi]
  rw [show Nat.min xn dn = min xn dn from rfl, hfc w rfl]
  cases ad
  ·rfl
  ·simp only [Result.andThen_ok, Sem.run_bind]
 rcases so with ⟨rfl, rfl, rfl⟩ | ⟨k, j, len, rfl, h1, h2, h3⟩
 ·exact fin w E2 (Ext.refl _) (p.m.tch τ) ((p.ref r hr).tch τ) (by rw [run0]; rfl)
 ·have h3' := h3.2.1 hro
  obtain ⟨arr, k1, k2⟩ := p.m.rowAt hty hf hno h1 hro
  have hal := k2.len
  rw [Array.length_toList] at hal
  have hmin : min xn dn ≤ dn := Nat.min_le_right _ _
  rw [show len = j + (min xn dn + (len - (j + min xn dn))) by omega] at k2
  obtain ⟨A, B, e1, r1, r2⟩ := k2.split
  obtain ⟨D, F, e2, r3, r4⟩ := r2.split
  have hmul : (j + min xn dn) * ti.size ≤ len * ti.size := Nat.mul_le_mul_right _ (by omega)
  rw [Nat.add_mul] at hmul
  obtain ⟨w', g1, g2⟩ := run_stores C.P k el new.toList arr (j * ti.size) 0 w k1 (by omega) (n2.one hfl)
  rw [Nat.add_zero] at g2
  have hsl := setArr_list new.toList arr (j * ti.size) (by omega)
  have hAl := r1.len
  have row' : RowL C.HT E2 ct ti.size len (setArr arr (j * ti.size) new.toList).toList := by
   rw [hsl, e1, List.take_append_of_le_length (by omega), List.take_of_length_le (by omega), e2]
   have hd2 : (A ++ (D ++ F)).drop (j * ti.size + new.toList.length) = F := by
    rw [← List.append_assoc, List.drop_append_of_le_length (by rw [List.length_append, hAl, r3.len, hnl]; omega), List.drop_of_length_le (by rw [List.length_append, hAl, r3.len, hnl]; omega), List.nil_append]
   rw [hd2, show len = (j + min xn dn) + (len - (j + min xn dn)) by omega]
   exact (r1.append n2).append r4
  have ok : HOk C.HT E2 w' k τ len := HOk.row hty g2.same row'
  refine fin w' E2 (Ext.refl _) (p.m.typPut (by rw [hty]; rfl) hno h1 g2.other g2.size ok) ((p.ref r hr).typPut p.m h1 g2.other g2.size g2.os g2.tape g2.output) ?_
  rw [run0]
  simp only [Sem.run_bind, hsz]
  rw [g1]; rfl
/-! ### An element of a row -/
def loadT (C : Cx) (st : St) (t : TypeId) (τ f : Nat) : Option (AV × St) :=
 match C.HT τ with
 | .row _ size ct => if hasFp st τ && noOp st τ then match insts ct st with
   | (cs, s) => if Nat.beq cs.length size then (partA C t cs f).map (·, s) else none
  else none
 | _ => none
theorem loadT_ok (hC : CxOk C) (h : M C.HT E st w) {t : TypeId} {τ f : Nat} {o : AV × St} (ho : loadT C st t τ f = some o) {v : Value} (hv : V C.HT E (.elem τ f) v) :
  ∃ u, (Instr.loadAt t v).run C.P w = .ok u w ∧ ∃ E', Up C.HT E st w E' o.2 ∧ V C.HT E' o.1 u := by
 unfold loadT at ho
 split at ho <;> try cases ho
 rename_i elem size ct hty
 split at ho <;> try cases ho
 rename_i hc
 simp only [Bool.and_eq_true] at hc
 split at ho
 rename_i cs s he
 split at ho <;> try cases ho
 rename_i hl
 have hl := Nat.eq_of_beq_eq_true hl
 cases hp : partA C t cs f with
 | none => rw [hp] at ho; cases ho
 | some a =>
  rw [hp] at ho
  injection ho with ho; subst ho
  obtain ⟨k, j, len, rfl, h1, h2⟩ := hv
  have hsz : (C.HT τ).size = size := by rw [show C.HT τ = _ from hty]; rfl
  obtain ⟨arr, D0, R0, k1, e0, k2⟩ := h.rowAtR hty (hasFp_ok hc.1) (noOp_ok hc.2) h1
  rw [show len = j + (1 + (len - (j + 1))) by omega] at k2
  obtain ⟨A, B, e1, r1, r2⟩ := k2.split
  obtain ⟨D, F, e2, r3, r4⟩ := r2.split
  have e1 : arr.toList = A ++ (B ++ R0) := by rw [e0, e1, List.append_assoc]
  have e2 : B ++ R0 = D ++ (F ++ R0) := by rw [e2, List.append_assoc]
  obtain ⟨D', Z, e3, l1, l2, l3⟩ := r3
  rw [show Z = [] from l3, List.append_nil] at e3
  subst e3
  obtain ⟨E1, u1, v1⟩ := insts_ok ct h l2
  rw [he] at u1 v1
  rw [hsz]
  -- the cells, as they lie
  have at_ : ∀ i, i < size → w.cell? ⟨k, j * size + i, none⟩ = D[i]? := fun i hi => by
   rw [cell_of k1]
   have : arr.toList[j * size + i]? = D[i]? := by
    rw [e1, ← r1.len, List.getElem?_append_right (by omega), Nat.add_sub_cancel_left, e2, List.getElem?_append_left (by omega)]
   simpa using this
  have hp' := hp
  unfold partA at hp
  split at hp <;> try cases hp
  rename_i d i hd hi
  split at hp
  ·rename_i hrow
   split at hp <;> try cases hp
   rename_i hlen
   have hv2 := (v1.drop f).take i.size
   refine ⟨.agg ((D.drop f).take i.size).toArray, ?_, E1, u1, _, rfl, by simpa using hv2⟩
   have hsz2 : ((D.drop f).take i.size).length = i.size := by simp; omega
   refine run_loadAt_mid (P := C.P) w k (j * size + f) t ((D.drop f).take i.size) d (fun q v hj => ?_) (hC.und hd) (by cases d <;> first | rfl | cases hrow) (by rw [hC.inf t i hi, hsz2]; rfl)
   have hjl := (List.getElem?_eq_some_iff.1 hj).1
   rw [Nat.add_assoc, at_ _ (by omega)]
   rw [List.getElem?_take_of_lt (by omega), List.getElem?_drop] at hj
   exact hj
  ·rename_i hrow
   obtain ⟨v, g1, g2⟩ := v1.get hp
   have hlt := (List.getElem?_eq_some_iff.1 g1).1
   refine ⟨v, ?_, E1, u1, g2⟩
   unfold Instr.loadAt loadVar
   have hrow : isRow d = false := by simpa using hrow
   simp only [Instr.sureAddr, Sem.run_bind, Sem.run_pure, Result.andThen_ok, r_agg hC hd, hrow, Bool.false_eq_true, if_false]
   show (Sem.load .plain _ Sem.pure).run C.P w = _
   simp only [Sem.run, at_ f (by omega), g1]
def CTs.toL : CTs → List CT
 | .nil => []
 | .cons t ts => t :: ts.toL
def confT (rec : Rec) : List CT → List AV → St → Option St
 | [], [], st => some st
 | t :: ts, a :: as, st => match rec t a st with
  | some s => confT rec ts as s
  | none => none
 | _, _, _ => none
def VTl (HT : Th) (E : Env) : List CT → List Value → Prop
 | [], vs => vs = []
 | t :: ts, vs => ∃ v r, vs = v :: r ∧ VT HT E t v ∧ VTl HT E ts r
theorem VTl_ext {HT : Th} {F : Env} (e : Ext E F) : ∀ {ts : List CT} {vs : List Value}, VTl HT E ts vs → VTl HT F ts vs
 | [], _, k => k
 | t :: ts, _, ⟨v, r, h, k1, k2⟩ => ⟨v, r, h, VT.ext HT e _ k1, VTl_ext e k2⟩
theorem VTl_iff {HT : Th} : ∀ (ts : CTs) {vs : List Value}, VTs HT E ts vs ↔ VTl HT E ts.toL vs
 | .nil, _ => Iff.rfl
 | .cons t ts, vs => by
  constructor
  ·rintro ⟨v, r, e, k1, k2⟩; exact ⟨v, r, e, k1, (VTl_iff ts).1 k2⟩
  ·rintro ⟨v, r, e, k1, k2⟩; exact ⟨v, r, e, k1, (VTl_iff ts).2 k2⟩
theorem confT_ok {HT : Th} {rec : Rec} (hr : RecOk HT rec) : ∀ (ts : List CT) (as : List AV) (st st' : St), confT rec ts as st = some st' → ∀ E w, M HT E st w → ∃ E', Pb HT E st w E' st' ∧ ∀ vs, Vs HT E as vs → VTl HT E' ts vs
 | [], [], st, st', h, E, w, m => by
  injection h with h; subst h
  exact ⟨E, Pb.refl m, fun vs hv => hv⟩
 | [], _ :: _, _, _, h, _, _, _ => by cases h
 | _ :: _, [], _, _, h, _, _, _ => by cases h
 | t :: ts, a :: as, st, st', h, E, w, m => by
  simp only [confT] at h
  split at h <;> try cases h
  rename_i s hs
  obtain ⟨E1, p1, v1⟩ := hr _ _ _ _ hs E w m
  obtain ⟨E2, p2, v2⟩ := confT_ok hr ts as s st' h E1 w p1.m
  refine ⟨E2, p1.trans p2, fun vs hv => ?_⟩
  obtain ⟨v, r, rfl, g1, g2⟩ := hv
  exact ⟨v, r, rfl, VT.ext HT p2.ext _ (v1 v g1), v2 r (Vs.ext HT p1.ext _ g2)⟩
/-- Some cells of an element are written. -/
theorem VTl_put {HT : Th} : ∀ {ts : List CT} {a x us b : List Value} (f : Nat), VTl HT E ts (a ++ x ++ b) → a.length = f → x.length = us.length → VTl HT E ((ts.drop f).take us.length) us → VTl HT E ts (a ++ us ++ b)
 | ts, v :: a, x, us, b, f + 1, h, hf, hl, hu => by
  cases ts with
  | nil => cases h
  | cons t ts =>
   obtain ⟨v', r, e, k1, k2⟩ := h
   injection e with e1 e2
   subst e1; subst e2
   exact ⟨v, a ++ us ++ b, rfl, k1, VTl_put (x := x) f k2 (by simpa using hf) hl hu⟩
 | ts, [], x, us, b, f, h, hf, hl, hu => by
  subst hf
  rw [show ([] : List Value).length = 0 from rfl, List.drop_zero] at hu
  simp only [List.nil_append] at h ⊢
  induction us generalizing ts x with
  | nil => rw [List.eq_nil_of_length_eq_zero hl] at h; exact h
  | cons u us ih =>
   cases x with
   | nil => cases hl
   | cons y x =>
    cases ts with
    | nil => cases h
    | cons t ts =>
     obtain ⟨v', r, e, k1, k2⟩ := h
     injection e with e1 e2
     subst e1; subst e2
     obtain ⟨v', r, e, g1, g2⟩ := hu
     injection e with e1 e2
     subst e1; subst e2
     exact ⟨u, us ++ b, rfl, g1, ih ts x k2 (by simpa using hl) g2⟩
def storeT (C : Cx) (st : St) (t : TypeId) (τ f : Nat) (a : AV) : Option St :=
 match C.HT τ, avCells st a, C.inf t with
 | .row _ size ct, some xs, some i =>
  if Nat.beq xs.length i.size && Nat.ble (f + xs.length) size then
   match confT (conf C.HT cfuel) ((ct.toL.drop f).take xs.length) xs st with
   | some s => if hasFp s τ && noOp s τ && !roK τ then some (s.tch τ) else none
   | none => none
  else none
 | _, _, _ => none
theorem storeT_ok (hC : CxOk C) (h : M C.HT E st w) {r : World} (hr : Ref E st r w) {t : TypeId} {τ f : Nat} {a : AV} {st' : St} (ho : storeT C st t τ f a = some st') {v u : Value} (hv : V C.HT E (.elem τ f) v) (hu : V C.HT E a u) :
  ∃ w', (Instr.storeAt t v u).run C.P w = .ok () w' ∧ ∃ E', Ext E E' ∧ M C.HT E' st' w' ∧ Ref E' st' r w' := by
 unfold storeT at ho
 split at ho <;> try cases ho
 rename_i elem size ct xs i hty hx hi
 split at ho <;> try cases ho
 rename_i hc
 simp only [Bool.and_eq_true, Nat.beq_eq] at hc
 obtain ⟨c1, c2⟩ := hc
 have c2 := Nat.le_of_ble_eq_true c2
 split at ho <;> try cases ho
 rename_i s hs
 split at ho <;> try cases ho
 rename_i hc
 simp only [Bool.and_eq_true, Bool.not_eq_true'] at hc
 obtain ⟨hc, hro⟩ := hc
 obtain ⟨hxs, hone⟩ := avCells_ok h hu hx
 obtain ⟨E1, p1, v1⟩ := confT_ok (conf_ok _) _ _ _ _ hs E w h
 have hf := hasFp_ok hc.1
 have hno := noOp_ok hc.2
 obtain ⟨k, j, len, rfl, h1, h2⟩ := V.ext C.HT p1.ext _ hv
 have hsz : (C.HT τ).size = size := by rw [show C.HT τ = _ from hty]; rfl
 obtain ⟨arr, k1, k2⟩ := p1.m.rowAt hty hf hno h1 hro
 have hal := k2.len
 rw [Array.length_toList] at hal
 rw [show len = j + (1 + (len - (j + 1))) by omega] at k2
 obtain ⟨A, B, e1, r1, r2⟩ := k2.split
 obtain ⟨D, F, e2, r3, r4⟩ := r2.split
 obtain ⟨D', Z, e3, l1, l2, l3⟩ := r3
 rw [show Z = [] from l3, List.append_nil] at e3
 subst e3
 have hul : u.cells.toList.length = xs.length := by rw [hxs.len]
 have hmul : (j + 1) * size ≤ len * size := Nat.mul_le_mul_right _ (by omega)
 rw [Nat.add_mul] at hmul
 obtain ⟨w', g1, g2⟩ := run_stores C.P k elem u.cells.toList arr (j * size + f) 0 w k1 (by omega) hone
 rw [Nat.add_zero] at g2
 have hsl := setArr_list u.cells.toList arr (j * size + f) (by omega)
 have hAl := r1.len
 have hD : D = D.take f ++ (D.drop f).take xs.length ++ D.drop (f + xs.length) := by
  rw [List.append_assoc, ← List.drop_drop, List.take_append_drop, List.take_append_drop]
 have hput : VTl C.HT E1 ct.toL (D.take f ++ u.cells.toList ++ D.drop (f + xs.length)) := by
  refine VTl_put (x := (D.drop f).take xs.length) f ?_ (by rw [List.length_take]; omega) (by rw [List.length_take, List.length_drop]; omega) (by rw [hul]; exact v1 _ hxs)
  rw [← hD]; exact (VTl_iff ct).1 l2
 have row' : RowL C.HT E1 ct size len (setArr arr (j * size + f) u.cells.toList).toList := by
  have e : (setArr arr (j * size + f) u.cells.toList).toList = A ++ ((D.take f ++ u.cells.toList ++ D.drop (f + xs.length)) ++ F) := by
   rw [hsl, e1, e2]
   have t1 : (A ++ (D ++ F)).take (j * size + f) = A ++ D.take f := by
    rw [← hAl, List.take_append, List.take_of_length_le (by omega), Nat.add_sub_cancel_left, List.take_append_of_le_length (by omega)]
   have t2 : (A ++ (D ++ F)).drop (j * size + f + u.cells.toList.length) = D.drop (f + xs.length) ++ F := by
    rw [← hAl, show A.length + f + u.cells.toList.length = A.length + (f + xs.length) by omega, ← List.drop_drop, List.drop_left, List.drop_append_of_le_length (by omega)]
   rw [t1, t2]; simp [List.append_assoc]
  rw [e, show len = j + (1 + (len - (j + 1))) by omega]
  refine r1.append (RowL.append (n := 1) ?_ r4)
  exact ⟨_, [], (List.append_nil _).symm, by rw [List.length_append, List.length_append, List.length_take, List.length_drop, hul]; omega, (VTl_iff ct).2 hput, rfl⟩
 have ok : HOk C.HT E1 w' k τ len := HOk.row hty g2.same row'
 refine ⟨w', ?_, E1, p1.ext, p1.m.typPut (by rw [show C.HT τ = _ from hty]; rfl) hno h1 g2.other g2.size ok, (p1.ref r hr).typPut p1.m h1 g2.other g2.size g2.os g2.tape g2.output⟩
 unfold Instr.storeAt storeVar
 simp only [Instr.sureAddr, Sem.run_bind, Sem.run_pure, Result.andThen_ok, r_size hC hi]
 rw [if_neg (by rw [← c1, ← hul]; simp), hsz]
 exact g1
end
end Go.Proofs.YtbjhcjgniciooaaGreatDoor.E
namespace Go.Proofs.YtbjhcjgniciooaaGreatDoor.E
set_option linter.unusedVariables false
set_option linter.unusedSimpArgs false
def linE (a b : Lin) : Bool := (a.c == b.c) && a.ts == b.ts
theorem linE_ok {a b : Lin} (h : linE a b = true) : a = b := by
 obtain ⟨c, ts⟩ := a
 obtain ⟨d, us⟩ := b
 simp only [linE, Bool.and_eq_true, beq_iff_eq] at h
 rw [h.1, h.2]
def cndE : Cnd → Cnd → Bool
 | .ge a, .ge b | .eq a, .eq b | .ne a, .ne b => linE a b
 | _, _ => false
theorem cndE_ok {a b : Cnd} (h : cndE a b = true) : a = b := by
 cases a <;> cases b <;> simp only [cndE] at h <;> first | cases h | (rw [linE_ok h])
def optE' : Option Nat → Option Nat → Bool
 | none, none => true
 | some a, some b => Nat.beq a b
 | _, _ => false
theorem optE'_ok {a b : Option Nat} (h : optE' a b = true) : a = b := by
 cases a <;> cases b <;> simp only [optE'] at h <;> first | rfl | cases h | rw [Nat.eq_of_beq_eq_true h]
/-! ### Are two states the same words? -/
mutual
def avE : AV → AV → Bool
 | .top, .top | .ptr0, .ptr0 | .sl0, .sl0 | .map0, .map0 | .fn0, .fn0 | .if0, .if0 | .emp, .emp => true
 | .bool a, .bool b => a == b
 | .cond a, .cond b => cndE a b
 | .int k a, .int l b => k == l && linE a b
 | .str a, .str b => a == b
 | .strv a, .strv b => linE a b
 | .ptr a b, .ptr c d => Nat.beq a c && Nat.beq b d
 | .sl a b n c z, .sl a' b' n' c' z' => Nat.beq a a' && Nat.beq b b' && Nat.beq n n' && optE' c c' && Nat.beq z z'
 | .tsl a b, .tsl c d => Nat.beq a c && linE b d
 | .elem a b, .elem c d => Nat.beq a c && Nat.beq b d
 | .map a, .map b => Nat.beq a b
 | .func f a b, .func g c d => Nat.beq f g && avsE a c && avsE b d
 | .iface t a, .iface u b => Nat.beq t u && avE a b
 | .agg a, .agg b => avsE a b
 | .tup a, .tup b => avsE a b
 | .var a, .var b => Nat.beq a b
 | _, _ => false
def avsE : List AV → List AV → Bool
 | [], [] => true
 | a :: xs, b :: bs => avE a b && avsE xs bs
 | _, _ => false
end
mutual
theorem avE_ok : ∀ (a b : AV), avE a b = true → a = b
 | .top, x, h => by cases x <;> simp only [avE] at h <;> first | rfl | cases h
 | .ptr0, x, h => by cases x <;> simp only [avE] at h <;> first | rfl | cases h
 | .sl0, x, h => by cases x <;> simp only [avE] at h <;> first | rfl | cases h
 | .map0, x, h => by cases x <;> simp only [avE] at h <;> first | rfl | cases h
 | .fn0, x, h => by cases x <;> simp only [avE] at h <;> first | rfl | cases h
 | .if0, x, h => by cases x <;> simp only [avE] at h <;> first | rfl | cases h
 | .emp, x, h => by cases x <;> simp only [avE] at h <;> first | rfl | cases h
 | .bool a, x, h => by
  cases x <;> simp only [avE] at h <;> try cases h
  rw [eq_of_beq h]
 | .cond a, x, h => by
  cases x <;> simp only [avE] at h <;> try cases h
  rw [cndE_ok h]
 | .int k a, x, h => by
  cases x <;> simp only [avE] at h <;> try cases h
  simp only [Bool.and_eq_true] at h
  rw [eq_of_beq h.1, linE_ok h.2]
 | .str a, x, h => by
  cases x <;> simp only [avE] at h <;> try cases h
  rw [eq_of_beq h]
 | .strv a, x, h => by
  cases x <;> simp only [avE] at h <;> try cases h
  rw [linE_ok h]
 | .ptr a b, x, h => by
  cases x <;> simp only [avE] at h <;> try cases h
  simp only [Bool.and_eq_true, Nat.beq_eq] at h
  rw [h.1, h.2]
 | .sl a b n c z, x, h => by
  cases x <;> simp only [avE] at h <;> try cases h
  simp only [Bool.and_eq_true, Nat.beq_eq] at h
  obtain ⟨⟨⟨⟨h1, h2⟩, h3⟩, h4⟩, h5⟩ := h
  rw [h1, h2, h3, optE'_ok h4, h5]
 | .tsl a b, x, h => by
  cases x <;> simp only [avE] at h <;> try cases h
  simp only [Bool.and_eq_true, Nat.beq_eq] at h
  rw [h.1, linE_ok h.2]
 | .elem a b, x, h => by
  cases x <;> simp only [avE] at h <;> try cases h
  simp only [Bool.and_eq_true, Nat.beq_eq] at h
  rw [h.1, h.2]
 | .map a, x, h => by
  cases x <;> simp only [avE] at h <;> try cases h
  rw [Nat.eq_of_beq_eq_true h]
 | .func f a b, x, h => by
  cases x <;> simp only [avE] at h <;> try cases h
  simp only [Bool.and_eq_true, Nat.beq_eq] at h
  rw [h.1.1, avsE_ok _ _ h.1.2, avsE_ok _ _ h.2]
 | .iface t a, x, h => by
  cases x <;> simp only [avE] at h <;> try cases h
  simp only [Bool.and_eq_true, Nat.beq_eq] at h
  rw [h.1, avE_ok _ _ h.2]
 | .agg a, x, h => by
  cases x <;> simp only [avE] at h <;> try cases h
  rw [avsE_ok _ _ h]
 | .tup a, x, h => by
  cases x <;> simp only [avE] at h <;> try cases h
  rw [avsE_ok _ _ h]
 | .var a, x, h => by
  cases x <;> simp only [avE] at h <;> try cases h
  rw [Nat.eq_of_beq_eq_true h]
theorem avsE_ok : ∀ (a b : List AV), avsE a b = true → a = b
 | [], [], _ => rfl
 | a :: xs, b :: bs, h => by
  simp only [avsE, Bool.and_eq_true] at h
  rw [avE_ok _ _ h.1, avsE_ok _ _ h.2]
 | [], _ :: _, h => by simp [avsE] at h
 | _ :: _, [], h => by simp [avsE] at h
end
def ptE {α : Type} (e : α → α → Bool) : PT α → PT α → Bool
 | .leaf, .leaf => true
 | .node l v r, .node l' v' r' => ptE e l l' && (match v, v' with | none, none => true | some a, some b => e a b | _, _ => false) && ptE e r r'
 | _, _ => false
theorem ptE_ok {α : Type} {e : α → α → Bool} (he : ∀ a b, e a b = true → a = b) : ∀ (a b : PT α), ptE e a b = true → a = b
 | .leaf, .leaf, _ => rfl
 | .node l v r, .node l' v' r', h => by
  simp only [ptE, Bool.and_eq_true] at h
  obtain ⟨⟨h1, h2⟩, h3⟩ := h
  rw [ptE_ok he _ _ h1, ptE_ok he _ _ h3]
  cases v <;> cases v' <;> simp only at h2 <;> first | rfl | cases h2 | rw [he _ _ h2]
 | .leaf, .node .., h => by simp [ptE] at h
 | .node .., .leaf, h => by simp [ptE] at h
def lstE {α : Type} (e : α → α → Bool) : List α → List α → Bool
 | [], [] => true
 | a :: xs, b :: bs => e a b && lstE e xs bs
 | _, _ => false
theorem lstE_ok {α : Type} {e : α → α → Bool} (he : ∀ a b, e a b = true → a = b) : ∀ (a b : List α), lstE e a b = true → a = b
 | [], [], _ => rfl
 | a :: xs, b :: bs, h => by
  simp only [lstE, Bool.and_eq_true] at h
  rw [he _ _ h.1, lstE_ok he _ _ h.2]
 | [], _ :: _, h => by simp [lstE] at h
 | _ :: _, [], h => by simp [lstE] at h
def pairE (a b : AV × AV) : Bool := avE a.1 b.1 && avE a.2 b.2
theorem pairE_ok (a b : AV × AV) (h : pairE a b = true) : a = b := by
 simp only [pairE, Bool.and_eq_true] at h
 exact Prod.ext (avE_ok _ _ h.1) (avE_ok _ _ h.2)
def blkE : Blk → Blk → Bool
 | .cells e a f t, .cells e' a' f' t' => Nat.beq e e' && avsE a a' && f == f' && optE' t t'
 | .sealed a, .sealed b => Nat.beq a b
 | .map a, .map b => lstE pairE a b
 | .iter a b, .iter c d => a == c && Nat.beq b d
 | .iterv a b, .iterv c d => linE a c && linE b d
 | .dead, .dead => true
 | .frz a, .frz b => avsE a b
 | _, _ => false
theorem blkE_ok : ∀ (a b : Blk), blkE a b = true → a = b := by
 intro a b h
 cases a <;> cases b <;> simp only [blkE] at h <;> try cases h
 ·simp only [Bool.and_eq_true, Nat.beq_eq] at h
  obtain ⟨⟨⟨h1, h2⟩, h3⟩, h4⟩ := h
  rw [h1, avsE_ok _ _ h2, eq_of_beq h3, optE'_ok h4]
 ·rw [Nat.eq_of_beq_eq_true h]
 ·rw [lstE_ok pairE_ok _ _ h]
 ·simp only [Bool.and_eq_true, Nat.beq_eq, beq_iff_eq] at h
  rw [h.1, h.2]
 ·simp only [Bool.and_eq_true] at h
  rw [linE_ok h.1, linE_ok h.2]
 ·rfl
 ·rw [avsE_ok _ _ h]
def nnE (a b : Nat × Nat) : Bool := Nat.beq a.1 b.1 && Nat.beq a.2 b.2
theorem nnE_ok (a b : Nat × Nat) (h : nnE a b = true) : a = b := by
 simp only [nnE, Bool.and_eq_true, Nat.beq_eq] at h
 exact Prod.ext h.1 h.2
def ghE (a b : Nat × List AV) : Bool := Nat.beq a.1 b.1 && avsE a.2 b.2
theorem ghE_ok (a b : Nat × List AV) (h : ghE a b = true) : a = b := by
 simp only [ghE, Bool.and_eq_true, Nat.beq_eq] at h
 exact Prod.ext h.1 (avsE_ok _ _ h.2)
def stE (a b : St) : Bool :=
 Nat.beq a.nx b.nx && lstE linE a.cs b.cs && ptE ctE a.vt b.vt && ptE avE a.vs b.vs && ptE blkE a.bk b.bk && lstE nnE a.op b.op && lstE Nat.beq a.fp b.fp && lstE Nat.beq a.md b.md && lstE Nat.beq a.tm b.tm && lstE ghE a.gh b.gh && linE a.gl b.gl && linE a.hl b.hl && a.wild == b.wild
theorem stE_ok {a b : St} (h : stE a b = true) : a = b := by
 obtain ⟨a1, a2, a3, a4, a5, a6, a7, a8, a9, a10, a11, a12, a13⟩ := a
 obtain ⟨b1, b2, b3, b4, b5, b6, b7, b8, b9, b10, b11, b12, b13⟩ := b
 simp only [stE, Bool.and_eq_true, Nat.beq_eq] at h
 obtain ⟨⟨⟨⟨⟨⟨⟨⟨⟨⟨⟨⟨h1, h2⟩, h3⟩, h4⟩, h5⟩, h6⟩, h7⟩, h8⟩, h9⟩, h10⟩, h11⟩, h12⟩, h13⟩ := h
 have n : ∀ a b, Nat.beq a b = true → a = b := fun a b h => Nat.eq_of_beq_eq_true h
 rw [h1, lstE_ok (fun _ _ => linE_ok) _ _ h2, ptE_ok ctE_ok _ _ h3, ptE_ok avE_ok _ _ h4, ptE_ok blkE_ok _ _ h5, lstE_ok nnE_ok _ _ h6, lstE_ok n _ _ h7, lstE_ok n _ _ h8, lstE_ok n _ _ h9, lstE_ok ghE_ok _ _ h10, linE_ok h11, linE_ok h12, eq_of_beq h13]
def outE (a b : AV × St) : Bool := avE a.1 b.1 && stE a.2 b.2
theorem outE_ok (a b : AV × St) (h : outE a b = true) : a = b := by
 simp only [outE, Bool.and_eq_true] at h
 exact Prod.ext (avE_ok _ _ h.1) (stE_ok h.2)
/-- Each one but once. -/
def dedup : List (AV × St) → List (AV × St) → List (AV × St)
 | [], acc => acc
 | o :: os, acc => if acc.any (outE o) then dedup os acc else dedup os (acc ++ [o])
theorem dedup_mem {o : AV × St} : ∀ {os acc : List (AV × St)}, o ∈ os ∨ o ∈ acc → o ∈ dedup os acc
 | [], acc, h => by
  rcases h with h | h
  ·cases h
  ·exact h
 | x :: os, acc, h => by
  unfold dedup
  split
  ·rename_i hd
   obtain ⟨y, h1, h2⟩ := List.any_eq_true.1 hd
   have := outE_ok _ _ h2
   rcases h with h | h
   ·rcases List.mem_cons.1 h with rfl | h
    ·exact dedup_mem (.inr (by rw [this]; exact h1))
    ·exact dedup_mem (.inl h)
   ·exact dedup_mem (.inr h)
  ·rcases h with h | h
   ·rcases List.mem_cons.1 h with rfl | h
    ·exact dedup_mem (.inr (List.mem_append.2 (.inr (List.mem_cons_self ..))))
    ·exact dedup_mem (.inl h)
   ·exact dedup_mem (.inr (List.mem_append.2 (.inl h)))
end Go.Proofs.YtbjhcjgniciooaaGreatDoor.E
namespace Go.Proofs.YtbjhcjgniciooaaGreatDoor.E
set_option linter.unusedVariables false
set_option linter.unusedSimpArgs false
/-! ### Calls, guards, an operation's step -/
def bindO {α β : Type} (f : α → Option (List β)) : List α → Option (List β)
 | [] => some []
 | a :: as => match f a with
  | none => none
  | some x => match bindO f as with
   | none => none
   | some y => some (x ++ y)
theorem bindO_mem {α β : Type} {f : α → Option (List β)} : ∀ {l : List α} {outs : List β}, bindO f l = some outs → ∀ a ∈ l, ∃ os, f a = some os ∧ ∀ o ∈ os, o ∈ outs
 | [], _, _, _, h => by cases h
 | b :: bs, outs, h, a, ha => by
  unfold bindO at h
  cases e1 : f b with
  | none => rw [e1] at h; cases h
  | some x =>
   rw [e1] at h
   cases e2 : bindO f bs with
   | none => simp only [e2] at h; cases h
   | some y =>
    simp only [e2, Option.some.injEq] at h
    subst h
    rcases List.mem_cons.1 ha with rfl | ha
    ·exact ⟨x, e1, fun o ho => List.mem_append_left _ ho⟩
    ·obtain ⟨os, h1, h2⟩ := bindO_mem e2 a ha
     exact ⟨os, h1, fun o ho => List.mem_append_right _ (h2 o ho)⟩
structure FI where
 body : Code
 res : List ResultVar
 nt : Nat
structure Fx where
 fn : Nat → Option FI
 mt : TypeId → String → Option Nat
 ext : Nat → St → List AV → Option (List (AV × St))
 mtv : TypeId → String → Option (Nat × Bool) := fun _ _ => none
structure FxOk (C : Cx) (F : Fx) : Prop where
 fn : ∀ id I, F.fn id = some I → ∃ fn : Func, C.P.funcs[id]? = some fn ∧ fn.body = some I.body ∧ fn.results.toList = I.res ∧ fn.ntmps = I.nt ∧ (fn.name == "runtime.NumGoroutine") = false
 mt : ∀ t name id, F.mt t name = some id → (∃ I, F.fn id = some I) ∧ ∀ p w, (method (C.P.types.size + Made.depth) t (.pointer (some p)) name).run C.P w = .ok (id, .pointer (some p)) w
 ext : ∀ id st as os, F.ext id st as = some os → ∀ E w vs, M C.HT E st w → Vs C.HT E as vs.toList → ∃ v, (∀ w, (callFunc id vs).run C.P w = .ok (.value v) w) ∧ ∃ o ∈ os, ∃ E', Up C.HT E st w E' o.2 ∧ V C.HT E' o.1 v
 mtv : ∀ t name id j, F.mtv t name = some (id, j) → (∃ I, F.fn id = some I) ∧ ∀ p u w, (method (C.P.types.size + Made.depth) t (.agg #[.pointer (some p), u]) name).run C.P w = .ok (id, if j then .pointer (some p) else .agg #[.pointer (some p), u]) w
abbrev Callee := Nat → St → List AV → Outs
/-- What is known behind a run: one of some outcomes. -/
def Got (C : Cx) (E : Env) (r : World) (outs : List (AV × St)) (v : Value) (w : World) : Prop := ∃ o ∈ outs, ∃ E', Ext E E' ∧ M C.HT E' o.2 w ∧ Ref E' o.2 r w ∧ V C.HT E' o.1 v
def RetPost (C : Cx) (E : Env) (r : World) (outs : List (AV × St)) : Ending → World → Prop
 | .returned v, w => Got C E r outs v w
 | _, _ => False
def CallOk (C : Cx) (F : Fx) (call : Callee) : Prop :=
 ∀ id st args outs, call id st args = some outs → (∃ I, F.fn id = some I) ∧ ∀ E w r vs, M C.HT E st w → Ref E st r w → Vs C.HT E args vs.toList → Calls C.P id vs w (RetPost C E r outs)
theorem Got.mono {C : Cx} {E F : Env} {r : World} {o1 o2 : List (AV × St)} {v : Value} {w : World} (e : Ext E F) (h : ∀ o ∈ o1, o ∈ o2) (g : Got C F r o1 v w) : Got C E r o2 v w :=
 let ⟨o, h1, E', h2, h3⟩ := g; ⟨o, h o h1, E', e.trans h2, h3⟩
/-- A function value whose function is known. -/
def instF : FTs → St → List (AV × St)
 | .nil, _ => []
 | .cons f a b r, st => (match insts a st with | (l1, st1) => match insts b st1 with | (l2, st2) => (.func f l1 l2, st2)) :: instF r st
def instI : ITs → St → List (AV × St)
 | .nil, _ => []
 | .cons t c r, st => (match inst c st with | (a, st1) => (.iface t a, st1)) :: instI r st
section
variable {C : Cx} {E : Env} {st : St} {w : World}
theorem instF_ok (h : M C.HT E st w) : ∀ {fs : FTs} {v : Value}, VF C.HT E fs v → ∃ o ∈ instF fs st, ∃ E', Up C.HT E st w E' o.2 ∧ V C.HT E' o.1 v
 | .nil, _, k => k.elim
 | .cons f a b r, v, .inl ⟨x, y, e, k1, k2⟩ => by
  obtain ⟨E1, u1, h1⟩ := insts_ok a h k1
  obtain ⟨E2, u2, h2⟩ := insts_ok b u1.m (VTs.ext C.HT u1.ext _ k2)
  refine ⟨_, List.mem_cons_self .., E2, u1.trans u2, ?_⟩
  exact ⟨x, y, e, Vs.ext C.HT u2.ext _ h1, h2⟩
 | .cons f a b r, v, .inr k => by
  obtain ⟨o, h1, h2⟩ := instF_ok h k
  exact ⟨o, List.mem_cons_of_mem _ h1, h2⟩
theorem instI_ok (h : M C.HT E st w) : ∀ {fs : ITs} {v : Value}, VI C.HT E fs v → ∃ o ∈ instI fs st, ∃ E', Up C.HT E st w E' o.2 ∧ V C.HT E' o.1 v
 | .nil, _, k => k.elim
 | .cons t c r, v, .inl ⟨x, e, k1⟩ => by
  obtain ⟨E1, u1, h1⟩ := inst_ok c h k1
  exact ⟨_, List.mem_cons_self .., E1, u1, x, e, h1⟩
 | .cons t c r, v, .inr k => by
  obtain ⟨o, h1, h2⟩ := instI_ok h k
  exact ⟨o, List.mem_cons_of_mem _ h1, h2⟩
def forceA (st : St) : AV → List (AV × St)
 | .var x => match st.vt.get x with
  | some (.fn false fs) => instF fs st
  | some (.iface false ts) => instI ts st
  | _ => [(.var x, st)]
 | a => [(a, st)]
theorem force_ok (h : M C.HT E st w) {a : AV} {v : Value} (hv : V C.HT E a v) : ∃ o ∈ forceA st a, ∃ E', Up C.HT E st w E' o.2 ∧ V C.HT E' o.1 v := by
 unfold forceA
 split
 ·rename_i x
  obtain ⟨rfl, hx⟩ := hv
  split
  ·rename_i fs e
   have := (h.vt _ _ e).1
   exact instF_ok h (this.resolve_left (fun k => by cases k.1))
  ·rename_i fs e
   have := (h.vt _ _ e).1
   exact instI_ok h (this.resolve_left (fun k => by cases k.1))
  ·exact ⟨_, List.mem_cons_self .., E, Up.refl h, rfl, hx⟩
 ·exact ⟨_, List.mem_cons_self .., E, Up.refl h, hv⟩
/-- The letters of a value that was taken apart for a call are given up. -/
def forget1 (st : St) (b : Nat) : St := match st.bk.get b with
 | some (.sealed _) => { st with bk := st.bk.set b .dead }
 | _ => st
def forget (lo : Nat) : Nat → St → St
 | 0, st => st
 | k + 1, st => forget lo k (forget1 st (lo + k))
theorem forget1_ok {HT : Th} {E : Env} {st : St} {w r : World} (h : M HT E st w) (hr : Ref E st r w) (b : Nat) : M HT E (forget1 st b) w ∧ Ref E (forget1 st b) r w := by
 unfold forget1
 split
 case h_2 => exact ⟨h, hr⟩
 rename_i τ hb
 obtain ⟨⟨n, hs, _⟩, hbn⟩ := h.bk b _ hb
 have bget : ∀ c z, (st.bk.set b .dead).get c = some z → (c = b ∧ z = .dead) ∨ (c ≠ b ∧ st.bk.get c = some z) := fun c z hz => by
  rw [PT.get_set] at hz
  by_cases e : c = b
  ·rw [if_pos e] at hz; injection hz with hz; exact .inl ⟨e, hz.symm⟩
  ·rw [if_neg e] at hz; exact .inr ⟨e, hz⟩
 refine ⟨⟨h.nx, h.g, h.cs, h.vt, h.vs, fun c z hc => ?_, fun c c' z z' hc hc' hz hz' hβ => ?_, h.heap, h.dom, h.an, h.bt, h.born, h.md, fun c υ => ?_, h.gh⟩, hr.st rfl rfl⟩
 ·rcases bget c z hc with ⟨rfl, rfl⟩ | ⟨_, gc⟩
  ·exact ⟨(h.dom _ _ hs).2.1, hbn⟩
  ·exact h.bk c z gc
 ·rcases bget c z hc with ⟨_, rfl⟩ | ⟨_, gc⟩
  ·cases hz
  ·rcases bget c' z' hc' with ⟨_, rfl⟩ | ⟨_, gc'⟩
   ·cases hz'
   ·exact h.inj c c' z z' gc gc' hz hz' hβ
 ·rw [show ((c, υ) ∈ ({ st with bk := st.bk.set b .dead } : St).op) = ((c, υ) ∈ st.op) from rfl, h.op c υ]
  constructor
  ·rintro ⟨el, cs, f, hc⟩
   have hne : c ≠ b := fun e => by rw [e, hb] at hc; cases hc
   exact ⟨el, cs, f, by show (st.bk.set b _).get c = _; rw [PT.get_set, if_neg hne]; exact hc⟩
  ·rintro ⟨el, cs, f, hc⟩
   rcases bget c _ hc with ⟨_, e2⟩ | ⟨_, hc⟩
   ·cases e2
   ·exact ⟨el, cs, f, hc⟩
theorem forget_ok {HT : Th} {E : Env} {r w : World} (lo : Nat) : ∀ (k : Nat) {st : St}, M HT E st w → Ref E st r w → M HT E (forget lo k st) w ∧ Ref E (forget lo k st) r w
 | 0, _, h, hr => ⟨h, hr⟩
 | k + 1, _, h, hr => let ⟨a, b⟩ := forget1_ok h hr (lo + k); forget_ok lo k a b
def forgets (lo k : Nat) (os : Outs) : Outs := os.map fun l => l.map fun o => (o.1, forget lo k o.2)
theorem forgets_ok {C : Cx} {E : Env} {r w' : World} {lo k : Nat} {os os' : List (AV × St)} (h : forgets lo k (some os) = some os') {v : Value} (g : Got C E r os v w') : Got C E r os' v w' := by
 injection h with h; subst h
 obtain ⟨o, h1, E', h2, h3, h4, h5⟩ := g
 obtain ⟨m, rf⟩ := forget_ok lo k h3 h4
 exact ⟨_, List.mem_map.2 ⟨o, h1, rfl⟩, E', h2, m, rf, h5⟩
def callA (F : Fx) (call : Callee) (st : St) (fr : List AV) (c : Call) : Outs :=
 match c.callee with
 | .value f => bindO (fun p => match p.1 with
  | .func id first cap => match F.ext id p.2 ((first ++ evL p.2 fr c.args.toList) ++ cap) with
   | some os => some os
   | none => call id p.2 ((first ++ evL p.2 fr c.args.toList) ++ cap)
  | _ => none) (forceA st (evO st fr f))
 | .invoke x m => (bindO (fun p => forgets st.nx (p.2.nx - st.nx) (match p.1 with
  | .iface t (.ptr b o) => match F.mt t m with
   | some id => call id p.2 (.ptr b o :: evL p.2 fr c.args.toList)
   | none => none
  | .iface t (.agg [.ptr b o, y]) => match F.mtv t m with
   | some (id, true) => call id p.2 (.ptr b o :: evL p.2 fr c.args.toList)
   | some (id, false) => call id p.2 (.agg [.ptr b o, y] :: evL p.2 fr c.args.toList)
   | none => none
  | _ => none)) (forceA st (evO st fr x))).map fun l => dedup l []
 | .builtin _ => none
theorem run_callFunc {F : Fx} (hF : FxOk C F) {id : Nat} {I : FI} (h : F.fn id = some I) (args : Array Value) (w : World) : (callFunc id args).run C.P w = .ok (.enter id args) w := by
 obtain ⟨fn, h1, h2, _, _, h5⟩ := hF.fn id I h
 unfold callFunc
 simp only [Sem.run_bind, run_program, Result.andThen_ok, h1, h5, Bool.false_eq_true, if_false, h2, Option.isNone_some]
 rfl
theorem run_invoke {F : Fx} (hF : FxOk C F) {id : Nat} {I : FI} (h : F.fn id = some I) {t : TypeId} {m : String} {y z : Value} (hm : (method (C.P.types.size + Made.depth) t y m).run C.P w = .ok (id, z) w) (as : Array Value) :
  (invoke (.fn (.method m) #[]) (#[.iface t y] ++ as)).run C.P w = .ok (.enter id (#[z] ++ as)) w := by
 have e0 : (#[Value.iface t y] ++ as)[0]? = some (.iface t y) := by
  rw [Array.getElem?_append_left (by simp)]; rfl
 have e3 : (#[Value.iface t y] ++ as).extract 1 (#[Value.iface t y] ++ as).size = as := by
  obtain ⟨l⟩ := as
  simp
 unfold invoke
 simp only [e0, e3, callMethod, Sem.run_bind, run_program, Result.andThen_ok, hm]
 exact run_callFunc hF h _ w
theorem callA_ok {F : Fx} {call : Callee} (hF : FxOk C F) (hc : CallOk C F call) (h : M C.HT E st w) {r : World} (hr : Ref E st r w) {fr : List AV} {a : Act} (hf : FrOk C.HT E fr a) {c : Call} {outs : List (AV × St)} {ty : TypeId}
  (ho : callA F call st fr c = some outs) {o : Oper} (hop : o.op = .call c) {Q : Exit → Act → World → Prop} {K : Act → World → Prop}
  (hK : ∀ v w', Got C E r outs v w' → K (a.put o.dst v) w') : o.wp C.P a w K Q := by
 obtain ⟨callee, args, argTypes⟩ := c
 obtain ⟨dst, op, type, pos, after, guard⟩ := o
 simp only at hop hK
 subst hop
 cases callee with
 | builtin b => cases ho
 | value f =>
  simp only [callA] at ho
  obtain ⟨p, hp, E1, u1, hv⟩ := force_ok h (evO_ok h hf f)
  obtain ⟨os, e1, e2⟩ := bindO_mem ho p hp
  split at e1
  ·rename_i id first cap hp1
   rw [hp1] at hv
   obtain ⟨x, y, hx, k1, k2⟩ := hv
   have hf1 := hf.ext u1.ext
   have hargs : Vs C.HT E1 ((first ++ evL p.2 fr args.toList) ++ cap) (x ++ args.map a.eval ++ y).toList := by
    rw [Array.toList_append, Array.toList_append, Array.toList_map]
    exact (k1.append (evL_ok u1.m hf1 args.toList)).append k2
   split at e1
   ·rename_i xs hx1
    injection e1 with e1; subst e1
    obtain ⟨v, g1, o, g2, E2, u2, g3⟩ := hF.ext _ _ _ _ hx1 E1 w _ u1.m hargs
    have run : (execOp a.eval { dst, op := .call { callee := .value f, args, argTypes }, type, pos, after, guard }).run C.P w = .ok (.value v) w := by
     simp only [execOp, resolve, Sem.run_bind, hx, Deferred.ofValue, Sem.run_pure, Result.andThen_ok, invoke]
     exact g1 w
    unfold Oper.wp
    rw [run]
    have u := u1.trans u2
    exact hK v w ⟨o, e2 _ g2, E2, u.ext, u.m, u.ref h hr, g3⟩
   obtain ⟨⟨I, hI⟩, hcall⟩ := hc id _ _ _ e1
   have run : (execOp a.eval { dst, op := .call { callee := .value f, args, argTypes }, type, pos, after, guard }).run C.P w = .ok (.enter id (x ++ args.map a.eval ++ y)) w := by
    simp only [execOp, resolve, Sem.run_bind, hx, Deferred.ofValue, Sem.run_pure, Result.andThen_ok, invoke]
    exact run_callFunc hF hI _ w
   unfold Oper.wp
   rw [run, Oper.upon_enter]
   refine (hcall E1 w r _ u1.m (u1.ref h hr) hargs).mono fun e w' he => ?_
   cases e with
   | returned v => exact hK v w' (Got.mono u1.ext e2 he)
   | panicked => exact he.elim
   | outgrown => exact he.elim
  ·cases e1
 | invoke x m =>
  simp only [callA] at ho
  obtain ⟨l, hl, ho⟩ := Option.map_eq_some_iff.1 ho
  subst ho
  obtain ⟨p, hp, E1, u1, hv⟩ := force_ok h (evO_ok h hf x)
  obtain ⟨os2, e1', e2'⟩ := bindO_mem hl p hp
  obtain ⟨os, e1, e3'⟩ : ∃ os, (match p.1 with
   | .iface t (.ptr b o) => match F.mt t m with
    | some id => call id p.2 (.ptr b o :: evL p.2 fr args.toList)
    | none => none
   | .iface t (.agg [.ptr b o, y]) => match F.mtv t m with
    | some (id, true) => call id p.2 (.ptr b o :: evL p.2 fr args.toList)
    | some (id, false) => call id p.2 (.agg [.ptr b o, y] :: evL p.2 fr args.toList)
    | none => none
   | _ => none) = some os ∧ forgets st.nx (p.2.nx - st.nx) (some os) = some os2 := by
   obtain ⟨os, h1, h2⟩ := Option.map_eq_some_iff.1 e1'
   exact ⟨os, h1, by unfold forgets; rw [Option.map_some, h2]⟩
  have fin : ∀ v w', Got C E1 r os v w' → Got C E r (dedup l []) v w' := fun v w' g =>
   Got.mono u1.ext (fun o ho => dedup_mem (.inl (e2' o ho))) (forgets_ok e3' g)
  split at e1
  ·rename_i t b q hp1
   rw [hp1] at hv
   obtain ⟨y, hx, hy⟩ := hv
   have hy' : y = _ := hy.1
   split at e1
   ·rename_i id hid
    obtain ⟨⟨I, hI⟩, hm⟩ := hF.mt t m id hid
    obtain ⟨_, hcall⟩ := hc id _ _ _ e1
    have hf1 := hf.ext u1.ext
    have hargs : Vs C.HT E1 (.ptr b q :: evL p.2 fr args.toList) (#[y] ++ args.map a.eval).toList := by
     rw [Array.toList_append, Array.toList_map]
     exact ⟨y, _, rfl, hy, evL_ok u1.m hf1 args.toList⟩
    have run : (execOp a.eval { dst, op := .call { callee := .invoke x m, args, argTypes }, type, pos, after, guard }).run C.P w = .ok (.enter id (#[y] ++ args.map a.eval)) w := by
     simp only [execOp, resolve, Sem.run_bind, Sem.run_pure, Result.andThen_ok, hx]
     exact run_invoke hF hI (by rw [hy']; exact hm _ w) _
    unfold Oper.wp
    rw [run, Oper.upon_enter]
    refine (hcall E1 w r _ u1.m (u1.ref h hr) hargs).mono fun e w' he => ?_
    cases e with
    | returned v => exact hK v w' (fin v w' he)
    | panicked => exact he.elim
    | outgrown => exact he.elim
   ·cases e1
  ·rename_i t b q z hp1
   rw [hp1] at hv
   obtain ⟨y, hx, cs, hcs, hy⟩ := hv
   obtain ⟨v1, r1, e3, hy1, v2, r2, e4, hy2, hy3⟩ := hy
   have hcs2 : cs = #[v1, v2] := by
    rw [← Array.toArray_toList (xs := cs), e3, e4, show r2 = [] from hy3]
   have hv1 : v1 = _ := hy1.1
   have hf1 := hf.ext u1.ext
   have go : ∀ (id : Nat) (j : Bool) (z' : AV), F.mtv t m = some (id, j) → V C.HT E1 z' (if j then v1 else y) → call id p.2 (z' :: evL p.2 fr args.toList) = some os → Oper.wp C.P { dst, op := .call { callee := .invoke x m, args, argTypes }, type, pos, after, guard } a w K Q := fun id j z' hid hz e1 => by
    obtain ⟨⟨I, hI⟩, hm⟩ := hF.mtv t m id j hid
    obtain ⟨_, hcall⟩ := hc id _ _ _ e1
    have hargs : Vs C.HT E1 (z' :: evL p.2 fr args.toList) (#[if j then v1 else y] ++ args.map a.eval).toList := by
     rw [Array.toList_append, Array.toList_map]
     exact ⟨_, _, rfl, hz, evL_ok u1.m hf1 args.toList⟩
    have run : (execOp a.eval { dst, op := .call { callee := .invoke x m, args, argTypes }, type, pos, after, guard }).run C.P w = .ok (.enter id (#[if j then v1 else y] ++ args.map a.eval)) w := by
     simp only [execOp, resolve, Sem.run_bind, Sem.run_pure, Result.andThen_ok, hx]
     refine run_invoke hF hI ?_ _
     have := hm ⟨E1.β b, q, none⟩ v2 w
     rw [hcs, hcs2, hv1]
     exact this
    unfold Oper.wp
    rw [run, Oper.upon_enter]
    refine (hcall E1 w r _ u1.m (u1.ref h hr) hargs).mono fun e w' he => ?_
    cases e with
    | returned v => exact hK v w' (fin v w' he)
    | panicked => exact he.elim
    | outgrown => exact he.elim
   split at e1
   ·rename_i id hid
    exact go id true _ hid (by simp only [if_true]; exact hy1) e1
   ·rename_i id hid
    exact go id false _ hid (by simp only [Bool.false_eq_true, if_false]; rw [hcs, hcs2]; exact ⟨#[v1, v2], rfl, v1, [v2], rfl, hy1, v2, [], rfl, hy2, rfl⟩) e1
   ·cases e1
  ·cases e1
end
end Go.Proofs.YtbjhcjgniciooaaGreatDoor.E
