/- TopModes: a part of the proof, merged. -/
import Derived.Test.YtbjhcjgniciooaaGreatDoorM14
import Derived.Test.YtbjhcjgniciooaaGreatDoorM15
namespace Go.Proofs.YtbjhcjgniciooaaGreatDoor.E.Kt
open Go.Proofs.YtbjhcjgniciooaaGreatDoor.G (TabAt Tab Nd live zN rightN NdC kE ndCells okx Fr WhB WhR ctB ctE)
open Go.RowKit Go.Proofs.YtbjhcjgniciooaaGreatDoorW.PrintWords Go.Proofs.YtbjhcjgniciooaaGreatDoorW.PrintLast Go.Proofs.YtbjhcjgniciooaaGreatDoorW.PrintMore
set_option linter.unusedVariables false
set_option linter.unusedSimpArgs false
/-! ### What is known of memory, from calls' contracts -/
theorem HeapOk.below {E : Env} {w w' : World} {fp : List Nat} (h : HeapOk htT E w fp) (hb : Below w.heap.size w w') : HeapOk htT E w' fp :=
 ⟨fun k τ n hk ht => (h.ok k τ n hk ht).agree (fun _ => hb.block k (h.dom k _ hk).1) (fun i hi => hb.block i (h.an i hi)), fun k t hk => ⟨Nat.lt_of_lt_of_le (h.dom k t hk).1 hb.size, (h.dom k t hk).2⟩, fun k hk => Nat.lt_of_lt_of_le (h.an k hk) hb.size⟩
theorem aft_ro {K : Con} {E : Env} {w w' : World} (hp : HeapOk htT E w K.fp) (hb : Below w.heap.size w w') (h0 : K.dg = 0 ∧ K.ha = 0 ∧ K.hb = 0) : K.Aft htT E w E w' :=
 ⟨HeapOk.below hp hb, fun _ _ h => h, fun _ h => h, fun _ _ => ⟨rfl, fun h => h⟩, fun k τ n h1 h2 => (by rw [h1] at h2; cases h2), by rw [h0.1]; rfl, by rw [h0.2.1, h0.2.2]; simp, rfl, rfl, hb.os, hb.tape, hb.output, hb.size, fun k hk _ _ => hb.block k hk, fun k τ n hk _ => hb.block k (hp.dom k _ hk).1, fun _ k hk => hb.block k (hp.an k hk)⟩
/-- The table that a pointer leads to. -/
theorem tab_of {E : Env} {w : World} {fp : List Nat} (hp : HeapOk htT E w fp) (h0 : 0 ∈ fp) {v : Value} (hv : VT htT E tb v) :
  ∃ k n f sn T, v = .pointer (some ⟨k, 0, none⟩) ∧ E.S k = some (0, n) ∧ E.T0 = some (k, (f, sn)) ∧ E.A k ∧ TabI E w k T ∧ LawT E.U f T ∧ Snap E w k sn := by
 rcases hv with ⟨h, _⟩ | ⟨k, n, rfl, hs⟩
 ·cases h
 ·obtain ⟨f, T, h1, h2, h3, h4⟩ : tO E 0 w k := hp.ok k 0 n hs h0
  exact ⟨k, n, f.1, f.2, T, rfl, hs, h1, h2, h3, h4⟩
theorem TabI.small {E : Env} {w : World} {k : Nat} {T : Tab} (h : TabI E w k T) : ∀ i, i < 24 → (T.nd i).data.length ≤ 1000 ∧ (T.nd i).ents.length ≤ 1000 := fun i hi => by
 obtain ⟨h1, _⟩ := h.2 i hi
 rcases h1 with h1 | h1
 ·rw [h1]; exact ⟨by decide, by decide⟩
 ·unfold rightN G.kindOk at h1
  simp only [Bool.and_eq_true, decide_eq_true_eq] at h1
  obtain ⟨_, _, _, _, h1⟩ := h1
  split at h1
  ·simp only [Bool.and_eq_true, decide_eq_true_eq] at h1
   omega
  ·split at h1
   ·unfold G.risingOk at h1
    simp only [Bool.and_eq_true, decide_eq_true_eq] at h1
    omega
   ·split at h1
    ·simp only [Bool.and_eq_true, decide_eq_true_eq] at h1
     omega
    ·cases h1
theorem k10_ok : Hld k10 := by
 intro E w vs pre
 obtain ⟨v, r, e, hv, v2⟩ := pre.args
 rw [show r = [] from v2] at e
 have ev : vs = #[v] := by rw [← Array.toArray_toList (xs := vs), e]
 obtain ⟨k, n, f, sn, T, rfl, hs, h1, h2, h3, h4, hsn⟩ := tab_of pre.heap (by decide) hv
 rw [ev]
 refine (G.Room.calls k _ T w h3.1).mono ?_
 rintro e w' ⟨rfl, d, rfl⟩
 have hb : Below w.heap.size w (w.drewN d) := pw_below_drewN (Below.refl _ _) d
 have r1 := h3.1.r1
 have r2 := h3.1.r2
 exact ⟨[.int .i64 T.room], E, rfl, aft_ro pre.heap hb ⟨rfl, rfl, rfl⟩, _, List.mem_cons_self .., ⟨_, [], rfl, ⟨T.room, rfl, by omega, by omega, by show (-9223372036854775808 : Int) ≤ _; omega, by show _ ≤ (9223372036854775807 : Int); omega⟩, rfl⟩, fun r hr => absurd hr List.not_mem_nil, fun f hf => absurd hf List.not_mem_nil⟩
theorem i64R (n : G.R.R64) (En : Env) : VT htT En cI (.int .i64 n.1) := ⟨n.1, rfl, n.2.1, n.2.2, n.2.1, n.2.2⟩
theorem int_of {E : Env} {v : Value} (h : VT htT E cI v) : ∃ n : Int, v = .int .i64 n ∧ IntKind.i64.min ≤ n ∧ n ≤ IntKind.i64.max := let ⟨n, e, _, _, h1, h2⟩ := h; ⟨n, e, h1, h2⟩
theorem k205_ok : Hld k205 := by
 intro E w vs pre
 obtain ⟨v, r, e, hv, v2⟩ := pre.args
 rw [show r = [] from v2] at e
 have ev : vs = #[v] := by rw [← Array.toArray_toList (xs := vs), e]
 obtain ⟨k, n, f, sn, T, rfl, hs, h1, h2, h3, h4, hsn⟩ := tab_of pre.heap (by decide) hv
 rw [ev]
 refine (G.R.Used.calls k _ T w h3.1).mono ?_
 rintro e w' ⟨m, rfl, hb⟩
 exact ⟨[.int .i64 m.1], E, rfl, aft_ro pre.heap hb ⟨rfl, rfl, rfl⟩, _, List.mem_cons_self .., ⟨_, [], rfl, i64R m E, rfl⟩, fun r hr => absurd hr List.not_mem_nil, fun f hf => absurd hf List.not_mem_nil⟩
theorem args2 {E : Env} {a b : CT} {vs : Array Value} (h : VTl htT E [a, b] vs.toList) : ∃ u v, vs = #[u, v] ∧ VT htT E a u ∧ VT htT E b v := by
 obtain ⟨u, r, e, hu, v, r2, e2, hv, h3⟩ := h
 rw [e2, show r2 = [] from h3] at e
 exact ⟨u, v, by rw [← Array.toArray_toList (xs := vs), e], hu, hv⟩
theorem k194_ok : Hld k194 := by
 intro E w vs pre
 obtain ⟨v, u, rfl, hv, hu⟩ := args2 pre.args
 obtain ⟨k, n, f, sn, T, rfl, hs, h1, h2, h3, h4, hsn⟩ := tab_of pre.heap (by decide) hv
 obtain ⟨i, rfl, _⟩ := int_of hu
 refine (G.R.Parent.calls k _ T i w h3.1 (TabI.small h3)).mono ?_
 rintro e w' ⟨m, rfl, hb⟩
 exact ⟨[.int .i64 m.1], E, rfl, aft_ro pre.heap hb ⟨rfl, rfl, rfl⟩, _, List.mem_cons_self .., ⟨_, [], rfl, i64R m E, rfl⟩, fun r hr => absurd hr List.not_mem_nil, fun f hf => absurd hf List.not_mem_nil⟩
theorem k124_ok : Hld k124 := by
 intro E w vs pre
 obtain ⟨v, u, rfl, hv, hu⟩ := args2 pre.args
 obtain ⟨k, n, f, sn, T, rfl, hs, h1, h2, h3, h4, hsn⟩ := tab_of pre.heap (by decide) hv
 obtain ⟨i, rfl, _⟩ := int_of hu
 refine (G.R.Links.calls k _ T i w h3.1 (TabI.small h3)).mono ?_
 rintro e w' ⟨m, rfl, hb⟩
 exact ⟨[.int .i64 m.1], E, rfl, aft_ro pre.heap hb ⟨rfl, rfl, rfl⟩, _, List.mem_cons_self .., ⟨_, [], rfl, i64R m E, rfl⟩, fun r hr => absurd hr List.not_mem_nil, fun f hf => absurd hf List.not_mem_nil⟩
/-! ### Calls that write the table -/
/-- New blocks are the table's. -/
def Env.tabs (E : Env) (w w' : World) : Env := { E with A := fun b => E.A b ∨ (w.heap.size ≤ b ∧ b < w'.heap.size) }
theorem aft_tab {K : Con} {E : Env} {w w' : World} {k n : Nat} {f : Int → Option Q4} {sn : Nat → Option Obj} {T' : Tab} (hp : HeapOk htT E w K.fp) (hs : E.S k = some (0, n)) (hT0 : E.T0 = some (k, (f, sn))) (hsn : Snap E w k sn) (hA : E.A k) (fr : Fr (· = k) w w')
  (ht : TabAt w' k (okx (fun b => E.A b ∧ b ≠ k) w) T') (hq : ∀ i, i < 24 → RightZ (T'.nd i)) (hl : LawT E.U f T') (h0 : K.dg = 0 ∧ K.ha = 0 ∧ K.hb = 0) (htm : 0 ∈ K.tm) :
  K.Aft htT E w (Env.tabs E w w') w' ∧ TabI (Env.tabs E w w') w' k T' := by
 have klt := (hp.dom k _ hs).1
 have hTab : TabI (Env.tabs E w w') w' k T' := ⟨(G.TabAt.bound ht).mono (fun b hb => by
  obtain ⟨hb1, hb2⟩ := hb
  rcases hb1 with hb1 | hb1
  ·exact ⟨.inl hb1.1, hb1.2⟩
  ·exact ⟨.inr ⟨hb1, hb2⟩, by omega⟩) (fun b hb => hb.2), hq⟩
 have blk : ∀ j, j < w.heap.size → j ≠ k → w'.heap[j]? = w.heap[j]? := fun j hj hne => fr.block j hj hne
 refine ⟨⟨⟨fun j τ m hj ht => ?_, fun j t hj => ?_, fun j hj => ?_⟩, fun _ _ h => h, fun _ h => .inl h, fun j hj => ⟨rfl, fun h => h.resolve_right (by omega)⟩, fun j τ m h1 h2 => (by rw [show (Env.tabs E w w').S = E.S from rfl] at h1; rw [h1] at h2; cases h2), by rw [h0.1]; rfl, by rw [h0.2.1, h0.2.2]; simp [Env.tabs], rfl, rfl, fr.os, fr.tape, fr.output, fr.size, fun j hj hsn hAn => blk j hj (fun e => hAn (by rw [e]; exact hA)), fun j τ m hj hτ => ?_, fun h => absurd htm h⟩, hTab⟩
 ·have hj' : E.S j = some (τ, m) := hj
  by_cases e : j = k
  ·subst e
   rw [hs] at hj'; injection hj' with hj'; injection hj' with h1 h2
   subst h1; subst h2
   show tO (Env.tabs E w w') 0 w' j
   exact ⟨(f, sn), T', hT0, .inl hA, hTab, hl, fun i o hi => let ⟨s1, s2, s3⟩ := hsn i o hi; ⟨.inl s1, s2, (blk i (hp.an i s1) s2).trans s3⟩⟩
  ·have hlt := (hp.dom j _ hj').1
   have hk := hp.ok j τ m hj' ht
   cases hopq : (htT τ).isOpq with
   | true =>
    have := kty_opq τ hopq
    subst this
    obtain ⟨f', T'', q1, _⟩ : tO E 0 w j := hk
    rw [hT0] at q1; injection q1 with q1; injection q1 with q1 _
    exact absurd q1.symm e
   | false =>
    have hk0 : HOk htT { E with N := fun _ => False } w j τ m := HOk.core (E := E) (F := { E with N := fun _ => False }) (show Core E { E with N := fun _ => False } from ⟨rfl, rfl, rfl, rfl, rfl, rfl⟩) hk
    have x0 : Ext { E with N := fun _ => False } { Env.tabs E w w' with N := fun _ => False } :=
     ⟨Nat.le_refl _, fun _ _ => rfl, fun _ _ => rfl, fun _ _ => rfl, fun _ _ => rfl, fun _ _ h => h, fun _ h => Or.inl h, fun b hN _ => hN.elim, rfl, rfl, rfl, fun _ _ => rfl, Nat.le_refl _, Nat.le_refl _, rfl, rfl⟩
    have hk2 : HOk htT (Env.tabs E w w') w j τ m := HOk.core (E := { Env.tabs E w w' with N := fun _ => False }) (F := Env.tabs E w w') (show Core { Env.tabs E w w' with N := fun _ => False } (Env.tabs E w w') from ⟨rfl, rfl, rfl, rfl, rfl, rfl⟩) (hk0.ext x0)
    exact hk2.agreeC (fun _ => blk j hlt e) (fun h => by rw [hopq] at h; cases h)
 ·have := hp.dom j t hj
  refine ⟨Nat.lt_of_lt_of_le this.1 fr.size, ?_⟩
  rw [← this.2]
  exact ⟨fun h => h.resolve_right (by have := this.1; omega), .inl⟩
 ·rcases hj with hj | hj
  ·exact Nat.lt_of_lt_of_le (hp.an j hj) fr.size
  ·exact hj.2
 ·exact blk j (hp.dom j _ hj).1 (fun e => by
   subst e
   rw [hs] at hj; injection hj with hj; injection hj with h1 _
   exact hτ (by rw [← h1]; exact htm))
theorem nd_setN (T : Tab) (hl : T.nodes.length = 24) (i j : Nat) (hi : i < 24) (x : Nd) : (T.setN i x).nd j = if j = i then x else T.nd j := G.Tab.nd_set T i j x (by omega)
theorem zero_right : RightZ zN := ⟨.inl rfl, fun b hb => absurd hb List.not_mem_nil, fun e he => absurd he List.not_mem_nil⟩
theorem k126_ok : Hld k126 := by
 intro E w vs pre
 obtain ⟨v, u, rfl, hv, hu⟩ := args2 pre.args
 obtain ⟨k, n, f, sn, T, rfl, hs, h1, h2, h3, h4, hsn⟩ := tab_of pre.heap (by decide) hv
 obtain ⟨i, rfl, _⟩ := int_of hu
 refine (G.Drop.calls k _ T i w h3.1).mono ?_
 rintro e w' ⟨rfl, ht, fr⟩
 have hq : ∀ j, j < 24 → RightZ ((T.drop i).nd j) := fun j hj => by
  unfold G.Tab.drop
  split
  ·rename_i hl
   have := G.live_lt hl
   have r2 := h3.1.r2
   rw [nd_setN T h3.1.len _ _ (by omega)]
   split
   ·exact zero_right
   ·exact h3.2 j hj
  ·exact h3.2 j hj
 have hlaw : LawT E.U f (T.drop i) := by
  refine h4.imp id fun h4 j old hf hj => ?_
  by_cases hli : live T i = true
  ·have hd : T.drop i = T.setN (i.toNat - 1) zN := by unfold G.Tab.drop; rw [if_pos hli]
   have hi := G.live_lt hli
   have r2 := h3.1.r2
   rw [hd] at hj ⊢
   have hj' := G.live_lt hj
   have hr : (T.setN (i.toNat - 1) zN).room = T.room := rfl
   rw [hr] at hj'
   by_cases e : j.toNat - 1 = i.toNat - 1
   ·exfalso
    unfold live at hj
    simp only [Bool.and_eq_true] at hj
    rw [e, nd_setN T h3.1.len _ _ (by omega), if_pos rfl] at hj
    simp [zN] at hj
   ·rw [nd_setN T h3.1.len _ _ (by omega), if_neg e]
    refine h4 j old hf ?_
    unfold live at hj ⊢
    rw [nd_setN T h3.1.len _ _ (by omega), if_neg e] at hj
    exact hj
  ·have hd : T.drop i = T := by unfold G.Tab.drop; rw [if_neg hli]
   rw [hd] at hj ⊢
   exact h4 j old hf hj
 obtain ⟨aft, _⟩ := aft_tab (K := k126) (T' := T.drop i) pre.heap hs h1 hsn h2 fr (ht.mono (fun b hb => .inl hb) (fun b hb => by
  rcases hb with hb | hb
  ·exact hb.2
  ·have := (pre.heap.dom k _ hs).1; omega)) hq hlaw ⟨rfl, rfl, rfl⟩ (by decide)
 exact ⟨[.bool (live T i)], _, rfl, aft, _, List.mem_cons_self .., ⟨_, [], rfl, ⟨_, rfl⟩, rfl⟩, fun r hr => absurd hr List.not_mem_nil, fun f hf => absurd hf List.not_mem_nil⟩
/-! ### A row that is told by its kind, as the table's walks read it -/
theorem row_F {α : Type} {E : Env} {w : World} {fp : List Nat} {τ e sz m c : Nat} {ct : CTs} {A : Option Addr} (hp : HeapOk htT E w fp) (hτ : τ ∈ fp) (hty : htT τ = .row e sz ct) (so : SlOk htT E τ A m c) (hm : m ≤ 9223372036854775807) (d : Kd α) (hsz : d.sz = sz) (dec : List Value → α)
  (hd : ∀ cs w', VTs htT E ct cs → d.K w' (dec cs) cs) :
  ∃ xs : List α, xs.length = m ∧ Kd.F d w (fun b => ∃ n, E.S b = some (τ, n)) A m xs ∧ ∀ x ∈ xs, ∃ cs, VTs htT E ct cs ∧ x = dec cs := by
 rcases so with ⟨rfl, rfl, rfl⟩ | ⟨b, j, len, rfl, hs, h1, h2⟩
 ·exact ⟨[], rfl, Kd.F_nil _ _ _, fun x hx => absurd hx List.not_mem_nil⟩
 ·have hk := hp.ok b τ len hs hτ
  unfold HOk at hk
  rw [show htT τ = _ from hty] at hk
  obtain ⟨arr, ha, hl, hv⟩ := hk
  have hszs : (htT τ).size = sz := by rw [show htT τ = _ from hty]; rfl
  have at_ : ∀ q, q < m → ((List.range m).map fun i => dec ((arr.toList.drop ((j + i) * sz)).take sz))[q]? = some (dec ((arr.toList.drop ((j + q) * sz)).take sz)) := fun q hq => by simp [hq]
  refine ⟨(List.range m).map fun i => dec ((arr.toList.drop ((j + i) * sz)).take sz), by simp, fun W' hW => ⟨by simp, hm, fun _ => ⟨⟨b, j * (htT τ).size, none⟩, rfl, fun q p hq => ?_⟩⟩, fun x hx => ?_⟩
  ·have hlt : q < m := by
    have := (List.getElem?_eq_some_iff.1 hq).1
    simpa using this
   rw [at_ q hlt] at hq
   injection hq with hq
   have hq2 := hv (j + q) (by omega)
   refine ⟨_, ?_, by rw [← hq]; exact hd _ W' hq2, fun i u hu => ?_⟩
   ·have hl := hl.1
    rw [hsz, List.length_take, List.length_drop, Array.length_toList]
    have : (j + q + 1) * sz ≤ len * sz := Nat.mul_le_mul_right _ (by omega)
    rw [Nat.add_mul, Nat.one_mul] at this
    omega
   ·have hi : i < sz := by
     have := (List.getElem?_eq_some_iff.1 hu).1
     rw [List.length_take] at this
     omega
    rw [List.getElem?_take_of_lt hi, List.getElem?_drop] at hu
    have hW2 : W'.heap[b]? = some (.cells arr e (0, 0)) := (hW b ⟨len, hs⟩ (hp.dom b _ hs).1).trans ha
    rw [add_addr, cell_of hW2, hszs, hsz, ← hu, Array.getElem?_toList]
    congr 1
    rw [Nat.add_mul]; omega
  ·obtain ⟨i, hi, rfl⟩ := List.mem_map.1 hx
   exact ⟨_, hv (j + i) (by have := List.mem_range.1 hi; omega), rfl⟩
def decB : List Value → Int
 | [.int _ b] => b
 | _ => 0
def decE : List Value → G.Ent
 | [.string s, .int _ n] => ⟨s, n⟩
 | _ => G.zE
theorem vts1 {E : Env} {a : CT} {cs : List Value} (h : VTs htT E (cL [a]) cs) : ∃ u, cs = [u] ∧ VT htT E a u := by
 obtain ⟨u, r, e, h1, h2⟩ := h
 exact ⟨u, by rw [e, show r = [] from h2], h1⟩
theorem vts2 {E : Env} {a b : CT} {cs : List Value} (h : VTs htT E (cL [a, b]) cs) : ∃ u v, cs = [u, v] ∧ VT htT E a u ∧ VT htT E b v := by
 obtain ⟨u, r, e, h1, v, r2, e2, h2, h3⟩ := h
 exact ⟨u, v, by rw [e, e2, show r2 = [] from h3], h1, h2⟩
theorem decB_ok {E : Env} {cs : List Value} (h : VTs htT E ctB cs) : ∃ b, cs = [.int .u8 b] ∧ 0 ≤ b ∧ b ≤ 255 := by
 obtain ⟨u, rfl, n, rfl, h1, h2, _⟩ := vts1 h
 exact ⟨n, rfl, h1, h2⟩
theorem decE_ok {E : Env} {cs : List Value} (h : VTs htT E G.ctE cs) : ∃ s n, cs = [.string s, .int .i64 n] ∧ s.size ≤ 12 ∧ IntKind.i64.min ≤ n ∧ n ≤ IntKind.i64.max := by
 obtain ⟨u, v, rfl, ⟨s, rfl, _, h1⟩, n, rfl, _, _, h2, h3⟩ := vts2 h
 exact ⟨s, n, rfl, by simpa [Bd.ev] using h1, h2, h3⟩
/-- A node that is handed in. -/
theorem node_of {E : Env} {w : World} {fp : List Nat} (hp : HeapOk htT E w fp) (h5 : 1005 ∈ fp) (h6 : 1125 ∈ fp) {v : Value} (h : VT htT E cNodeA v) :
  ∃ (x : Nd) (A4 : Option Addr) (c4 : Nat) (A5 : Option Addr) (c5 : Nat) (ok : Nat → Prop), v = .agg (ndCells x A4 c4 A5 c5) ∧ NdC w ok x A4 c4 A5 c5 ∧ x.data.length ≤ 1000 ∧ x.ents.length ≤ 1000 ∧ (∀ b ∈ x.data, 0 ≤ b ∧ b ≤ 255) ∧ (∀ e ∈ x.ents, e.name.size ≤ 12 ∧ IntKind.i64.min ≤ e.node ∧ e.node ≤ IntKind.i64.max) := by
 obtain ⟨vs, rfl, h⟩ := h
 obtain ⟨u0, r0, e0, hu0, u1, r1, e1, hu1, u2, r2, e2, hu2, u3, r3, e3, hu3, u4, r4, e4, hu4, u5, r5, e5, hu5, u6, r6, e6, hu6, h7⟩ := h
 obtain ⟨k, rfl, _⟩ := int_of hu0
 obtain ⟨m, rfl, _⟩ := int_of hu1
 obtain ⟨u, rfl, _⟩ := int_of hu2
 obtain ⟨g, rfl, _⟩ := int_of hu3
 obtain ⟨A4, n4, c4, rfl, ⟨_, b4⟩, so4⟩ := hu4
 obtain ⟨A5, n5, c5, rfl, ⟨_, b5⟩, so5⟩ := hu5
 obtain ⟨tg, rfl, _⟩ := hu6
 have b4 : n4 ≤ 1000 := by simpa [Bd.ev] using b4
 have b5 : n5 ≤ 100 := by simpa [Bd.ev] using b5
 obtain ⟨xs, l1, f1, q1⟩ := row_F hp h5 (show htT 1005 = .row 5 1 ctB from rfl) so4 (by omega) (Kd.int .u8) rfl decB (fun cs w' hc => by
  obtain ⟨b, rfl, _⟩ := decB_ok hc; rfl)
 obtain ⟨ys, l2, f2, q2⟩ := row_F hp h6 (show htT 1125 = .row 125 2 G.ctE from rfl) so5 (by omega) kE rfl decE (fun cs w' hc => by
  obtain ⟨s, n, rfl, _⟩ := decE_ok hc
  exact ⟨[.string s], [.int .i64 n], rfl, rfl, rfl⟩)
 have le4 : n4 ≤ c4 := by
  rcases so4 with ⟨_, rfl, rfl⟩ | ⟨_, _, _, _, _, h, _⟩
  ·exact Nat.le_refl _
  ·exact h
 have le5 : n5 ≤ c5 := by
  rcases so5 with ⟨_, rfl, rfl⟩ | ⟨_, _, _, _, _, h, _⟩
  ·exact Nat.le_refl _
  ·exact h
 subst l1; subst l2
 refine ⟨⟨k, m, u, g, xs, ys, tg⟩, A4, c4, A5, c5, fun b => (∃ n, E.S b = some (1005, n)) ∨ ∃ n, E.S b = some (1125, n), ?_, ⟨le4, Kd.F_mono f1 (fun _ h => .inl h), le5, Kd.F_mono f2 (fun _ h => .inr h)⟩, b4, by show ys.length ≤ 1000; omega, fun b hb => ?_, fun e he => ?_⟩
 ·congr 1
  rw [← Array.toArray_toList (xs := vs), e0, e1, e2, e3, e4, e5, e6, show r6 = [] from h7]; rfl
 ·obtain ⟨cs, hc, rfl⟩ := q1 b hb
  obtain ⟨b', rfl, h1, h2⟩ := decB_ok hc
  exact ⟨h1, h2⟩
 ·obtain ⟨cs, hc, rfl⟩ := q2 e he
  obtain ⟨s, n, rfl, h1⟩ := decE_ok hc
  exact h1
theorem args3 {E : Env} {a b c : CT} {vs : Array Value} (h : VTl htT E [a, b, c] vs.toList) : ∃ u v x, vs = #[u, v, x] ∧ VT htT E a u ∧ VT htT E b v ∧ VT htT E c x := by
 obtain ⟨u, r, e, hu, v, r2, e2, hv, x, r3, e3, hx, h3⟩ := h
 rw [e2, e3, show r3 = [] from h3] at e
 exact ⟨u, v, x, by rw [← Array.toArray_toList (xs := vs), e], hu, hv, hx⟩
/-- Put, whatever shows that what is put may be. -/
theorem put_ok {K : Con} (hid : K.id = 102) (harg : K.args = [tb, cI, cNodeA]) (hfp : K.fp = tF) (htm : 0 ∈ K.tm) (h0 : K.dg = 0 ∧ K.ha = 0 ∧ K.hb = 0) (hq : ps [cI] ∈ K.posts)
  (hlaw : K.pf = [(4, [1, 2, 3, 4, 5])] ∨ K.pf = [(7, [1])]) : Hld K := by
 intro E w vs pre
 have pa := pre.args
 rw [harg] at pa
 obtain ⟨v, u, y, rfl, hv, hu, hy⟩ := args3 pa
 have hp := pre.heap
 obtain ⟨k, n, f, sn, T, rfl, hs, h1, h2, h3, h4, hsn⟩ := tab_of (fp := K.fp) hp (by rw [hfp]; decide) hv
 obtain ⟨i, rfl, _⟩ := int_of hu
 obtain ⟨x, A4, c4, A5, c5, ok, rfl, hN, b4, b5, g4, g5⟩ := node_of (fp := K.fp) hp (by rw [hfp]; decide) (by rw [hfp]; decide) hy
 have hl : E.U 0 ∨ ∀ old, f i = some old → rightN x = true → rlU E.U old (quad x) := by
  by_cases hU : E.U 0
  ·exact .inl hU
  ·refine .inr fun old hf hr => ?_
   have hk0 : x.kind ≠ 0 := fun e => by
    unfold rightN G.kindOk at hr
    rw [e] at hr
    simp at hr
   rcases hlaw with hlaw | hlaw
   ·have := pre.pf (4, [1, 2, 3, 4, 5]) (by rw [hlaw]; exact List.mem_cons_self ..)
    rcases this with h | ⟨i', k', m', u', g', e, h⟩
    ·exact absurd h hU
    ·have e : [Value.int .i64 i, .int .i64 x.kind, .int .i64 x.mode, .int .i64 x.uid, .int .i64 x.gid] = [.int .i64 i', .int .i64 k', .int .i64 m', .int .i64 u', .int .i64 g'] := e
     simp only [List.cons.injEq, Value.int.injEq, true_and, and_true] at e
     obtain ⟨rfl, rfl, rfl, rfl, rfl⟩ := e
     rcases h with ⟨h, _⟩ | h
     ·exact absurd h hk0
     ·exact h k (f, sn) old h1 hf
   ·have := pre.pf (7, [1]) (by rw [hlaw]; exact List.mem_cons_self ..)
    rcases this with h | ⟨i', e, h⟩
    ·exact absurd h hU
    ·have e : [Value.int .i64 i] = [.int .i64 i'] := e
     simp only [List.cons.injEq, Value.int.injEq, true_and, and_true] at e
     subst e
     exact .inl (h k (f, sn) old h1 hf)
 rw [hid]
 refine (G.Put.calls k _ ok T i x A4 c4 A5 c5 w h3.1 hN b4 b5).mono ?_
 rintro e w' ⟨rfl, ht, fr⟩
 have hq' : ∀ j, j < 24 → RightZ ((T.put i x).nd j) := fun j hj => by
  unfold G.Tab.put
  split
  ·rename_i hl'
   have := G.live_lt hl'
   have r2 := h3.1.r2
   split
   ·rename_i hr
    rw [nd_setN T h3.1.len _ _ (by omega)]
    split
    ·exact ⟨.inr hr, g4, g5⟩
    ·exact h3.2 j hj
   ·exact h3.2 j hj
  ·exact h3.2 j hj
 have hlaw' : LawT E.U f (T.put i x) := by
  rcases hl with hl | hl
  ·exact .inl hl
  refine h4.imp id fun h4 j old hf hj => ?_
  by_cases hli : live T i = true
  ·by_cases hr : rightN x = true
   ·have hd : T.put i x = T.setN (i.toNat - 1) x := by unfold G.Tab.put; rw [if_pos hli, if_pos hr]
    have hi := G.live_lt hli
    have r2 := h3.1.r2
    rw [hd] at hj ⊢
    have hj' := G.live_lt hj
    have hrm : (T.setN (i.toNat - 1) x).room = T.room := rfl
    rw [hrm] at hj'
    rw [nd_setN T h3.1.len _ _ (by omega)]
    by_cases e : j.toNat - 1 = i.toNat - 1
    ·rw [if_pos e]
     have : j = i := by omega
     subst this
     exact hl old hf hr
    ·rw [if_neg e]
     refine h4 j old hf ?_
     unfold live at hj ⊢
     rw [nd_setN T h3.1.len _ _ (by omega), if_neg e] at hj
     exact hj
   ·have hd : T.put i x = T := by unfold G.Tab.put; rw [if_pos hli, if_neg hr]
    rw [hd] at hj ⊢
    exact h4 j old hf hj
  ·have hd : T.put i x = T := by unfold G.Tab.put; rw [if_neg hli]
   rw [hd] at hj ⊢
   exact h4 j old hf hj
 obtain ⟨aft, _⟩ := aft_tab (K := K) (T' := T.put i x) hp hs h1 hsn h2 fr ht hq' hlaw' h0 htm
 refine ⟨[.int .i64 (G.putE T i x)], _, rfl, aft, _, hq, ⟨_, [], rfl, ?_, rfl⟩, fun r hr => absurd hr List.not_mem_nil, fun f hf => absurd hf List.not_mem_nil⟩
 have : G.putE T i x = 0 ∨ G.putE T i x = 22 ∨ G.putE T i x = 2 := by
  unfold G.putE
  split
  ·split
   ·exact .inl rfl
   ·exact .inr (.inl rfl)
  ·exact .inr (.inr rfl)
 rcases this with e | e | e <;> rw [e] <;> exact ⟨_, rfl, by decide, by decide, by decide, by decide⟩
theorem k102_ok : Hld k102 := put_ok rfl rfl rfl (by decide) ⟨rfl, rfl, rfl⟩ (List.mem_cons_self ..) (.inl rfl)
theorem k102m_ok : Hld k102m := put_ok rfl rfl rfl (by decide) ⟨rfl, rfl, rfl⟩ (List.mem_cons_self ..) (.inr rfl)
theorem bl_len (bs : ByteArray) : ∀ (n i : Nat) (r : List UInt8), bs.size - i = n → (ByteArray.toList.loop bs i r).length = r.length + n
 | 0, i, r, h => by
  rw [ByteArray.toList.loop, if_neg (by omega)]; simp
 | n + 1, i, r, h => by
  rw [ByteArray.toList.loop, if_pos (by omega), bl_len bs n (i + 1) _ (by omega)]
  simp; omega
theorem toList_len (s : ByteArray) : s.toList.length = s.size := by
 unfold ByteArray.toList
 rw [bl_len s s.size 0 [] (by omega)]; simp
theorem right_bounds {x : Nd} (h : rightN x = true) : (1 ≤ x.kind ∧ x.kind ≤ 3) ∧ (0 ≤ x.mode ∧ x.mode ≤ 4095) ∧ (0 ≤ x.uid ∧ x.uid ≤ 65535) ∧ (0 ≤ x.gid ∧ x.gid ≤ 65535) ∧ x.data.length ≤ 48 ∧ x.ents.length ≤ 8 ∧ x.target.size ≤ 64 := by
 have tz : ∀ s : ByteArray, s.toList = [] → s.size ≤ 64 := fun s hs => by
  have : s.toList.length = s.size := toList_len s
  rw [hs] at this; simp at this; omega
 unfold rightN G.idOk G.kindOk at h
 simp only [Bool.and_eq_true, decide_eq_true_eq] at h
 obtain ⟨h1, h2, ⟨h3, h4⟩, ⟨h5, h6⟩, h7⟩ := h
 split at h7
 ·rename_i hk
  simp only [Bool.and_eq_true, decide_eq_true_eq] at h7
  exact ⟨by omega, by omega, by omega, by omega, by omega, by omega, tz _ h7.2.1⟩
 ·split at h7
  ·unfold G.risingOk at h7
   simp only [Bool.and_eq_true, decide_eq_true_eq] at h7
   exact ⟨by omega, by omega, by omega, by omega, by omega, by omega, tz _ h7.2.1⟩
  ·split at h7
   ·unfold G.fitsOk at h7
    simp only [Bool.and_eq_true, decide_eq_true_eq] at h7
    exact ⟨by omega, by omega, by omega, by omega, by omega, by omega, h7.2.2.2.1⟩
   ·cases h7
theorem live_same {w : World} {k : Nat} {ok ok' : Nat → Prop} {T T' : Tab} (h : TabAt w k ok T) (h' : TabAt w k ok' T') (i : Int) : live T i = live T' i := by
 have hr : T.room = T'.room := by
  have a := h.cell0
  rw [h'.cell0] at a
  injection a with a; injection a with _ a; exact a.symm
 unfold live
 rw [hr]
 by_cases hi : 1 ≤ i ∧ i ≤ T'.room
 ·have r2 := h'.r2
  obtain ⟨_, _, _, _, _, p, _⟩ := h.at7 (i.toNat - 1) (by omega)
  obtain ⟨_, _, _, _, _, p', _⟩ := h'.at7 (i.toNat - 1) (by omega)
  rw [p'] at p
  injection p with p; injection p with _ p
  rw [p]
 ·have : (decide (1 ≤ i) && decide (i ≤ T'.room)) = false := by
   simp only [Bool.and_eq_false_iff, decide_eq_false_iff_not]; omega
  rw [this]; rfl
theorem k61_ok : Hld k61 := by
 intro E w vs pre
 obtain ⟨v, y, rfl, hv, hy⟩ := args2 pre.args
 have hp := pre.heap
 obtain ⟨k, n, f, sn, T, rfl, hs, h1, h2, h3, h4, hsn⟩ := tab_of hp (by decide) hv
 obtain ⟨x, A4, c4, A5, c5, ok, rfl, hN, b4, b5, g4, g5⟩ := node_of hp (by decide) (by decide) hy
 have all : ∀ i old, f i = some old → live T i = true := by
  obtain ⟨_, tb', f', T', q1, q2, q3, q4⟩ : factT E 13 w _ := pre.pf (13, []) (List.mem_cons_self ..)
  rw [h1] at q1
  injection q1 with q1; injection q1 with q1 q5
  subst q1; subst q5
  intro i old hf
  rw [live_same h3.1 q3.1]
  exact q4 i old hf
 refine (G.Add.calls k _ ok T x A4 c4 A5 c5 w h3.1 hN b4 b5).mono ?_
 rintro e w' ⟨m, err, T', rfl, hP, ht, fr⟩
 have hq' : ∀ j, j < 24 → RightZ (T'.nd j) := fun j hj => by
  rcases hP with ⟨_, _, _, rfl⟩ | ⟨_, _, _, _, rfl⟩ | ⟨hr, q, hq, _, _, _, _, rfl⟩
  ·exact h3.2 j hj
  ·exact h3.2 j hj
  ·have r2 := h3.1.r2
   rw [nd_setN T h3.1.len _ _ (by omega)]
   split
   ·exact ⟨.inr hr, g4, g5⟩
   ·exact h3.2 j hj
 have hlaw' : LawT E.U f T' := by
  refine h4.imp id fun h4 j old hf hj => ?_
  rcases hP with ⟨_, _, _, rfl⟩ | ⟨_, _, _, _, rfl⟩ | ⟨hr, q, hq, _, hdead, _, _, rfl⟩
  ·exact h4 j old hf hj
  ·exact h4 j old hf hj
  ·have r2 := h3.1.r2
   have hj' := G.live_lt hj
   have hlv := all j old hf
   by_cases e : j.toNat - 1 = q
   ·exfalso
    have : j = (q : Int) + 1 := by omega
    rw [this, hdead] at hlv; cases hlv
   ·rw [nd_setN T h3.1.len _ _ (by omega), if_neg e]
    exact h4 j old hf hlv
 obtain ⟨aft, _⟩ := aft_tab (K := k61) (T' := T') hp hs h1 hsn h2 fr ht hq' hlaw' ⟨rfl, rfl, rfl⟩ (by decide)
 have rg : (0 ≤ m ∧ m ≤ 24) ∧ (0 ≤ err ∧ err ≤ 28) := by
  have r2 := h3.1.r2
  rcases hP with ⟨_, rfl, rfl, _⟩ | ⟨_, _, rfl, rfl, _⟩ | ⟨_, q, hq, _, _, rfl, rfl, _⟩ <;> omega
 have big : ∀ z : Int, 0 ≤ z → z ≤ 28 → ∀ En, VT htT En cI (.int .i64 z) := fun z a b En => ⟨z, rfl, by omega, by omega, by show (-9223372036854775808 : Int) ≤ z; omega, by show z ≤ (9223372036854775807 : Int); omega⟩
 exact ⟨[.int .i64 m, .int .i64 err], _, rfl, aft, _, List.mem_cons_self .., ⟨_, _, rfl, big m rg.1.1 (by omega) _, _, [], rfl, big err rg.2.1 rg.2.2 _, rfl⟩, fun r hr => absurd hr List.not_mem_nil, fun f hf => absurd hf List.not_mem_nil⟩
/-! ### Get -/
open Classical in
/-- Two new rows. -/
noncomputable def Env.rows2 (E : Env) (A4 : Option Addr) (c4 : Nat) (A5 : Option Addr) (c5 : Nat) : Env :=
 { E with S := fun b => if A4 = some ⟨b, 0, none⟩ then some (1005, c4) else if A5 = some ⟨b, 0, none⟩ then some (1125, c5) else E.S b }
theorem whb_blk {B e sz c : Nat} {ct : CTs} {w : World} {A : Option Addr} (h : WhB B e sz ct w A c) {b : Nat} (hA : A = some ⟨b, 0, none⟩) : B ≤ b ∧ ∃ cur, w.heap[b]? = some (.cells cur e (0, 0)) ∧ ∀ En, RowL htT En ct sz c cur.toList := by
 refine ⟨h.2 b hA, ?_⟩
 rcases h.1 with ⟨h, _⟩ | ⟨g, cur, h1, h2, h3⟩
 ·rw [h] at hA; cases hA
 ·rw [h1] at hA; injection hA with hA; injection hA with hA
  subst hA
  exact ⟨cur, h2, h3⟩
theorem aft_rows {K : Con} {E : Env} {w w' : World} {A4 A5 : Option Addr} {c4 c5 : Nat} (hp : HeapOk htT E w K.fp) (hb : Below w.heap.size w w') (w4 : WhB w.heap.size 5 1 ctB w' A4 c4) (w5 : WhB w.heap.size 125 2 G.ctE w' A5 c5) (h5 : 1005 ∈ K.fp) (h6 : 1125 ∈ K.fp) (h0 : K.dg = 0 ∧ K.ha = 0 ∧ K.hb = 0) :
  K.Aft htT E w (Env.rows2 E A4 c4 A5 c5) w' := by
 have old : ∀ k, k < w.heap.size → (Env.rows2 E A4 c4 A5 c5).S k = E.S k := fun k hk => by
  show (if A4 = some ⟨k, 0, none⟩ then _ else if A5 = some ⟨k, 0, none⟩ then _ else E.S k) = _
  rw [if_neg (fun e => by have := (whb_blk w4 e).1; omega), if_neg (fun e => by have := (whb_blk w5 e).1; omega)]
 have get : ∀ k t, (Env.rows2 E A4 c4 A5 c5).S k = some t → (A4 = some ⟨k, 0, none⟩ ∧ t = (1005, c4)) ∨ (A5 = some ⟨k, 0, none⟩ ∧ t = (1125, c5)) ∨ E.S k = some t := fun k t h => by
  have h : (if A4 = some ⟨k, 0, none⟩ then some (1005, c4) else if A5 = some ⟨k, 0, none⟩ then some (1125, c5) else E.S k) = some t := h
  split at h
  ·rename_i e; injection h with h; exact .inl ⟨e, h.symm⟩
  ·split at h
   ·rename_i e; injection h with h; exact .inr (.inl ⟨e, h.symm⟩)
   ·exact .inr (.inr h)
 have nA : ∀ k, w.heap.size ≤ k → ¬ E.A k := fun k hk hA => by have := hp.an k hA; omega
 have mono : ∀ k t, E.S k = some t → (Env.rows2 E A4 c4 A5 c5).S k = some t := fun k t h => by rw [old k (hp.dom k t h).1]; exact h
 have x0 : Ext { E with N := fun _ => False } { Env.rows2 E A4 c4 A5 c5 with N := fun _ => False } :=
  ⟨Nat.le_refl _, fun _ _ => rfl, fun _ _ => rfl, fun _ _ => rfl, fun _ _ => rfl, fun k t h => mono k t h, fun _ h => h, fun b hN _ => hN.elim, rfl, rfl, rfl, fun k hk => hk.elim (fun h => h.elim) (fun h => old k (hp.an k h)), Nat.le_refl _, Nat.le_refl _, rfl, rfl⟩
 refine ⟨⟨fun k τ n hk ht => ?_, fun k t hk => ?_, fun k hk => Nat.lt_of_lt_of_le (hp.an k hk) hb.size⟩, mono, fun _ h => h, fun k hk => ⟨old k hk, fun h => h⟩, fun k τ n h1 h2 => ?_, by rw [h0.1]; rfl, by rw [h0.2.1, h0.2.2]; simp [Env.rows2], rfl, rfl, hb.os, hb.tape, hb.output, hb.size, fun k hk _ _ => hb.block k hk, fun k τ n hk _ => hb.block k (hp.dom k _ hk).1, fun _ k hk => hb.block k (hp.an k hk)⟩
 ·rcases get k _ hk with ⟨e, e2⟩ | ⟨e, e2⟩ | hk'
  ·injection e2 with e2 e3; subst e2; subst e3
   obtain ⟨_, cur, q1, q2⟩ := whb_blk w4 e
   exact HOk.row (show htT 1005 = .row 5 1 ctB from rfl) q1 (q2 _)
  ·injection e2 with e2 e3; subst e2; subst e3
   obtain ⟨_, cur, q1, q2⟩ := whb_blk w5 e
   exact HOk.row (show htT 1125 = .row 125 2 G.ctE from rfl) q1 (q2 _)
  ·have h1 := (HeapOk.below hp hb).ok k τ n hk' ht
   have h2 : HOk htT { E with N := fun _ => False } w' k τ n := HOk.core (E := E) (F := { E with N := fun _ => False }) (show Core E { E with N := fun _ => False } from ⟨rfl, rfl, rfl, rfl, rfl, rfl⟩) h1
   exact HOk.core (E := { Env.rows2 E A4 c4 A5 c5 with N := fun _ => False }) (F := Env.rows2 E A4 c4 A5 c5) (show Core { Env.rows2 E A4 c4 A5 c5 with N := fun _ => False } (Env.rows2 E A4 c4 A5 c5) from ⟨rfl, rfl, rfl, rfl, rfl, rfl⟩) (h2.ext x0)
 ·rcases get k _ hk with ⟨e, rfl⟩ | ⟨e, rfl⟩ | hk'
  ·obtain ⟨q0, cur, q1, _⟩ := whb_blk w4 e
   exact ⟨(Array.getElem?_eq_some_iff.1 q1).1, fun h => absurd h (nA k q0), fun h => by cases h⟩
  ·obtain ⟨q0, cur, q1, _⟩ := whb_blk w5 e
   exact ⟨(Array.getElem?_eq_some_iff.1 q1).1, fun h => absurd h (nA k q0), fun h => by cases h⟩
  ·have := hp.dom k t hk'
   exact ⟨Nat.lt_of_lt_of_le this.1 hb.size, this.2⟩
 ·rcases get k _ h1 with ⟨_, e⟩ | ⟨_, e⟩ | h
  ·injection e with e _; rw [e]; exact h5
  ·injection e with e _; rw [e]; exact h6
  ·rw [h2] at h; cases h
theorem k11_ok : Hld k11 := by
 intro E w vs pre
 obtain ⟨v, u, rfl, hv, hu⟩ := args2 pre.args
 have hp := pre.heap
 obtain ⟨k, n, f, sn, T, rfl, hs, h1, h2, h3, h4, hsn⟩ := tab_of hp (by decide) hv
 obtain ⟨i, rfl, _⟩ := int_of hu
 refine (G.Get2 k _ T i w h3.1 (TabI.small h3) (fun j hj => (h3.2 j hj).2)).mono ?_
 rintro e w' ⟨A4, c4, A5, c5, rfl, hN, hb, w4, w5⟩
 have hx : T.get i = zN ∨ rightN (T.get i) = true := by
  unfold G.Tab.get
  split
  ·rename_i hl
   have := G.live_lt hl
   have r2 := h3.1.r2
   exact (h3.2 _ (by omega)).1
  ·exact .inl rfl
 have bd : (0 ≤ (T.get i).kind ∧ (T.get i).kind ≤ 3) ∧ (0 ≤ (T.get i).mode ∧ (T.get i).mode ≤ 4095) ∧ (0 ≤ (T.get i).uid ∧ (T.get i).uid ≤ 65535) ∧ (0 ≤ (T.get i).gid ∧ (T.get i).gid ≤ 65535) ∧ (T.get i).data.length ≤ 48 ∧ (T.get i).ents.length ≤ 8 ∧ (T.get i).target.size ≤ 64 := by
  rcases hx with hx | hx
  ·rw [hx]; decide
  ·have := right_bounds hx
   omega
 have hfact : factT (Env.rows2 E A4 c4 A5 c5) 4 w' [.int .i64 i, .int .i64 (T.get i).kind, .int .i64 (T.get i).mode, .int .i64 (T.get i).uid, .int .i64 (T.get i).gid] := by
  rcases h4 with h4 | h4
  ·exact .inl h4
  ·refine .inr ⟨_, _, _, _, _, rfl, ?_⟩
   cases hl : live T i with
   | false =>
    have : T.get i = zN := by unfold G.Tab.get; rw [hl]; rfl
    rw [this]; exact .inl ⟨rfl, rfl⟩
   | true =>
    have : T.get i = T.nd (i.toNat - 1) := by unfold G.Tab.get; rw [hl]; rfl
    rw [this]
    refine .inr fun tb f' old q1 q2 => ?_
    have q1 : E.T0 = some (tb, f') := q1
    rw [h1] at q1; injection q1 with q1; injection q1 with _ q1; subst q1
    exact h4 i old q2 hl
 generalize T.get i = x at hN hx bd hfact ⊢
 have it : ∀ (k : IntKind) (a b z : Int), a ≤ z ∧ z ≤ b → -9223372036854775808 ≤ a → b ≤ 9223372036854775807 → VT htT (Env.rows2 E A4 c4 A5 c5) (cB a b) (.int .i64 z) := fun _ a b z h p q => ⟨z, rfl, h.1, h.2, by show (-9223372036854775808 : Int) ≤ z; omega, by show z ≤ (9223372036854775807 : Int); omega⟩
 have sl : ∀ (τ e sz : Nat) (ct : CTs) (A : Option Addr) (m c len : Nat), htT τ = .row e sz ct → WhB w.heap.size e sz ct w' A c → m ≤ c → m ≤ len → (∀ b, A = some ⟨b, 0, none⟩ → (Env.rows2 E A4 c4 A5 c5).S b = some (τ, c)) → VT htT (Env.rows2 E A4 c4 A5 c5) (.sl τ 0 ⟨0, 0, len⟩) (.slice A m c) := fun τ e sz ct A m c len hty hw hmc hml hS => by
  refine ⟨A, m, c, rfl, ⟨Nat.zero_le _, by simpa [Bd.ev] using hml⟩, ?_⟩
  rcases hw.1 with ⟨rfl, rfl⟩ | ⟨g, cur, rfl, _⟩
  ·exact .inl ⟨rfl, by omega, rfl⟩
  ·exact .inr ⟨g, 0, c, by simp, hS g rfl, hmc, by omega, SlX.at0 (Nat.le_refl _)⟩
 have s4 : ∀ b, A4 = some ⟨b, 0, none⟩ → (Env.rows2 E A4 c4 A5 c5).S b = some (1005, c4) := fun b e => by
  show (if A4 = some ⟨b, 0, none⟩ then _ else _) = _
  rw [if_pos e]
 have s5 : ∀ b, A5 = some ⟨b, 0, none⟩ → (Env.rows2 E A4 c4 A5 c5).S b = some (1125, c5) := fun b e => by
  show (if A4 = some ⟨b, 0, none⟩ then _ else if A5 = some ⟨b, 0, none⟩ then _ else _) = _
  rw [if_neg (fun e4 => by
   obtain ⟨_, cur, q1, _⟩ := whb_blk w4 e4
   obtain ⟨_, cur', q2, _⟩ := whb_blk w5 e
   rw [q1] at q2; injection q2 with q2; injection q2 with _ q2; cases q2), if_pos e]
 obtain ⟨b1, b2, b3, b4, b5, b6, b7⟩ := bd
 refine ⟨[.agg (ndCells x A4 c4 A5 c5), .bool (live T i)], _, rfl, aft_rows hp hb w4 w5 (by decide) (by decide) ⟨rfl, rfl, rfl⟩, _, List.mem_cons_self .., ⟨_, _, rfl, ⟨_, rfl, _, _, rfl, it .i64 _ _ _ b1 (by omega) (by omega), _, _, rfl, it .i64 _ _ _ b2 (by omega) (by omega), _, _, rfl, it .i64 _ _ _ b3 (by omega) (by omega), _, _, rfl, it .i64 _ _ _ b4 (by omega) (by omega), _, _, rfl, sl 1005 5 1 ctB _ _ _ _ rfl w4 hN.l4 b5 s4, _, _, rfl, sl 1125 125 2 G.ctE _ _ _ _ rfl w5 hN.l5 b6 s5, _, [], rfl, ⟨_, rfl, Nat.zero_le _, by simpa [Bd.ev] using b7⟩, rfl⟩, _, [], rfl, ⟨_, rfl⟩, rfl⟩, fun r hr => absurd hr List.not_mem_nil, fun q hq => ?_⟩
 have : q = (4, [1, 2, 3, 4, 5]) := by simpa [k11, mkC, ps] using hq
 subst this
 exact hfact
open Classical in
/-- One new row. -/
noncomputable def Env.row1 (E : Env) (τ : Nat) (A : Option Addr) (c : Nat) : Env :=
 { E with S := fun b => if A = some ⟨b, 0, none⟩ then some (τ, c) else E.S b }
theorem aft_row1 {K : Con} {E : Env} {w w' : World} {τ e sz c : Nat} {ct : CTs} {A : Option Addr} (hp : HeapOk htT E w K.fp) (hb : Below w.heap.size w w') (hty : htT τ = .row e sz ct)
  (hA : ∀ b, A = some ⟨b, 0, none⟩ → w.heap.size ≤ b ∧ ∃ cur, w'.heap[b]? = some (.cells cur e (0, 0)) ∧ RowL htT E ct sz c cur.toList) (h5 : τ ∈ K.fp) (h0 : K.dg = 0 ∧ K.ha = 0 ∧ K.hb = 0) :
  K.Aft htT E w (Env.row1 E τ A c) w' ∧ Ext { E with N := fun _ => False } { Env.row1 E τ A c with N := fun _ => False } := by
 have old : ∀ k, k < w.heap.size → (Env.row1 E τ A c).S k = E.S k := fun k hk => by
  show (if A = some ⟨k, 0, none⟩ then _ else E.S k) = _
  rw [if_neg (fun e => by have := (hA k e).1; omega)]
 have get : ∀ k t, (Env.row1 E τ A c).S k = some t → (A = some ⟨k, 0, none⟩ ∧ t = (τ, c)) ∨ E.S k = some t := fun k t h => by
  have h : (if A = some ⟨k, 0, none⟩ then some (τ, c) else E.S k) = some t := h
  split at h
  ·rename_i e; injection h with h; exact .inl ⟨e, h.symm⟩
  ·exact .inr h
 have nA : ∀ k, w.heap.size ≤ k → ¬ E.A k := fun k hk hA => by have := hp.an k hA; omega
 have mono : ∀ k t, E.S k = some t → (Env.row1 E τ A c).S k = some t := fun k t h => by rw [old k (hp.dom k t h).1]; exact h
 have x0 : Ext { E with N := fun _ => False } { Env.row1 E τ A c with N := fun _ => False } :=
  ⟨Nat.le_refl _, fun _ _ => rfl, fun _ _ => rfl, fun _ _ => rfl, fun _ _ => rfl, fun k t h => mono k t h, fun _ h => h, fun b hN _ => hN.elim, rfl, rfl, rfl, fun k hk => hk.elim (fun h => h.elim) (fun h => old k (hp.an k h)), Nat.le_refl _, Nat.le_refl _, rfl, rfl⟩
 have opq : (htT τ).isOpq = false := by rw [hty]; rfl
 have up : ∀ {ts n vs}, RowL htT E ts sz n vs → RowL htT (Env.row1 E τ A c) ts sz n vs := fun {ts n vs} h =>
  RowL.iff.2 ⟨(RowL.iff.1 h).1, fun j hj => VTs.core (E := { Env.row1 E τ A c with N := fun _ => False }) (F := Env.row1 E τ A c) ⟨rfl, rfl, rfl, rfl, rfl, rfl⟩ _ (VTs.ext htT x0 _ (VTs.core (E := E) (F := { E with N := fun _ => False }) ⟨rfl, rfl, rfl, rfl, rfl, rfl⟩ _ ((RowL.iff.1 h).2 j hj)))⟩
 refine ⟨⟨⟨fun k υ n hk ht => ?_, fun k t hk => ?_, fun k hk => Nat.lt_of_lt_of_le (hp.an k hk) hb.size⟩, mono, fun _ h => h, fun k hk => ⟨old k hk, fun h => h⟩, fun k υ n h1 h2 => ?_, by rw [h0.1]; rfl, by rw [h0.2.1, h0.2.2]; simp [Env.row1], rfl, rfl, hb.os, hb.tape, hb.output, hb.size, fun k hk _ _ => hb.block k hk, fun k υ n hk _ => hb.block k (hp.dom k _ hk).1, fun _ k hk => hb.block k (hp.an k hk)⟩, x0⟩
 ·rcases get k _ hk with ⟨e, e2⟩ | hk'
  ·injection e2 with e2 e3; subst e2; subst e3
   obtain ⟨_, cur, q1, q2⟩ := hA k e
   exact HOk.row hty q1 (up q2)
  ·have h1 := (HeapOk.below hp hb).ok k υ n hk' ht
   have h2 : HOk htT { E with N := fun _ => False } w' k υ n := HOk.core (E := E) (F := { E with N := fun _ => False }) (show Core E { E with N := fun _ => False } from ⟨rfl, rfl, rfl, rfl, rfl, rfl⟩) h1
   exact HOk.core (E := { Env.row1 E τ A c with N := fun _ => False }) (F := Env.row1 E τ A c) (show Core { Env.row1 E τ A c with N := fun _ => False } (Env.row1 E τ A c) from ⟨rfl, rfl, rfl, rfl, rfl, rfl⟩) (h2.ext x0)
 ·rcases get k _ hk with ⟨e, rfl⟩ | hk'
  ·obtain ⟨q0, cur, q1, _⟩ := hA k e
   exact ⟨(Array.getElem?_eq_some_iff.1 q1).1, fun h => absurd h (nA k q0), fun h => by rw [opq] at h; cases h⟩
  ·have := hp.dom k t hk'
   exact ⟨Nat.lt_of_lt_of_le this.1 hb.size, this.2⟩
 ·rcases get k _ h1 with ⟨_, e⟩ | h
  ·injection e with e _; rw [e]; exact h5
  ·rw [h2] at h; cases h
/-! ### A path's names -/
theorem namesL_size : ∀ (l cur : List UInt8), (∀ x ∈ G.namesL cur l, x.length ≤ cur.length + l.length) ∧ (G.namesL cur l).length ≤ (if cur = [] then 0 else 1) + l.length
 | [], cur => by
  unfold G.namesL
  split
  ·exact ⟨fun x hx => absurd hx List.not_mem_nil, by simp⟩
  ·exact ⟨fun x hx => by simp at hx; rw [hx]; simp, by simp⟩
 | c :: l, cur => by
  have h1 := namesL_size l []
  have h2 := namesL_size l (cur ++ [c])
  unfold G.namesL
  split
  ·split
   ·rename_i hc
    subst hc
    refine ⟨fun x hx => ?_, ?_⟩
    ·have := h1.1 x hx; simp at this ⊢; omega
    ·have := h1.2; simp at this ⊢; omega
   ·refine ⟨fun x hx => ?_, ?_⟩
    ·rcases List.mem_cons.1 hx with rfl | hx
     ·simp
     ·have := h1.1 x hx; simp at this ⊢; omega
    ·have := h1.2; simp at this ⊢; omega
  ·refine ⟨fun x hx => ?_, ?_⟩
   ·have := h2.1 x hx; simp at this ⊢; omega
   ·have := h2.2
    rw [if_neg (by simp)] at this
    simp only [List.length_cons]
    split <;> omega
theorem namesOf_size (s : ByteArray) : (∀ x ∈ G.namesOf s, x.size ≤ s.size) ∧ (G.namesOf s).length ≤ s.size := by
 have h := namesL_size s.data.toList []
 have e : s.data.toList.length = s.size := by rw [Array.length_toList]; rfl
 unfold G.namesOf
 refine ⟨fun x hx => ?_, ?_⟩
 ·obtain ⟨l, hl, rfl⟩ := List.mem_map.1 hx
  have := h.1 l hl
  show l.toArray.size ≤ _
  simp at this ⊢; omega
 ·have := h.2; simp at this ⊢; omega
theorem names2 (s : ByteArray) (w : World) (hs : s.size ≤ 4294967296) : Calls Tryz.prog 212 #[.string s] w fun e w' => ∃ A cur, e = .returned (.slice (some ⟨A, 0, none⟩) (G.namesOf s).length (G.namesOf s).length) ∧ w.heap.size ≤ A ∧ w'.heap[A]? = some (.cells cur 9 (0, 0)) ∧ cur.toList = (G.namesOf s).map Value.string ∧ Below w.heap.size w w' := by
 have hf := G.fields_names s
 go_enter Tryz.func212, Tryz.ntmps212
 go_wp2_with fail
 refine (Tryz.strings_FieldsFunc_runes 258 #[] (enters_of Tryz.func258 (by kernel_rfl) rfl) (fun r => r == 47) s w hs (G.slash_pred w)).mono ?_
 rintro e w1 ⟨A, rfl, hA, ho, hb⟩
 rw [hf] at ho ⊢
 go_wp2_with fail
 go_ret
 rcases ho.2 with ⟨h, _⟩ | ⟨g, cap, cur, hv, _, hg, _, _, hz, ht⟩
 ·cases h
 ·injection hv with h1 _ h3
  injection h1 with h1; injection h1 with h1
  subst h1
  refine ⟨A, cur, rfl, hA, hg, ?_, hb⟩
  rw [← ht, List.take_of_length_le]
  rw [Array.length_toList, hz, h3]; simp
theorem rows_str {E : Env} {ct : CT} {l : List ByteArray} (h : ∀ x ∈ l, VT htT E ct (.string x)) : RowL htT E (cL [ct]) 1 l.length (l.map Value.string) := by
 induction l with
 | nil => rfl
 | cons x l ih => exact ⟨[.string x], l.map Value.string, rfl, rfl, ⟨_, [], rfl, h x (List.mem_cons_self ..), rfl⟩, ih fun y hy => h y (List.mem_cons_of_mem _ hy)⟩
theorem names_ok' {K : Con} {τ : Nat} {d dr : Bd} (hid : K.id = 212) (harg : K.args = [.str 0 d]) (hfp : τ ∈ K.fp) (h0 : K.dg = 0 ∧ K.ha = 0 ∧ K.hb = 0) (hty : htT τ = .row 9 1 (cL [.str 0 d])) (hq : ps [.sl τ 0 dr] [⟨0, [(0, 1), (1, -1)]⟩] ∈ K.posts) (hd : ∀ g h, d.ev g h ≤ dr.ev g h) (hbig : ∀ g h, g ≤ K.gm → h ≤ K.hm → d.ev g h ≤ 4294967296) : Hld K := by
 intro E w vs pre
 have pa := pre.args
 rw [harg] at pa
 obtain ⟨v, r, e, hv, v2⟩ := pa
 rw [show r = [] from v2] at e
 have ev : vs = #[v] := by rw [← Array.toArray_toList (xs := vs), e]
 obtain ⟨s, rfl, _, hs⟩ := hv
 subst ev
 rw [hid]
 have hbd := hbig E.g E.h pre.g pre.h
 refine (names2 s w (by omega)).mono ?_
 rintro e w' ⟨A, cur, rfl, hA, hg, hc, hb⟩
 obtain ⟨n1, n2⟩ := namesOf_size s
 have row : RowL htT E (cL [.str 0 d]) 1 (G.namesOf s).length cur.toList := by
  rw [hc]; exact rows_str fun x hx => ⟨x, rfl, Nat.zero_le _, Nat.le_trans (n1 x hx) hs⟩
 obtain ⟨aft, _⟩ := aft_row1 (K := K) (A := some ⟨A, 0, none⟩) (c := (G.namesOf s).length) pre.heap hb hty (fun b hb' => by injection hb' with hb'; injection hb' with hb'; subst hb'; exact ⟨hA, cur, hg, row⟩) hfp h0
 refine ⟨[.slice (some ⟨A, 0, none⟩) (G.namesOf s).length (G.namesOf s).length], _, rfl, aft, _, hq, ⟨_, [], rfl, ⟨_, _, _, rfl, ⟨Nat.zero_le _, ?_⟩, .inr ⟨A, 0, (G.namesOf s).length, by simp, ?_, Nat.le_refl _, by omega, SlX.at0 (Nat.le_refl _)⟩⟩, rfl⟩, fun q hq' => ?_, fun f hf => absurd hf List.not_mem_nil⟩
 ·exact Nat.le_trans n2 (Nat.le_trans hs (hd _ _))
 ·show (if some (⟨A, 0, none⟩ : Addr) = some ⟨A, 0, none⟩ then _ else _) = _
  rw [if_pos rfl]
 ·have : q = ⟨0, [(0, 1), (1, -1)]⟩ := by simpa [ps] using hq'
  subst this
  show 0 ≤ Lin.ev _ _
  simp [Lin.ev, Lin.evT, numAt, leavesV, numV, Value.cells]
  omega
theorem k212_ok : Hld k212 := names_ok' (τ := 1009) rfl rfl (by decide) ⟨rfl, rfl, rfl⟩ rfl (List.mem_cons_self ..) (fun g h => by simp [Bd.ev, dS, dD]; omega) (fun g h h1 _ => by have h1 : g ≤ 30000 := h1; simp [Bd.ev, dS]; omega)
theorem k212b_ok : Hld k212b := names_ok' (τ := 5009) rfl rfl (by decide) ⟨rfl, rfl, rfl⟩ rfl (List.mem_cons_self ..) (fun g h => Nat.le_refl _) (fun g h h1 _ => by have h1 : g ≤ 30000 := h1; simp [Bd.ev]; omega)
end Go.Proofs.YtbjhcjgniciooaaGreatDoor.E.Kt
namespace Go.Proofs.YtbjhcjgniciooaaGreatDoor.E.Kt
open Go.Proofs.YtbjhcjgniciooaaGreatDoor.G (TabAt Tab Nd live zN rightN NdC kE ndCells okx Fr WhB WhR ctB ctE)
open Go.RowKit Go.Proofs.YtbjhcjgniciooaaGreatDoorW.PrintWords Go.Proofs.YtbjhcjgniciooaaGreatDoorW.PrintLast Go.Proofs.YtbjhcjgniciooaaGreatDoorW.PrintMore
set_option linter.unusedVariables false
set_option linter.unusedSimpArgs false
/-! ### Another table at the start -/
/-- The two say the same of values. -/
structure Dep (E F : Env) : Prop where
 S : F.S = E.S
 g : F.g = E.g
 h : F.h = E.h
 U : F.U = E.U
section
variable {HT : Th} {E F : Env} {w : World}
theorem SlOk.dep (c : Dep E F) {τ : Nat} {a : Option Addr} {m k : Nat} (h : SlOk HT E τ a m k) : SlOk HT F τ a m k := by
 rcases h with h | ⟨b, j, len, h1, h2, h3⟩
 ·exact .inl h
 ·exact .inr ⟨b, j, len, h1, by rw [c.S]; exact h2, h3⟩
mutual
theorem VT.dep (c : Dep E F) : ∀ (t : CT) {v : Value}, VT HT E t v → VT HT F t v
 | .int _ _ _, _, k => k
 | .uid, _, ⟨n, e, k, r⟩ => ⟨n, e, by rw [c.U]; exact k, r⟩
 | .bool, _, k => k
 | .str _ d, _, ⟨s, e, k1, k2⟩ => ⟨s, e, k1, by rw [c.g, c.h]; exact k2⟩
 | .sl _ _ d, _, ⟨a, m, k, e, ⟨k1, k2⟩, o⟩ => ⟨a, m, k, e, ⟨k1, by rw [c.g, c.h]; exact k2⟩, SlOk.dep c o⟩
 | .ptr _ _, _, k => k.imp id fun ⟨i, n, e, hs⟩ => ⟨i, n, e, by rw [c.S]; exact hs⟩
 | .map _ _, _, k => k.imp id fun ⟨i, n, e, hs⟩ => ⟨i, n, e, by rw [c.S]; exact hs⟩
 | .fn _ fs, _, k => k.imp id (VF.dep c fs)
 | .iface _ ts, _, k => k.imp id (VI.dep c ts)
 | .agg cs, _, ⟨vs, e, k⟩ => ⟨vs, e, VTs.dep c cs k⟩
theorem VTs.dep (c : Dep E F) : ∀ (ts : CTs) {vs : List Value}, VTs HT E ts vs → VTs HT F ts vs
 | .nil, _, k => k
 | .cons t ts, _, ⟨v, r, e, k1, k2⟩ => ⟨v, r, e, VT.dep c t k1, VTs.dep c ts k2⟩
theorem VF.dep (c : Dep E F) : ∀ (ts : FTs) {v : Value}, VF HT E ts v → VF HT F ts v
 | .nil, _, k => k
 | .cons f a b r, _, k => k.imp (fun ⟨x, y, e, k1, k2⟩ => ⟨x, y, e, VTs.dep c a k1, VTs.dep c b k2⟩) (VF.dep c r)
theorem VI.dep (c : Dep E F) : ∀ (ts : ITs) {v : Value}, VI HT E ts v → VI HT F ts v
 | .nil, _, k => k
 | .cons t u r, _, k => k.imp (fun ⟨x, e, k1⟩ => ⟨x, e, VT.dep c u k1⟩) (VI.dep c r)
end
theorem HOk.dep (c : Dep E F) {k τ n : Nat} (ho : (HT τ).isOpq = false) (h : HOk HT E w k τ n) : HOk HT F w k τ n := by
 unfold HOk at *
 split at h <;> rename_i e
 ·obtain ⟨arr, h1, alt, h2, h3, h4⟩ := h; exact ⟨arr, h1, alt, h2, VTs.dep c _ h3, h4⟩
 ·obtain ⟨arr, h1, h2, h3⟩ := h
  exact ⟨arr, h1, h2, fun j hj => VTs.dep c _ (h3 j hj)⟩
 ·obtain ⟨ents, clock, h1, h2⟩ := h
  exact ⟨ents, clock, h1, fun x hx => ⟨VT.dep c _ (h2 x hx).1, VT.dep c _ (h2 x hx).2⟩⟩
 ·rw [e] at ho; cases ho
end
/-- A table's nodes, as they are now. -/
def quads (T : Tab) : Int → Option Q4 := fun i => if live T i = true then some (quad (T.nd (i.toNat - 1))) else none
theorem law_now (U : Int → Prop) (T : Tab) : LawT U (quads T) T := .inr fun i old hf hl => by
 unfold quads at hf
 rw [if_pos hl] at hf
 injection hf with hf; subst hf
 exact .inr ⟨rfl, rfl, rfl, weak.refl _ _⟩
/-- The rows behind a table, as they are now. -/
noncomputable def snaps (E : Env) (w : World) (tb : Nat) (i : Nat) : Option Obj := open Classical in if E.A i ∧ i ≠ tb then w.heap[i]? else none
theorem snaps_now {U : Int → Prop} {T0} (E : Env) (w : World) (tb : Nat) : Snap { E with U := U, T0 := T0 } w tb (snaps E w tb) := fun i o hi => by
 unfold snaps at hi
 split at hi
 ·rename_i h; exact ⟨h.1, h.2, hi⟩
 ·cases hi
/-- A step begins: the table as it is now is what it is held against. -/
theorem HeapOk.now {E : Env} {w : World} {fp : List Nat} {tb n : Nat} {f : (Int → Option Q4) × (Nat → Option Obj)} {T : Tab} (hp : HeapOk htT E w fp) (hs : E.S tb = some (0, n)) (hT0 : E.T0 = some (tb, f)) (hA : E.A tb) (ht : TabI E w tb T) : HeapOk htT { E with T0 := some (tb, (quads T, snaps E w tb)) } w fp := by
 refine ⟨fun k τ m hk hτ => ?_, hp.dom, hp.an⟩
 have h := hp.ok k τ m hk hτ
 cases ho : (htT τ).isOpq with
 | false => exact HOk.dep (E := E) (F := { E with T0 := some (tb, (quads T, snaps E w tb)) }) ⟨rfl, rfl, rfl, rfl⟩ ho h
 | true =>
  have := kty_opq τ ho
  subst this
  obtain ⟨f', T', q1, q2, q3, q4⟩ : tO E 0 w k := h
  rw [hT0] at q1; injection q1 with q1; injection q1 with q1 _
  subst q1
  show tO { E with T0 := some (tb, (quads T, snaps E w tb)) } 0 w tb
  exact ⟨(quads T, snaps E w tb), T, rfl, q2, ht, law_now _ _, snaps_now (U := E.U) E w tb⟩
/-- One step of the world: what it makes of the table. -/
theorem step8 (h8 : Hld k8) {E : Env} {w : World} {b n tb m : Nat} {f : (Int → Option Q4) × (Nat → Option Obj)} {T : Tab} (hp : HeapOk htT E w k8.fp) (hb : E.S b = some (59, n)) (hs : E.S tb = some (0, m)) (hT0 : E.T0 = some (tb, f)) (hA : E.A tb) (ht : TabI E w tb T) (hg : E.g ≤ 24980) (hh : E.h ≤ 549600000) (i : Int) (hi : IntKind.i64.min ≤ i ∧ i ≤ IntKind.i64.max) :
  Calls Tryz.prog 8 #[.pointer (some ⟨b, 0, none⟩), .int .i64 i] w fun e w' => ∃ r E' T', e = .returned (.bool r) ∧ HeapOk htT E' w' k8.fp ∧ E'.S b = some (59, n) ∧ E'.S tb = some (0, m) ∧ E'.T0 = some (tb, (quads T, snaps E w tb)) ∧ E'.A tb ∧ TabI E' w' tb T' ∧ LawT E.U (quads T) T' ∧ E'.U = E.U ∧ E'.g = E.g + 14 ∧ E'.h = E.h + 350700 ∧ (∀ k t, E.S k = some t → E'.S k = some t) ∧ (∀ i, E.A i → i ≠ tb → E'.A i ∧ w'.heap[i]? = w.heap[i]?) ∧
   w'.os = w.os ∧ w'.tape = w.tape ∧ w'.output = w.output ∧ w.heap.size ≤ w'.heap.size ∧ (∀ k, k < w.heap.size → E.S k = none → ¬ E.A k → w'.heap[k]? = w.heap[k]? ∧ E'.S k = none ∧ ¬ E'.A k) := by
 have hp2 := HeapOk.now hp hs hT0 hA ht
 have pre : k8.Pre htT { E with T0 := some (tb, (quads T, snaps E w tb)) } w #[.pointer (some ⟨b, 0, none⟩), .int .i64 i].toList :=
  ⟨hp2, hg, hh, ⟨_, _, rfl, .inr ⟨b, n, rfl, hb⟩, _, [], rfl, ⟨i, rfl, hi.1, hi.2, hi.1, hi.2⟩, rfl⟩, fun r hr => absurd hr List.not_mem_nil, fun q hq => by
   have : q = (13, []) := by simpa [k8, withPf, mkC] using hq
   subst this
   show factT _ 13 w _
   exact ⟨rfl, tb, _, T, rfl, hA, ht, fun j old hf => by
    have hf : quads T j = some old := hf
    unfold quads at hf
    split at hf
    ·assumption
    ·cases hf⟩⟩
 refine (h8 _ w _ pre).mono ?_
 rintro e w' ⟨rs, E', rfl, aft, q, hq, t1, _⟩
 have hq' : q = ps [.bool] := by simpa [k8, withPf, mkC] using hq
 subst hq'
 obtain ⟨v, r, rfl, ⟨x, rfl⟩, h2⟩ := t1
 rw [show r = [] from h2]
 have hs' := aft.S tb _ hs
 have hT' : E'.T0 = some (tb, (quads T, snaps E w tb)) := aft.T0
 obtain ⟨f', T', q1, q2, q3, q4, q5⟩ : tO E' 0 w' tb := aft.heap.ok tb 0 m hs' (by decide)
 rw [hT'] at q1; injection q1 with q1; injection q1 with _ q1
 subst q1
 have hU : E'.U = E.U := aft.U
 refine ⟨x, E', T', rfl, aft.heap, aft.S b _ hb, hs', hT', q2, q3, by rw [← hU]; exact q4, hU, aft.g, ?_, fun k t hk => aft.S k t hk, fun i hi hne => ?_, aft.os, aft.tape, aft.output, aft.size, fun k hk h1 h2 => ⟨aft.keep k hk h1 h2, by rw [(aft.old k hk).1]; exact h1, fun h => h2 ((aft.old k hk).2 h)⟩⟩
 rotate_left
 ·have hlt := hp.an i hi
  obtain ⟨o, ho⟩ : ∃ o, w.heap[i]? = some o := ⟨w.heap[i], Array.getElem?_eq_getElem hlt⟩
  obtain ⟨s1, _, s3⟩ := q5 i o (by show snaps E w tb i = some o; unfold snaps; rw [if_pos ⟨hi, hne⟩]; exact ho)
  exact ⟨s1, s3.trans ho.symm⟩
 have := aft.h
 rw [this]
 show E.h + (0 * E.g + 350700) = _
 omega
end Go.Proofs.YtbjhcjgniciooaaGreatDoor.E.Kt
namespace Go.Proofs.YtbjhcjgniciooaaGreatDoor.G
open Go.RowKit Go.Proofs.YtbjhcjgniciooaaGreatDoorW.PrintWords Go.Proofs.YtbjhcjgniciooaaGreatDoorW.PrintLast Go.Proofs.YtbjhcjgniciooaaGreatDoorW.PrintMore
attribute [local go_sem] max2_int min2_int max_two min_two
set_option linter.unusedVariables false
set_option linter.unusedSimpArgs false
theorem rep_get {α : Type} (seg : List α) (hs : seg.length = 7) : ∀ (m i j : Nat), i < m → j < 7 → (List.replicate m seg).flatten[i * 7 + j]? = seg[j]?
 | 0, i, j, h, _ => absurd h (Nat.not_lt_zero _)
 | m + 1, 0, j, _, hj => by rw [List.replicate_succ, List.flatten_cons, List.getElem?_append_left (by omega)]; simp
 | m + 1, i + 1, j, h, hj => by
  rw [List.replicate_succ, List.flatten_cons, List.getElem?_append_right (by omega), show (i + 1) * 7 + j - seg.length = i * 7 + j by omega]
  exact rep_get seg hs m i j (by omega) hj
theorem zero79 : Tryz.zeroCells79 = (Value.int .i64 0 :: (List.replicate 24 (ndCells zN none 0 none 0).toList).flatten).toArray := by kernel_rfl
theorem rep_nd (r : Int) (m i : Nat) : (⟨r, List.replicate m zN⟩ : Tab).nd i = zN := by
 unfold Tab.nd
 rw [List.getD_eq_getElem?_getD, List.getElem?_replicate]
 split <;> rfl
theorem newT_at (w : World) (ok : Nat → Prop) (ho : ∀ k, ok k → k ≠ w.heap.size) (r : Int) (h1 : 1 ≤ r) (h2 : r ≤ 24) : TabAt (w.alloc (.cells (Tryz.zeroCells79.setIfInBounds 0 (.int .i64 r)) 79)) w.heap.size ok ⟨r, List.replicate 24 zN⟩ := by
 refine ⟨h1, h2, by simp, ⟨_, ?_, blk_new w _, ?_, fun i hi => ⟨none, 0, none, 0, ?_, fun j hj => ?_⟩⟩, ho⟩
 ·rw [Array.size_setIfInBounds]; exact (by kernel_rfl : Tryz.zeroCells79.size = 169)
 ·rw [zero79]; simp
 ·have e : (⟨r, List.replicate 24 zN⟩ : Tab).nd i = zN := rep_nd r 24 i
  rw [e]; exact NdC.zero _ _
 ·have e : (⟨r, List.replicate 24 zN⟩ : Tab).nd i = zN := rep_nd r 24 i
  rw [e, zero79, Array.getElem?_setIfInBounds, if_neg (by omega), List.getElem?_toArray, show 1 + i * 7 + j = (i * 7 + j) + 1 by omega, List.getElem?_cons_succ, rep_get _ rfl 24 i j hi hj]
  simp
set_option maxHeartbeats 4000000 in
set_option maxRecDepth 100000 in
theorem New.calls (n : Int) (w : World) (ok : Nat → Prop) (ho : ∀ k, ok k → k ≠ w.heap.size) : Calls Tryz.prog 60 #[.int .i64 n] w fun e w' => e = .returned (.pointer (some ⟨w.heap.size, 0, none⟩)) ∧ TabAt w' w.heap.size ok (newT n) ∧ Below w.heap.size w w' := by
 have HO := Aside0.mk ho
 clear ho
 by_cases h1 : n < 1
 ·have e := Aside0.mk (show newT n = ⟨1, List.replicate 24 zN⟩ by unfold newT; rw [if_pos h1])
  go_enter Tryz.func60, Tryz.ntmps60
  go_wp2
  go_ret
  exact ⟨rfl, by rw [e.out]; exact newT_at w ok HO.out 1 (by omega) (by omega), below_alloc (Below.refl _ _) _⟩
 ·by_cases h2 : 24 < n
  ·have e := Aside0.mk (show newT n = ⟨24, List.replicate 24 zN⟩ by unfold newT; rw [if_neg h1, if_pos h2])
   have g1 : 1 ≤ n := by omega
   go_enter Tryz.func60, Tryz.ntmps60
   go_wp2
   go_ret
   exact ⟨rfl, by rw [e.out]; exact newT_at w ok HO.out 24 (by omega) (by omega), below_alloc (Below.refl _ _) _⟩
  ·have e := Aside0.mk (show newT n = ⟨n, List.replicate 24 zN⟩ by unfold newT; rw [if_neg h1, if_neg h2])
   have g1 : 1 ≤ n := by omega
   have g2 : n ≤ 24 := by omega
   have G := Aside0.mk (And.intro g1 g2)
   go_enter Tryz.func60, Tryz.ntmps60
   go_wp2
   go_ret
   exact ⟨rfl, by rw [e.out]; exact newT_at w ok HO.out n G.out.1 G.out.2, below_alloc (Below.refl _ _) _⟩
def setFrom (cs : Array Value) (o : Nat) : List Value → Array Value
 | [] => cs
 | v :: r => setFrom (cs.setIfInBounds o v) (o + 1) r
theorem setFrom_get : ∀ (vs : List Value) (o : Nat) (cs : Array Value) (j : Nat), o + vs.length ≤ cs.size → (setFrom cs o vs)[j]? = if o ≤ j ∧ j < o + vs.length then vs[j - o]? else cs[j]?
 | [], o, cs, j, _ => by rw [if_neg (by simp)]; rfl
 | v :: r, o, cs, j, h => by
  simp only [List.length_cons] at h
  have ih := setFrom_get r (o + 1) (cs.setIfInBounds o v) j (by simp; omega)
  show (setFrom (cs.setIfInBounds o v) (o + 1) r)[j]? = _
  rw [ih]
  simp only [List.length_cons]
  by_cases h1 : o + 1 ≤ j ∧ j < o + 1 + r.length
  ·rw [if_pos h1, if_pos (by omega), show j - o = (j - (o + 1)) + 1 by omega, List.getElem?_cons_succ]
  ·rw [if_neg h1, Array.getElem?_setIfInBounds]
   by_cases h2 : o = j
   ·subst h2
    rw [if_pos rfl, if_pos (by omega), if_pos (by omega)]; simp
   ·rw [if_neg h2, if_neg (by omega)]
theorem blk_setCells {g : Nat} {t : TypeId} : ∀ (vs : List Value) (o : Nat) (W : World) (cs : Array Value), W.heap[g]? = some (.cells cs t (0, 0)) → (W.setCells g o vs).heap[g]? = some (.cells (setFrom cs o vs) t (0, 0))
 | [], _, _, _, h => h
 | v :: r, o, W, cs, h => blk_setCells r (o + 1) _ _ (blk_set h o v)
theorem setFrom_all (cs vs : Array Value) (h : vs.size = cs.size) : setFrom cs 0 vs.toList = vs := by
 apply Array.ext_getElem?
 intro j
 rw [setFrom_get _ _ _ _ (by simp [h])]
 by_cases hj : j < vs.size
 ·rw [if_pos (by simp [hj])]; simp
 ·rw [if_neg (by simp [hj]), Array.getElem?_eq_none (by omega), Array.getElem?_eq_none (by omega)]
theorem below_setCells {B : Nat} {w : World} {g : Nat} : ∀ (vs : List Value) (o : Nat) (W : World), Below B w W → B ≤ g → Below B w (W.setCells g o vs)
 | [], _, _, h, _ => h
 | v :: r, o, W, h, hg => below_setCells r (o + 1) _ (h.setCell hg v) hg
theorem Tab.set_nd (T : Tab) (i : Nat) (h : i < T.nodes.length) : T.setN i (T.nd i) = T := by
 unfold Tab.setN Tab.nd
 have : T.nodes.set i (T.nodes.getD i zN) = T.nodes := by
  apply List.ext_getElem?
  intro j
  rw [List.getElem?_set]
  by_cases e : i = j
  ·subst e; rw [if_pos rfl, if_pos h]; simp [List.getD, List.getElem?_eq_getElem h]
  ·rw [if_neg e]
 rw [this]
theorem info79 : (Tryz.prog.info? 79).map (·.size) = some 169 := by kernel_rfl
/-- What a clone's slices lie in. -/
def okc (ok : Nat → Prop) (w : World) : Nat → Prop := fun k => (ok k ∧ k < w.heap.size) ∨ w.heap.size + 1 ≤ k
theorem TabAt.one {W : World} {g : Nat} {ok : Nat → Prop} {T : Tab} (h : TabAt W g ok T) : ∃ cells : Array Value, cells.size = 169 ∧ W.heap[g]? = some (.cells cells 79 (0, 0)) ∧ (∀ u ∈ cells, u.oneCell' = true) ∧
  ∀ (W1 : World) (g1 : Nat) (ok1 : Nat → Prop), W1.heap[g1]? = some (.cells cells 79 (0, 0)) → (∀ k, ok k → k < W.heap.size → W1.heap[k]? = W.heap[k]?) → (∀ k, ok k → k < W.heap.size → ok1 k) → (∀ k, ok1 k → k ≠ g1) → TabAt W1 g1 ok1 T := by
 obtain ⟨r1, r2, len, ⟨cells, hz, hb, h0, hn⟩, out⟩ := h
 refine ⟨cells, hz, hb, fun u hu => ?_, fun W1 g1 ok1 h1 hm ho1 ho2 => ⟨r1, r2, len, ⟨cells, hz, h1, h0, fun i hi => ?_⟩, ho2⟩⟩
 ·obtain ⟨q, hq, rfl⟩ := Array.mem_iff_getElem.1 hu
  rcases Nat.eq_zero_or_pos q with rfl | hp
  ·rw [Array.getElem?_eq_getElem hq] at h0
   injection h0 with h0
   rw [h0]; rfl
  ·obtain ⟨A4, c4, A5, c5, hN, hc⟩ := hn ((q - 1) / 7) (by omega)
   have e := hc ((q - 1) % 7) (Nat.mod_lt _ (by decide))
   rw [show 1 + (q - 1) / 7 * 7 + (q - 1) % 7 = q by omega, Array.getElem?_eq_getElem hq] at e
   have hlt : (q - 1) % 7 < 7 := Nat.mod_lt _ (by decide)
   generalize (q - 1) % 7 = r at e hlt
   rcases (show r = 0 ∨ r = 1 ∨ r = 2 ∨ r = 3 ∨ r = 4 ∨ r = 5 ∨ r = 6 by omega) with rfl | rfl | rfl | rfl | rfl | rfl | rfl <;> (injection e with e; rw [e]; rfl)
 ·obtain ⟨A4, c4, A5, c5, hN, hc⟩ := hn i hi
  have hb2 := hN.bound.step (W1 := W1) (fun k hk hlt => hm k hk.1 hk.2)
  exact ⟨A4, c4, A5, c5, hb2.mono (fun k hk => ho1 k hk.1 hk.2), hc⟩
set_option maxHeartbeats 4000000 in
set_option maxRecDepth 100000 in
theorem Clone.calls (g : Nat) (ok : Nat → Prop) (T : Tab) (w : World) (h : TabAt w g ok T) (hs : ∀ i, i < 24 → (T.nd i).data.length ≤ 1000 ∧ (T.nd i).ents.length ≤ 1000) :
  Calls Tryz.prog 33 #[.pointer (some ⟨g, 0, none⟩)] w fun e w' => e = .returned (.pointer (some ⟨w.heap.size, 0, none⟩)) ∧ TabAt w' w.heap.size (okc ok w) T ∧ Below w.heap.size w w' := by
 obtain ⟨C, hz, hb, hu, hmk⟩ := h.one
 have HC := Aside0.mk (And.intro hz (And.intro hb (And.intro hu hmk)))
 have HS := Aside0.mk hs
 have HG := Aside0.mk h.lt
 have HO := Aside0.mk h.out
 have HL := Aside0.mk h.len
 clear h hs hz hb hu hmk
 have hag : ∀ j v, C.toList[j]? = some v → w.cell? ⟨g, 0 + j, none⟩ = some v := fun j v hv => by rw [Nat.zero_add, blk_cell HC.out.2.1 j]; simpa using hv
 have HA := Aside0.mk hag
 clear hag
 have ht : (w.alloc (.cells Tryz.zeroCells79 79)).there w.heap.size 0 C.size := fun j hj => by
  rw [Nat.zero_add, blk_cell (blk_new w _) j, blk_frozen (blk_new w _) j, HC.out.1] at *
  refine ⟨?_, rfl⟩
  have hz : Tryz.zeroCells79.size = 169 := by kernel_rfl
  rw [Array.getElem?_eq_getElem (by omega)]; rfl
 have HT := Aside0.mk ht
 clear ht
 go_enter Tryz.func33, Tryz.ntmps33
 go_wp2_with (first
  | ((with_reducible refine gate_dst (N := 9) rfl ?_); refine wpList_load_mid rfl 79 (.tmp 8) rfl g 0 rfl C.toList _ HA.out Tryz.underlying79 rfl (by rw [info79, Array.length_toList, HC.out.1]) ?_)
  | (refine wpList_store_mid rfl 79 (.tmp 3) (.tmp 9) rfl w.heap.size 0 C.toList.toArray rfl rfl HT.out (by rw [info79, List.size_toArray, Array.length_toList, HC.out.1]) (by rw [Array.all_eq_true_iff_forall_mem]; intro v hv; exact HC.out.2.2.1 v (by simpa using hv)) ?_))
 have hW : TabAt ((w.alloc (.cells Tryz.zeroCells79 79)).setCells w.heap.size 0 C.toList) w.heap.size (okc ok w) T := by
  refine HC.out.2.2.2 _ _ _ ?_ (fun k hk hlt => ?_) (fun k hk hlt => .inl ⟨hk, hlt⟩) (fun k hk e => ?_)
  ·have := blk_setCells C.toList 0 _ _ (blk_new w (.cells Tryz.zeroCells79 79))
   rw [setFrom_all _ _ (by rw [HC.out.1]; exact (by kernel_rfl : 169 = Tryz.zeroCells79.size))] at this
   exact this
  ·rw [setCells_far _ _ _ (by omega)]; exact Below.heap_alloc w _ k hlt
  ·rcases hk with hk | hk
   ·omega
   ·omega
 have hB : Below w.heap.size w ((w.alloc (.cells Tryz.zeroCells79 79)).setCells w.heap.size 0 C.toList) := below_setCells _ _ _ (below_alloc (Below.refl _ _) _) (Nat.le_refl _)
 have JW := Aside0.mk hW
 have JB := Aside0.mk hB
 clear hW hB
 generalize (w.alloc (.cells Tryz.zeroCells79 79)).setCells w.heap.size 0 C.toList = W1 at JW JB
 clear HA HT
 go_loopg [10] 24 (fun gk i10 wr => ∃ k : Nat, k ≤ 24 ∧ i10 = .int .i64 k ∧ 24 ≤ k + gk ∧ TabAt wr w.heap.size (okc ok w) T ∧ Below w.heap.size w wr)
 case atStart => exact ⟨0, Nat.zero_le _, rfl, Nat.le_refl _, JW.out, JB.out⟩
 case round =>
  obtain ⟨k, hk, rfl, hgk, ht, hb⟩ := hrel
  have TR := Aside0.mk ht
  have BR := Aside0.mk hb
  have HK := Aside0.mk hgk
  clear hgk ht hb
  by_cases hlt : k < 24
  ·obtain ⟨g', rfl⟩ : ∃ g', gk = g' + 1 := ⟨gk - 1, by have := HK.out; omega⟩
   obtain ⟨A4, c4, A5, c5, hN, q0, q1, q2, q3, q4, q5, q6⟩ := TR.out.at7 k hlt
   have HN := Aside0.mk hN
   have hk3 : (k : Int) < 24 := by omega
   clear hN
   go_wp2_with fail
   refine (own.calls (T.nd k) A4 c4 A5 c5 _ _ HN.out (HS.out k (by omega)).1 (HS.out k (by omega)).2).mono ?_
   rintro e w3 ⟨C4, d4, C5, d5, rfl, hn, hb⟩
   have HN3 := Aside0.mk hn
   have HB3 := Aside0.mk hb
   have HT3 := Aside0.mk (TR.out.below hb)
   clear hn hb q0 q1 q2 q3 q4 q5 q6
   obtain ⟨E4, f4, E5, f5, hE, q0, q1, q2, q3, q4, q5, q6⟩ := HT3.out.at7 k hlt
   clear hE
   have q7 := HT3.out.frz
   unfold ndCells
   dsimp only
   go_wp2
   go_roundg g'
   case measure => have := HK.out; omega
   case rel =>
    have hz := below_size BR.out
    have hgt := TR.out.lt
    have h7 := TabAt.set7 HT3.out k hlt (T.nd k) (HN3.out.mono (fun i hi => .inr (by omega)))
    rw [Tab.set_nd T k (by rw [HL.out]; omega)] at h7
    refine ⟨k + 1, by omega, by go_num, by have := HK.out; omega, h7, ?_⟩
    iterate 7 (with_reducible refine below_set ?_ (Nat.le_refl _))
    exact below_step BR.out HB3.out
  ·go_wp2
   go_ret
   exact ⟨rfl, TR.out, BR.out⟩
end Go.Proofs.YtbjhcjgniciooaaGreatDoor.G
namespace Go.Proofs.YtbjhcjgniciooaaGreatDoor.E.Kt
open Go.Proofs.YtbjhcjgniciooaaGreatDoor.G (TabAt Tab Nd live zN rightN NdC kE ndCells okx Fr WhB WhR ctB ctE)
open Go.RowKit Go.Proofs.YtbjhcjgniciooaaGreatDoorW.PrintWords Go.Proofs.YtbjhcjgniciooaaGreatDoorW.PrintLast Go.Proofs.YtbjhcjgniciooaaGreatDoorW.PrintMore
set_option linter.unusedVariables false
set_option linter.unusedSimpArgs false
attribute [local go_sem] max2_int min2_int max_two min_two
/-! ### The world's table, and the law's end -/
/-- A box of one kind: its cells. -/
theorem box_of {E : Env} {w : World} {fp : List Nat} {τ b n elem : Nat} {cs : CTs} {k : List Lin} {o : Option (Nat × List Nat)} (hp : HeapOk htT E w fp) (hτ : τ ∈ fp) (hty : htT τ = .obj elem [(cs, k, o)]) (hs : E.S b = some (τ, n)) : ∃ arr : Array Value, w.heap[b]? = some (.cells arr elem (0, 0)) ∧ VTs htT E cs arr.toList := by
 have h := hp.ok b τ n hs hτ
 unfold HOk at h
 rw [show htT τ = _ from hty] at h
 obtain ⟨arr, h1, alt, h2, h3, _⟩ := h
 rw [List.mem_singleton.1 h2] at h3
 exact ⟨arr, h1, h3⟩
set_option maxHeartbeats 800000 in
set_option maxRecDepth 100000 in
theorem table17 (s g : Nat) (ok : Nat → Prop) (T : Tab) (w : World) (hc : w.cell? ⟨s, 0, none⟩ = some (.pointer (some ⟨g, 0, none⟩))) (h : TabAt w g ok T) (hs : ∀ i, i < 24 → (T.nd i).data.length ≤ 1000 ∧ (T.nd i).ents.length ≤ 1000) :
  Calls Tryz.prog 17 #[.pointer (some ⟨s, 0, none⟩)] w fun e w' => e = .returned (.pointer (some ⟨w.heap.size, 0, none⟩)) ∧ TabAt w' w.heap.size (G.okc ok w) T ∧ Below w.heap.size w w' := by
 go_enter Tryz.func17, Tryz.ntmps17
 go_wp2_with fail
 refine (G.Clone.calls g ok T _ h hs).mono ?_
 rintro e w' ⟨rfl, ht, hb⟩
 dsimp only
 go_wp2
 go_ret
 exact ⟨rfl, ht, hb⟩
set_option maxHeartbeats 800000 in
set_option maxRecDepth 100000 in
theorem table6 (b s g : Nat) (ok : Nat → Prop) (T : Tab) (w : World) (hb0 : w.cell? ⟨b, 0, none⟩ = some (.pointer (some ⟨s, 0, none⟩))) (hc : w.cell? ⟨s, 0, none⟩ = some (.pointer (some ⟨g, 0, none⟩))) (h : TabAt w g ok T) (hs : ∀ i, i < 24 → (T.nd i).data.length ≤ 1000 ∧ (T.nd i).ents.length ≤ 1000) :
  Calls Tryz.prog 6 #[.pointer (some ⟨b, 0, none⟩)] w fun e w' => e = .returned (.pointer (some ⟨w.heap.size, 0, none⟩)) ∧ TabAt w' w.heap.size (G.okc ok w) T ∧ Below w.heap.size w w' := by
 go_enter Tryz.func6, Tryz.ntmps6
 go_wp2_with fail
 refine (table17 s g ok T _ hc h hs).mono ?_
 rintro e w' ⟨rfl, ht, hb⟩
 dsimp only
 go_wp2
 go_ret
 exact ⟨rfl, ht, hb⟩
theorem law_end {U : Int → Prop} {Tl Tn : Tab} (h : LawT U (quads Tl) Tn) (h0 : ¬ U 0) (k : Int) (hl : live Tl k = true) (hn : live Tn k = true) (hU : ¬ U (Tl.nd (k.toNat - 1)).uid) : (Tn.nd (k.toNat - 1)).gid = (Tl.nd (k.toNat - 1)).gid ∧ weak (Tl.nd (k.toNat - 1)).kind (Tl.nd (k.toNat - 1)).mode (Tn.nd (k.toNat - 1)).mode := by
 rcases h with h | h
 ·exact absurd h h0
 ·rcases h k (quad (Tl.nd (k.toNat - 1))) (by unfold quads; rw [if_pos hl]) hn with h | ⟨_, _, h3, h4⟩
  ·exact absurd h hU
  ·exact ⟨h3, h4⟩
theorem or_nat (x y : Int) (hx : 0 ≤ x ∧ x ≤ 4095) (hy : 0 ≤ y ∧ y ≤ 4095) : bitsV .or .i64 x y = ((x.toNat ||| y.toNat : Nat) : Int) := by
 have p : ((2 ^ 64 : Nat) : Int) = 18446744073709551616 := by decide
 have ex : (BitVec.ofInt 64 x).toNat = x.toNat := by rw [BitVec.toNat_ofInt, Int.emod_eq_of_lt hx.1 (by omega)]
 have ey : (BitVec.ofInt 64 y).toNat = y.toNat := by rw [BitVec.toNat_ofInt, Int.emod_eq_of_lt hy.1 (by omega)]
 have lt : x.toNat ||| y.toNat < 2 ^ 12 := Nat.or_lt_two_pow (by omega) (by omega)
 show IntKind.i64.wrap (BitVec.ofInt 64 x ||| BitVec.ofInt 64 y).toNat = _
 rw [BitVec.toNat_or, ex, ey]
 exact wrap_in .i64 _ (by show (-9223372036854775808 : Int) ≤ _; omega) (by show _ ≤ (9223372036854775807 : Int); omega)
end Go.Proofs.YtbjhcjgniciooaaGreatDoor.E.Kt
