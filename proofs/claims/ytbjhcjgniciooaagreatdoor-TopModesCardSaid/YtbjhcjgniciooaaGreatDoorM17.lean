/- TopModes: a part of the proof, merged. -/
import Derived.Test.YtbjhcjgniciooaaGreatDoorM14
import Derived.Test.YtbjhcjgniciooaaGreatDoorM16
namespace Go.Proofs.YtbjhcjgniciooaaGreatDoor.E.Kt
open Go.Proofs.YtbjhcjgniciooaaGreatDoor.G (TabAt Tab Nd live zN rightN)
set_option linter.unusedVariables false
/-! ### What the functions of scripts, and those that begin worlds, ask and tell -/
def cT : CT := .str 0 ⟨0, 0, 1500⟩
def rkP (e : Nat) : Option Nat := if e == 9 then some 4009 else rkF e
def pFp : List Nat := [90, 1087, 1035, 1003, 1005, 1065, 1009, 3088, 4009, 6009, 88]
def pTm : List Nat := [90, 1087, 1035, 1003, 1005, 1065, 1009, 3088, 4009]
def lowP (K : Con) : Con := { K with gm := if K.dg == 0 then 21000 else 20000, hm := if K.dg == 0 then 110000000 else 100000000 }
def cWs (lo : Nat) : CT := .sl 6009 lo ⟨0, 0, 1500⟩
def pM (id lo : Nat) (ha hb : Nat := 0) : Con := mkC id [.ptr 90 false, cWs lo] [ps [cI]] pFp pTm [] (1, ha, hb)
def k93 : Con := lowP (mkC 93 [.sl 4009 0 ⟨0, 0, 1501⟩, .str 1 ⟨0, 0, 1⟩] [ps [.str 0 ⟨0, 0, 3000000⟩]] [4009] [])
def k29 : Con := lowP (mkC 29 [cT, .fn false (fL [(30, [], [])])] [ps [cWs 0]] [6009] [])
def k95 : Con := lowP (mkC 95 [cWs 0] [ps [.sl 1009 0 ⟨0, 0, 1500⟩]] [6009, 1009] [1009])
def k212p : Con := lowP (mkC 212 [cT] [ps [.sl 4009 0 ⟨0, 0, 1500⟩]] [4009] [])
def cErr : CT := cB 1 9223372036854775807
def cErm : CT := cB (-9223372036854775808) (-1)
def k31 : Con := lowP (mkC 31 [cI, .sl 1087 1 ⟨0, 0, 2000⟩] [ps [.ptr 0 false, cB 0 0, cB 0 0], ps [.ptr 0 true, cB 0 2000, cErr] [⟨-1, [(1, 1), (3, -1)]⟩], ps [.ptr 0 true, cB 0 2000, cErm] [⟨-1, [(1, 1), (3, -1)]⟩]] [0, 1087, 1005, 1125] [0])
def k94p : Con := lowP (mkC 94 [cWs 0] [ps [.sl 1003 0 ⟨0, 0, 1500⟩, .bool]] [6009, 1003] [1003])
def k91 : Con := lowP (mkC 91 [cT] [ps [cI, cI, .bool]] [88] [])
def k90 : Con := lowP (mkC 90 [cT] [ps [.sl 1005 0 ⟨0, 0, 750⟩, .bool]] [1005] [1005])
def k147p : Con := lowP (mkC 147 [cT] [ps [.bool, .sl 4009 0 ⟨0, 0, 1501⟩]] [4009] [4009])
def cRaw : CT := ag [cI, cI, cI, cI, cI, cW0, .sl 1005 0 ⟨0, 0, 1000⟩, cW0, cI]
def k89 : Con := lowP (mkC 89 [.ptr 90 false, cT, cRaw] [ps [cI]] pFp pTm [] (1, 0, 0))
def k49 : Con := lowP (pM 49 1)
def k50 : Con := lowP (pM 50 1)
def k51 : Con := lowP (pM 51 2)
def k52 : Con := lowP (pM 52 3)
def k53 : Con := lowP (pM 53 3)
def k54 : Con := lowP (pM 54 3)
def k55 : Con := lowP (pM 55 2)
def k56 : Con := lowP (pM 56 1)
def k57 : Con := lowP (pM 57 1)
def k58 : Con := lowP (pM 58 0 0 1500)
def cScript (j : CT) (t : CT) : CT := ag [cI, cI, t, j, .sl 1003 0 dH]
def k15 : Con := { mkC 15 [cT] [ps [cScript (.sl 1035 0 ⟨0, 0, 2000⟩) (.sl 1087 1 ⟨0, 0, 2000⟩), cI, cB 0 0], ps [ag [cI, cI, .sl 1087 0 ⟨0, 0, 0⟩, .sl 1035 0 ⟨0, 0, 0⟩, .sl 1003 0 ⟨0, 0, 0⟩], cI, cI]] (0 :: 1125 :: pFp) (0 :: pTm) [] (1700, 0, 2500000) with gm := 100, hm := 1000000 }
def k28p : Con := lowP (mkC 28 [cT, cSep] [ps [.sl 4009 0 ⟨0, 0, 1501⟩]] [4009] [4009])
def cLines : CT := .sl 1065 0 ⟨0, 0, 6⟩
def lowN (K : Con) : Con := { K with gm := 4000, hm := 20000000 }
def k64 : Con := lowN (mkC 64 [cI, cLines] [ps [.ptr 111 false]] [111, 1065, 1009] [111, 1065, 1009])
def k33 : Con := lowN (mkC 33 [.ptr 0 false] [ps [.ptr 0 false]] [0, 1005, 1125] [])
def nFp : List Nat := [0, 88, 59, 61, 65, 69, 105, 115, 111, 1061, 1115, 152, 1065, 1009, 1003, 1004, 1087, 1005, 1125, 2035, 3009]
def nTm : List Nat := [0, 59, 69, 105, 111, 152, 1065, 1009, 1003, 1061, 1115]
def k32 (m : Nat) : Con := lowN (mkC 32 [.ptr 0 false, cI, .sl 2035 m ⟨0, 0, m⟩] [ps [.ptr 59 false]] nFp nTm)
def k16 (m : Nat) : Con := lowN (mkC 16 [cScript (.sl 2035 m ⟨0, 0, m⟩) (.sl 1087 1 ⟨0, 0, 2000⟩)] [ps [.ptr 59 false, cB 0 0], ps [.ptr 59 true, cErr], ps [.ptr 59 true, cErm]] nFp nTm)
def rkN (e : Nat) : Option Nat := if e == 32 then none else rkF e
/-- A table, whatever it was before. -/
def tN (E : Env) (τ : Nat) (w : World) (k : Nat) : Prop := ∃ T, E.A k ∧ TabI E w k T
/-- The kinds, with what is asked of tables before there is a world. -/
def htN : Th := { htT with
 O := tN
 O_st := fun ⟨T, h2, h3⟩ a => ⟨T, h2, h3.st h2 a⟩
 O_ext := fun e ⟨T, h2, h3⟩ => ⟨T, e.A _ h2, h3.ext e.A⟩
 O_ren := fun hA _ _ ⟨T, h2, h3⟩ => ⟨T, by rw [hA]; exact h2, h3.ext (fun i hi => by rw [hA]; exact hi)⟩ }
noncomputable def CTN (rk : Nat → Option Nat) : Cx := cx htN [64, 378, 209] rk
theorem CTN_ok (rk : Nat → Option Nat) : CxOk (CTN rk) := cx_ok htN rk (by decide +kernel)
theorem FTN_ok (rk : Nat → Option Nat) : FxOk (CTN rk) FT0 := fx_ok htN _ rk
/-- A text without the slashes at its end. -/
def handT (F : Fx) : Callee := fun id st args => if (F.fn id).isSome then (match args with
 | [a, .str l] => if Nat.beq id 148 && l == [47] then (match slen a with
   | some n => if st.ge n && st.ge ((Lin.k 4294967280).sub n) then some [(.strv (.v st.nx), st.newI (.k 0) n)] else none
   | none => none) else none
 | _ => none) else none
noncomputable def callNN (rk : Nat → Option Nat) (hs : RHints) (Ks : List Con) : Callee := callN (CTN rk) FT0 (rLp htN hs 60) (orH (handT FT0) (orH (handH FT0) (conH (CTN rk) FT0 Ks))) 12
noncomputable def chkN (rk : Nat → Option Nat) (hs : RHints) (Ks : List Con) (K : Con) (op : Bool) (gr : Nat × Nat × Nat) : Bool := chk (CTN rk) FT0 (callNN rk hs Ks) (rLp htN hs 60 K.id) K op gr
abbrev HldN (K : Con) : Prop := K.Holds (CTN rkF)
theorem str_one {t : ByteArray} {n : Nat} (h : t.data.toList.map UInt8.toNat = [n]) : ∃ c : UInt8, t = ⟨#[c]⟩ ∧ c.toNat = n := by
 obtain ⟨⟨l⟩⟩ := t
 match l, h with
 | [c], h => exact ⟨c, rfl, by simpa using h⟩
theorem trim_le (l : List UInt8) (c : UInt8) : (Lib.trimRightB l c).length ≤ l.length := by
 unfold Lib.trimRightB
 rw [List.length_reverse]
 exact Nat.le_trans (List.dropWhile_sublist _).length_le (by rw [List.length_reverse]; exact Nat.le_refl _)
theorem handT_ok (C : Cx) (hP : C.P = Tryz.prog) {F : Fx} : CallOk C F (handT F) := by
 intro id st args outs ho
 unfold handT at ho
 split at ho
 case isFalse => cases ho
 rename_i hf
 refine ⟨Option.isSome_iff_exists.1 hf, fun E w r vs m hr hv => ?_⟩
 rw [hP]
 split at ho
 case h_2 => cases ho
 rename_i a l
 split at ho
 case isFalse => cases ho
 rename_i hc
 simp only [Bool.and_eq_true, Nat.beq_eq, beq_iff_eq] at hc
 obtain ⟨rfl, rfl⟩ := hc
 split at ho
 case h_2 => cases ho
 rename_i n hn
 split at ho
 case isFalse => cases ho
 rename_i hg
 injection ho with ho; subst ho
 simp only [Bool.and_eq_true] at hg
 obtain ⟨v, r1, e1, h1, u, r2, e2, h2, h3⟩ := hv
 have ev : vs = #[v, u] := by rw [← Array.toArray_toList (xs := vs), e1, e2, show r2 = [] from h3]
 obtain ⟨s, rfl, hs, bn⟩ := slen_ok h1 hn
 obtain ⟨t, rfl, ht⟩ := h2
 obtain ⟨c, rfl, hc⟩ := str_one ht
 have hg2 := m.ge hg.2
 rw [Lin.ev_sub, Lin.ev_k, ← hs] at hg2
 subst ev
 refine (Tryz.strings_TrimRight_one s c (by omega) w (by omega)).mono ?_
 rintro e w' ⟨rfl, rfl⟩
 have hle := trim_le s.data.toList c
 have esz : s.data.toList.length = s.size := by rw [Array.length_toList]; rfl
 have u := Up.newI m ((Lib.trimRightB s.data.toList c).length : Int) (lo := .k 0) (hi := n) (by rw [Lin.ev_k]; omega) (by rw [← hs]; omega) (below_k _ _) bn
 refine ⟨_, List.mem_cons_self .., _, u.ext, u.m, u.ref m hr, ?_⟩
 rw [← m.nx]
 exact ⟨_, rfl, by rw [Lin.ev_v, Env.fr_ρ]; show ((Lib.trimRightB s.data.toList c).toArray.size : Int) = _; simp, below_v (Nat.lt_succ_self _)⟩
theorem chkN_ok {rk : Nat → Option Nat} {hs : RHints} {Ks : List Con} {K : Con} {op : Bool} {gr : Nat × Nat × Nat} (h : chkN rk hs Ks K op gr = true) (hK : ∀ k ∈ Ks, HldN k) : HldN K :=
 chk_ok (C := CTN rk) (CTN_ok rk) (FTN_ok rk) (callN_ok (CTN_ok rk) (FTN_ok rk) (fun id => rLp_ok hs 60 id) (orH_ok (handT_ok (CTN rk) rfl) (orH_ok (handH_ok (CTN rk) rfl) (conH_ok (C := CTN rk) hK))) 12) (rLp_ok hs 60 K.id) h
end Go.Proofs.YtbjhcjgniciooaaGreatDoor.E.Kt
namespace Go.Proofs.YtbjhcjgniciooaaGreatDoor.E.Kt
open Go.Proofs.YtbjhcjgniciooaaGreatDoor.G (TabAt Tab Nd live zN rightN NdC kE ndCells okx Fr WhB WhR ctB ctE)
open Go.RowKit Go.Proofs.YtbjhcjgniciooaaGreatDoorW.PrintWords Go.Proofs.YtbjhcjgniciooaaGreatDoorW.PrintLast Go.Proofs.YtbjhcjgniciooaaGreatDoorW.PrintMore
set_option linter.unusedVariables false
set_option linter.unusedSimpArgs false
/-! ### What scripts call, by hand: words, names, texts that are joined -/
theorem HeapOk.belowG {HT : Th} {E : Env} {w w' : World} {fp : List Nat} (h : HeapOk HT E w fp) (hb : Below w.heap.size w w') : HeapOk HT E w' fp :=
 ⟨fun k τ n hk ht => (h.ok k τ n hk ht).agree (fun _ => hb.block k (h.dom k _ hk).1) (fun i hi => hb.block i (h.an i hi)), fun k t hk => ⟨Nat.lt_of_lt_of_le (h.dom k t hk).1 hb.size, (h.dom k t hk).2⟩, fun k hk => Nat.lt_of_lt_of_le (h.an k hk) hb.size⟩
theorem aft_roG {HT : Th} {K : Con} {E : Env} {w w' : World} (hp : HeapOk HT E w K.fp) (hb : Below w.heap.size w w') (h0 : K.dg = 0 ∧ K.ha = 0 ∧ K.hb = 0) : K.Aft HT E w E w' :=
 ⟨HeapOk.belowG hp hb, fun _ _ h => h, fun _ h => h, fun _ _ => ⟨rfl, fun h => h⟩, fun k τ n h1 h2 => (by rw [h1] at h2; cases h2), by rw [h0.1]; rfl, by rw [h0.2.1, h0.2.2]; simp, rfl, rfl, hb.os, hb.tape, hb.output, hb.size, fun k hk _ _ => hb.block k hk, fun k τ n hk _ => hb.block k (hp.dom k _ hk).1, fun _ k hk => hb.block k (hp.an k hk)⟩
theorem aft_row1G {HT : Th} {K : Con} {E : Env} {w w' : World} {τ e sz c : Nat} {ct : CTs} {A : Option Addr} (hp : HeapOk HT E w K.fp) (hb : Below w.heap.size w w') (hty : HT τ = .row e sz ct)
  (hA : ∀ b, A = some ⟨b, 0, none⟩ → w.heap.size ≤ b ∧ ∃ cur, w'.heap[b]? = some (.cells cur e (0, 0)) ∧ RowL HT E ct sz c cur.toList) (h5 : τ ∈ K.fp) (h0 : K.dg = 0 ∧ K.ha = 0 ∧ K.hb = 0) :
  K.Aft HT E w (Env.row1 E τ A c) w' ∧ Ext { E with N := fun _ => False } { Env.row1 E τ A c with N := fun _ => False } := by
 have old : ∀ k, k < w.heap.size → (Env.row1 E τ A c).S k = E.S k := fun k hk => by
  show (if A = some ⟨k, 0, none⟩ then _ else E.S k) = _
  rw [if_neg (fun e => by have := (hA k e).1; omega)]
 have get : ∀ k t, (Env.row1 E τ A c).S k = some t → (A = some ⟨k, 0, none⟩ ∧ t = (τ, c)) ∨ E.S k = some t := fun k t h => by
  have h : (if A = some ⟨k, 0, none⟩ then some (τ, c) else E.S k) = some t := h
  split at h
  ·rename_i e; injection h with h; exact .inl ⟨e, h.symm⟩
  ·exact .inr h
 have nA : ∀ k, w.heap.size ≤ k → ¬ E.A k := fun k hk hA => by have := hp.an k hA; omega
 have mono : ∀ k t, E.S k = some t → (Env.row1 E τ A c).S k = some t := fun k t h => by rw [old k (hp.dom k t h).1]; exact h
 have x0 : Ext { E with N := fun _ => False } { Env.row1 E τ A c with N := fun _ => False } :=
  ⟨Nat.le_refl _, fun _ _ => rfl, fun _ _ => rfl, fun _ _ => rfl, fun _ _ => rfl, fun k t h => mono k t h, fun _ h => h, fun b hN _ => hN.elim, rfl, rfl, rfl, fun k hk => hk.elim (fun h => h.elim) (fun h => old k (hp.an k h)), Nat.le_refl _, Nat.le_refl _, rfl, rfl⟩
 have opq : (HT τ).isOpq = false := by rw [hty]; rfl
 have up : ∀ {ts n vs}, RowL HT E ts sz n vs → RowL HT (Env.row1 E τ A c) ts sz n vs := fun {ts n vs} h =>
  RowL.iff.2 ⟨(RowL.iff.1 h).1, fun j hj => VTs.core (E := { Env.row1 E τ A c with N := fun _ => False }) (F := Env.row1 E τ A c) ⟨rfl, rfl, rfl, rfl, rfl, rfl⟩ _ (VTs.ext HT x0 _ (VTs.core (E := E) (F := { E with N := fun _ => False }) ⟨rfl, rfl, rfl, rfl, rfl, rfl⟩ _ ((RowL.iff.1 h).2 j hj)))⟩
 refine ⟨⟨⟨fun k υ n hk ht => ?_, fun k t hk => ?_, fun k hk => Nat.lt_of_lt_of_le (hp.an k hk) hb.size⟩, mono, fun _ h => h, fun k hk => ⟨old k hk, fun h => h⟩, fun k υ n h1 h2 => ?_, by rw [h0.1]; rfl, by rw [h0.2.1, h0.2.2]; simp [Env.row1], rfl, rfl, hb.os, hb.tape, hb.output, hb.size, fun k hk _ _ => hb.block k hk, fun k υ n hk _ => hb.block k (hp.dom k _ hk).1, fun _ k hk => hb.block k (hp.an k hk)⟩, x0⟩
 ·rcases get k _ hk with ⟨e, e2⟩ | hk'
  ·injection e2 with e2 e3; subst e2; subst e3
   obtain ⟨_, cur, q1, q2⟩ := hA k e
   exact HOk.row hty q1 (up q2)
  ·have h1 := (HeapOk.belowG hp hb).ok k υ n hk' ht
   have h2 : HOk HT { E with N := fun _ => False } w' k υ n := HOk.core (E := E) (F := { E with N := fun _ => False }) (show Core E { E with N := fun _ => False } from ⟨rfl, rfl, rfl, rfl, rfl, rfl⟩) h1
   exact HOk.core (E := { Env.row1 E τ A c with N := fun _ => False }) (F := Env.row1 E τ A c) (show Core { Env.row1 E τ A c with N := fun _ => False } (Env.row1 E τ A c) from ⟨rfl, rfl, rfl, rfl, rfl, rfl⟩) (h2.ext x0)
 ·rcases get k _ hk with ⟨e, rfl⟩ | hk'
  ·obtain ⟨q0, cur, q1, _⟩ := hA k e
   exact ⟨(Array.getElem?_eq_some_iff.1 q1).1, fun h => absurd h (nA k q0), fun h => by rw [opq] at h; cases h⟩
  ·have := hp.dom k t hk'
   exact ⟨Nat.lt_of_lt_of_le this.1 hb.size, this.2⟩
 ·rcases get k _ h1 with ⟨_, e⟩ | h
  ·injection e with e _; rw [e]; exact h5
  ·rw [h2] at h; cases h
theorem rows_strG {HT : Th} {E : Env} {ct : CT} {l : List ByteArray} (h : ∀ x ∈ l, VT HT E ct (.string x)) : RowL HT E (cL [ct]) 1 l.length (l.map Value.string) := by
 induction l with
 | nil => rfl
 | cons x l ih => exact ⟨[.string x], l.map Value.string, rfl, rfl, ⟨_, [], rfl, h x (List.mem_cons_self ..), rfl⟩, ih fun y hy => h y (List.mem_cons_of_mem _ hy)⟩
theorem names_okN {K : Con} {τ : Nat} {d dr : Bd} (hid : K.id = 212) (harg : K.args = [.str 0 d]) (hfp : τ ∈ K.fp) (h0 : K.dg = 0 ∧ K.ha = 0 ∧ K.hb = 0) (hty : htN τ = .row 9 1 (cL [.str 0 d])) (hq : ps [.sl τ 0 dr] ∈ K.posts) (hd : ∀ g h, d.ev g h ≤ dr.ev g h) (hbig : ∀ g h, g ≤ K.gm → h ≤ K.hm → d.ev g h ≤ 4294967296) : HldN K := by
 intro E w vs pre
 have pa := pre.args
 rw [harg] at pa
 obtain ⟨v, r, e, hv, v2⟩ := pa
 rw [show r = [] from v2] at e
 have ev : vs = #[v] := by rw [← Array.toArray_toList (xs := vs), e]
 obtain ⟨s, rfl, _, hs⟩ := hv
 subst ev
 rw [hid]
 have hbd := hbig E.g E.h pre.g pre.h
 refine (names2 s w (by omega)).mono ?_
 rintro e w' ⟨A, cur, rfl, hA, hg, hc, hb⟩
 obtain ⟨n1, n2⟩ := namesOf_size s
 have row : RowL htN E (cL [.str 0 d]) 1 (G.namesOf s).length cur.toList := by
  rw [hc]; exact rows_strG fun x hx => ⟨x, rfl, Nat.zero_le _, Nat.le_trans (n1 x hx) hs⟩
 obtain ⟨aft, _⟩ := aft_row1G (K := K) (A := some ⟨A, 0, none⟩) (c := (G.namesOf s).length) pre.heap hb hty (fun b hb' => by injection hb' with hb'; injection hb' with hb'; subst hb'; exact ⟨hA, cur, hg, row⟩) hfp h0
 refine ⟨[.slice (some ⟨A, 0, none⟩) (G.namesOf s).length (G.namesOf s).length], _, rfl, aft, _, hq, ⟨_, [], rfl, ⟨_, _, _, rfl, ⟨Nat.zero_le _, ?_⟩, .inr ⟨A, 0, (G.namesOf s).length, by simp, ?_, Nat.le_refl _, by omega, SlX.at0 (Nat.le_refl _)⟩⟩, rfl⟩, fun q hq' => absurd hq' List.not_mem_nil, fun f hf => absurd hf List.not_mem_nil⟩
 ·exact Nat.le_trans n2 (Nat.le_trans hs (hd _ _))
 ·show (if some (⟨A, 0, none⟩ : Addr) = some ⟨A, 0, none⟩ then _ else _) = _
  rw [if_pos rfl]
theorem k212p_ok : HldN k212p := names_okN (τ := 4009) rfl rfl (by decide) ⟨rfl, rfl, rfl⟩ rfl (List.mem_cons_self ..) (fun g h => Nat.le_refl _) (fun g h h1 _ => by simp [Bd.ev])
/-! ### Words -/
theorem spansP_ok (p : Nat → Bool) (s : ByteArray) : ∀ (f pos : Nat) (st : Option Nat) (acc : List (Nat × Nat)), (∀ x ∈ acc, x.1 < x.2 ∧ x.2 ≤ s.size) → (∀ a, st = some a → a < pos ∧ a < s.size) →
  (∀ x ∈ (Lib.spansFromP p s f pos st acc).1, x.1 < x.2 ∧ x.2 ≤ s.size) ∧ (∀ a, (Lib.spansFromP p s f pos st acc).2 = some a → a < s.size) ∧
  (Lib.spansFromP p s f pos st acc).1.length + (Lib.spansFromP p s f pos st acc).2.toList.length ≤ acc.length + st.toList.length + f
 | 0, pos, st, acc, h1, h2 => ⟨h1, fun a ha => (h2 a ha).2, Nat.le_refl _⟩
 | f + 1, pos, st, acc, h1, h2 => by
  unfold Lib.spansFromP
  split
  ·rename_i hp
   have hw := Lib.decode_width_pos s pos hp
   split
   ·cases st with
    | some a =>
     have ha := h2 a rfl
     have := spansP_ok p s f (pos + (Utf8.decode s pos).2) none (acc ++ [(a, pos)]) (fun x hx => by
      rcases List.mem_append.1 hx with hx | hx
      ·exact h1 x hx
      ·rw [List.mem_singleton.1 hx]; exact ⟨ha.1, Nat.le_of_lt hp⟩) (fun a ha => by cases ha)
     refine ⟨this.1, this.2.1, Nat.le_trans this.2.2 ?_⟩
     simp
    | none =>
     have := spansP_ok p s f (pos + (Utf8.decode s pos).2) none acc h1 (fun a ha => by cases ha)
     exact ⟨this.1, this.2.1, Nat.le_trans this.2.2 (by simp)⟩
   ·cases st with
    | some a =>
     have ha := h2 a rfl
     have := spansP_ok p s f (pos + (Utf8.decode s pos).2) (some a) acc h1 (fun b hb => by injection hb with hb; subst hb; omega)
     exact ⟨this.1, this.2.1, Nat.le_trans this.2.2 (by simp)⟩
    | none =>
     have := spansP_ok p s f (pos + (Utf8.decode s pos).2) (some pos) acc h1 (fun b hb => by injection hb with hb; subst hb; omega)
     refine ⟨this.1, this.2.1, Nat.le_trans this.2.2 ?_⟩
     simp; omega
  ·exact ⟨h1, fun a ha => (h2 a ha).2, by simp only; omega⟩
theorem fieldsP_ok (p : Nat → Bool) (s : ByteArray) : (∀ x ∈ Lib.goFieldsP p s, 1 ≤ x.size ∧ x.size ≤ s.size) ∧ (Lib.goFieldsP p s).length ≤ s.size := by
 have h := spansP_ok p s s.size 0 none [] (fun x hx => absurd hx List.not_mem_nil) (fun a ha => by cases ha)
 unfold Lib.goFieldsP Lib.spansOfP Lib.closeSpans
 generalize Lib.spansFromP p s s.size 0 none [] = q at h
 obtain ⟨h1, h2, h3⟩ := h
 have h3 : q.1.length + q.2.toList.length ≤ s.size := by simpa using h3
 have key : ∀ x : Nat × Nat, x.1 < x.2 → x.2 ≤ s.size → 1 ≤ (s.extract x.1 x.2).size ∧ (s.extract x.1 x.2).size ≤ s.size := fun x a b => by
  have : (s.extract x.1 x.2).size = x.2 - x.1 := by rw [ByteArray.size_extract]; omega
  omega
 cases hq : q.2 with
 | none =>
  simp only [hq] at h3 ⊢
  refine ⟨fun x hx => ?_, by simpa using h3⟩
  obtain ⟨y, hy, rfl⟩ := List.mem_map.1 hx
  exact key y (h1 y hy).1 (h1 y hy).2
 | some a =>
  simp only [hq] at h3 ⊢
  refine ⟨fun x hx => ?_, by simpa using h3⟩
  obtain ⟨y, hy, rfl⟩ := List.mem_map.1 hx
  rcases List.mem_append.1 hy with hy | hy
  ·exact key y (h1 y hy).1 (h1 y hy).2
  ·rw [List.mem_singleton.1 hy]; exact key (a, s.size) (h2 a hq) (Nat.le_refl _)
set_option maxHeartbeats 1600000 in
set_option maxRecDepth 100000 in
theorem space_pred (w : World) : PredAtRunes Tryz.prog 30 #[] (fun r => r == 32) w := by
 intro W x hx hb
 show Calls Tryz.prog 30 #[.int .i32 (x : Int)] W _
 have hd : ((x : Int) == 32) = (x == 32) := by rw [Bool.eq_iff_iff]; simp; omega
 go_enter Tryz.func30, Tryz.ntmps30
 go_wp2
 go_ret
 exact ⟨rfl, 0, rfl⟩
theorem k29_ok : HldN k29 := by
 intro E w vs pre
 obtain ⟨v, r, e, hv, u, r2, e2, hu, hn⟩ := pre.args
 have ev : vs = #[v, u] := by rw [← Array.toArray_toList (xs := vs), e, e2, show r2 = [] from hn]
 obtain ⟨s, rfl, _, hs⟩ := hv
 have hs : s.size ≤ 1500 := by simpa [Bd.ev] using hs
 have hu : u = .func (.func 30) #[] #[] := by
  rcases hu with ⟨h, _⟩ | hu
  ·cases h
  ·rcases hu with ⟨x, y, rfl, h1, h2⟩ | hu
   ·rw [show x = #[] from by rw [← Array.toArray_toList (xs := x), show x.toList = [] from h1], show y = #[] from by rw [← Array.toArray_toList (xs := y), show y.toList = [] from h2]]
   ·exact hu.elim
 subst hu; subst ev
 refine (Tryz.strings_FieldsFunc_runes 30 #[] (enters_of Tryz.func30 (by kernel_rfl) rfl) (fun r => r == 32) s w (by omega) (space_pred w)).mono ?_
 rintro e w' ⟨A, rfl, hA, ho, hb⟩
 obtain ⟨n1, n2⟩ := fieldsP_ok (fun r => r == 32) s
 generalize Lib.goFieldsP (fun r => r == 32) s = l at ho n1 n2
 rcases ho.2 with ⟨h, _⟩ | ⟨g, cap, cur, hv, _, hg, _, _, hz, ht⟩
 ·cases h
 injection hv with h1 _ h3
 injection h1 with h1; injection h1 with h1
 subst h1
 have hc : cur.toList = l.map Value.string := by
  rw [← ht, List.take_of_length_le]
  rw [Array.length_toList, hz, h3]; simp
 have row : RowL htN E (cL [.str 1 ⟨0, 0, 1500⟩]) 1 l.length cur.toList := by
  rw [hc]; exact rows_strG fun x hx => ⟨x, rfl, (n1 x hx).1, by have := (n1 x hx).2; simp [Bd.ev]; omega⟩
 obtain ⟨aft, _⟩ := aft_row1G (K := k29) (A := some ⟨A, 0, none⟩) (c := l.length) pre.heap hb (show htN 6009 = .row 9 1 (cL [.str 1 ⟨0, 0, 1500⟩]) from rfl) (fun b hb' => by injection hb' with hb'; injection hb' with hb'; subst hb'; exact ⟨hA, cur, hg, row⟩) (by decide) ⟨rfl, rfl, rfl⟩
 refine ⟨[.slice (some ⟨A, 0, none⟩) l.length l.length], _, rfl, aft, _, List.mem_cons_self .., ⟨_, [], rfl, ⟨_, _, _, rfl, ⟨Nat.zero_le _, by simp [Bd.ev]; omega⟩, .inr ⟨A, 0, l.length, by simp, ?_, Nat.le_refl _, by omega, SlX.at0 (Nat.le_refl _)⟩⟩, rfl⟩, fun q hq' => absurd hq' List.not_mem_nil, fun f hf => absurd hf List.not_mem_nil⟩
 show (if some (⟨A, 0, none⟩ : Addr) = some ⟨A, 0, none⟩ then _ else _) = _
 rw [if_pos rfl]
/-! ### strings.Join, by hand -/
theorem row_strs {HT : Th} {E : Env} {w : World} {fp : List Nat} {τ b j len m lo : Nat} {d : Bd} (hp : HeapOk HT E w fp) (hτ : τ ∈ fp) (hty : HT τ = .row 9 1 (cL [.str lo d])) (hs : E.S b = some (τ, len)) (h : j + m ≤ len) :
  ∃ xs : List ByteArray, xs.length = m ∧ (∀ x ∈ xs, x.size ≤ d.ev E.g E.h) ∧ ∀ q x, xs[q]? = some x → w.cell? ⟨b, j + q, none⟩ = some (.string x) := by
 have hk := hp.ok b τ len hs hτ
 unfold HOk at hk
 rw [hty] at hk
 obtain ⟨arr, ha, hl, hv⟩ := hk
 have key : ∀ q, q < m → ∃ s : ByteArray, arr.toList[j + q]? = some (.string s) ∧ s.size ≤ d.ev E.g E.h := fun q hq => by
  obtain ⟨v, r, e, ⟨s, rfl, _, h2⟩, _⟩ := hv (j + q) (by omega)
  refine ⟨s, ?_, h2⟩
  have := congrArg (·[0]?) e
  simpa using this
 have : ∃ f : Nat → ByteArray, ∀ q, q < m → arr.toList[j + q]? = some (.string (f q)) ∧ (f q).size ≤ d.ev E.g E.h :=
  ⟨fun q => if h : q < m then Classical.choose (key q h) else ByteArray.empty, fun q hq => by dsimp only; rw [dif_pos hq]; exact Classical.choose_spec (key q hq)⟩
 obtain ⟨f, hf⟩ := this
 refine ⟨(List.range m).map f, by simp, fun x hx => ?_, fun q x hx => ?_⟩
 ·obtain ⟨q, hq, rfl⟩ := List.mem_map.1 hx
  exact (hf q (List.mem_range.1 hq)).2
 ·have hq : q < m := by
   have := (List.getElem?_eq_some_iff.1 hx).1
   simpa using this
  have hx : f q = x := by simpa [hq] using hx
  subst hx
  rw [cell_of ha, ← Array.getElem?_toList]
  exact (hf q hq).1
theorem joinTail_le {B : Nat} (sep : List UInt8) (hs : sep.length ≤ 1) : ∀ l : List (List UInt8), (∀ x ∈ l, x.length ≤ B) → (Lib.joinTail sep l).length ≤ l.length * (B + 1)
 | [], _ => by simp [Lib.joinTail]
 | x :: l, h => by
  have h1 := h x (List.mem_cons_self ..)
  have h2 := joinTail_le sep hs l (fun y hy => h y (List.mem_cons_of_mem _ hy))
  unfold Lib.joinTail at h2 ⊢
  simp only [List.map_cons, List.flatten_cons, List.length_append, List.length_cons]
  rw [Nat.add_mul, Nat.one_mul]
  omega
theorem join_le {B : Nat} (sep : List UInt8) (hs : sep.length ≤ 1) (l : List (List UInt8)) (h : ∀ x ∈ l, x.length ≤ B) : (Lib.join l sep).length ≤ l.length * (B + 1) := by
 cases l with
 | nil => simp [Lib.join_nil]
 | cons x l =>
  have h1 := h x (List.mem_cons_self ..)
  have h2 := joinTail_le sep hs l (fun y hy => h y (List.mem_cons_of_mem _ hy))
  rw [Lib.join_cons, List.length_append, List.length_cons, Nat.add_mul, Nat.one_mul]
  omega
theorem k93_ok : HldN k93 := by
 intro E w vs pre
 obtain ⟨v, r, e, hv, u, r2, e2, hu, hn⟩ := pre.args
 have ev : vs = #[v, u] := by rw [← Array.toArray_toList (xs := vs), e, e2, show r2 = [] from hn]
 obtain ⟨ad, m, c, rfl, ⟨_, hm⟩, so⟩ := hv
 obtain ⟨t, rfl, _, ht⟩ := hu
 have hm : m ≤ 1501 := by simpa [Bd.ev] using hm
 have ht : t.size ≤ 1 := by simpa [Bd.ev] using ht
 subst ev
 have fin : ∀ (L : List Value) (s : ByteArray) (w' : World), s.size ≤ 3000000 → Below w.heap.size w w' → ∃ rs E', Ending.returned (.string s) = .returned (retW rs) ∧ k93.Aft htN E w E' w' ∧ ∃ q ∈ k93.posts, VTl htN E' q.res rs ∧ relOk q.rel (leavesV (L ++ rs)) ∧ ∀ f ∈ q.facts, htN.F E' f.1 w' (pickV (leavesV (L ++ rs)) f.2) := fun L s w' h1 hb =>
  ⟨[.string s], E, rfl, aft_roG pre.heap hb ⟨rfl, rfl, rfl⟩, _, List.mem_cons_self .., ⟨_, [], rfl, ⟨s, rfl, Nat.zero_le _, by simpa [Bd.ev] using h1⟩, rfl⟩, fun q hq' => absurd hq' List.not_mem_nil, fun f hf => absurd hf List.not_mem_nil⟩
 by_cases h0 : m = 0
 ·subst h0
  refine (Tryz.strings_Join_none ad c t w).mono ?_
  rintro e w' ⟨rfl, rfl⟩
  exact fin _ ⟨#[]⟩ w' (Nat.zero_le _) (Below.refl _ _)
 ·rcases so with ⟨_, h, _⟩ | ⟨b, j, len, rfl, hs, h1, h2⟩
  ·exact absurd h h0
  ·obtain ⟨xs, hl, hx, hc⟩ := row_strs pre.heap (show 4009 ∈ k93.fp by decide) (show htN 4009 = .row 9 1 (cL [.str 0 ⟨0, 0, 1500⟩]) from rfl) hs h2.1
   subst hl
   have hjl : (Lib.join (xs.map (·.data.toList)) t.data.toList).length ≤ 1501 * 1501 := by
    refine Nat.le_trans (join_le (B := 1500) _ (by rw [Array.length_toList]; exact ht) _ (fun x hx' => ?_)) ?_
    ·obtain ⟨y, hy, rfl⟩ := List.mem_map.1 hx'
     have := hx y hy
     rw [Array.length_toList]
     have : y.size ≤ 1500 := by simpa [Bd.ev] using this
     exact this
    ·rw [List.length_map]
     exact Nat.mul_le_mul hm (Nat.le_refl _)
   have esz : j * ((CTN rkF).HT.ty 4009).size = j := Nat.mul_one j
   rw [esz] at *
   refine (Tryz.strings_Join b j c xs t w hc (pre.heap.dom b _ hs).1 (by omega) h1 (by omega)).mono ?_
   rintro e w' ⟨rfl, hb⟩
   exact fin _ ⟨(Lib.join (xs.map (·.data.toList)) t.data.toList).toArray⟩ w' (by show Array.size _ ≤ _; rw [List.size_toArray]; omega) hb
end Go.Proofs.YtbjhcjgniciooaaGreatDoor.E.Kt
namespace Go.Proofs.YtbjhcjgniciooaaGreatDoor.G
open Go.RowKit Go.Proofs.YtbjhcjgniciooaaGreatDoorW.PrintWords Go.Proofs.YtbjhcjgniciooaaGreatDoorW.PrintLast Go.Proofs.YtbjhcjgniciooaaGreatDoorW.PrintMore
attribute [local go_sem] max2_int min2_int max_two min_two
set_option linter.unusedVariables false
set_option linter.unusedSimpArgs false
/-- r is the first place of l where p holds; -1: there is none. -/
def IdxIs (p : Ent → Bool) (l : List Ent) (r : Int) : Prop := (∃ k : Nat, k < l.length ∧ r = (k : Int) ∧ p (l.getD k zE) = true ∧ ∀ j, j < k → p (l.getD j zE) = false) ∨ (r = -1 ∧ ∀ j, j < l.length → p (l.getD j zE) = false)
theorem IdxIs.rng {p : Ent → Bool} {l : List Ent} {r : Int} (h : IdxIs p l r) : -1 ≤ r ∧ r < l.length ∧ r ≤ l.length := by
 rcases h with ⟨k, hk, rfl, _⟩ | ⟨rfl, _⟩ <;> omega
def IdxQ (p : Ent → Bool) (l : List Ent) (w : World) (e : Ending) (w' : World) : Prop := ∃ r, e = .returned (.int .i64 r) ∧ IdxIs p l r ∧ Below w.heap.size w w'
set_option maxHeartbeats 1600000 in
set_option maxRecDepth 100000 in
theorem IndexE.calls (A : Option Addr) (c : Nat) (l : List Ent) (ok : Nat → Prop) (F : Nat) (caps : Array Value) (p : Ent → Bool) (J : World → Prop) (w : World) (eg : ∀ args w, (callFunc F args).run Tryz.prog w = .ok (.enter F args) w)
  (hJ : ∀ W W', J W → Below W.heap.size W W' → J W') (hp : ∀ W e, J W → Calls Tryz.prog F (#[.agg #[.string e.name, .int .i64 e.node]] ++ caps) W fun r w' => r = .returned (.bool (p e)) ∧ Below W.heap.size W w')
  (h : Kd.F kE w ok A l.length l) (hc : l.length ≤ c) (hl : l.length ≤ 1000) (hj : J w) :
  Calls Tryz.prog 164 #[.slice A l.length c, .func (.func F) #[] caps] w (IdxQ p l w) := by
 have HJ := Aside0.mk hJ
 have HP := Aside0.mk hp
 have HF := Aside0.mk h
 have J0 := Aside0.mk hj
 have hl2 : (l.length : Int) ≤ 1000 := by omega
 clear hJ hp h hj
 go_enter Tryz.func164, Tryz.ntmps164
 go_wp2
 go_loopg [8] l.length (fun gk i8 wr => ∃ k : Nat, k ≤ l.length ∧ i8 = .int .i64 k ∧ l.length ≤ k + gk ∧ Below w.heap.size w wr ∧ J wr ∧ ∀ j, j < k → p (l.getD j zE) = false)
 case atStart => exact ⟨0, Nat.zero_le _, rfl, by omega, Below.refl _ _, J0.out, fun j hj => absurd hj (Nat.not_lt_zero _)⟩
 case round =>
  obtain ⟨k, hk, rfl, hgk, hb, hj, hn⟩ := hrel
  have BR := Aside0.mk hb
  have JR := Aside0.mk hj
  have HN := Aside0.mk hn
  have HK := Aside0.mk hgk
  clear hgk hb hj hn
  by_cases hlt : k < l.length
  ·obtain ⟨g', rfl⟩ : ∃ g', gk = g' + 1 := ⟨gk - 1, by have := HK.out; omega⟩
   obtain ⟨ad, rfl, p0, p1, _⟩ := kE_at (Kd.F_now (F_now_at HF.out BR.out)) k hlt
   obtain ⟨e, he⟩ : ∃ e, l.getD k zE = e := ⟨_, rfl⟩
   rw [he] at p0 p1
   have HE := Aside0.mk he
   clear he
   cases hq : p e with
   | true =>
    have HQ := Aside0.mk hq
    clear hq
    go_wp2_with fail
    refine (HP.out _ e JR.out).mono ?_
    rw [HQ.out]
    rintro e2 w5 ⟨rfl, hb⟩
    have HB := Aside0.mk (below_step BR.out hb)
    clear hb
    dsimp only
    go_wp2
    go_ret
    unfold IdxQ
    exact ⟨k, rfl, .inl ⟨k, hlt, rfl, by rw [HE.out]; exact HQ.out, HN.out⟩, HB.out⟩
   | false =>
    have HQ := Aside0.mk hq
    clear hq
    go_wp2_with fail
    refine (HP.out _ e JR.out).mono ?_
    rw [HQ.out]
    rintro e2 w5 ⟨rfl, hb⟩
    have HB := Aside0.mk (below_step BR.out hb)
    have J5 := Aside0.mk (HJ.out _ _ JR.out hb)
    clear hb
    dsimp only
    go_wp2
    go_roundg g'
    case measure => have := HK.out; omega
    case rel => exact ⟨k + 1, by omega, by go_num, by have := HK.out; omega, HB.out, J5.out, fun j hj => by
     by_cases hjk : j = k
     ·rw [hjk, HE.out]; exact HQ.out
     ·exact HN.out j (by omega)⟩
  ·have hk2 : k = l.length := by omega
   subst hk2
   go_wp2
   go_ret
   unfold IdxQ
   exact ⟨-1, rfl, .inr ⟨rfl, HN.out⟩, BR.out⟩
def NmJ (c : Nat) (nm : ByteArray) (W : World) : Prop := W.heap[c]? = some (.cells #[.string nm] 9 (0, 0))
theorem NmJ.below {c : Nat} {nm : ByteArray} : ∀ W W', NmJ c nm W → Below W.heap.size W W' → NmJ c nm W' := fun _ _ h k => blk_below h k
def eqP (nm : ByteArray) (e : Ent) : Bool := e.name.toList == nm.toList
def gtP (nm : ByteArray) (e : Ent) : Bool := !(Op.bytesLess e.name.toList nm.toList || e.name.toList == nm.toList)
theorem place1 (c : Nat) (nm : ByteArray) (W : World) (e : Ent) (h : NmJ c nm W) : Calls Tryz.prog 227 (#[.agg #[.string e.name, .int .i64 e.node]] ++ #[.pointer (some ⟨c, 0, none⟩)]) W fun r w' => r = .returned (.bool (eqP nm e)) ∧ Below W.heap.size W w' := by
 have c0 := fun o => blk_cell (blk_alloc h o) 0
 unfold eqP
 show Calls Tryz.prog 227 #[.agg #[.string e.name, .int .i64 e.node], .pointer (some ⟨c, 0, none⟩)] W _
 cases hq : (e.name.toList == nm.toList) with
 | true =>
  have hq2 : e.name.toList = nm.toList := beq_iff_eq.1 hq
  clear h
  go_enter Tryz.func227, Tryz.ntmps227
  go_wp2
  go_ret
  exact ⟨by simp [*], below_alloc (Below.refl _ _) _⟩
 | false =>
  have hq2 : ¬ e.name.toList = nm.toList := beq_eq_false_iff_ne.1 hq
  clear h
  go_enter Tryz.func227, Tryz.ntmps227
  go_wp2
  go_ret
  exact ⟨by simp [*], below_alloc (Below.refl _ _) _⟩
theorem run_gtr_str {P : Program} (t : TypeId) (a b : ByteArray) (W : World) : (binOp .gtr t (.string a) (.string b)).run P W = .ok (.bool (!(Op.bytesLess a.toList b.toList || a.toList == b.toList))) W := rfl
theorem with1 (c : Nat) (nm : ByteArray) (W : World) (e : Ent) (h : NmJ c nm W) : Calls Tryz.prog 165 (#[.agg #[.string e.name, .int .i64 e.node]] ++ #[.pointer (some ⟨c, 0, none⟩)]) W fun r w' => r = .returned (.bool (gtP nm e)) ∧ Below W.heap.size W w' := by
 have c0 := fun o => blk_cell (blk_alloc h o) 0
 have sg := fun W => run_gtr_str (P := Tryz.prog) 9 e.name nm W
 unfold gtP
 show Calls Tryz.prog 165 #[.agg #[.string e.name, .int .i64 e.node], .pointer (some ⟨c, 0, none⟩)] W _
 generalize (!(Op.bytesLess e.name.toList nm.toList || e.name.toList == nm.toList)) = b at sg ⊢
 clear h
 go_enter Tryz.func165, Tryz.ntmps165
 go_wp2
 go_ret
 exact ⟨rfl, below_alloc (Below.refl _ _) _⟩
set_option maxHeartbeats 1600000 in
set_option maxRecDepth 100000 in
theorem place.calls (x : Nd) (A4 : Option Addr) (c4 : Nat) (A5 : Option Addr) (c5 : Nat) (ok : Nat → Prop) (nm : ByteArray) (w : World) (h : NdC w ok x A4 c4 A5 c5) (b5 : x.ents.length ≤ 1000) :
  Calls Tryz.prog 163 #[.agg (ndCells x A4 c4 A5 c5), .string nm] w (IdxQ (eqP nm) x.ents w) := by
 have hmf : ∀ (fn : Fn) (first cap : Array Value) (w : World), (Instr.makeFunc fn first cap).run Tryz.prog w = .ok (.func fn first cap) w := fun _ _ _ _ => rfl
 have HN := Aside0.mk h
 have B5 := Aside0.mk b5
 have HB := Aside0.mk (below_alloc (below_alloc (Below.refl w.heap.size w) (.cells (ndCells x A4 c4 A5 c5) 44)) (.cells #[.string nm] 9))
 have hj := blk_new (w.alloc (.cells (ndCells x A4 c4 A5 c5) 44)) (.cells #[.string nm] 9)
 rw [World.size_alloc] at hj
 have HJ := Aside0.mk hj
 clear h b5 hj
 unfold ndCells at *
 go_enter Tryz.func163, Tryz.ntmps163
 go_wp2_with fail
 refine (IndexE.calls A5 c5 x.ents ok 227 #[.pointer (some ⟨w.heap.size + 1, 0, none⟩)] (eqP nm) (NmJ (w.heap.size + 1) nm) _ (enters Tryz.func227 (by kernel_rfl) rfl) NmJ.below (fun W e h => place1 _ nm W e h) (F_now_at HN.out.f5 HB.out) HN.out.l5 B5.out HJ.out).mono ?_
 rintro e w1 ⟨r, rfl, hr, hb⟩
 have HR := Aside0.mk hr
 have HB1 := Aside0.mk (below_step HB.out hb)
 clear hr hb
 dsimp only
 go_wp2
 go_ret
 unfold IdxQ
 exact ⟨r, rfl, HR.out, HB1.out⟩
theorem run_copy_rows {P : Program} (w : World) (dT sT ty elem : TypeId) (size g o dLen dCap sLen sCap m : Nat) (A : Option Addr) (cur : Array Value) (t : TypeId) (cs : List Value)
  (hu : P.underlying dT = some (.slice elem)) (hs : (P.info? elem).map (·.size) = some size) (hg : w.heap[g]? = some (.cells cur t (0, 0))) (hm : Nat.min sLen dLen = m)
  (hl : (Builtin.firstCells size m (.slice A sLen sCap)).run P w = .ok cs.toArray w) (hfit : o + cs.length ≤ cur.size) (h1 : ∀ v ∈ cs, v.oneCell' = true) :
  (Builtin.copy_ #[dT, sT] ty #[.slice (some ⟨g, o, none⟩) dLen dCap, .slice A sLen sCap]).run P w = .ok (goInt m) (w.setRow g (cur.toList.take o ++ cs ++ cur.toList.drop (o + cs.length)).toArray) := by
 have hst := run_storeCells_at P g o t cs 0 cur w hg (by simpa using hfit) h1
 cases hq : P.info? elem with
 | none => simp [hq] at hs
 | some i =>
  have hi : i.size = size := by simpa [hq] using hs
  simp [Builtin.copy_, run_underlying hu, Builtin.lenOf, sizeOf, typeInfo, hq, hi, hm, hl, hst]
/-- The first elements of a row of entries, copied to a new row. -/
theorem copyE (W : World) (g at_ cap c base : Nat) (A : Option Addr) (xs : List Ent) (cur : Array Value) (ok : Nat → Prop) (hb : W.heap[g]? = some (.cells cur 125 (0, 0))) (hc : cur.size = cap * 2) (hle : at_ ≤ cap) (hmax : cap ≤ maxLen)
  (hx : Kd.C kE W A xs.length xs) (hat : at_ ≤ xs.length) (hg : base ≤ g) (hok : ok g) :
  ∃ W2, (∀ ty, (Builtin.copy_ #[42, 42] ty #[.slice (some ⟨g, 0, none⟩) at_ cap, .slice A xs.length c]).run Tryz.prog W = .ok (goInt at_) W2) ∧ Kd.R kE 125 W2 base ok (.slice (some ⟨g, 0, none⟩) at_ cap) (xs.take at_) ∧ Fr (· = g) W W2 := by
 obtain ⟨news, hnr, hl⟩ : ∃ news, Reps (kE.K W) 2 (xs.take at_) news ∧ (Builtin.firstCells 2 at_ (.slice A xs.length c)).run Tryz.prog W = .ok news.toArray W := by
  have ht := Kd.C_take hx hat
  cases A with
  | none =>
   have e0 : xs = [] := by
    cases xs with
    | nil => rfl
    | cons x l => obtain ⟨_, h, _⟩ := hx.2.2 (by simp); cases h
   subst e0
   exact ⟨[], by simpa using Reps.none _ _, run_firstCells_none (P := Tryz.prog) (w := W) ..⟩
  | some ad =>
   obtain ⟨news, hnr, hnc⟩ := ReadsRow.inner_ ht
   have hl : news.length = at_ * 2 := by
    have := hnr.1
    rw [List.length_take, Nat.min_eq_left hat] at this
    exact this
   exact ⟨news, hnr, run_firstCells_some (P := Tryz.prog) (w := W) (hl := hl) (h := hnc) ..⟩
 have hlen : news.length = at_ * 2 := by
  have := hnr.1
  rwa [List.length_take, Nat.min_eq_left hat] at this
 have hone : ∀ v ∈ news, v.oneCell' = true := fun v hv => by
  obtain ⟨q, hq, rfl⟩ := List.mem_iff_getElem.1 hv
  have hj : q / 2 < (xs.take at_).length := by rw [List.length_take]; omega
  have hk := kE.K_one (hnr.2 (q / 2) _ (List.getElem?_eq_getElem hj))
  refine hk _ (List.mem_iff_getElem?.2 ⟨q % 2, ?_⟩)
  rw [List.getElem?_take, if_pos (Nat.mod_lt _ (by decide)), List.getElem?_drop, show q / 2 * 2 + q % 2 = q by omega, List.getElem?_eq_getElem hq]
 have h2 : (cur.toList.take 0 ++ news ++ cur.toList.drop (0 + news.length)).toArray.size = cap * 2 := by simp; omega
 refine ⟨_, fun ty => run_copy_rows W 42 42 ty 125 2 g 0 at_ cap xs.length c at_ A cur 125 news Tryz.underlying42 (by kernel_rfl) hb (Nat.min_eq_right hat) hl (by omega) hone, ⟨fun k hk => ?_, news, ⟨?_, .inr ⟨g, cap, _, ?_, hg, setRow_heap W g cur _ 125 (0, 0) hb, by rw [List.length_take]; omega, hmax, h2, ?_⟩⟩, ?_⟩, ⟨rfl, rfl, rfl, by simp, fun k hk hn => setRow_other W g k _ hn⟩⟩
 ·have : g = k := by simpa [Value.ownBlock] using hk
  exact this ▸ hok
 ·rw [List.length_take, Nat.min_eq_left hat]; exact hlen
 ·rw [List.length_take, Nat.min_eq_left hat]
 ·rw [List.length_take, Nat.min_eq_left hat]
  show List.take (at_ * 2) _ = _
  simp [← hlen]
 ·exact hnr
/-- xs[m:]. -/
theorem cutK {α : Type} (d : Kd α) (t e : TypeId) (ht : Tryz.prog.underlying t = some (.slice e)) (hs : (Tryz.prog.info? e).map (·.size) = some d.sz) (A : Option Addr) (c : Nat) (xs : List α) (m : Nat) (hm : m ≤ xs.length) (hc : xs.length ≤ c) :
  ∃ A', (∀ W, (Instr.slice t (.slice A xs.length c) (some (.int .i64 (m : Int))) none none).run Tryz.prog W = .ok (.slice A' (xs.drop m).length (c - m)) W) ∧ ∀ W ok, Kd.F d W ok A xs.length xs → Kd.F d W ok A' (xs.drop m).length (xs.drop m) := by
 refine ⟨if c = m then A else A.map (·.add (m * d.sz)), fun W => ?_, fun W ok h => Kd.F_cut h hm hc⟩
 have hel : Tryz.prog.elem t = e := by simp [Program.elem, ht]
 rw [run_slice_l W t A xs.length c (by rw [hel]; exact ht) .i64 m (by omega) (by omega), hel]
 cases hq : Tryz.prog.info? e with
 | none => simp [hq] at hs
 | some i =>
  have hi : i.size = d.sz := by simpa [hq] using hs
  simp [sizeOf, typeInfo, hq, hi, sliced, Result.andThen]
theorem run_mkE (W : World) (l c : Int) (h0 : 0 ≤ l) (hlc : l ≤ c) (h : c ≤ 100000) : (Instr.makeSlice 42 (.int .i64 l) (.int .i64 c)).run Tryz.prog W = .ok (.slice (some ⟨W.heap.size, 0, none⟩) l.toNat c.toNat) (W.alloc (.cells (madeCells #[.string ByteArray.empty, .int .i64 0] (c.toNat * 2)) 125)) := by
 have hi := info125c
 cases hq : Tryz.prog.info? 125 with
 | none => rw [hq] at hi; simp at hi
 | some i =>
  rw [hq] at hi
  simp only [Option.map_some, Option.some.injEq, Prod.mk.injEq] at hi
  have := run_make (P := Tryz.prog) W 42 125 i _ Tryz.underlying42 hq hi.1 .i64 .i64 l c h0 hlc (by rw [hi.2.2]; omega) (by omega)
  rw [hi.2.1] at this
  exact this
def WithQ (x : Nd) (l : List Ent) (w : World) (e : Ending) (w' : World) : Prop := ∃ A4 c4 A5 c5, e = .returned (.agg (ndCells { x with ents := l } A4 c4 A5 c5)) ∧ NdC w' (fun k => w.heap.size ≤ k) { x with ents := l } A4 c4 A5 c5 ∧ Below w.heap.size w w'
set_option maxHeartbeats 4000000 in
set_option maxRecDepth 100000 in
theorem with.calls (x : Nd) (A4 : Option Addr) (c4 : Nat) (A5 : Option Addr) (c5 : Nat) (ok : Nat → Prop) (at_ from_ : Nat) (more : List Ent) (Am : Option Addr) (cm : Nat) (w : World) (h : NdC w ok x A4 c4 A5 c5) (b4 : x.data.length ≤ 1000) (b5 : x.ents.length ≤ 1000)
  (ha : at_ ≤ x.ents.length) (hf : from_ ≤ x.ents.length) (hm : Kd.F kE w ok Am more.length more) (bm : more.length ≤ 1000) :
  Calls Tryz.prog 166 #[.agg (ndCells x A4 c4 A5 c5), .int .i64 at_, .int .i64 from_, .slice Am more.length cm] w (WithQ x (x.ents.take at_ ++ more ++ x.ents.drop from_) w) := by
 obtain ⟨l4, f4, l5, f5⟩ := h
 have hmk : ∀ W, (Instr.makeSlice 42 (.int .i64 at_) (.int .i64 (x.ents.length + 1))).run Tryz.prog W = .ok (.slice (some ⟨W.heap.size, 0, none⟩) at_ (x.ents.length + 1)) (W.alloc (.cells (madeCells #[.string ByteArray.empty, .int .i64 0] ((x.ents.length + 1) * 2)) 125)) := fun W => run_mkE W at_ (x.ents.length + 1) (by omega) (by omega) (by omega)
 have hlb : (x.ents.length : Int) ≤ 1000 := by omega
 have hbl := below_alloc (below_alloc (Below.refl w.heap.size w) (.cells (ndCells x A4 c4 A5 c5) 44)) (.cells #[.int .i64 0, .int .i64 0, .int .i64 0, .int .i64 0, .slice none 0 0, .slice none 0 0, .string ⟨#[]⟩] 44)
 have hbm := below_alloc hbl (.cells (madeCells #[.string ByteArray.empty, .int .i64 0] ((x.ents.length + 1) * 2)) 125)
 have hb0 := blk_alloc (blk_alloc (blk_new w (.cells (ndCells x A4 c4 A5 c5) 44)) (.cells #[.int .i64 0, .int .i64 0, .int .i64 0, .int .i64 0, .slice none 0 0, .slice none 0 0, .string ⟨#[]⟩] 44)) (.cells (madeCells #[.string ByteArray.empty, .int .i64 0] ((x.ents.length + 1) * 2)) 125)
 have hb1 := blk_alloc (blk_new (w.alloc (.cells (ndCells x A4 c4 A5 c5) 44)) (.cells #[.int .i64 0, .int .i64 0, .int .i64 0, .int .i64 0, .slice none 0 0, .slice none 0 0, .string ⟨#[]⟩] 44)) (.cells (madeCells #[.string ByteArray.empty, .int .i64 0] ((x.ents.length + 1) * 2)) 125)
 have hb2 := blk_new ((w.alloc (.cells (ndCells x A4 c4 A5 c5) 44)).alloc (.cells #[.int .i64 0, .int .i64 0, .int .i64 0, .int .i64 0, .slice none 0 0, .slice none 0 0, .string ⟨#[]⟩] 44)) (.cells (madeCells #[.string ByteArray.empty, .int .i64 0] ((x.ents.length + 1) * 2)) 125)
 simp only [World.size_alloc] at hb1 hb2
 obtain ⟨W2, hcp, hR, hfr⟩ := copyE (((w.alloc (.cells (ndCells x A4 c4 A5 c5) 44)).alloc (.cells #[.int .i64 0, .int .i64 0, .int .i64 0, .int .i64 0, .slice none 0 0, .slice none 0 0, .string ⟨#[]⟩] 44)).alloc (.cells (madeCells #[.string ByteArray.empty, .int .i64 0] ((x.ents.length + 1) * 2)) 125)) (w.heap.size + 1 + 1) at_ (x.ents.length + 1) c5 w.heap.size A5 x.ents _ (fun k => w.heap.size + 1 + 1 ≤ k) hb2 (by simp [madeCells]) (by omega) (by simp [maxLen]; omega) (Kd.F_now (F_now_at f5 hbm)) ha (by omega) (Nat.le_refl _)
 have HB := Aside0.mk (hbm.trans (hfr.below (B := w.heap.size) (by simp; omega) (by rintro _ rfl; omega)))
 have B0 := hfr.blk hb0 (by omega)
 have B1 := hfr.blk hb1 (by omega)
 have hz2 := hfr.size
 simp only [World.size_alloc] at hz2
 have hz2 : w.heap.size + 3 ≤ W2.heap.size := by omega
 obtain ⟨Ac, hcut, hF⟩ := cutK kE 42 125 Tryz.underlying42 (by kernel_rfl) A5 c5 x.ents from_ hf l5
 obtain ⟨ln, hln⟩ : ∃ k, (x.ents.drop from_).length = k := ⟨_, rfl⟩
 rw [hln] at hcut hF
 have LN := Aside0.mk hln
 clear hln
 have p := blk_cell B0
 have q := blk_frozen B0
 unfold ndCells at *
 have H4 := Aside0.mk f4
 have H5 := Aside0.mk f5
 have HM := Aside0.mk (F_now_at hm HB.out)
 have HF := Aside0.mk hF
 have L4 := Aside0.mk l4
 have B4 := Aside0.mk b4
 have B5 := Aside0.mk b5
 have BM := Aside0.mk bm
 have HR := Aside0.mk hR
 have JB0 := Aside0.mk B0
 have JB1 := Aside0.mk B1
 have HZ := Aside0.mk hz2
 clear l4 f4 f5 b4 b5 hR hb0 hb1 hb2 hbl hbm hm bm hfr hz2 B0 B1 hF
 go_enter Tryz.func166, Tryz.ntmps166
 go_wp2_with (first
  | ((with_reducible refine gate_builtin (b := .append) (xs := #[.tmp 20, .tmp 21]) rfl ?_); at_builtin; refine Kd.R_append_rows kE (Rr := kE.K W2) (w0 := w) w.heap.size rfl (.tmp 20) (.tmp 21) 42 125 (.agg #[.string ByteArray.empty, .int .i64 0]) 24 rfl Tryz.underlying42 info125c rfl (by decide) (by omega) (.slice (some ⟨w.heap.size + 1 + 1, 0, none⟩) at_ (x.ents.length + 1)) (x.ents.take at_) more Am more.length cm (fun k => w.heap.size + 1 + 1 ≤ k) (fun _ => False) rfl rfl HR.out (Kd.F_now HM.out) (fun _ _ h => h) (fun _ hk => hk.elim) ?aF HB.out ?aS ?aL ?_; (case aF => exact fun k hk => by have := HZ.out; omega); (case aS => have := HZ.out; omega); (case aL => have := BM.out; have := B5.out; rw [List.length_take]; omega); intro v2 w2 ho hb hg hat; clear p q; have HO := Aside0.mk ho; have HB2 := Aside0.mk hb; have b0 := (hg.block _ (blk_lt JB0.out) (by simp [Value.ownBlock]; omega)).trans JB0.out; have b1 := (hg.block _ (blk_lt JB1.out) (by simp [Value.ownBlock])).trans JB1.out; have HZ2 := Aside0.mk (Nat.le_trans HZ.out hg.size); clear ho hb hg hat; have p := blk_cell b0; have q := blk_frozen b0; have J0 := Aside0.mk b0; have J1 := Aside0.mk b1; clear b0 b1; obtain ⟨Ay, cy, ey⟩ := Kd.R_slice HO.out; subst ey; obtain ⟨n2, hn2⟩ : ∃ k, (x.ents.take at_ ++ more).length = k := ⟨_, rfl⟩; rw [hn2] at HO ⊢; have N2 := Aside0.mk hn2; clear hn2 HR HB)
  | ((with_reducible refine gate_builtin (b := .append) (xs := #[.tmp 23, .tmp 27]) rfl ?_); at_builtin; refine Kd.R_append_rows kE (Rr := kE.K w2) (w0 := w) w.heap.size rfl (.tmp 23) (.tmp 27) 42 125 (.agg #[.string ByteArray.empty, .int .i64 0]) 24 rfl Tryz.underlying42 info125c rfl (by decide) (by omega) (.slice Ay n2 cy) (x.ents.take at_ ++ more) (x.ents.drop from_) Ac ln (c5 - from_) (fun k => w.heap.size + 1 + 1 ≤ k) (fun _ => False) rfl rfl HO.out ?bR (fun _ _ h => h) (fun _ hk => hk.elim) ?aF HB2.out ?aS ?aL ?_; (case bR => exact Kd.F_now (HF.out _ _ (F_now_at H5.out HB2.out))); (case aF => exact fun k hk => by have := HZ2.out; omega); (case aS => have := HZ2.out; omega); (case aL => have := BM.out; have := B5.out; have e := N2.out; have f := LN.out; rw [N2.out]; simp only [List.length_append, List.length_take, List.length_drop] at e f; omega); intro v3 w3 ho hb hg hat; clear p q; have HO3 := Aside0.mk ho; have HB3 := Aside0.mk hb; have b0 := (hg.block _ (blk_lt J0.out) (fun e => by have := HO.out.1 _ e.symm; omega)).trans J0.out; have b1 := (hg.block _ (blk_lt J1.out) (fun e => by have := HO.out.1 _ e.symm; omega)).trans J1.out; have HZ3 := Aside0.mk (Nat.le_trans HZ2.out hg.size); clear ho hb hg hat; have p := blk_cell b0; have q := blk_frozen b0; have K0 := Aside0.mk b0; have K1 := Aside0.mk b1; clear b0 b1; obtain ⟨Az, cz, ez⟩ := Kd.R_slice HO3.out; subst ez; obtain ⟨n3, hn3⟩ : ∃ k, (x.ents.take at_ ++ more ++ x.ents.drop from_).length = k := ⟨_, rfl⟩; rw [hn3] at HO3 ⊢; have N3 := Aside0.mk hn3; clear hn3 HO HB2))
 refine (cloneB A4 c4 x.data ok _ (F_now_at H4.out (below_set HB3.out (Nat.le_refl _))) L4.out (by have := B4.out; omega)).mono ?_
 rintro e w4 ⟨A4', c4', rfl, l4', f4', hb⟩
 have L4' := Aside0.mk l4'
 have lt1 := blk_lt K1.out
 have hz : (w3.setCell ⟨w.heap.size, 5, none⟩ (.slice Az n3 cz)).heap.size = w3.heap.size := by simp
 have F4' := Aside0.mk (Kd.F_mono f4' (ok' := fun k => w.heap.size + 1 < k) (fun k hk => by rw [hz] at hk; omega))
 have F5' := Aside0.mk (F_now_at (F_set w.heap.size 5 (.slice Az n3 cz) (Kd.F_mono (Kd.R_F HO3.out) (ok' := fun k => w.heap.size + 1 < k) (fun k hk => by omega)) (by omega)) hb)
 have b0 := blk_below (blk_put K0.out 5 (.slice Az n3 cz) rfl) hb
 have b1 := blk_below (blk_far K1.out (p := ⟨w.heap.size, 5, none⟩) (by simp) (.slice Az n3 cz)) hb
 have HB4 := Aside0.mk (below_step (below_set HB3.out (Nat.le_refl _)) hb)
 have L5' := Aside0.mk (Kd.R_reads' HO3.out).2.1
 clear hz f4' l4' p q hb lt1
 have p := blk_cell b0
 have q := blk_frozen b0
 have p1 := blk_cell b1
 have q1 := blk_frozen b1
 clear b0 b1
 dsimp only
 go_wp2_with fail
 refine bodyPost_ret (v := .agg #[.int .i64 x.kind, .int .i64 x.mode, .int .i64 x.uid, .int .i64 x.gid, .slice A4' x.data.length c4', .slice Az n3 cz, .string x.target]) (by simp [results, Tryz.results166, go_sem, p1]) rfl ⟨A4', c4', Az, cz, by unfold ndCells; dsimp only; rw [N3.out], ⟨L4'.out, ?_, by dsimp only; rw [N3.out]; exact L5'.out, ?_⟩, ?_⟩
 ·refine F_le (B := w.heap.size + 1) ?_ (by omega); (iterate 8 (with_reducible refine F_lt _ _ _ ?_ (by omega))); exact F4'.out
 ·dsimp only; rw [N3.out]; refine F_le (B := w.heap.size + 1) ?_ (by omega); (iterate 8 (with_reducible refine F_lt _ _ _ ?_ (by omega))); exact F5'.out
 ·(iterate 8 (with_reducible refine below_set ?_ (by omega))); exact HB4.out
/-- What an errno and a node are that are handed back. -/
def NE (y : Nd) (er : Int) (w : World) (e : Ending) (w' : World) : Prop := ∃ A4 c4 A5 c5, e = .returned (.tuple #[.agg (ndCells y A4 c4 A5 c5), .int .i64 er]) ∧ NdC w' (fun k => w.heap.size ≤ k) y A4 c4 A5 c5 ∧ Below w.heap.size w w'
theorem oneE {W : World} {g : Nat} {nm : ByteArray} {id : Int} (hb : W.heap[g]? = some (.cells #[.string nm, .int .i64 id] 125 (0, 0))) : Kd.F kE W (fun k => k = g) (some ⟨g, 0, none⟩) 1 [⟨nm, id⟩] := by
 refine Kd.R_F (base := 0) (e := 125) (cc := 1) ⟨fun k hk => ?_, [.string nm, .int .i64 id], ⟨rfl, .inr ⟨g, 1, _, rfl, Nat.zero_le _, hb, Nat.le_refl _, by decide, rfl, rfl⟩⟩, ?_⟩
 ·have : g = k := by simpa [Value.ownBlock] using hk
  exact this.symm
 ·exact Reps.snoc (Reps.none _ _) ⟨[.string nm], [.int .i64 id], rfl, rfl, rfl⟩ rfl
def withE (x : Nd) (nm : ByteArray) (id : Int) : Int :=
 if x.kind ≠ 2 then 20 else if id < 1 ∨ nm.toList = [] ∨ nm.toList = [46] ∨ nm.toList = [46, 46] ∨ anyOf nm = true then 22 else if 12 < nm.size then 36 else if x.ents.any (eqP nm) = true then 17 else if 8 ≤ x.ents.length then 28 else 0
theorem IdxIs.any {p : Ent → Bool} {l : List Ent} {r : Int} (h : IdxIs p l r) : l.any p = decide (0 ≤ r) := by
 rcases h with ⟨k, hk, rfl, hp, _⟩ | ⟨rfl, hn⟩
 ·rw [decide_eq_true (by omega)]
  refine List.any_eq_true.2 ⟨_, List.getElem_mem hk, ?_⟩
  simpa [List.getD, List.getElem?_eq_getElem hk] using hp
 ·rw [decide_eq_false (by omega)]
  refine List.any_eq_false.2 fun e he => ?_
  obtain ⟨j, hj, rfl⟩ := List.mem_iff_getElem.1 he
  have := hn j hj
  simp [List.getD, List.getElem?_eq_getElem hj] at this
  simp [this]
def WithP (x : Nd) (nm : ByteArray) (id : Int) (w : World) (e : Ending) (w' : World) : Prop :=
 (withE x nm id ≠ 0 ∧ NE zN (withE x nm id) w e w') ∨ (withE x nm id = 0 ∧ ∃ k : Nat, k ≤ x.ents.length ∧ NE { x with ents := x.ents.take k ++ [⟨nm, id⟩] ++ x.ents.drop k } 0 w e w')
set_option maxHeartbeats 4000000 in
set_option maxRecDepth 100000 in
theorem With.bad (x : Nd) (A4 : Option Addr) (c4 : Nat) (A5 : Option Addr) (c5 : Nat) (ok : Nat → Prop) (nm : ByteArray) (id : Int) (w : World) (h : NdC w ok x A4 c4 A5 c5) (b4 : x.data.length ≤ 1000) (b5 : x.ents.length ≤ 1000) (bn : nm.size ≤ 100000) (hbad : ¬ (withE x nm id = if x.ents.any (eqP nm) = true then 17 else if 8 ≤ x.ents.length then 28 else 0)) :
  Calls Tryz.prog 101 #[.agg (ndCells x A4 c4 A5 c5), .string nm, .int .i64 id] w (WithP x nm id w) := by
 have hbl := below_alloc (below_alloc (below_alloc (Below.refl w.heap.size w) (.cells (ndCells x A4 c4 A5 c5) 44)) (.cells #[.string nm] 9)) (.cells #[.int .i64 0, .int .i64 0, .int .i64 0, .int .i64 0, .slice none 0 0, .slice none 0 0, .string ⟨#[]⟩] 44)
 have b0 := blk_alloc (blk_alloc (blk_new w (.cells (ndCells x A4 c4 A5 c5) 44)) (.cells #[.string nm] 9)) (.cells #[.int .i64 0, .int .i64 0, .int .i64 0, .int .i64 0, .slice none 0 0, .slice none 0 0, .string ⟨#[]⟩] 44)
 have bn1 := blk_alloc (blk_new (w.alloc (.cells (ndCells x A4 c4 A5 c5) 44)) (.cells #[.string nm] 9)) (.cells #[.int .i64 0, .int .i64 0, .int .i64 0, .int .i64 0, .slice none 0 0, .slice none 0 0, .string ⟨#[]⟩] 44)
 have b1 := blk_new ((w.alloc (.cells (ndCells x A4 c4 A5 c5) 44)).alloc (.cells #[.string nm] 9)) (.cells #[.int .i64 0, .int .i64 0, .int .i64 0, .int .i64 0, .slice none 0 0, .slice none 0 0, .string ⟨#[]⟩] 44)
 simp only [World.size_alloc] at bn1 b1
 have HB := Aside0.mk hbl
 have HN := Aside0.mk h
 have B0 := Aside0.mk b0
 have BN := Aside0.mk bn1
 have B1 := Aside0.mk b1
 have C4 := Aside0.mk b4
 have C5 := Aside0.mk b5
 have hE : ∀ e, withE x nm id = e → e ≠ 0 → ∀ W, Below w.heap.size w W → WithP x nm id w (.returned (.tuple #[.agg (ndCells zN none 0 none 0), .int .i64 e])) W := fun e he h0 W hb => .inl ⟨by rw [he]; exact h0, none, 0, none, 0, by rw [he], NdC.zero _ _, hb⟩
 have HE := Aside0.mk hE
 clear h b4 b5 hbl b0 b1 bn1 hE
 by_cases hk : x.kind = 2
 case neg =>
  have hE := HE.out 20 (by unfold withE; rw [if_pos hk]) (by decide) _ HB.out
  have HE := Aside0.mk hE
  have hk2 : (x.kind != 2) = true := by simp [hk]
  have p1 := blk_cell B1.out
  clear hk hE
  unfold ndCells at *
  go_enter Tryz.func101, Tryz.ntmps101
  go_wp2_with fail
  refine bodyPost_ret (v := .tuple #[.agg (ndCells zN none 0 none 0), .int .i64 20]) (by simp [results, Tryz.results101, go_sem, p1, ndCells, zN]) rfl ?_
  first
   | (with_reducible exact HE.out)
   | exact HE.out
 case pos =>
 have hkf : (x.kind != 2) = false := by simp [hk]
 have h22 : (id < 1 ∨ nm.toList = [] ∨ nm.toList = [46] ∨ nm.toList = [46, 46] ∨ anyOf nm = true) → withE x nm id = 22 := fun h => by unfold withE; rw [if_neg (by simp [hk]), if_pos h]
 have hrest : ¬ (id < 1 ∨ nm.toList = [] ∨ nm.toList = [46] ∨ nm.toList = [46, 46] ∨ anyOf nm = true) → withE x nm id = if 12 < nm.size then 36 else if x.ents.any (eqP nm) = true then 17 else if 8 ≤ x.ents.length then 28 else 0 := fun h => by unfold withE; rw [if_neg (by simp [hk]), if_neg h]
 clear hk
 have p0 := blk_cell B0.out
 have q0 := blk_frozen B0.out
 have pn := blk_cell BN.out
 have qn := blk_frozen BN.out
 have p1 := blk_cell B1.out
 have q1 := blk_frozen B1.out
 have bad : ∀ (P : Prop), P → (P → (id < 1 ∨ nm.toList = [] ∨ nm.toList = [46] ∨ nm.toList = [46, 46] ∨ anyOf nm = true)) → Aside0 (∀ W, Below w.heap.size w W → WithP x nm id w (.returned (.tuple #[.agg (ndCells zN none 0 none 0), .int .i64 22])) W) := fun P hp hf => Aside0.mk (HE.out 22 (h22 (hf hp)) (by decide))
 by_cases g1 : id < 1
 ·have HE2 := bad _ g1 .inl
  have d1 : decide (id < 1) = true := decide_eq_true g1
  clear g1 bad h22 hrest
  unfold ndCells at *
  go_enter Tryz.func101, Tryz.ntmps101
  go_wp2_with fail
  refine bodyPost_ret (v := .tuple #[.agg (ndCells zN none 0 none 0), .int .i64 22]) (by simp [results, Tryz.results101, go_sem, p1, ndCells, zN]) rfl (HE2.out _ HB.out)
 have d1 : decide (id < 1) = false := decide_eq_false g1
 by_cases g2 : nm.toList = []
 ·have HE2 := bad _ g2 (fun h => .inr (.inl h))
  have d2 := emp_t g2
  clear g1 bad h22 hrest
  unfold ndCells at *
  go_enter Tryz.func101, Tryz.ntmps101
  go_wp2_with fail
  refine bodyPost_ret (v := .tuple #[.agg (ndCells zN none 0 none 0), .int .i64 22]) (by simp [results, Tryz.results101, go_sem, p1, ndCells, zN]) rfl (HE2.out _ HB.out)
 have d2 := emp_f g2
 by_cases g3 : nm.toList = [46]
 ·have HE2 := bad _ g3 (fun h => .inr (.inr (.inl h)))
  clear g1 bad h22 hrest
  unfold ndCells at *
  go_enter Tryz.func101, Tryz.ntmps101
  go_wp2_with fail
  refine bodyPost_ret (v := .tuple #[.agg (ndCells zN none 0 none 0), .int .i64 22]) (by simp [results, Tryz.results101, go_sem, p1, ndCells, zN]) rfl (HE2.out _ HB.out)
 by_cases g4 : nm.toList = [46, 46]
 ·have HE2 := bad _ g4 (fun h => .inr (.inr (.inr (.inl h))))
  clear g1 bad h22 hrest
  unfold ndCells at *
  go_enter Tryz.func101, Tryz.ntmps101
  go_wp2_with fail
  refine bodyPost_ret (v := .tuple #[.agg (ndCells zN none 0 none 0), .int .i64 22]) (by simp [results, Tryz.results101, go_sem, p1, ndCells, zN]) rfl (HE2.out _ HB.out)
 have e3 : (nm.toList == [46]) = false := by simpa using g3
 have e4 : (nm.toList == [46, 46]) = false := by simpa using g4
 have HC := Aside0.mk (show strings_ContainsAny.f nm ⟨#[47, 0]⟩ = some (anyOf nm) by unfold strings_ContainsAny.f; rw [if_pos ⟨rfl, by omega⟩])
 cases g5 : anyOf nm with
 | true =>
  have HE2 := bad _ g5 (fun h => .inr (.inr (.inr (.inr h))))
  rw [g5] at HC
  clear g1 bad h22 hrest g5
  unfold ndCells at *
  go_enter Tryz.func101, Tryz.ntmps101
  go_wp2_with (go_at_call 162; refine (strings_ContainsAny.calls nm _ true _ HC.out).mono ?_; rintro e w1 ⟨rfl, hb⟩; clear p0 q0 pn qn p1 q1; have HB1 := Aside0.mk (below_step HB.out hb); have b1 := blk_below B1.out hb; have p1 := blk_cell b1; have q1 := blk_frozen b1; clear hb b1)
  refine bodyPost_ret (v := .tuple #[.agg (ndCells zN none 0 none 0), .int .i64 22]) (by simp [results, Tryz.results101, go_sem, p1, ndCells, zN]) rfl (HE2.out _ (by (iterate 7 (with_reducible refine below_set ?_ (by omega))); exact HB1.out))
 | false =>
 have hr := hrest (fun h => h.elim g1 (fun h => h.elim g2 (fun h => h.elim g3 (fun h => h.elim g4 (fun h => by rw [g5] at h; cases h)))))
 rw [g5] at HC
 clear g1 bad h22 hrest g5
 have HR := Aside0.mk hr
 clear hr
 unfold ndCells at *
 by_cases g6 : 12 < nm.size
 ·have d6 : decide (12 < (nm.size : Int)) = true := decide_eq_true (by omega)
  have HE2 := Aside0.mk (HE.out 36 (by rw [HR.out, if_pos g6]) (by decide))
  clear g6
  go_enter Tryz.func101, Tryz.ntmps101
  go_wp2_with (go_at_call 162; refine (strings_ContainsAny.calls nm _ false _ HC.out).mono ?_; rintro e w1 ⟨rfl, hb⟩; clear p0 q0 pn qn p1 q1; have HB1 := Aside0.mk (below_step HB.out hb); have b1 := blk_below B1.out hb; have bn := blk_below BN.out hb; have p1 := blk_cell b1; have q1 := blk_frozen b1; have pn := blk_cell bn; have qn := blk_frozen bn; clear hb b1 bn)
  refine bodyPost_ret (v := .tuple #[.agg (ndCells zN none 0 none 0), .int .i64 36]) (by simp [results, Tryz.results101, go_sem, p1, ndCells, zN]) rfl (HE2.out _ (by (iterate 7 (with_reducible refine below_set ?_ (by omega))); exact HB1.out))
 exact absurd (HR.out.trans (if_neg g6)) hbad
theorem withE_good {x : Nd} {nm : ByteArray} {id : Int} (h : withE x nm id = if x.ents.any (eqP nm) = true then 17 else if 8 ≤ x.ents.length then 28 else 0) :
  x.kind = 2 ∧ ¬ id < 1 ∧ ¬ nm.toList = [] ∧ ¬ nm.toList = [46] ∧ ¬ nm.toList = [46, 46] ∧ anyOf nm = false ∧ ¬ 12 < nm.size := by
 have hv : ∀ v : Int, v = 20 ∨ v = 22 ∨ v = 36 → ¬ (v = if x.ents.any (eqP nm) = true then 17 else if 8 ≤ x.ents.length then 28 else 0) := by
  rintro v (rfl | rfl | rfl) e <;> split at e <;> (try split at e) <;> cases e
 unfold withE at h
 by_cases hk : x.kind = 2
 ·rw [if_neg (by simp [hk])] at h
  by_cases hb : id < 1 ∨ nm.toList = [] ∨ nm.toList = [46] ∨ nm.toList = [46, 46] ∨ anyOf nm = true
  ·rw [if_pos hb] at h; exact absurd h (hv 22 (by simp))
  ·rw [if_neg hb] at h
   by_cases h12 : 12 < nm.size
   ·rw [if_pos h12] at h; exact absurd h (hv 36 (by simp))
   ·simp only [not_or] at hb
    exact ⟨hk, hb.1, hb.2.1, hb.2.2.1, hb.2.2.2.1, by simpa using hb.2.2.2.2, h12⟩
 ·rw [if_pos hk] at h; exact absurd h (hv 20 (by simp))
set_option maxHeartbeats 40000000 in
set_option maxRecDepth 100000 in
theorem With.good (x : Nd) (A4 : Option Addr) (c4 : Nat) (A5 : Option Addr) (c5 : Nat) (ok : Nat → Prop) (nm : ByteArray) (id : Int) (w : World) (h : NdC w ok x A4 c4 A5 c5) (b4 : x.data.length ≤ 1000) (b5 : x.ents.length ≤ 1000) (bn : nm.size ≤ 100000) (hgood : withE x nm id = if x.ents.any (eqP nm) = true then 17 else if 8 ≤ x.ents.length then 28 else 0) :
  Calls Tryz.prog 101 #[.agg (ndCells x A4 c4 A5 c5), .string nm, .int .i64 id] w (WithP x nm id w) := by
 have hbl := below_alloc (below_alloc (below_alloc (Below.refl w.heap.size w) (.cells (ndCells x A4 c4 A5 c5) 44)) (.cells #[.string nm] 9)) (.cells #[.int .i64 0, .int .i64 0, .int .i64 0, .int .i64 0, .slice none 0 0, .slice none 0 0, .string ⟨#[]⟩] 44)
 have b0 := blk_alloc (blk_alloc (blk_new w (.cells (ndCells x A4 c4 A5 c5) 44)) (.cells #[.string nm] 9)) (.cells #[.int .i64 0, .int .i64 0, .int .i64 0, .int .i64 0, .slice none 0 0, .slice none 0 0, .string ⟨#[]⟩] 44)
 have bn1 := blk_alloc (blk_new (w.alloc (.cells (ndCells x A4 c4 A5 c5) 44)) (.cells #[.string nm] 9)) (.cells #[.int .i64 0, .int .i64 0, .int .i64 0, .int .i64 0, .slice none 0 0, .slice none 0 0, .string ⟨#[]⟩] 44)
 have b1 := blk_new ((w.alloc (.cells (ndCells x A4 c4 A5 c5) 44)).alloc (.cells #[.string nm] 9)) (.cells #[.int .i64 0, .int .i64 0, .int .i64 0, .int .i64 0, .slice none 0 0, .slice none 0 0, .string ⟨#[]⟩] 44)
 simp only [World.size_alloc] at bn1 b1
 have HB := Aside0.mk hbl
 have HN := Aside0.mk h
 have B0 := Aside0.mk b0
 have BN := Aside0.mk bn1
 have B1 := Aside0.mk b1
 have C4 := Aside0.mk b4
 have C5 := Aside0.mk b5
 obtain ⟨hk, hid, hn0, hn1, hn2, ha, h12⟩ := withE_good hgood
 have hkf : (x.kind != 2) = false := by simp [hk]
 have d1 : decide (id < 1) = false := decide_eq_false hid
 have d2 := emp_f hn0
 have e3 : (nm.toList == [46]) = false := by simpa using hn1
 have e4 : (nm.toList == [46, 46]) = false := by simpa using hn2
 have d6 : decide (12 < (nm.size : Int)) = false := decide_eq_false (by omega)
 have HC := Aside0.mk (show strings_ContainsAny.f nm ⟨#[47, 0]⟩ = some false by unfold strings_ContainsAny.f; rw [if_pos ⟨rfl, by omega⟩, ha])
 have HG := Aside0.mk hgood
 have p0 := blk_cell b0
 have q0 := blk_frozen b0
 have pn := blk_cell bn1
 have qn := blk_frozen bn1
 have hlb : (x.ents.length : Int) ≤ 1000 := by omega
 clear h b4 b5 hbl b0 b1 bn1 hgood hk hid hn0 hn1 hn2 ha h12
 unfold ndCells at *
 go_enter Tryz.func101, Tryz.ntmps101
 go_wp2_with fail
 refine (strings_ContainsAny.calls nm _ false _ HC.out).mono ?_
 rintro e w1 ⟨rfl, hb⟩
 clear p0 q0 pn qn
 have HB1 := Aside0.mk (below_step HB.out hb)
 have b0 := blk_below B0.out hb
 have bn1 := blk_below BN.out hb
 have K0 := Aside0.mk b0
 have KN := Aside0.mk bn1
 have K1 := Aside0.mk (blk_below B1.out hb)
 have p0 := blk_cell b0
 have q0 := blk_frozen b0
 have pn := blk_cell bn1
 have qn := blk_frozen bn1
 clear hb b0 bn1 HB B0 BN B1
 have HP := Aside0.mk (place.calls x A4 c4 A5 c5 ok nm w1 (HN.out.step (fun i _ hi => HB1.out.block i hi)) C5.out)
 unfold ndCells at HP
 dsimp only
 go_wp2_with fail
 refine HP.out.mono ?_
 rintro e w2 ⟨r, rfl, hr, hb⟩
 clear p0 q0 pn qn HP
 have HB2 := Aside0.mk (below_step HB1.out hb)
 have b0 := blk_below K0.out hb
 have bn1 := blk_below KN.out hb
 have b1 := blk_below K1.out hb
 have hany := hr.any
 have hrg := hr.rng
 clear K0 KN K1 hr hb HB1
 have K0 := Aside0.mk b0
 have KN := Aside0.mk bn1
 have K1 := Aside0.mk b1
 have p0 := blk_cell b0
 have q0 := blk_frozen b0
 have pn := blk_cell bn1
 have qn := blk_frozen bn1
 have p1 := blk_cell b1
 have q1 := blk_frozen b1
 clear b0 bn1 b1
 have hE : ∀ e, withE x nm id = e → e ≠ 0 → ∀ W, Below w.heap.size w W → WithP x nm id w (.returned (.tuple #[.agg (ndCells zN none 0 none 0), .int .i64 e])) W := fun e he h0 W hb => .inl ⟨by rw [he]; exact h0, none, 0, none, 0, by rw [he], NdC.zero _ _, hb⟩
 have HE := Aside0.mk hE
 clear hE
 dsimp only
 by_cases h0 : 0 ≤ r
 ·have HE2 := Aside0.mk (HE.out 17 (by rw [HG.out, hany, decide_eq_true h0]; rfl) (by decide))
  clear hany
  go_wp2_with fail
  refine bodyPost_ret (v := .tuple #[.agg (ndCells zN none 0 none 0), .int .i64 17]) (by simp [results, Tryz.results101, go_sem, p1, ndCells, zN]) rfl (HE2.out _ (by (iterate 7 (with_reducible refine below_set ?_ (by omega))); exact HB2.out))
 by_cases h8 : 8 ≤ x.ents.length
 ·have h8i : 8 ≤ (x.ents.length : Int) := by omega
  have HE2 := Aside0.mk (HE.out 28 (by rw [HG.out, hany, decide_eq_false h0, if_neg (by decide), if_pos h8]) (by decide))
  clear hany
  go_wp2_with fail
  refine bodyPost_ret (v := .tuple #[.agg (ndCells zN none 0 none 0), .int .i64 28]) (by simp [results, Tryz.results101, go_sem, p1, ndCells, zN]) rfl (HE2.out _ (by (iterate 7 (with_reducible refine below_set ?_ (by omega))); exact HB2.out))
 have h8i : ¬ 8 ≤ (x.ents.length : Int) := by omega
 have H0 := Aside0.mk (show withE x nm id = 0 by rw [HG.out, hany, decide_eq_false h0, if_neg (by decide), if_neg h8])
 have hmf : ∀ (fn : Fn) (first cap : Array Value) (w : World), (Instr.makeFunc fn first cap).run Tryz.prog w = .ok (.func fn first cap) w := fun _ _ _ _ => rfl
 have HI := Aside0.mk (IndexE.calls A5 c5 x.ents ok 165 #[.pointer (some ⟨w.heap.size + 1, 0, none⟩)] (gtP nm) (NmJ (w.heap.size + 1) nm) w2 (enters Tryz.func165 (by kernel_rfl) rfl) NmJ.below (fun W e h => with1 _ nm W e h) (F_now_at HN.out.f5 HB2.out) HN.out.l5 C5.out KN.out)
 clear hany HE HG h8
 go_wp2_with fail
 refine HI.out.mono ?_
 rintro e w3 ⟨r2, rfl, hr, hb⟩
 clear p0 q0 pn qn p1 q1 HI hrg
 have HB3 := Aside0.mk (below_step HB2.out hb)
 have b0 := blk_below K0.out hb
 have bn1 := blk_below KN.out hb
 have b1 := blk_below K1.out hb
 have hrg := hr.rng
 clear K0 KN K1 hr hb HB2
 have K1 := Aside0.mk b1
 have p0 := blk_cell b0
 have q0 := blk_frozen b0
 have pn := blk_cell bn1
 have qn := blk_frozen bn1
 clear b0 bn1 b1
 dsimp only
 have key : ∀ k : Nat, k ≤ x.ents.length → Aside0 (Calls Tryz.prog 166 #[.agg (ndCells x A4 c4 A5 c5), .int .i64 k, .int .i64 k, .slice (some ⟨w3.heap.size, 0, none⟩) 1 1] (w3.alloc (.cells #[.string nm, .int .i64 id] 125)) (WithQ x (x.ents.take k ++ [⟨nm, id⟩] ++ x.ents.drop k) (w3.alloc (.cells #[.string nm, .int .i64 id] 125)))) := fun k hk => Aside0.mk (with.calls x A4 c4 A5 c5 (fun i => ok i ∨ i = w3.heap.size) k k [⟨nm, id⟩] (some ⟨w3.heap.size, 0, none⟩) 1 _ ((HN.out.step (fun i _ hi => (below_alloc HB3.out _).block i hi)).mono (fun i hi => .inl hi)) C4.out C5.out hk hk (Kd.F_mono (oneE (blk_new w3 _)) (fun i hi => .inr hi)) (by simp))
 by_cases h0 : 0 ≤ r2
 ·obtain ⟨k, rfl⟩ := Int.eq_ofNat_of_zero_le h0
  have KE := key k (by omega)
  unfold ndCells at KE
  go_wp2_with fail
  refine KE.out.mono ?_
  rintro e w4 ⟨D4, d4, D5, d5, rfl, hn, hb⟩
  have HB4 := Aside0.mk (below_step (below_alloc HB3.out _) hb)
  have b1 := blk_below (blk_alloc K1.out (.cells #[.string nm, .int .i64 id] 125)) hb
  have HN2 := Aside0.mk (hn.mono (ok' := fun k => w.heap.size + 1 + 1 < k) (fun i hi => by have := blk_lt K1.out; rw [World.size_alloc] at hi; omega))
  clear p0 q0 pn qn hb hn key
  have p1 := blk_cell b1
  have q1 := blk_frozen b1
  clear b1
  unfold ndCells
  dsimp only
  go_wp2_with fail
  refine bodyPost_ret (v := .tuple #[.agg (ndCells { x with ents := x.ents.take k ++ [⟨nm, id⟩] ++ x.ents.drop k } D4 d4 D5 d5), .int .i64 0]) (by simp [results, Tryz.results101, go_sem, p1, ndCells]) rfl ?_
  refine .inr ⟨H0.out, k, by omega, D4, d4, D5, d5, rfl, ?_, ?_⟩
  ·refine NdC.mono (ok := fun k => w.heap.size + 1 + 1 < k) ?_ (fun i hi => by omega)
   iterate 7 (with_reducible refine NdC.set ?_ _ _ _ (by omega))
   exact HN2.out
  ·(iterate 7 (with_reducible refine below_set ?_ (by omega))); exact HB4.out
 ·have KE := key x.ents.length (Nat.le_refl _)
  unfold ndCells at KE
  go_wp2_with fail
  refine KE.out.mono ?_
  rintro e w4 ⟨D4, d4, D5, d5, rfl, hn, hb⟩
  have HB4 := Aside0.mk (below_step (below_alloc HB3.out _) hb)
  have b1 := blk_below (blk_alloc K1.out (.cells #[.string nm, .int .i64 id] 125)) hb
  have HN2 := Aside0.mk (hn.mono (ok' := fun k => w.heap.size + 1 + 1 < k) (fun i hi => by have := blk_lt K1.out; rw [World.size_alloc] at hi; omega))
  clear p0 q0 pn qn hb hn key
  have p1 := blk_cell b1
  have q1 := blk_frozen b1
  clear b1
  unfold ndCells
  dsimp only
  go_wp2_with fail
  refine bodyPost_ret (v := .tuple #[.agg (ndCells { x with ents := x.ents.take x.ents.length ++ [⟨nm, id⟩] ++ x.ents.drop x.ents.length } D4 d4 D5 d5), .int .i64 0]) (by simp [results, Tryz.results101, go_sem, p1, ndCells]) rfl ?_
  refine .inr ⟨H0.out, x.ents.length, by omega, D4, d4, D5, d5, rfl, ?_, ?_⟩
  ·refine NdC.mono (ok := fun k => w.heap.size + 1 + 1 < k) ?_ (fun i hi => by omega)
   iterate 7 (with_reducible refine NdC.set ?_ _ _ _ (by omega))
   exact HN2.out
  ·(iterate 7 (with_reducible refine below_set ?_ (by omega))); exact HB4.out
theorem With.calls (x : Nd) (A4 : Option Addr) (c4 : Nat) (A5 : Option Addr) (c5 : Nat) (ok : Nat → Prop) (nm : ByteArray) (id : Int) (w : World) (h : NdC w ok x A4 c4 A5 c5) (b4 : x.data.length ≤ 1000) (b5 : x.ents.length ≤ 1000) (bn : nm.size ≤ 100000) :
  Calls Tryz.prog 101 #[.agg (ndCells x A4 c4 A5 c5), .string nm, .int .i64 id] w (WithP x nm id w) := by
 by_cases hg : withE x nm id = if x.ents.any (eqP nm) = true then 17 else if 8 ≤ x.ents.length then 28 else 0
 ·exact With.good x A4 c4 A5 c5 ok nm id w h b4 b5 bn hg
 ·exact With.bad x A4 c4 A5 c5 ok nm id w h b4 b5 bn hg
end Go.Proofs.YtbjhcjgniciooaaGreatDoor.G
