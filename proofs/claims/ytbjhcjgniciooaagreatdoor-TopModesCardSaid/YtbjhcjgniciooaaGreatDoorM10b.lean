/- TopModes: a part of the proof, merged. -/
import Derived.Test.YtbjhcjgniciooaaGreatDoorProg
import Derived.Lib.Bytealg
import Derived.Laws.Externs
import Derived.Lib.IndexLaws
import Derived.Test.YtbjhcjgniciooaaGreatDoorM9
namespace Go.Proofs.YtbjhcjgniciooaaGreatDoor.E
set_option linter.unusedVariables false
set_option linter.unusedSimpArgs false
/-! ### The program at hand -/
theorem names_ok : (Tryz.prog.funcs.toList.all fun f => !(f.name == "runtime.NumGoroutine")) = true := by decide +kernel
theorem mixed_ok : Tryz.prog.follows .mixedOrders = true := by decide +kernel
def mkCx (P : Program) (HT : Th) (sEq : List TypeId) (rk : Nat → Option Nat) : Cx := ⟨P, HT, fun t => P.info? t, sEq, rk⟩
def sEqP (P : Program) (l : List TypeId) : Bool := l.all fun t => !P.stoodInHeld t && !P.eqGuardType P.depth t
theorem mkCx_ok {P : Program} (hm : P.follows .mixedOrders = true) (HT : Th) {l : List TypeId} (rk : Nat → Option Nat) (h : sEqP P l = true) : CxOk (mkCx P HT l rk) :=
 ⟨fun t i h => h, fun t ht => by
  have := List.all_eq_true.1 h t ht
  simpa [mkCx] using this, hm⟩
noncomputable def cx (HT : Th) (sEq : List TypeId) (rk : Nat → Option Nat) : Cx := mkCx Tryz.prog HT sEq rk
def mkFx (P : Program) (mt : TypeId → String → Option Nat) (mtv : TypeId → String → Option (Nat × Bool)) (ext : Nat → St → List AV → Option (List (AV × St))) : Fx := ⟨fun id => match P.funcs[id]? with | some fn => fn.body.map fun b => ⟨b, fn.results.toList, fn.ntmps⟩ | none => none, mt, ext, mtv⟩
theorem mkFx_fn {P : Program} (hn : (P.funcs.toList.all fun f => !(f.name == "runtime.NumGoroutine")) = true) {mt : TypeId → String → Option Nat} {mtv : TypeId → String → Option (Nat × Bool)} {ext : Nat → St → List AV → Option (List (AV × St))} {id : Nat} {I : FI} (h : (mkFx P mt mtv ext).fn id = some I) : ∃ fn : Func, P.funcs[id]? = some fn ∧ fn.body = some I.body ∧ fn.results.toList = I.res ∧ fn.ntmps = I.nt ∧ (fn.name == "runtime.NumGoroutine") = false := by
 unfold mkFx at h
 simp only at h
 cases hf : P.funcs[id]? with
 | none => rw [hf] at h; cases h
 | some fn =>
  rw [hf] at h
  simp only at h
  cases hb : fn.body with
  | none => rw [hb] at h; cases h
  | some b =>
   rw [hb] at h
   injection h with h; subst h
   refine ⟨fn, rfl, hb, rfl, rfl, ?_⟩
   have hm : fn ∈ P.funcs.toList := by
    obtain ⟨h1, h2⟩ := Array.getElem?_eq_some_iff.1 hf
    rw [← h2]; exact Array.getElem_mem_toList h1
   have := List.all_eq_true.1 hn fn hm
   simpa using this
noncomputable def fx (mt : TypeId → String → Option Nat) (mtv : TypeId → String → Option (Nat × Bool)) (ext : Nat → St → List AV → Option (List (AV × St))) : Fx := mkFx Tryz.prog mt mtv ext
theorem cx_ok (HT : Th) {l : List TypeId} (rk : Nat → Option Nat) (h : sEqP Tryz.prog l = true) : CxOk (cx HT l rk) := mkCx_ok mixed_ok HT rk h
/-! ### What is written outside the program -/
def cntN (c : Nat) : List Nat → Nat
 | [] => 0
 | x :: xs => if Nat.beq x c then cntN c xs + 1 else cntN c xs
def idxN (c : Nat) : List Nat → Int → Int
 | [], _ => -1
 | x :: xs, i => if Nat.beq x c then i else idxN c xs (i + 1)
def intI (n : Int) : Option (List AV) := if decide (IntKind.i64.min ≤ n) && decide (n ≤ IntKind.i64.max) then some [.int .i64 (.k n)] else none
def extX : Nat → List AV → Option (List AV)
 | 157, [.str l, .int .u8 e] => if e.ts.isEmpty then intI (cntN e.c.toNat l) else none
 | 254, [.str l, .int .u8 e] => if e.ts.isEmpty then intI (idxN e.c.toNat l 0) else none
 | 264, [a] => some [a]
 | _, _ => none
/-- What is told by a text's length alone. -/
def extW (st : St) : Nat → List AV → Option (List (AV × St))
 | 157, [a, .int .u8 _] => match slen a with
  | some n => if st.ge ((Lin.k IntKind.i64.max).sub n) then some [rng st .i64 (.k 0) n] else none
  | none => none
 | 254, [a, .int .u8 _] => match slen a with
  | some n => if st.ge ((Lin.k IntKind.i64.max).sub n) then some [rng st .i64 (.k (-1)) (n.addk (-1))] else none
  | none => none
 | _, _ => none
def extA (id : Nat) (st : St) (xs : List AV) : Option (List (AV × St)) := match extX id xs with
 | some os => some (os.map fun x => (x, st))
 | none => extW st id xs
theorem beq8 (x : UInt8) (c : Nat) (hc : c < 256) : (x == c.toUInt8) = Nat.beq x.toNat c := by
 rw [Bool.eq_iff_iff]
 simp only [beq_iff_eq, Nat.beq_eq]
 constructor
 ·rintro rfl
  simp [Nat.toUInt8, UInt8.toNat_ofNat, Nat.mod_eq_of_lt hc]
 ·intro h
  apply UInt8.toNat.inj
  rw [h]
  simp [Nat.toUInt8, UInt8.toNat_ofNat, Nat.mod_eq_of_lt hc]
theorem cntN_eq (c : Nat) (hc : c < 256) : ∀ (l : List UInt8), (Lib.countByte l c.toUInt8) = cntN c (l.map UInt8.toNat)
 | [] => rfl
 | x :: xs => by
  have ih := cntN_eq c hc xs
  unfold Lib.countByte at *
  rw [List.count_cons, ih, beq8 x c hc]
  simp only [List.map_cons, cntN]
  split <;> rfl
theorem idxN_sh (c : Nat) : ∀ (l : List Nat) (i : Int), idxN c l i = if idxN c l 0 < 0 then -1 else idxN c l 0 + i
 | [], i => rfl
 | x :: xs, i => by
  simp only [idxN]
  by_cases h : Nat.beq x c = true
  ·simp [h]
  ·simp only [h, Bool.false_eq_true, if_false]
   rw [idxN_sh c xs (i + 1), idxN_sh c xs (0 + 1)]
   by_cases h2 : idxN c xs 0 < 0
   ·simp [h2]
   ·simp only [h2, if_false]
    have : ¬ (idxN c xs 0 + (0 + 1) < 0) := by omega
    simp only [this, if_false]
    omega
theorem idxN_eq (c : Nat) (hc : c < 256) : ∀ (l : List UInt8), Lib.indexByte l c.toUInt8 = idxN c (l.map UInt8.toNat) 0
 | [] => rfl
 | x :: xs => by
  have ih := idxN_eq c hc xs
  have hge := Lib.indexByte_ge xs c.toUInt8
  unfold Lib.indexByte
  rw [beq8 x c hc]
  simp only [List.map_cons, idxN]
  by_cases h : Nat.beq x.toNat c = true
  ·simp only [h, if_true]
  ·simp only [h, Bool.false_eq_true, if_false]
   rw [idxN_sh, ← ih]
   by_cases h2 : Lib.indexByte xs c.toUInt8 = -1
   ·simp [h2]
   ·have h3 : ¬ (Lib.indexByte xs c.toUInt8 < 0) := by omega
    have h4 : (Lib.indexByte xs c.toUInt8 == -1) = false := by simpa using h2
    simp only [h3, h4, Bool.false_eq_true, if_false]
    omega
theorem intI_ok {HT : Th} {E : Env} {n : Int} {os : List AV} (h : intI n = some os) : ∃ o ∈ os, V HT E o (.int .i64 n) := by
 unfold intI at h
 split at h
 ·rename_i hc
  injection h with h; subst h
  simp only [Bool.and_eq_true, decide_eq_true_eq] at hc
  exact ⟨_, List.mem_cons_self .., by rw [Lin.ev_k], below_k _ _, by rw [Lin.ev_k]; exact hc.1, by rw [Lin.ev_k]; exact hc.2⟩
 ·cases h
theorem u8_arg {HT : Th} {E : Env} {e : Lin} {v : Value} (h : V HT E (.int .u8 e) v) (he : e.ts.isEmpty = true) : v = .int .u8 e.c ∧ 0 ≤ e.c ∧ e.c < 256 := by
 obtain ⟨rfl, _, h1, h2⟩ := h
 have : e.ev E.ρ = e.c := by unfold Lin.ev; rw [List.isEmpty_iff.1 he]; simp [Lin.evT]
 rw [this] at h1 h2 ⊢
 exact ⟨rfl, h1, Int.lt_of_le_of_lt h2 (by decide)⟩
theorem two_args {HT : Th} {E : Env} {a b : AV} {vs : Array Value} (h : Vs HT E [a, b] vs.toList) : ∃ x y, vs = #[x, y] ∧ V HT E a x ∧ V HT E b y := by
 obtain ⟨x, r, h1, h2, y, q, h3, h4, h5⟩ := h
 refine ⟨x, y, ?_, h2, h4⟩
 apply Array.toList_inj.1
 rw [h1, h3, show q = [] from h5]
theorem one_arg {HT : Th} {E : Env} {a : AV} {vs : Array Value} (h : Vs HT E [a] vs.toList) : ∃ x, vs = #[x] ∧ V HT E a x := by
 obtain ⟨x, r, h1, h2, h3⟩ := h
 refine ⟨x, ?_, h2⟩
 apply Array.toList_inj.1
 rw [h1, show r = [] from h3]
theorem f157_at : Tryz.prog.funcs[157]? = some Tryz.f157 := by kernel_rfl
theorem f254_at : Tryz.prog.funcs[254]? = some Tryz.f254 := by kernel_rfl
theorem f264_at : Tryz.prog.funcs[264]? = some Tryz.f264 := by kernel_rfl
theorem extX_ok {HT : Th} : ∀ id xs os, extX id xs = some os → ∀ E vs, Vs HT E xs vs.toList → ∃ v, (∀ w, (callFunc id vs).run Tryz.prog w = .ok (.value v) w) ∧ ∃ o ∈ os, V HT E o v := by
 intro id xs os h E vs hv
 unfold extX at h
 split at h
 ·rename_i l e
  split at h
  ·rename_i he
   obtain ⟨x, y, rfl, hx, hy⟩ := two_args hv
   obtain ⟨s, rfl, hs⟩ := hx
   obtain ⟨rfl, h1, h2⟩ := u8_arg hy he
   refine ⟨.int .i64 (cntN e.c.toNat l), fun w => ?_, intI_ok h⟩
   rw [run_callFunc_extern f157_at (by kernel_rfl) (by kernel_rfl) (by kernel_rfl) (e := Extern.BytealgCount.count) (by kernel_rfl), Lib.run_countString, cntN_eq _ (by omega), hs]
   rfl
  ·cases h
 ·rename_i l e
  split at h
  ·rename_i he
   obtain ⟨x, y, rfl, hx, hy⟩ := two_args hv
   obtain ⟨s, rfl, hs⟩ := hx
   obtain ⟨rfl, h1, h2⟩ := u8_arg hy he
   refine ⟨.int .i64 (idxN e.c.toNat l 0), fun w => ?_, intI_ok h⟩
   rw [run_callFunc_extern f254_at (by kernel_rfl) (by kernel_rfl) (by kernel_rfl) (e := Extern.BytealgIndexByte.indexByte) (by kernel_rfl), Lib.run_indexByteString, idxN_eq _ (by omega), hs]
   rfl
  ·cases h
 ·rename_i a
  injection h with h; subst h
  obtain ⟨x, rfl, hx⟩ := one_arg hv
  refine ⟨x, fun w => ?_, _, List.mem_cons_self .., hx⟩
  rw [run_callFunc_extern f264_at (by kernel_rfl) (by kernel_rfl) (by kernel_rfl) (e := Extern.AbiNoEscape.same) (by kernel_rfl)]
  rfl
 ·cases h
theorem indexByte_lt (l : List UInt8) (c : UInt8) : Lib.indexByte l c < l.length := by
 have h := Lib.indexByte_ge l c
 by_cases h1 : Lib.indexByte l c = -1
 ·omega
 ·obtain ⟨o, ho⟩ : ∃ o : Nat, Lib.indexByte l c = o := ⟨(Lib.indexByte l c).toNat, by omega⟩
  have := (List.getElem?_eq_some_iff.1 (Lib.indexByte_some ho).1).1
  omega
theorem extW_ok {HT : Th} {st : St} {id : Nat} {xs : List AV} {os : List (AV × St)} (h : extW st id xs = some os) {E : Env} {w : World} {vs : Array Value} (m : M HT E st w) (hv : Vs HT E xs vs.toList) :
  ∃ v, (∀ w, (callFunc id vs).run Tryz.prog w = .ok (.value v) w) ∧ ∃ o ∈ os, ∃ E', Up HT E st w E' o.2 ∧ V HT E' o.1 v := by
 have i0 := min_nonpos .i64
 unfold extW at h
 split at h
 ·rename_i a e
  split at h <;> try cases h
  rename_i n hn
  split at h <;> try cases h
  rename_i hb
  obtain ⟨x, y, rfl, hx, hy⟩ := two_args hv
  obtain ⟨s, rfl, hs, bn⟩ := slen_ok hx hn
  obtain ⟨rfl, _, h1, h2⟩ := hy
  have hb := m.ge hb
  rw [Lin.ev_sub, Lin.ev_k, ← hs] at hb
  have hc : (Lib.countByte s.data.toList (e.ev E.ρ).toNat.toUInt8 : Int) ≤ s.size := by
   have : s.data.toList.count (e.ev E.ρ).toNat.toUInt8 ≤ s.data.toList.length := List.count_le_length
   rw [Array.length_toList] at this
   exact_mod_cast this
  obtain ⟨E', u, v1, _⟩ := rng_ok m .i64 (lo := .k 0) (hi := n) (Lib.countByte s.data.toList (e.ev E.ρ).toNat.toUInt8) (by rw [Lin.ev_k]; omega) (by rw [← hs]; exact hc) (below_k _ _) bn (by omega) (by omega)
  refine ⟨_, fun w => ?_, _, List.mem_cons_self .., E', u, v1⟩
  rw [run_callFunc_extern f157_at (by kernel_rfl) (by kernel_rfl) (by kernel_rfl) (e := Extern.BytealgCount.count) (by kernel_rfl), Lib.run_countString]
  rfl
 ·rename_i a e
  split at h <;> try cases h
  rename_i n hn
  split at h <;> try cases h
  rename_i hb
  obtain ⟨x, y, rfl, hx, hy⟩ := two_args hv
  obtain ⟨s, rfl, hs, bn⟩ := slen_ok hx hn
  obtain ⟨rfl, _, h1, h2⟩ := hy
  have hb := m.ge hb
  rw [Lin.ev_sub, Lin.ev_k, ← hs] at hb
  have hge := Lib.indexByte_ge s.data.toList (e.ev E.ρ).toNat.toUInt8
  have hlt := indexByte_lt s.data.toList (e.ev E.ρ).toNat.toUInt8
  rw [Array.length_toList] at hlt
  have hlt : Lib.indexByte s.data.toList (e.ev E.ρ).toNat.toUInt8 < (s.size : Int) := hlt
  have mm : IntKind.i64.min ≤ -1 := by decide
  obtain ⟨E', u, v1, _⟩ := rng_ok m .i64 (lo := .k (-1)) (hi := n.addk (-1)) (Lib.indexByte s.data.toList (e.ev E.ρ).toNat.toUInt8) (by rw [Lin.ev_k]; exact hge) (by rw [Lin.ev_addk, ← hs]; omega) (below_k _ _) (below_addk bn _) (by omega) (by omega)
  refine ⟨_, fun w => ?_, _, List.mem_cons_self .., E', u, v1⟩
  rw [run_callFunc_extern f254_at (by kernel_rfl) (by kernel_rfl) (by kernel_rfl) (e := Extern.BytealgIndexByte.indexByte) (by kernel_rfl), Lib.run_indexByteString]
  rfl
 ·cases h
theorem ext_ok {HT : Th} : ∀ id st xs os, extA id st xs = some os → ∀ E w vs, M HT E st w → Vs HT E xs vs.toList → ∃ v, (∀ w, (callFunc id vs).run Tryz.prog w = .ok (.value v) w) ∧ ∃ o ∈ os, ∃ E', Up HT E st w E' o.2 ∧ V HT E' o.1 v := by
 intro id st xs os h E w vs m hv
 unfold extA at h
 cases hx : extX id xs with
 | some l =>
  rw [hx] at h
  injection h with h; subst h
  obtain ⟨v, h1, o, h2, h3⟩ := extX_ok id xs l hx E vs hv
  exact ⟨v, h1, (o, st), List.mem_map.2 ⟨o, h2, rfl⟩, E, Up.refl m, h3⟩
 | none =>
  rw [hx] at h
  exact extW_ok h m hv
/-! ### The commands' methods -/
def mtL : TypeId → String → Option Nat
 | 198, n => if n == "Next" then some 386 else if n == "Status" then some 383 else if n == "Diags" then some 381 else if n == "Out" then some 382 else none
 | 200, n => if n == "Next" then some 387 else if n == "Status" then some 383 else if n == "Diags" then some 381 else if n == "Out" then some 382 else none
 | 202, n => if n == "Next" then some 388 else if n == "Status" then some 383 else if n == "Diags" then some 381 else if n == "Out" then some 382 else none
 | 204, n => if n == "Next" then some 389 else if n == "Status" then some 383 else if n == "Diags" then some 381 else if n == "Out" then some 382 else none
 | 206, n => if n == "Next" then some 390 else if n == "Status" then some 383 else if n == "Diags" then some 381 else if n == "Out" then some 382 else none
 | _, _ => none
def mtvL : TypeId → String → Option (Nat × Bool)
 | 143, n => if n == "Next" then some (384, false) else if n == "Status" then some (385, false) else if n == "Diags" then some (381, true) else if n == "Out" then some (382, true) else none
 | _, _ => none
theorem m198n (p : Addr) (w : World) : (method (Tryz.prog.types.size + Made.depth) 198 (.pointer (some p)) "Next").run Tryz.prog w = .ok (386, .pointer (some p)) w := by kernel_rfl
theorem m198s (p : Addr) (w : World) : (method (Tryz.prog.types.size + Made.depth) 198 (.pointer (some p)) "Status").run Tryz.prog w = .ok (383, .pointer (some p)) w := by kernel_rfl
theorem m198d (p : Addr) (w : World) : (method (Tryz.prog.types.size + Made.depth) 198 (.pointer (some p)) "Diags").run Tryz.prog w = .ok (381, .pointer (some p)) w := by kernel_rfl
theorem m198o (p : Addr) (w : World) : (method (Tryz.prog.types.size + Made.depth) 198 (.pointer (some p)) "Out").run Tryz.prog w = .ok (382, .pointer (some p)) w := by kernel_rfl
theorem m200n (p : Addr) (w : World) : (method (Tryz.prog.types.size + Made.depth) 200 (.pointer (some p)) "Next").run Tryz.prog w = .ok (387, .pointer (some p)) w := by kernel_rfl
theorem m200s (p : Addr) (w : World) : (method (Tryz.prog.types.size + Made.depth) 200 (.pointer (some p)) "Status").run Tryz.prog w = .ok (383, .pointer (some p)) w := by kernel_rfl
theorem m200d (p : Addr) (w : World) : (method (Tryz.prog.types.size + Made.depth) 200 (.pointer (some p)) "Diags").run Tryz.prog w = .ok (381, .pointer (some p)) w := by kernel_rfl
theorem m200o (p : Addr) (w : World) : (method (Tryz.prog.types.size + Made.depth) 200 (.pointer (some p)) "Out").run Tryz.prog w = .ok (382, .pointer (some p)) w := by kernel_rfl
theorem m202n (p : Addr) (w : World) : (method (Tryz.prog.types.size + Made.depth) 202 (.pointer (some p)) "Next").run Tryz.prog w = .ok (388, .pointer (some p)) w := by kernel_rfl
theorem m202s (p : Addr) (w : World) : (method (Tryz.prog.types.size + Made.depth) 202 (.pointer (some p)) "Status").run Tryz.prog w = .ok (383, .pointer (some p)) w := by kernel_rfl
theorem m202d (p : Addr) (w : World) : (method (Tryz.prog.types.size + Made.depth) 202 (.pointer (some p)) "Diags").run Tryz.prog w = .ok (381, .pointer (some p)) w := by kernel_rfl
theorem m202o (p : Addr) (w : World) : (method (Tryz.prog.types.size + Made.depth) 202 (.pointer (some p)) "Out").run Tryz.prog w = .ok (382, .pointer (some p)) w := by kernel_rfl
theorem m204n (p : Addr) (w : World) : (method (Tryz.prog.types.size + Made.depth) 204 (.pointer (some p)) "Next").run Tryz.prog w = .ok (389, .pointer (some p)) w := by kernel_rfl
theorem m204s (p : Addr) (w : World) : (method (Tryz.prog.types.size + Made.depth) 204 (.pointer (some p)) "Status").run Tryz.prog w = .ok (383, .pointer (some p)) w := by kernel_rfl
theorem m204d (p : Addr) (w : World) : (method (Tryz.prog.types.size + Made.depth) 204 (.pointer (some p)) "Diags").run Tryz.prog w = .ok (381, .pointer (some p)) w := by kernel_rfl
theorem m204o (p : Addr) (w : World) : (method (Tryz.prog.types.size + Made.depth) 204 (.pointer (some p)) "Out").run Tryz.prog w = .ok (382, .pointer (some p)) w := by kernel_rfl
theorem m206n (p : Addr) (w : World) : (method (Tryz.prog.types.size + Made.depth) 206 (.pointer (some p)) "Next").run Tryz.prog w = .ok (390, .pointer (some p)) w := by kernel_rfl
theorem m206s (p : Addr) (w : World) : (method (Tryz.prog.types.size + Made.depth) 206 (.pointer (some p)) "Status").run Tryz.prog w = .ok (383, .pointer (some p)) w := by kernel_rfl
theorem m206d (p : Addr) (w : World) : (method (Tryz.prog.types.size + Made.depth) 206 (.pointer (some p)) "Diags").run Tryz.prog w = .ok (381, .pointer (some p)) w := by kernel_rfl
theorem m206o (p : Addr) (w : World) : (method (Tryz.prog.types.size + Made.depth) 206 (.pointer (some p)) "Out").run Tryz.prog w = .ok (382, .pointer (some p)) w := by kernel_rfl
theorem fn381 : ((fx mtL mtvL extA).fn 381).isSome = true := by kernel_rfl
theorem fn382 : ((fx mtL mtvL extA).fn 382).isSome = true := by kernel_rfl
theorem fn383 : ((fx mtL mtvL extA).fn 383).isSome = true := by kernel_rfl
theorem fn386 : ((fx mtL mtvL extA).fn 386).isSome = true := by kernel_rfl
theorem fn387 : ((fx mtL mtvL extA).fn 387).isSome = true := by kernel_rfl
theorem fn388 : ((fx mtL mtvL extA).fn 388).isSome = true := by kernel_rfl
theorem fn389 : ((fx mtL mtvL extA).fn 389).isSome = true := by kernel_rfl
theorem fn390 : ((fx mtL mtvL extA).fn 390).isSome = true := by kernel_rfl
theorem mt_ok : ∀ t name id, mtL t name = some id → (∃ I, (fx mtL mtvL extA).fn id = some I) ∧ ∀ p w, (method (Tryz.prog.types.size + Made.depth) t (.pointer (some p)) name).run Tryz.prog w = .ok (id, .pointer (some p)) w := by
 intro t name id h
 unfold mtL at h
 split at h
 ·split at h
  ·rename_i e
   injection h with h; subst h; rw [eq_of_beq e]; exact ⟨Option.isSome_iff_exists.1 fn386, m198n⟩
  split at h
  ·rename_i e
   injection h with h; subst h; rw [eq_of_beq e]; exact ⟨Option.isSome_iff_exists.1 fn383, m198s⟩
  split at h
  ·rename_i e
   injection h with h; subst h; rw [eq_of_beq e]; exact ⟨Option.isSome_iff_exists.1 fn381, m198d⟩
  split at h
  ·rename_i e
   injection h with h; subst h; rw [eq_of_beq e]; exact ⟨Option.isSome_iff_exists.1 fn382, m198o⟩
  cases h
 ·split at h
  ·rename_i e
   injection h with h; subst h; rw [eq_of_beq e]; exact ⟨Option.isSome_iff_exists.1 fn387, m200n⟩
  split at h
  ·rename_i e
   injection h with h; subst h; rw [eq_of_beq e]; exact ⟨Option.isSome_iff_exists.1 fn383, m200s⟩
  split at h
  ·rename_i e
   injection h with h; subst h; rw [eq_of_beq e]; exact ⟨Option.isSome_iff_exists.1 fn381, m200d⟩
  split at h
  ·rename_i e
   injection h with h; subst h; rw [eq_of_beq e]; exact ⟨Option.isSome_iff_exists.1 fn382, m200o⟩
  cases h
 ·split at h
  ·rename_i e
   injection h with h; subst h; rw [eq_of_beq e]; exact ⟨Option.isSome_iff_exists.1 fn388, m202n⟩
  split at h
  ·rename_i e
   injection h with h; subst h; rw [eq_of_beq e]; exact ⟨Option.isSome_iff_exists.1 fn383, m202s⟩
  split at h
  ·rename_i e
   injection h with h; subst h; rw [eq_of_beq e]; exact ⟨Option.isSome_iff_exists.1 fn381, m202d⟩
  split at h
  ·rename_i e
   injection h with h; subst h; rw [eq_of_beq e]; exact ⟨Option.isSome_iff_exists.1 fn382, m202o⟩
  cases h
 ·split at h
  ·rename_i e
   injection h with h; subst h; rw [eq_of_beq e]; exact ⟨Option.isSome_iff_exists.1 fn389, m204n⟩
  split at h
  ·rename_i e
   injection h with h; subst h; rw [eq_of_beq e]; exact ⟨Option.isSome_iff_exists.1 fn383, m204s⟩
  split at h
  ·rename_i e
   injection h with h; subst h; rw [eq_of_beq e]; exact ⟨Option.isSome_iff_exists.1 fn381, m204d⟩
  split at h
  ·rename_i e
   injection h with h; subst h; rw [eq_of_beq e]; exact ⟨Option.isSome_iff_exists.1 fn382, m204o⟩
  cases h
 ·split at h
  ·rename_i e
   injection h with h; subst h; rw [eq_of_beq e]; exact ⟨Option.isSome_iff_exists.1 fn390, m206n⟩
  split at h
  ·rename_i e
   injection h with h; subst h; rw [eq_of_beq e]; exact ⟨Option.isSome_iff_exists.1 fn383, m206s⟩
  split at h
  ·rename_i e
   injection h with h; subst h; rw [eq_of_beq e]; exact ⟨Option.isSome_iff_exists.1 fn381, m206d⟩
  split at h
  ·rename_i e
   injection h with h; subst h; rw [eq_of_beq e]; exact ⟨Option.isSome_iff_exists.1 fn382, m206o⟩
  cases h
 ·cases h
theorem fn384 : ((fx mtL mtvL extA).fn 384).isSome = true := by kernel_rfl
theorem fn385 : ((fx mtL mtvL extA).fn 385).isSome = true := by kernel_rfl
theorem m143n (p : Addr) (u : Value) (w : World) : (method (Tryz.prog.types.size + Made.depth) 143 (.agg #[.pointer (some p), u]) "Next").run Tryz.prog w = .ok (384, .agg #[.pointer (some p), u]) w := by kernel_rfl
theorem m143s (p : Addr) (u : Value) (w : World) : (method (Tryz.prog.types.size + Made.depth) 143 (.agg #[.pointer (some p), u]) "Status").run Tryz.prog w = .ok (385, .agg #[.pointer (some p), u]) w := by kernel_rfl
theorem m143d (p : Addr) (u : Value) (w : World) : (method (Tryz.prog.types.size + Made.depth) 143 (.agg #[.pointer (some p), u]) "Diags").run Tryz.prog w = .ok (381, .pointer (some p)) w := by kernel_rfl
theorem m143o (p : Addr) (u : Value) (w : World) : (method (Tryz.prog.types.size + Made.depth) 143 (.agg #[.pointer (some p), u]) "Out").run Tryz.prog w = .ok (382, .pointer (some p)) w := by kernel_rfl
theorem mtv_ok : ∀ t name id j, mtvL t name = some (id, j) → (∃ I, (fx mtL mtvL extA).fn id = some I) ∧ ∀ p u w, (method (Tryz.prog.types.size + Made.depth) t (.agg #[.pointer (some p), u]) name).run Tryz.prog w = .ok (id, if j then .pointer (some p) else .agg #[.pointer (some p), u]) w := by
 intro t name id j h
 unfold mtvL at h
 split at h
 ·split at h
  ·rename_i e
   injection h with h; injection h with h1 h2; subst h1; subst h2; rw [eq_of_beq e]; exact ⟨Option.isSome_iff_exists.1 fn384, m143n⟩
  split at h
  ·rename_i e
   injection h with h; injection h with h1 h2; subst h1; subst h2; rw [eq_of_beq e]; exact ⟨Option.isSome_iff_exists.1 fn385, m143s⟩
  split at h
  ·rename_i e
   injection h with h; injection h with h1 h2; subst h1; subst h2; rw [eq_of_beq e]; exact ⟨Option.isSome_iff_exists.1 fn381, m143d⟩
  split at h
  ·rename_i e
   injection h with h; injection h with h1 h2; subst h1; subst h2; rw [eq_of_beq e]; exact ⟨Option.isSome_iff_exists.1 fn382, m143o⟩
  cases h
 ·cases h
theorem mkFx_ok {P : Program} (hn : (P.funcs.toList.all fun f => !(f.name == "runtime.NumGoroutine")) = true) {mt : TypeId → String → Option Nat} {mtv : TypeId → String → Option (Nat × Bool)} {ext : Nat → St → List AV → Option (List (AV × St))} (HT : Th) (l : List TypeId) (rk : Nat → Option Nat)
  (hm : ∀ t name id, mt t name = some id → (∃ I, (mkFx P mt mtv ext).fn id = some I) ∧ ∀ p w, (method (P.types.size + Made.depth) t (.pointer (some p)) name).run P w = .ok (id, .pointer (some p)) w)
  (hv : ∀ t name id j, mtv t name = some (id, j) → (∃ I, (mkFx P mt mtv ext).fn id = some I) ∧ ∀ p u w, (method (P.types.size + Made.depth) t (.agg #[.pointer (some p), u]) name).run P w = .ok (id, if j then .pointer (some p) else .agg #[.pointer (some p), u]) w)
  (he : ∀ id st xs os, ext id st xs = some os → ∀ E w vs, M HT E st w → Vs HT E xs vs.toList → ∃ v, (∀ w, (callFunc id vs).run P w = .ok (.value v) w) ∧ ∃ o ∈ os, ∃ E', Up HT E st w E' o.2 ∧ V HT E' o.1 v) : FxOk (mkCx P HT l rk) (mkFx P mt mtv ext) :=
 ⟨fun id I h => mkFx_fn hn h, hm, he, hv⟩
set_option maxRecDepth 200000 in
theorem fx_ok (HT : Th) (l : List TypeId) (rk : Nat → Option Nat) : FxOk (cx HT l rk) (fx mtL mtvL extA) := mkFx_ok names_ok HT l rk mt_ok mtv_ok ext_ok
end Go.Proofs.YtbjhcjgniciooaaGreatDoor.E
