/- TopModes: a part of the proof, merged. -/
import Derived.OrdersHeld
import Derived.Deep.RegionHeld3
import Derived.Laws.BitsLemmas
import Derived.RowKit
import Derived.Test.YtbjhcjgniciooaaGreatDoorProg
import Derived.Below
import Derived.Deep.Draws
import Derived.Deep.AppendLies
import Derived.Maps.AppendAt
import Derived.OwnWalk
import Derived.Laws.BytesArg
import Derived.Laws.MakeOwn
import Derived.Laws.OwnMore
import Derived.Deep.OwnRows
import Derived.Tactics
import Derived.Lib.ConvBytes
import Derived.Laws.Slices
import Derived.WalkKit
import Derived.KernelRfl
import Derived.RowKit3
import Derived.Deep.LoopGhost
import Derived.Deep.QuietTactic
import Derived.BigQuiet
import Derived.WideLaws
import Derived.Deep.DeepCutAuto
import Derived.Deep.CutBlock
import Derived.Laws.Rows
import Derived.Lib.AppendStr
import Derived.ArgAppend
import Derived.Laws.IdiomCopy
import Derived.Laws.StructEq
import Derived.Lib.Hide
import Derived.Handy
import Derived.OneCell
import Derived.Outline
import Derived.Lib.SliceRun
import Derived.WalkSpells
import Derived.Test.YtbjhcjgniciooaaGreatDoorM11
/-
  PRINTED WORDS, second file: A REGION THAT DRAWS ITS ORDER, WALKED BY HAND, where its last store writes what its own loads read ('x.f = append(x.f, f(i))'). Plain theorems; no macro, no elab. A claim may hold it (turn the namespace's name).
  A load may be taken first in every world that meets S; behind the operations of ds nothing is shown; sound because each of ds waits for what is taken (Region.lastB). The kernel checks it.
  By an AI agent of Go's test side, Mon Nov 16 2026. No person has read it.
-/
namespace Go.Proofs.YtbjhcjgniciooaaGreatDoorW.PrintLast
section
variable {P : Program} {ops : Array Oper} {Q : Exit → Act → World → Prop} {md : Region.Mode} {S : World → Prop} {ds : List Nat}
def ListedClosed (md : Region.Mode) (ops : Array Oper) (listed : Array Bool) : Prop :=
 ∀ j oj, ops[j]? = some oj → listed.getD j false = true → ∀ e ∈ oj.after, Region.binds md e = true → listed.getD e.on false = true
theorem ListedClosed.set {listed : Array Bool} {i : Nat} (h : ListedClosed md ops listed) (hi : i ∈ Region.ready md ops listed) : ListedClosed md ops (listed.setIfInBounds i true) := by
 obtain ⟨_, oi, hoi, hall⟩ := mem_ready.1 hi
 intro j oj hj hl e he hb
 by_cases hij : i = j
 ·subst hij
  have : oj = oi := Option.some.inj (hj.symm.trans hoi)
  subst this
  exact getD_set_true (hall e he hb)
 ·rw [getD_set_ne false hij] at hl
  exact getD_set_true (h j oj hj hl e he hb)
end
section
variable {P : Program} {ops : Array Oper} {Q : Exit → Act → World → Prop} {md : Region.Mode} {S : World → Prop} {ds : List Nat}
/-! ### Several operations that write or call may come up: each order is walked, what follows is shown once (join_) -/
theorem enters_ {f : FuncId} {fn : Func} (hf : P.funcs[f]? = some fn) (hname : (fn.name == "runtime.NumGoroutine") = false) (hb : fn.body.isSome = true) (args : Array Value) (w : World) : (callFunc f args).run P w = .ok (.enter f args) w := by
 have h1 : fn.name ≠ "runtime.NumGoroutine" := by simpa using hname
 obtain ⟨c, hc⟩ := Option.isSome_iff_exists.1 hb
 simp [callFunc, hf, h1, hc]
theorem i64_w (n : Int) : IntKind.i64.wrap n = Go.RowKit.wrap64 n := by unfold Go.RowKit.wrap64; exact IntKind.wrap_i64 n
end
end Go.Proofs.YtbjhcjgniciooaaGreatDoorW.PrintLast
/-! ### 50. A region's order in a table, made once a region: each step asks the table (numbers alone), not the operations -/
namespace Go.Proofs.YtbjhcjgniciooaaGreatDoorW.PrintLast
open Go.Proofs.YtbjhcjgniciooaaGreatDoorW.PrintWords (Aside0)
section
variable {md : Region.Mode} {ops : Array Oper} {T : Bool × List (List Nat × List Nat)} {l l' li lj lk : Array Bool} {ds : List Nat} {i j k : Nat}
theorem gd (l : Array Bool) (j : Nat) (b : Bool) : l.getD j b = l.toList.getD j b := by simp [Array.getD_eq_getD_getElem?, List.getD_eq_getElem?_getD]
end
end Go.Proofs.YtbjhcjgniciooaaGreatDoorW.PrintLast
/-! ### 40. Elements whose inner rows lie apart: what is stored into one says nothing of the others.
  S: as R, with an owner function f (block to element's index). H: as S with a hole: of element i its cells alone are told, its blocks are oki. -/
namespace Go.Proofs.YtbjhcjgniciooaaGreatDoorW.PrintWords
open Go.RowKit
namespace Kd
/-- An element with its index: its blocks are those that f gives to it. -/
def tag {α : Type} (f : Nat → Nat) (d : Kd α) : Kd (α × Nat) where
 sz := d.sz
 E := d.E
 K := fun w x cs => d.K w x.1 cs
 M := fun w base ok x cs => d.M w base (fun k => ok k ∧ f k = x.2) x.1 cs
 K_len := fun h => d.K_len h
 K_one := fun h => d.K_one h
 K_below := fun hb h => d.K_below hb h
 K_of_M := fun h => d.K_of_M h
 M_mono := fun hok h => d.M_mono (fun k hk => ⟨hok k hk.1, hk.2⟩) h
 M_bound := fun h => d.M_mono (fun _ hk => ⟨⟨hk.1.1, hk.2⟩, hk.1.2⟩) (d.M_bound h)
 M_move := fun hm h => d.M_move (fun k hk => hm k hk.1) h
 M_lower := fun hb h => d.M_lower hb h
/-- A row of elements (type e) of the call's own, no two of which lead to one block. -/
def S {α : Type} (d : Kd α) (e : Nat) (w : World) (base : Nat) (ok : Nat → Prop) (v : Value) (xs : List α) : Prop := ∃ f, (tag f d).R e w base ok v xs.zipIdx
section
variable {α β : Type} {d : Kd α} {d' : Kd β} {e e' : Nat} {w w1 W : World} {base b : Nat} {ok ok' okv oku : Nat → Prop} {u v : Value} {xs : List α} {ys : List β}
end
section
variable {α β : Type} {d : Kd α} {d' : Kd β} {e e' g : Nat} {w w1 W : World} {base b : Nat} {ok ok' okv oku : Nat → Prop} {u v : Value} {xs : List α} {ys : List β}
end
/-! #### append, make, literals: the new element's blocks are none of the elder ones' -/
section
variable {P : Program} {ops : Array Oper} {rest : List Oper} {o : Oper} {a : Act} {Q : Exit → Act → World → Prop} {Kc : Act → World → Prop} {α : Type}
end
/-! #### a row with a hole: element i is lent, its blocks are oki; of it the row says its cells alone -/
section
variable {α β : Type} {d : Kd α} {e e' g n cap : Nat} {w w1 W : World} {base : Nat} {ok ok' oki okp : Nat → Prop} {u v : Value} {xs : List α} {i : Int} {c : List Value}
end
section
variable {P : Program} {ops : Array Oper} {rest : List Oper} {o : Oper} {a : Act} {Q : Exit → Act → World → Prop} {α : Type}
end
end Kd
end Go.Proofs.YtbjhcjgniciooaaGreatDoorW.PrintWords
/-! ### 41. Arrays '[n]T' as_ values: a kind (a field, an element of a row), an element read, an element set -/
namespace Go.Proofs.YtbjhcjgniciooaaGreatDoorW.PrintWords
open Go.RowKit
namespace Kd
theorem reps_one {α : Type} {R : α → List Value → Prop} {size : Nat} {ps : List α} {cs : List Value} (h : Reps R size ps cs) (hs0 : 0 < size) (hR : ∀ p c, R p c → ∀ u ∈ c, u.oneCell' = true) : ∀ u ∈ cs, u.oneCell' = true := by
 intro u hu
 obtain ⟨q, hq, rfl⟩ := List.mem_iff_getElem.1 hu
 have hql : q / size < ps.length := by
  rw [Nat.div_lt_iff_lt_mul hs0, ← h.1]
  exact hq
 refine hR _ _ (h.2 (q / size) _ (List.getElem?_eq_getElem hql)) _ ?_
 rw [List.mem_iff_getElem?]
 refine ⟨q % size, ?_⟩
 rw [List.getElem?_take, if_pos (Nat.mod_lt _ hs0), List.getElem?_drop, Nat.mul_comm, Nat.div_add_mod, List.getElem?_eq_getElem hq]
/-- An array of n elements of kind d. -/
def arr {α : Type} (n : Nat) (d : Kd α) (hs : 0 < d.sz) : Kd (List α) where
 sz := n * d.sz
 E := d.E
 K := fun w xs cs => xs.length = n ∧ Reps (d.K w) d.sz xs cs
 M := fun w base ok xs cs => xs.length = n ∧ Reps (d.M w base ok) d.sz xs cs
 K_len := fun h => by rw [← h.1]; exact h.2.1
 K_one := fun h => reps_one h.2 hs (fun _ _ hk => d.K_one hk)
 K_below := fun hb h => ⟨h.1, h.2.imp_ (fun _ _ hk => d.K_below hb hk)⟩
 K_of_M := fun h => ⟨h.1, h.2.imp_ (fun _ _ hk => d.K_of_M hk)⟩
 M_mono := fun hok h => ⟨h.1, h.2.imp_ (fun _ _ hk => d.M_mono hok hk)⟩
 M_bound := fun h => ⟨h.1, h.2.imp_ (fun _ _ hk => d.M_bound hk)⟩
 M_move := fun hm h => ⟨h.1, h.2.imp_ (fun _ _ hk => d.M_move hm hk)⟩
 M_lower := fun hb h => ⟨h.1, h.2.imp_ (fun _ _ hk => d.M_lower hb hk)⟩
section
variable {α : Type} {n : Nat} {d : Kd α} {hs : 0 < d.sz} {w : World} {base : Nat} {ok : Nat → Prop} {xs : List α} {cs : List Value}
end
section
variable {α : Type} {n : Nat} {enc : α → Value} {h1 : ∀ x, (enc x).oneCell' = true} {hs : 0 < (scalar enc h1).sz} {w : World} {base : Nat} {ok : Nat → Prop} {xs : List α} {cs : List Value}
end
end Kd
end Go.Proofs.YtbjhcjgniciooaaGreatDoorW.PrintWords
/-! ### 46. Values that share: what is only read, with the blocks it lies in (its footprint 'ok'): Foot, F (a row that is read), FK (an element's cells) -/
namespace Go.Proofs.YtbjhcjgniciooaaGreatDoorW.PrintWords
open Go.RowKit
/-- P holds in W and in every world that has W's blocks of ok. -/
def Foot (P : World → Prop) (W : World) (ok : Nat → Prop) : Prop := ∀ W' : World, (∀ k, ok k → k < W.heap.size → W'.heap[k]? = W.heap[k]?) → P W'
theorem heap_lt {W W1 : World} {k : Nat} (h : W1.heap[k]? = W.heap[k]?) (hlt : k < W.heap.size) : k < W1.heap.size := by
 rw [Array.getElem?_eq_getElem hlt] at h
 exact (Array.getElem?_eq_some_iff.1 h).1
namespace Foot
variable {P Q : World → Prop} {W W1 : World} {ok ok' : Nat → Prop}
theorem now (h : Foot P W ok) : P W := h W (fun _ _ _ => rfl)
theorem mono (h : Foot P W ok) (hok : ∀ k, ok k → ok' k) : Foot P W ok' := fun W' hW => h W' (fun k hk hlt => hW k (hok k hk) hlt)
theorem bound (h : Foot P W ok) : Foot P W (fun k => ok k ∧ k < W.heap.size) := fun W' hW => h W' (fun k hk hlt => hW k ⟨hk, hlt⟩ hlt)
theorem step (h : Foot P W ok) (hm : ∀ k, ok k → k < W.heap.size → W1.heap[k]? = W.heap[k]?) : Foot P W1 ok := fun W' hW => h W' (fun k hk hlt => (hW k hk (heap_lt (hm k hk hlt) hlt)).trans (hm k hk hlt))
theorem imp (h : Foot P W ok) (hi : ∀ W', P W' → Q W') : Foot Q W ok := fun W' hW => hi W' (h W' hW)
/-- Moved, and still elder than what is new since W. -/
theorem old (h : Foot P W ok) (hb : Below W.heap.size W W1) : Foot P W1 (fun k => ok k ∧ k < W.heap.size) := (h.bound).step (fun k _ hlt => hb.block k hlt)
end Foot
namespace Kd
/-- A row that is only read: what it leads to lies in ok. -/
def F {α : Type} (d : Kd α) (W : World) (ok : Nat → Prop) (A : Option Addr) (n : Nat) (xs : List α) : Prop := Foot (fun W => d.C W A n xs) W ok
/-- An element's cells: what they lead to lies in ok. -/
def FK {α : Type} (d : Kd α) (W : World) (ok : Nat → Prop) (x : α) (c : List Value) : Prop := Foot (fun W => d.K W x c) W ok
section
variable {α β : Type} {d : Kd α} {e base n n' cc g N : Nat} {ok ok' okp S : Nat → Prop} {w w0 w1 W W1 : World} {A A' : Option Addr} {u v v1 : Value} {xs : List α} {xs' : List β} {d' : Kd β} {x : α} {c : List Value}
theorem F_now (h : F d W ok A n xs) : d.C W A n xs := Foot.now h
theorem F_mono (h : F d W ok A n xs) (hok : ∀ k, ok k → ok' k) : F d W ok' A n xs := Foot.mono h hok
theorem F_bound (h : F d W ok A n xs) : F d W (fun k => ok k ∧ k < W.heap.size) A n xs := Foot.bound h
theorem F_step (h : F d W ok A n xs) (hm : ∀ k, ok k → k < W.heap.size → W1.heap[k]? = W.heap[k]?) : F d W1 ok A n xs := Foot.step h hm
theorem F_imp (h : F d W ok A n xs) (hi : ∀ W', d.C W' A n xs → d'.C W' A' n' xs') : F d' W ok A' n' xs' := Foot.imp h hi
theorem F_below (h : F d W ok A n xs) (hb : Below W.heap.size W W1) : F d W1 ok A n xs := F_step h (fun k _ hlt => hb.block k hlt)
theorem F_far (h : F d W ok A n xs) {p : Addr} (hok : ∀ k, ok k → k ≠ p.block) (u : Value) : F d (W.setCell p u) ok A n xs := F_step h (fun k hk _ => Below.heap_setCell W p u k (hok k hk))
theorem F_nil (d : Kd α) (W : World) (ok : Nat → Prop) : F d W ok none ([] : List α).length [] := fun W' _ => C_nil d W'
theorem R_F (h : d.R e W base ok (.slice A n cc) xs) : F d W ok A n xs := fun W' hW => by
 have h2 := R_reads' (R_step h hW)
 rw [h2.1]
 exact h2.2.2
/-- The same of an element's cells. -/
theorem FK_now (h : FK d W ok x c) : d.K W x c := Foot.now h
/-- A block that is emptied reads no more. -/
theorem emptied (W : World) (g : Nat) : ∃ W' : World, (∀ k, k ≠ g → W'.heap[k]? = W.heap[k]?) ∧ ∀ a : Addr, a.block = g → W'.cell? a = none := by
 refine ⟨{ W with heap := W.heap.setIfInBounds g (.cells #[] 0) }, fun k hk => by simp [Ne.symm hk], fun a ha => ?_⟩
 subst ha
 by_cases hlt : a.block < W.heap.size
 ·simp [World.cell?, hlt]
 ·simp [World.cell?, hlt]
end
end Kd
end Go.Proofs.YtbjhcjgniciooaaGreatDoorW.PrintWords
/-! ### 47. N: a row of the call's own whose elements share (what they lead to is only read) -/
namespace Go.Proofs.YtbjhcjgniciooaaGreatDoorW.PrintWords
open Go.RowKit
namespace Kd
section
variable {α : Type} {d : Kd α} {e base n cc g : Nat} {ok ok' okp S : Nat → Prop} {w w1 W W1 : World} {A : Option Addr} {u v v1 : Value} {xs : List α} {x : α} {c : List Value}
/-- Element i of a row that is read: its cells, and what they lead to, in ok. -/
theorem F_get (h : F d W ok A n xs) (z : α) (i : Int) (h0 : 0 ≤ i) (h1 : i < n) :
  ∃ ad c, A = some ad ∧ c.length = d.sz ∧ FK d W ok (xs.getD i.toNat z) c ∧ (∀ j u, c[j]? = some u → W.cell? (ad.add (i.toNat * d.sz + j)) = some u) ∧ (0 < d.sz → ok ad.block) := by
 obtain ⟨ad, c, rfl, hcl, hK, hcc⟩ := C_get (F_now h) z i h0 h1
 have hin : 0 < d.sz → ok ad.block := by
  intro hs
  by_cases hk : ok ad.block
  ·exact hk
  ·obtain ⟨W', h2, h3⟩ := emptied W ad.block
   obtain ⟨ad', c', he, hcl', _, hcc'⟩ := C_get (h W' (fun k hk' _ => h2 k (fun e => hk (e ▸ hk')))) z i h0 h1
   injection he with he
   subst he
   have h4 := hcc' 0 _ (List.getElem?_eq_getElem (by omega))
   rw [h3 _ (add_block _ _)] at h4
   cases h4
 refine ⟨ad, c, rfl, hcl, fun W' hW => ?_, hcc, hin⟩
 obtain ⟨ad', c', he, hcl', hK', hcc'⟩ := C_get (h W' hW) z i h0 h1
 injection he with he
 subst he
 have hc : c = c' := by
  apply List.ext_getElem?
  intro j
  by_cases hj : j < d.sz
  ·have hb : W'.heap[ad.block]? = W.heap[ad.block]? := by
    have h5 := hcc j _ (List.getElem?_eq_getElem (by omega))
    have h6 := World.block_lt_of_cell? W _ h5
    rw [add_block] at h6
    exact hW _ (hin (by omega)) h6
   have h5 := hcc j _ (List.getElem?_eq_getElem (by omega))
   have h6 := hcc' j _ (List.getElem?_eq_getElem (by omega))
   have h7 : W'.cell? (ad.add (i.toNat * d.sz + j)) = W.cell? (ad.add (i.toNat * d.sz + j)) := by simp [World.cell?, add_block, hb]
   rw [h7, h5] at h6
   rw [List.getElem?_eq_getElem (by omega), List.getElem?_eq_getElem (by omega)]
   exact h6
  ·rw [List.getElem?_eq_none (by omega), List.getElem?_eq_none (by omega)]
 rw [hc]
 exact hK'
end
end Kd
end Go.Proofs.YtbjhcjgniciooaaGreatDoorW.PrintWords
namespace Go.Proofs.YtbjhcjgniciooaaGreatDoorW.PrintWords
/-- One cell an element. -/
theorem Reps.one {α : Type} {R : α → List Value → Prop} {ps : List α} {cs : List Value} {p : α} {v : Value} (hp : R p [v]) (h : Reps R 1 ps cs) : Reps R 1 (p :: ps) (v :: cs) := by
 refine ⟨by simp [h.1], fun j q hq => ?_⟩
 cases j with
 | zero =>
  simp only [List.getElem?_cons_zero, Option.some.injEq] at hq
  subst hq
  simpa using hp
 | succ j =>
  simp only [List.getElem?_cons_succ] at hq
  have h1 := h.2 j q hq
  simpa [Nat.mul_one] using h1
/-- More cells an element: told apart by the cells' list. -/
theorem Reps.front {α : Type} {R : α → List Value → Prop} {size : Nat} {ps : List α} {cs c all : List Value} {p : α} (hp : R p c) (hc : c.length = size) (h : Reps R size ps cs) (ha : c ++ cs = all) : Reps R size (p :: ps) all := by
 subst ha
 refine ⟨by rw [List.length_append, hc, h.1, List.length_cons, Nat.succ_mul, Nat.add_comm], fun j q hq => ?_⟩
 cases j with
 | zero =>
  simp only [List.getElem?_cons_zero, Option.some.injEq] at hq
  subst hq
  rw [Nat.zero_mul, List.drop_zero, List.take_append_of_le_length (by omega), List.take_of_length_le (by omega)]
  exact hp
 | succ j =>
  simp only [List.getElem?_cons_succ] at hq
  have h1 := h.2 j q hq
  rw [Nat.succ_mul, List.drop_append, List.drop_of_length_le (by rw [hc]; exact Nat.le_add_left _ _), List.nil_append, hc, Nat.add_sub_cancel]
  exact h1
theorem Reps.c2 {α : Type} {R : α → List Value → Prop} {ps : List α} {cs : List Value} {p : α} {va vb : Value} (hp : R p [va, vb]) (h : Reps R 2 ps cs) : Reps R 2 (p :: ps) (va :: vb :: cs) := Reps.front hp rfl h rfl
theorem Reps.c3 {α : Type} {R : α → List Value → Prop} {ps : List α} {cs : List Value} {p : α} {va vb vc : Value} (hp : R p [va, vb, vc]) (h : Reps R 3 ps cs) : Reps R 3 (p :: ps) (va :: vb :: vc :: cs) := Reps.front hp rfl h rfl
theorem Reps.c4 {α : Type} {R : α → List Value → Prop} {ps : List α} {cs : List Value} {p : α} {va vb vc vd : Value} (hp : R p [va, vb, vc, vd]) (h : Reps R 4 ps cs) : Reps R 4 (p :: ps) (va :: vb :: vc :: vd :: cs) := Reps.front hp rfl h rfl
theorem Reps.c5 {α : Type} {R : α → List Value → Prop} {ps : List α} {cs : List Value} {p : α} {va vb vc vd ve : Value} (hp : R p [va, vb, vc, vd, ve]) (h : Reps R 5 ps cs) : Reps R 5 (p :: ps) (va :: vb :: vc :: vd :: ve :: cs) := Reps.front hp rfl h rfl
theorem Reps.c7 {α : Type} {R : α → List Value → Prop} {ps : List α} {cs : List Value} {p : α} {va vb vc vd ve vf vg : Value} (hp : R p [va, vb, vc, vd, ve, vf, vg]) (h : Reps R 7 ps cs) : Reps R 7 (p :: ps) (va :: vb :: vc :: vd :: ve :: vf :: vg :: cs) := Reps.front hp rfl h rfl
end Go.Proofs.YtbjhcjgniciooaaGreatDoorW.PrintWords
-- PRINTED WORDS (module Derived/Print/More.lean): go-gate-2's additions: an AI agent of Go's test side, Tue Nov 17 2026; no person has read it. Lean checks it.
namespace Go.Proofs.YtbjhcjgniciooaaGreatDoorW.PrintMore
open Go.RowKit Go.Proofs.YtbjhcjgniciooaaGreatDoorW.PrintWords
namespace Kd
open Go.Proofs.YtbjhcjgniciooaaGreatDoorW.PrintWords.Kd
end Kd
namespace Kd
open Go.Proofs.YtbjhcjgniciooaaGreatDoorW.PrintWords.Kd
section
variable {α : Type} {d : Kd α} {e base g N : Nat} {ok : Nat → Prop} {W w1 : World} {u v : Value} {xs : List α}
end
end Kd
/-- 'max' and 'min' of two whole numbers. -/
theorem max2_int (k k' : IntKind) (x y : Int) : Builtin.max2 (.int k x) (.int k' y) = pure (.int k (if x < y then y else x)) := by simp only [Builtin.max2, gt_iff_lt]
theorem min2_int (k k' : IntKind) (x y : Int) : Builtin.min2 (.int k x) (.int k' y) = pure (.int k (if y < x then y else x)) := by simp only [Builtin.min2]
theorem max_two (ats : Array TypeId) (ty : TypeId) (a b : Value) : Builtin.max_ ats ty #[a, b] = (Builtin.max2 a b >>= fun s => pure s) := by simp only [Builtin.max_, List.foldlM_cons, List.foldlM_nil]
theorem min_two (ats : Array TypeId) (ty : TypeId) (a b : Value) : Builtin.min_ ats ty #[a, b] = (Builtin.min2 a b >>= fun s => pure s) := by simp only [Builtin.min_, List.foldlM_cons, List.foldlM_nil]
end Go.Proofs.YtbjhcjgniciooaaGreatDoorW.PrintMore
namespace Go.Proofs.YtbjhcjgniciooaaGreatDoorW.PrintWords
open Go.RowKit
section
variable {P : Program} {ops : Array Oper} {rest : List Oper} {o : Oper} {a : Act} {Q : Exit → Act → World → Prop} {W : World}
/-- The operation is a builtin over these places. -/
theorem gate_builtin {b : Builtin} {xs : Array Operand} {ts : Array TypeId} (_ho : o.op = .call { callee := .builtin b, args := xs, argTypes := ts }) (h : wpList P ops Q (o :: rest) a W) : wpList P ops Q (o :: rest) a W := h
end
namespace Kd
section
variable {α : Type} {d : Kd α} {e base : Nat} {ok : Nat → Prop} {W w1 : World} {v : Value} {xs : List α}
end
section
variable {α : Type} {d : Kd α} {e base g n cap : Nat} {ok oki okp : Nat → Prop} {W : World} {xs : List α} {i : Int} {c : List Value}
end
section
variable {α : Type} {d : Kd α} {e base b b' g N : Nat} {ok ok1 : Nat → Prop} {W W2 w1 : World} {u v : Value} {xs ys : List α} {S : Nat → Prop}
end
end Kd
end Go.Proofs.YtbjhcjgniciooaaGreatDoorW.PrintWords
namespace Go.Proofs.YtbjhcjgniciooaaGreatDoorW.PrintWords
open Go.RowKit
namespace Kd
/-- A row that is only read, told by its value: its form, its length, what it leads to (in ok). e and base say nothing; they make it as the others are. -/
def V {α : Type} (d : Kd α) (_e : Nat) (W : World) (_base : Nat) (ok : Nat → Prop) (v : Value) (xs : List α) : Prop := ∃ A c, v = .slice A xs.length c ∧ xs.length ≤ c ∧ F d W ok A xs.length xs
section
variable {α β : Type} {d : Kd α} {e base base' n m c g N' lo hi : Nat} {ok ok' S : Nat → Prop} {w W w1 : World} {A : Option Addr} {ad : Addr} {u v v1 : Value} {xs : List α}
theorem F_cut (h : F d W ok A xs.length xs) (hm : m ≤ xs.length) (hc : xs.length ≤ c) : F d W ok (if c = m then A else A.map (·.add (m * d.sz))) (xs.drop m).length (xs.drop m) := F_imp h (fun _ hC => C_drop hC hm hc)
end
end Kd
end Go.Proofs.YtbjhcjgniciooaaGreatDoorW.PrintWords
namespace Go.Proofs.YtbjhcjgniciooaaGreatDoor.PTopModes
open Go.RowKit Go.Proofs.YtbjhcjgniciooaaGreatDoorW.PrintWords Go.Proofs.YtbjhcjgniciooaaGreatDoorW.PrintLast Go.Proofs.YtbjhcjgniciooaaGreatDoorW.PrintMore
attribute [local go_sem] max2_int min2_int max_two min_two
set_option linter.unusedVariables false
set_option linter.unusedSimpArgs false
-- the values' own types
/-! #### struct type 125 -/
/-! #### struct type 87 -/
structure S87 where
 f0 : Int
 f1 : Int
 f2 : Int
 f3 : Int
 f4 : Int
 f5 : ByteArray
 f6 : (List Int)
 f7 : ByteArray
 f8 : Int
def k87 : Kd S87 := Kd.iso (Kd.pair (Kd.int .i64) (Kd.pair (Kd.int .i64) (Kd.pair (Kd.int .i64) (Kd.pair (Kd.int .i64) (Kd.pair (Kd.int .i64) (Kd.pair Kd.string (Kd.pair (Kd.slice 5 (Kd.int .u8)) (Kd.pair Kd.string (Kd.int .i64))))))))) (fun x : S87 => (x.f0, x.f1, x.f2, x.f3, x.f4, x.f5, x.f6, x.f7, x.f8))
/-! #### struct type 32 -/
structure S32 where
 f0 : Int
 f1 : Int
 f2 : (List Int)
def k32 : Kd S32 := Kd.iso (Kd.pair (Kd.int .i64) (Kd.pair (Kd.int .i64) (Kd.slice 3 (Kd.int .i64)))) (fun x : S32 => (x.f0, x.f1, x.f2))
/-! #### struct type 35 -/
structure S35 where
 f0 : S32
 f1 : (List (List ByteArray))
def k35 : Kd S35 := Kd.iso (Kd.pair k32 (Kd.slice 65 (Kd.slice 9 Kd.string))) (fun x : S35 => (x.f0, x.f1))
end Go.Proofs.YtbjhcjgniciooaaGreatDoor.PTopModes
namespace Go.Proofs.YtbjhcjgniciooaaGreatDoor.G
open Go.RowKit Go.Proofs.YtbjhcjgniciooaaGreatDoorW.PrintWords Go.Proofs.YtbjhcjgniciooaaGreatDoorW.PrintLast Go.Proofs.YtbjhcjgniciooaaGreatDoorW.PrintMore
set_option linter.unusedVariables false
set_option linter.unusedSimpArgs false
/-! ### What a call may turn: blocks of S, and new ones -/
structure Fr (S : Nat → Prop) (w w' : World) : Prop where
 os : w'.os = w.os
 tape : w'.tape = w.tape
 output : w'.output = w.output
 size : w.heap.size ≤ w'.heap.size
 block : ∀ k, k < w.heap.size → ¬ S k → w'.heap[k]? = w.heap[k]?
section
variable {S S' : Nat → Prop} {w W w2 : World}
theorem Fr.refl (S : Nat → Prop) (w : World) : Fr S w w := ⟨rfl, rfl, rfl, Nat.le_refl _, fun _ _ _ => rfl⟩
theorem Fr.of_below (S : Nat → Prop) (h : Below w.heap.size w W) : Fr S w W := ⟨h.os, h.tape, h.output, h.size, fun k hk _ => h.block k hk⟩
theorem Fr.trans (h : Fr S w W) (k : Fr S' W w2) (hs : ∀ k, k < w.heap.size → S' k → S k) : Fr S w w2 :=
 ⟨k.os.trans h.os, k.tape.trans h.tape, k.output.trans h.output, Nat.le_trans h.size k.size, fun i hi hn => (k.block i (Nat.lt_of_lt_of_le hi h.size) (fun hs' => hn (hs i hi hs'))).trans (h.block i hi hn)⟩
theorem Fr.step (h : Fr S w W) (k : Below W.heap.size W w2) : Fr S w w2 := h.trans (Fr.of_below (fun _ => False) k) (fun _ _ h => h.elim)
theorem Fr.alloc (h : Fr S w W) (o : Obj) : Fr S w (W.alloc o) := h.step (below_alloc (Below.refl _ _) o)
theorem Fr.drewN (h : Fr S w W) (n : Nat) : Fr S w (W.drewN n) := h.step (pw_below_drewN (Below.refl _ _) n)
theorem Fr.set (h : Fr S w W) {g : Nat} (hg : S g ∨ w.heap.size ≤ g) (o : Nat) (v : Value) : Fr S w (W.setCell ⟨g, o, none⟩ v) :=
 ⟨h.os, h.tape, h.output, by simpa [World.setCell] using h.size, fun i hi hn => (Below.heap_setCell W ⟨g, o, none⟩ v i (by
  rintro rfl
  rcases hg with hg | hg
  ·exact hn hg
  ·omega)).trans (h.block i hi hn)⟩
theorem Fr.below (h : Fr S w W) {B : Nat} (hB : B ≤ w.heap.size) (hs : ∀ k, S k → B ≤ k) : Below B w W := ⟨h.os, h.tape, h.output, h.size, fun k hk => h.block k (by omega) (fun h' => by have := hs k h'; omega)⟩
theorem Fr.blk (h : Fr S w W) {g : Nat} {o : Obj} (hb : w.heap[g]? = some o) (hg : ¬ S g) : W.heap[g]? = some o := (h.block g (blk_lt hb) hg).trans hb
theorem Fr.F {α : Type} {d : Kd α} {ok : Nat → Prop} {A : Option Addr} {n : Nat} {xs : List α} (k : Fr S w W) (h : Kd.F d w ok A n xs) (hs : ∀ k, ok k → ¬ S k) : Kd.F d W ok A n xs := Kd.F_step h (fun i hi hlt => k.block i hlt (hs i hi))
end
theorem F_now_at {w W : World} {ok : Nat → Prop} {α : Type} {d : Kd α} {A : Option Addr} {n : Nat} {xs : List α} (h : Kd.F d w ok A n xs) (hb : Below w.heap.size w W) : Kd.F d W ok A n xs := Kd.F_step h (fun k_ _ hlt_ => hb.block k_ hlt_)
theorem F_set {W : World} {ok : Nat → Prop} {α : Type} {d : Kd α} {A : Option Addr} {n : Nat} {xs : List α} (g o : Nat) (v : Value) (h : Kd.F d W ok A n xs) (hk : ¬ ok g) : Kd.F d (W.setCell ⟨g, o, none⟩ v) ok A n xs := Kd.F_far h (fun k h2 h3 => hk (by rw [← show k = g from h3]; exact h2)) v
theorem F_lt {W : World} {B : Nat} {α : Type} {d : Kd α} {A : Option Addr} {n : Nat} {xs : List α} (g o : Nat) (v : Value) (h : Kd.F d W (fun k => B < k) A n xs) (hk : g ≤ B) : Kd.F d (W.setCell ⟨g, o, none⟩ v) (fun k => B < k) A n xs := F_set g o v h (Nat.not_lt.2 hk)
theorem F_le {W : World} {B C : Nat} {α : Type} {d : Kd α} {A : Option Addr} {n : Nat} {xs : List α} (h : Kd.F d W (fun k => B < k) A n xs) (hk : C ≤ B) : Kd.F d W (fun k => C ≤ k) A n xs := Kd.F_mono h (fun k hk2 => by omega)
/-! ### Nodes -/
structure Ent where
 name : ByteArray
 node : Int
def zE : Ent := ⟨⟨#[]⟩, 0⟩
structure Nd where
 kind : Int
 mode : Int
 uid : Int
 gid : Int
 data : List Int
 ents : List Ent
 target : ByteArray
def zN : Nd := ⟨0, 0, 0, 0, [], [], ⟨#[]⟩⟩
def kE : Kd Ent := Kd.iso (Kd.pair Kd.string (Kd.int .i64)) (fun x => (x.name, x.node))
/-- A node's cells. -/
def ndCells (x : Nd) (A4 : Option Addr) (c4 : Nat) (A5 : Option Addr) (c5 : Nat) : Array Value := #[.int .i64 x.kind, .int .i64 x.mode, .int .i64 x.uid, .int .i64 x.gid, .slice A4 x.data.length c4, .slice A5 x.ents.length c5, .string x.target]
/-- What they lead to lies in ok. -/
structure NdC (W : World) (ok : Nat → Prop) (x : Nd) (A4 : Option Addr) (c4 : Nat) (A5 : Option Addr) (c5 : Nat) : Prop where
 l4 : x.data.length ≤ c4
 f4 : Kd.F (Kd.int .u8) W ok A4 x.data.length x.data
 l5 : x.ents.length ≤ c5
 f5 : Kd.F kE W ok A5 x.ents.length x.ents
section
variable {W W1 : World} {ok ok' S : Nat → Prop} {x : Nd} {A4 A5 : Option Addr} {c4 c5 : Nat}
theorem NdC.step (h : NdC W ok x A4 c4 A5 c5) (hm : ∀ k, ok k → k < W.heap.size → W1.heap[k]? = W.heap[k]?) : NdC W1 ok x A4 c4 A5 c5 := ⟨h.l4, Kd.F_step h.f4 hm, h.l5, Kd.F_step h.f5 hm⟩
theorem NdC.mono (h : NdC W ok x A4 c4 A5 c5) (hm : ∀ k, ok k → ok' k) : NdC W ok' x A4 c4 A5 c5 := ⟨h.l4, Kd.F_mono h.f4 hm, h.l5, Kd.F_mono h.f5 hm⟩
theorem NdC.fr (h : NdC W ok x A4 c4 A5 c5) (k : Fr S W W1) (hs : ∀ k, ok k → ¬ S k) : NdC W1 ok x A4 c4 A5 c5 := h.step (fun i hi hlt => k.block i hlt (hs i hi))
theorem NdC.below (h : NdC W ok x A4 c4 A5 c5) (k : Below W.heap.size W W1) : NdC W1 ok x A4 c4 A5 c5 := h.step (fun i hi hlt => k.block i hlt)
theorem NdC.set (h : NdC W ok x A4 c4 A5 c5) (g o : Nat) (v : Value) (hk : ¬ ok g) : NdC (W.setCell ⟨g, o, none⟩ v) ok x A4 c4 A5 c5 := ⟨h.l4, F_set g o v h.f4 hk, h.l5, F_set g o v h.f5 hk⟩
theorem NdC.zero (W : World) (ok : Nat → Prop) : NdC W ok zN none 0 none 0 := ⟨Nat.le_refl _, Kd.F_nil _ _ _, Nat.le_refl _, Kd.F_nil _ _ _⟩
end
structure Tab where
 room : Int
 nodes : List Nd
def Tab.nd (T : Tab) (i : Nat) : Nd := T.nodes.getD i zN
def Tab.setN (T : Tab) (i : Nat) (x : Nd) : Tab := ⟨T.room, T.nodes.set i x⟩
theorem Tab.nd_set (T : Tab) (i j : Nat) (x : Nd) (hi : i < T.nodes.length) : (T.setN i x).nd j = if j = i then x else T.nd j := by
 unfold Tab.nd Tab.setN
 by_cases h : j = i
 ·subst h; simp [hi]
 ·rw [if_neg h]; simp [List.getD, List.getElem?_set, Ne.symm h]
/-- The table's block. -/
structure TabAt (W : World) (g : Nat) (ok : Nat → Prop) (T : Tab) : Prop where
 r1 : 1 ≤ T.room
 r2 : T.room ≤ 24
 len : T.nodes.length = 24
 blk : ∃ cells : Array Value, cells.size = 169 ∧ W.heap[g]? = some (.cells cells 79 (0, 0)) ∧ cells[0]? = some (.int .i64 T.room) ∧
  ∀ i, i < 24 → ∃ A4 c4 A5 c5, NdC W ok (T.nd i) A4 c4 A5 c5 ∧ ∀ j, j < 7 → cells[1 + i * 7 + j]? = (ndCells (T.nd i) A4 c4 A5 c5)[j]?
 out : ∀ k, ok k → k ≠ g
section
variable {W W1 : World} {ok ok' S : Nat → Prop} {g : Nat} {T : Tab}
theorem TabAt.lt (h : TabAt W g ok T) : g < W.heap.size := by obtain ⟨_, _, hb, _⟩ := h.blk; exact blk_lt hb
theorem TabAt.cell0 (h : TabAt W g ok T) : W.cell? ⟨g, 0, none⟩ = some (.int .i64 T.room) := by
 obtain ⟨cells, _, hb, h0, _⟩ := h.blk
 rw [blk_cell hb 0]; exact h0
theorem TabAt.frz (h : TabAt W g ok T) (o : Nat) : W.frozen? ⟨g, o, none⟩ = false := by
 obtain ⟨cells, _, hb, _⟩ := h.blk
 exact blk_frozen hb o
theorem TabAt.at7 (h : TabAt W g ok T) (i : Nat) (hi : i < 24) : ∃ A4 c4 A5 c5, NdC W ok (T.nd i) A4 c4 A5 c5 ∧
  W.cell? ⟨g, 1 + i * 7, none⟩ = some (.int .i64 (T.nd i).kind) ∧ W.cell? ⟨g, 1 + i * 7 + 1, none⟩ = some (.int .i64 (T.nd i).mode) ∧ W.cell? ⟨g, 1 + i * 7 + 2, none⟩ = some (.int .i64 (T.nd i).uid) ∧ W.cell? ⟨g, 1 + i * 7 + 3, none⟩ = some (.int .i64 (T.nd i).gid) ∧
  W.cell? ⟨g, 1 + i * 7 + 4, none⟩ = some (.slice A4 (T.nd i).data.length c4) ∧ W.cell? ⟨g, 1 + i * 7 + 5, none⟩ = some (.slice A5 (T.nd i).ents.length c5) ∧ W.cell? ⟨g, 1 + i * 7 + 6, none⟩ = some (.string (T.nd i).target) := by
 obtain ⟨cells, _, hb, _, hn⟩ := h.blk
 obtain ⟨A4, c4, A5, c5, hN, hc⟩ := hn i hi
 have p : ∀ j, j < 7 → W.cell? ⟨g, 1 + i * 7 + j, none⟩ = (ndCells (T.nd i) A4 c4 A5 c5)[j]? := fun j hj => by rw [blk_cell hb]; exact hc j hj
 exact ⟨A4, c4, A5, c5, hN, p 0 (by decide), p 1 (by decide), p 2 (by decide), p 3 (by decide), p 4 (by decide), p 5 (by decide), p 6 (by decide)⟩
theorem TabAt.step (h : TabAt W g ok T) (hg : W1.heap[g]? = W.heap[g]?) (hm : ∀ k, ok k → k < W.heap.size → W1.heap[k]? = W.heap[k]?) : TabAt W1 g ok T := by
 obtain ⟨r1, r2, len, ⟨cells, hz, hb, h0, hn⟩, out⟩ := h
 refine ⟨r1, r2, len, ⟨cells, hz, hg.trans hb, h0, fun i hi => ?_⟩, out⟩
 obtain ⟨A4, c4, A5, c5, hN, hc⟩ := hn i hi
 exact ⟨A4, c4, A5, c5, hN.step hm, hc⟩
theorem TabAt.below (h : TabAt W g ok T) (k : Below W.heap.size W W1) : TabAt W1 g ok T := h.step (k.block g h.lt) (fun i _ hlt => k.block i hlt)
theorem TabAt.drewN (h : TabAt W g ok T) (n : Nat) : TabAt (W.drewN n) g ok T := h.below (pw_below_drewN (Below.refl _ _) n)
theorem TabAt.fr (h : TabAt W g ok T) (k : Fr S W W1) (hg : ¬ S g) (hs : ∀ k, ok k → ¬ S k) : TabAt W1 g ok T := h.step (k.block g h.lt hg) (fun i hi hlt => k.block i hlt (hs i hi))
theorem TabAt.mono (h : TabAt W g ok T) (hm : ∀ k, ok k → ok' k) (ho : ∀ k, ok' k → k ≠ g) : TabAt W g ok' T := by
 obtain ⟨r1, r2, len, ⟨cells, hz, hb, h0, hn⟩, out⟩ := h
 refine ⟨r1, r2, len, ⟨cells, hz, hb, h0, fun i hi => ?_⟩, ho⟩
 obtain ⟨A4, c4, A5, c5, hN, hc⟩ := hn i hi
 exact ⟨A4, c4, A5, c5, hN.mono hm, hc⟩
/-- A node is put in place i: seven stores. -/
theorem TabAt.set7 (h : TabAt W g ok T) (i : Nat) (hi : i < 24) (x : Nd) {A4 : Option Addr} {c4 : Nat} {A5 : Option Addr} {c5 : Nat} (hx : NdC W ok x A4 c4 A5 c5) :
  TabAt (((((((W.setCell ⟨g, 1 + i * 7, none⟩ (.int .i64 x.kind)).setCell ⟨g, 1 + i * 7 + 1, none⟩ (.int .i64 x.mode)).setCell ⟨g, 1 + i * 7 + 2, none⟩ (.int .i64 x.uid)).setCell ⟨g, 1 + i * 7 + 3, none⟩ (.int .i64 x.gid)).setCell ⟨g, 1 + i * 7 + 4, none⟩ (.slice A4 x.data.length c4)).setCell ⟨g, 1 + i * 7 + 5, none⟩ (.slice A5 x.ents.length c5)).setCell ⟨g, 1 + i * 7 + 6, none⟩ (.string x.target)) g ok (T.setN i x) := by
 have ng : ¬ ok g := fun hk => h.out g hk rfl
 obtain ⟨r1, r2, len, ⟨cells, hz, hb, h0, hn⟩, out⟩ := h
 refine ⟨r1, r2, by unfold Tab.setN; simpa using len, ⟨_, ?_, blk_set (blk_set (blk_set (blk_set (blk_set (blk_set (blk_set hb _ _) _ _) _ _) _ _) _ _) _ _) _ _, ?_, fun j hj => ?_⟩, out⟩
 ·simpa using hz
 ·simp only [Array.getElem?_setIfInBounds]
  repeat rw [if_neg (by omega)]
  exact h0
 ·by_cases e : j = i
  ·subst e
   refine ⟨A4, c4, A5, c5, ?_, fun q hq => ?_⟩
   ·rw [Tab.nd_set T j j x (by omega), if_pos rfl]
    exact ((((((hx.set _ _ _ ng).set _ _ _ ng).set _ _ _ ng).set _ _ _ ng).set _ _ _ ng).set _ _ _ ng).set _ _ _ ng
   ·rw [Tab.nd_set T j j x (by omega), if_pos rfl]
    simp only [Array.getElem?_setIfInBounds]
    rcases (show q = 0 ∨ q = 1 ∨ q = 2 ∨ q = 3 ∨ q = 4 ∨ q = 5 ∨ q = 6 by omega) with rfl | rfl | rfl | rfl | rfl | rfl | rfl <;> simp [hz, ndCells] <;> omega
  ·obtain ⟨B4, b4, B5, b5, hN, hc⟩ := hn j hj
   refine ⟨B4, b4, B5, b5, ?_, fun q hq => ?_⟩
   ·rw [Tab.nd_set T i j x (by omega), if_neg e]
    exact ((((((hN.set _ _ _ ng).set _ _ _ ng).set _ _ _ ng).set _ _ _ ng).set _ _ _ ng).set _ _ _ ng).set _ _ _ ng
   ·rw [Tab.nd_set T i j x (by omega), if_neg e]
    simp only [Array.getElem?_setIfInBounds]
    repeat rw [if_neg (by omega)]
    exact hc q hq
end
end Go.Proofs.YtbjhcjgniciooaaGreatDoor.G
namespace Go.Proofs.YtbjhcjgniciooaaGreatDoor.G
open Go.RowKit Go.Proofs.YtbjhcjgniciooaaGreatDoorW.PrintWords Go.Proofs.YtbjhcjgniciooaaGreatDoorW.PrintLast Go.Proofs.YtbjhcjgniciooaaGreatDoorW.PrintMore
attribute [local go_sem] max2_int min2_int max_two min_two
set_option linter.unusedVariables false
set_option linter.unusedSimpArgs false
theorem info5c : (Tryz.prog.info? 5).map (fun i => (i.zero, i.size, i.bytes)) = some (some (.int .u8 0), 1, 1) := by kernel_rfl
set_option maxHeartbeats 800000 in
set_option maxRecDepth 100000 in
theorem cloneB (A : Option Addr) (c : Nat) (xs : List Int) (ok : Nat → Prop) (w : World) (hf : Kd.F (Kd.int .u8) w ok A xs.length xs) (hc : xs.length ≤ c) (hb : xs.length * 1 ≤ 140737488355328) :
  Calls Tryz.prog 46 #[.slice A xs.length c] w fun e w' => ∃ A' c', e = .returned (.slice A' xs.length c') ∧ xs.length ≤ c' ∧ Kd.F (Kd.int .u8) w' (fun k => w.heap.size ≤ k) A' xs.length xs ∧ Below w.heap.size w w' := by
 have HB := Aside0.mk (Below.refl w.heap.size w)
 have HF := Aside0.mk (Kd.F_now hf)
 have HL := Aside0.mk hb
 have en := fun (a : Option Addr) (n c : Nat) (w : World) => Lib.run_eql_slice_nil w 41 5 a n c 0 0 Tryz.underlying41
 have HF0 := Aside0.mk hf
 clear hf hb
 cases A with
 | none =>
  have e0 : xs = [] := by
   cases xs with
   | nil => rfl
   | cons x l => obtain ⟨_, h, _⟩ := HF.out.2.2 (by simp); cases h
  subst e0
  go_enter Tryz.func46, Tryz.ntmps46
  go_wp2
  go_ret
  exact ⟨none, 0, rfl, Nat.le_refl _, Kd.F_nil _ _ _, Below.refl _ _⟩
 | some ad =>
  go_enter Tryz.func46, Tryz.ntmps46
  go_wp2_with (first
   | ((with_reducible refine gate_dst (N := 5) rfl ?_); refine Kd.R_lit (Kd.int .u8) w.heap.size 5 ?hg (N := 5) ?hd (xs := ([] : List Int)) (inner := []) (ok := fun k => w.heap.size ≤ k) (okp := fun _ => False) ?hr ?hp (fun _ hk => hk.elim) (Nat.le_refl _) HB.out (Nat.le_refl _) (by simp) ?_; (case hd => rfl); (case hg => rfl); (case hr => first | (go_simp; done) | (go_simp; rfl)); (case hp => exact Reps.none _ _); intro v1 w1 ho hb hg hn; clear hg hn HB; have HB := Aside0.mk hb; have HO := Aside0.mk ho; clear hb ho; obtain ⟨Ax, cx, ex⟩ := Kd.R_slice HO.out; subst ex)
   | ((with_reducible refine gate_builtin (b := .append) (xs := #[.tmp 5, .tmp 6]) rfl ?_); at_builtin; refine Kd.R_append_rows (Kd.int .u8) (Rr := (Kd.int .u8).K w1) (w0 := w) w.heap.size rfl (.tmp 5) (.tmp 6) 41 5 (.int .u8 0) 1 rfl Tryz.underlying41 info5c rfl (by decide) (by omega) (.slice Ax 0 cx) ([] : List Int) xs (some ad) xs.length c (fun k => w.heap.size ≤ k) (fun _ => False) rfl rfl HO.out ?aR (fun _ _ h => h) (fun _ hk => hk.elim) ?aF HB.out ?aS ?aL ?_; (case aR => exact Kd.F_now (Kd.F_step HF0.out (fun k_ _ hlt_ => Below.block HB.out k_ hlt_))); (case aF => exact fun k hk => Nat.le_trans (below_size HB.out) hk); (case aS => exact below_size HB.out); (case aL => have := HL.out; simp only [List.length_nil, Nat.zero_add]; exact this); intro v2 w2 ho hb hg hat; rw [List.nil_append] at ho; clear HB HO hg hat; have HB := Aside0.mk hb; have HO := Aside0.mk ho; clear ho hb; obtain ⟨Ay, cy, ey⟩ := Kd.R_slice HO.out; subst ey))
  go_ret
  exact ⟨Ay, cy, rfl, (Kd.R_reads' HO.out).2.1, Kd.R_F HO.out, HB.out⟩
theorem info125c : (Tryz.prog.info? 125).map (fun i => (i.zero, i.size, i.bytes)) = some (some (.agg #[.string ByteArray.empty, .int .i64 0]), 2, 24) := by kernel_rfl
set_option maxHeartbeats 800000 in
set_option maxRecDepth 100000 in
theorem cloneE (A : Option Addr) (c : Nat) (xs : List Ent) (ok : Nat → Prop) (w : World) (hf : Kd.F (kE) w ok A xs.length xs) (hc : xs.length ≤ c) (hb : xs.length * 24 ≤ 140737488355328) :
  Calls Tryz.prog 47 #[.slice A xs.length c] w fun e w' => ∃ A' c', e = .returned (.slice A' xs.length c') ∧ xs.length ≤ c' ∧ Kd.F (kE) w' (fun k => w.heap.size ≤ k) A' xs.length xs ∧ Below w.heap.size w w' := by
 have HB := Aside0.mk (Below.refl w.heap.size w)
 have HF := Aside0.mk (Kd.F_now hf)
 have HL := Aside0.mk hb
 have en := fun (a : Option Addr) (n c : Nat) (w : World) => Lib.run_eql_slice_nil w 42 125 a n c 0 0 Tryz.underlying42
 have HF0 := Aside0.mk hf
 clear hf hb
 cases A with
 | none =>
  have e0 : xs = [] := by
   cases xs with
   | nil => rfl
   | cons x l => obtain ⟨_, h, _⟩ := HF.out.2.2 (by simp); cases h
  subst e0
  go_enter Tryz.func47, Tryz.ntmps47
  go_wp2
  go_ret
  exact ⟨none, 0, rfl, Nat.le_refl _, Kd.F_nil _ _ _, Below.refl _ _⟩
 | some ad =>
  go_enter Tryz.func47, Tryz.ntmps47
  go_wp2_with (first
   | ((with_reducible refine gate_dst (N := 5) rfl ?_); refine Kd.R_lit (kE) w.heap.size 125 ?hg (N := 5) ?hd (xs := ([] : List Ent)) (inner := []) (ok := fun k => w.heap.size ≤ k) (okp := fun _ => False) ?hr ?hp (fun _ hk => hk.elim) (Nat.le_refl _) HB.out (Nat.le_refl _) (by simp) ?_; (case hd => rfl); (case hg => rfl); (case hr => first | (go_simp; done) | (go_simp; rfl)); (case hp => exact Reps.none _ _); intro v1 w1 ho hb hg hn; clear hg hn HB; have HB := Aside0.mk hb; have HO := Aside0.mk ho; clear hb ho; obtain ⟨Ax, cx, ex⟩ := Kd.R_slice HO.out; subst ex)
   | ((with_reducible refine gate_builtin (b := .append) (xs := #[.tmp 5, .tmp 6]) rfl ?_); at_builtin; refine Kd.R_append_rows (kE) (Rr := (kE).K w1) (w0 := w) w.heap.size rfl (.tmp 5) (.tmp 6) 42 125 (.agg #[.string ByteArray.empty, .int .i64 0]) 24 rfl Tryz.underlying42 info125c rfl (by decide) (by omega) (.slice Ax 0 cx) ([] : List Ent) xs (some ad) xs.length c (fun k => w.heap.size ≤ k) (fun _ => False) rfl rfl HO.out ?aR (fun _ _ h => h) (fun _ hk => hk.elim) ?aF HB.out ?aS ?aL ?_; (case aR => exact Kd.F_now (Kd.F_step HF0.out (fun k_ _ hlt_ => Below.block HB.out k_ hlt_))); (case aF => exact fun k hk => Nat.le_trans (below_size HB.out) hk); (case aS => exact below_size HB.out); (case aL => have := HL.out; simp only [List.length_nil, Nat.zero_add]; exact this); intro v2 w2 ho hb hg hat; rw [List.nil_append] at ho; clear HB HO hg hat; have HB := Aside0.mk hb; have HO := Aside0.mk ho; clear ho hb; obtain ⟨Ay, cy, ey⟩ := Kd.R_slice HO.out; subst ey))
  go_ret
  exact ⟨Ay, cy, rfl, (Kd.R_reads' HO.out).2.1, Kd.R_F HO.out, HB.out⟩
set_option maxHeartbeats 1600000 in
set_option maxRecDepth 100000 in
theorem own.calls (x : Nd) (A4 : Option Addr) (c4 : Nat) (A5 : Option Addr) (c5 : Nat) (ok : Nat → Prop) (w : World) (h : NdC w ok x A4 c4 A5 c5) (b4 : x.data.length ≤ 1000) (b5 : x.ents.length ≤ 1000) :
  Calls Tryz.prog 24 #[.agg (ndCells x A4 c4 A5 c5)] w fun e w' => ∃ A4' c4' A5' c5', e = .returned (.agg (ndCells x A4' c4' A5' c5')) ∧ NdC w' (fun k => w.heap.size ≤ k) x A4' c4' A5' c5' ∧ Below w.heap.size w w' := by
 obtain ⟨l4, f4, l5, f5⟩ := h
 unfold ndCells
 have H4 := Aside0.mk f4
 have H5 := Aside0.mk f5
 have L4 := Aside0.mk l4
 have L5 := Aside0.mk l5
 have B4 := Aside0.mk b4
 have B5 := Aside0.mk b5
 have HB := Aside0.mk (below_alloc (below_alloc (Below.refl w.heap.size w) (.cells #[.int .i64 x.kind, .int .i64 x.mode, .int .i64 x.uid, .int .i64 x.gid, .slice A4 x.data.length c4, .slice A5 x.ents.length c5, .string x.target] 44)) (.cells #[.int .i64 0, .int .i64 0, .int .i64 0, .int .i64 0, .slice none 0 0, .slice none 0 0, .string ⟨#[]⟩] 44))
 clear l4 f4 l5 f5 b4 b5
 go_enter Tryz.func24, Tryz.ntmps24
 go_wp2_with fail
 refine (cloneB A4 c4 x.data ok _ (F_now_at H4.out HB.out) L4.out (by have := B4.out; omega)).mono ?_
 rintro e w1 ⟨A4', c4', rfl, l4', f4', hb⟩
 have b0 := blk_below (blk_alloc (blk_new w (.cells #[.int .i64 x.kind, .int .i64 x.mode, .int .i64 x.uid, .int .i64 x.gid, .slice A4 x.data.length c4, .slice A5 x.ents.length c5, .string x.target] 44)) (.cells #[.int .i64 0, .int .i64 0, .int .i64 0, .int .i64 0, .slice none 0 0, .slice none 0 0, .string ⟨#[]⟩] 44)) hb
 have b1 := blk_below (blk_new (w.alloc (.cells #[.int .i64 x.kind, .int .i64 x.mode, .int .i64 x.uid, .int .i64 x.gid, .slice A4 x.data.length c4, .slice A5 x.ents.length c5, .string x.target] 44)) (.cells #[.int .i64 0, .int .i64 0, .int .i64 0, .int .i64 0, .slice none 0 0, .slice none 0 0, .string ⟨#[]⟩] 44)) hb
 rw [World.size_alloc] at b1
 have L4' := Aside0.mk l4'
 have F4' := Aside0.mk (Kd.F_mono f4' (ok' := fun k => w.heap.size + 1 < k) (fun k hk => by rw [World.size_alloc, World.size_alloc] at hk; omega))
 have n_ := Aside0.mk (below_step HB.out hb)
 clear HB f4' l4' hb
 have HB := n_
 clear n_
 have p := blk_cell b0
 have q := blk_frozen b0
 have B0 := Aside0.mk b0
 have B1 := Aside0.mk b1
 clear b0 b1
 dsimp only
 go_wp2_with fail
 refine (cloneE A5 c5 x.ents ok _ (F_now_at H5.out (below_set HB.out (Nat.le_refl _))) L5.out (by have := B5.out; omega)).mono ?_
 rintro e w2 ⟨A5', c5', rfl, l5', f5', hb⟩
 have L5' := Aside0.mk l5'
 have lt1 := blk_lt B1.out
 have hz : (w1.setCell ⟨w.heap.size, 4, none⟩ (.slice A4' x.data.length c4')).heap.size = w1.heap.size := by simp
 have F5' := Aside0.mk (Kd.F_mono f5' (ok' := fun k => w.heap.size + 1 < k) (fun k hk => by rw [hz] at hk; omega))
 have F4 := Aside0.mk (F_now_at (F_set w.heap.size 4 (.slice A4' x.data.length c4') F4'.out (by omega)) hb)
 have b0 := blk_below (blk_put B0.out 4 (.slice A4' x.data.length c4') rfl) hb
 have b1 := blk_below (blk_far B1.out (p := ⟨w.heap.size, 4, none⟩) (by simp) (.slice A4' x.data.length c4')) hb
 have n_ := Aside0.mk (below_step (below_set HB.out (Nat.le_refl _)) hb)
 clear HB hz f5' l5' F4' B0 B1 p q hb lt1
 have HB := n_
 clear n_
 have p := blk_cell b0
 have q := blk_frozen b0
 have p1 := blk_cell b1
 have q1 := blk_frozen b1
 have B0 := Aside0.mk b0
 have B1 := Aside0.mk b1
 clear b0 b1
 dsimp only
 go_wp2_with fail
 refine bodyPost_ret (v := .agg #[.int .i64 x.kind, .int .i64 x.mode, .int .i64 x.uid, .int .i64 x.gid, .slice A4' x.data.length c4', .slice A5' x.ents.length c5', .string x.target]) (by simp [results, Tryz.results24, go_sem, p1]) rfl ⟨A4', c4', A5', c5', rfl, ⟨L4'.out, ?_, L5'.out, ?_⟩, ?_⟩
 ·refine F_le (B := w.heap.size + 1) ?_ (by omega); (iterate 8 (with_reducible refine F_lt _ _ _ ?_ (by omega))); exact F4.out
 ·refine F_le (B := w.heap.size + 1) ?_ (by omega); (iterate 8 (with_reducible refine F_lt _ _ _ ?_ (by omega))); exact F5'.out
 ·(iterate 8 (with_reducible refine below_set ?_ (by omega))); exact HB.out
end Go.Proofs.YtbjhcjgniciooaaGreatDoor.G
