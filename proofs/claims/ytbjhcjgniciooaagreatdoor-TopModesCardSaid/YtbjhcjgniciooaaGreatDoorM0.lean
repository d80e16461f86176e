/- TopModes: a part of the proof, merged. -/
import Derived.Orders
import Derived.Tactics
namespace Go.Proofs.YtbjhcjgniciooaaGreatDoor.E
set_option linter.unusedVariables false
set_option linter.unusedSimpArgs false
/-! ### A map from numbers, by their bits -/
inductive PT (α : Type) where
 | leaf
 | node (l : PT α) (v : Option α) (r : PT α)
namespace PT
variable {α : Type}
def getB : PT α → List Bool → Option α
 | leaf, _ => none
 | node _ v _, [] => v
 | node l _ _, false :: bs => getB l bs
 | node _ _ r, true :: bs => getB r bs
def setB : PT α → List Bool → α → PT α
 | leaf, [], x => node leaf (some x) leaf
 | leaf, false :: bs, x => node (setB leaf bs x) none leaf
 | leaf, true :: bs, x => node leaf none (setB leaf bs x)
 | node l _ r, [], x => node l (some x) r
 | node l v r, false :: bs, x => node (setB l bs x) v r
 | node l v r, true :: bs, x => node l v (setB r bs x)
theorem getB_leaf (bs : List Bool) : getB (leaf : PT α) bs = none := by cases bs <;> rfl
theorem getB_setB (t : PT α) (bs cs : List Bool) (x : α) : getB (setB t bs x) cs = if cs = bs then some x else getB t cs := by
 induction bs generalizing t cs with
 | nil => cases t <;> cases cs with
  | nil => simp [setB, getB]
  | cons c cs => cases c <;> simp [setB, getB, getB_leaf]
 | cons b bs ih => cases t <;> cases b <;> cases cs with
  | nil => simp [setB, getB]
  | cons c cs => cases c <;> simp [setB, getB, getB_leaf, ih]
def bitsF : Nat → Nat → List Bool
 | 0, _ => []
 | f + 1, n => if n = 0 then [] else (n % 2 == 1) :: bitsF f (n / 2)
def valB : List Bool → Nat
 | [] => 0
 | b :: bs => (if b then 1 else 0) + 2 * valB bs
theorem valB_bitsF (f n : Nat) (h : n < f) : valB (bitsF f n) = n := by
 induction f generalizing n with
 | zero => omega
 | succ f ih =>
  unfold bitsF
  by_cases h0 : n = 0
  ·simp [h0, valB]
  ·rw [if_neg h0]
   simp only [valB]
   rw [ih (n / 2) (by omega)]
   by_cases h1 : n % 2 = 1
   ·simp [h1]; omega
   ·have : n % 2 = 0 := by omega
    simp [this]; omega
def bits (n : Nat) : List Bool := bitsF (n + 1) n
theorem bits_inj {m n : Nat} (h : bits m = bits n) : m = n := by
 have a := valB_bitsF (m + 1) m (by omega)
 have b := valB_bitsF (n + 1) n (by omega)
 unfold bits at h
 rw [h] at a
 omega
def get (t : PT α) (n : Nat) : Option α := getB t (bits n)
def set (t : PT α) (n : Nat) (x : α) : PT α := setB t (bits n) x
theorem get_set (t : PT α) (m n : Nat) (x : α) : (t.set m x).get n = if n = m then some x else t.get n := by
 unfold get set
 rw [getB_setB]
 by_cases h : n = m
 ·subst h; simp
 ·rw [if_neg h, if_neg (fun e => h (bits_inj e))]
theorem get_leaf (n : Nat) : (leaf : PT α).get n = none := getB_leaf _
end PT
/-! ### Sums of unknown numbers -/
structure Lin where
 c : Int
 ts : List (Nat × Int)
namespace Lin
def evT (ρ : Nat → Int) : List (Nat × Int) → Int
 | [] => 0
 | (x, k) :: ts => k * ρ x + evT ρ ts
def ev (ρ : Nat → Int) (e : Lin) : Int := e.c + evT ρ e.ts
/-- Two sums' terms, by rising number. -/
def addT : Nat → List (Nat × Int) → List (Nat × Int) → List (Nat × Int)
 | 0, a, b => a ++ b
 | _ + 1, [], b => b
 | _ + 1, a :: as, [] => a :: as
 | f + 1, (x, k) :: as, (y, l) :: bs =>
  if x = y then (if k + l = 0 then addT f as bs else (x, k + l) :: addT f as bs)
  else if x < y then (x, k) :: addT f as ((y, l) :: bs)
  else (y, l) :: addT f ((x, k) :: as) bs
theorem evT_append (ρ : Nat → Int) (a b : List (Nat × Int)) : evT ρ (a ++ b) = evT ρ a + evT ρ b := by
 induction a with
 | nil => simp [evT]
 | cons p a ih => obtain ⟨x, k⟩ := p; simp [evT, ih]; omega
theorem evT_addT (ρ : Nat → Int) (f : Nat) (a b : List (Nat × Int)) : evT ρ (addT f a b) = evT ρ a + evT ρ b := by
 induction f generalizing a b with
 | zero => exact evT_append ρ a b
 | succ f ih =>
  cases a with
  | nil => simp [addT, evT]
  | cons p a =>
   obtain ⟨x, k⟩ := p
   cases b with
   | nil => simp [addT, evT]
   | cons q b =>
    obtain ⟨y, l⟩ := q
    unfold addT
    by_cases h : x = y
    ·rw [if_pos h]
     subst h
     by_cases h0 : k + l = 0
     ·rw [if_pos h0, ih]
      have : k * ρ x + l * ρ x = 0 := by rw [← Int.add_mul, h0, Int.zero_mul]
      simp only [evT]; omega
     ·rw [if_neg h0]
      simp only [evT, ih, Int.add_mul]; omega
    ·rw [if_neg h]
     by_cases h2 : x < y
     ·rw [if_pos h2]; simp only [evT, ih]; omega
     ·rw [if_neg h2]; simp only [evT, ih]; omega
def add (a b : Lin) : Lin := ⟨a.c + b.c, addT (a.ts.length + b.ts.length) a.ts b.ts⟩
theorem ev_add (ρ : Nat → Int) (a b : Lin) : (a.add b).ev ρ = a.ev ρ + b.ev ρ := by
 unfold add ev; simp only [evT_addT]; omega
def scT (m : Int) : List (Nat × Int) → List (Nat × Int)
 | [] => []
 | (x, k) :: ts => (x, m * k) :: scT m ts
theorem evT_scT (ρ : Nat → Int) (m : Int) (a : List (Nat × Int)) : evT ρ (scT m a) = m * evT ρ a := by
 induction a with
 | nil => simp [scT, evT]
 | cons p a ih => obtain ⟨x, k⟩ := p; simp only [scT, evT, ih, Int.mul_add, Int.mul_assoc]
def sc (m : Int) (a : Lin) : Lin := if m = 0 then ⟨0, []⟩ else ⟨m * a.c, scT m a.ts⟩
theorem ev_sc (ρ : Nat → Int) (m : Int) (a : Lin) : (a.sc m).ev ρ = m * a.ev ρ := by
 unfold sc
 by_cases h : m = 0
 ·rw [if_pos h, h]; simp [ev, evT]
 ·rw [if_neg h]; unfold ev; simp only [evT_scT, Int.mul_add]
def sub (a b : Lin) : Lin := a.add (b.sc (-1))
theorem ev_sub (ρ : Nat → Int) (a b : Lin) : (a.sub b).ev ρ = a.ev ρ - b.ev ρ := by
 unfold sub; rw [ev_add, ev_sc]; omega
def k (n : Int) : Lin := ⟨n, []⟩
@[simp] theorem ev_k (ρ : Nat → Int) (n : Int) : (k n).ev ρ = n := by simp [k, ev, evT]
def v (x : Nat) : Lin := ⟨0, [(x, 1)]⟩
@[simp] theorem ev_v (ρ : Nat → Int) (x : Nat) : (v x).ev ρ = ρ x := by simp [v, ev, evT]
def addk (a : Lin) (n : Int) : Lin := ⟨a.c + n, a.ts⟩
theorem ev_addk (ρ : Nat → Int) (a : Lin) (n : Int) : (a.addk n).ev ρ = a.ev ρ + n := by unfold addk ev; simp only; omega
/-- Its numbers are below one. -/
def below (n : Nat) (e : Lin) : Prop := ∀ p ∈ e.ts, p.1 < n
theorem evT_congr {ρ ρ' : Nat → Int} {ts : List (Nat × Int)} (h : ∀ p ∈ ts, ρ p.1 = ρ' p.1) : evT ρ ts = evT ρ' ts := by
 induction ts with
 | nil => rfl
 | cons p ts ih =>
  obtain ⟨x, k⟩ := p
  simp only [evT]
  rw [ih (fun p hp => h p (List.mem_cons_of_mem _ hp)), h (x, k) (List.mem_cons_self ..)]
theorem ev_congr {ρ ρ' : Nat → Int} {n : Nat} {e : Lin} (hb : e.below n) (h : ∀ x, x < n → ρ x = ρ' x) : e.ev ρ = e.ev ρ' := by
 unfold ev; rw [evT_congr fun p hp => h p.1 (hb p hp)]
end Lin
/-- How often does the second go into the first one's first term? 0: not. -/
def coef (x : Nat) (k : Int) : List (Nat × Int) → Int
 | [] => 0
 | (y, l) :: ts => if x = y then (if decide (0 < l) == decide (0 < k) then (if k % l = 0 then k / l else 1) else 0) else coef x k ts
/-- The newest letter. -/
def newest : List (Nat × Int) → Option (Nat × Int)
 | [] => none
 | [p] => some p
 | _ :: q :: ts => newest (q :: ts)
theorem newest_none : ∀ {ts : List (Nat × Int)}, newest ts = none → ts = []
 | [], _ => rfl
 | [_], h => by simp [newest] at h
 | _ :: q :: ts, h => by simp only [newest] at h; exact absurd (newest_none h) (by simp)
/-- Does 0 ≤ e follow? -/
def proves (cs : List Lin) : Nat → Lin → Bool
 | 0, e => e.ts.isEmpty && decide (0 ≤ e.c)
 | f + 1, e => match newest e.ts with
  | none => decide (0 ≤ e.c)
  | some p => cs.any fun c => match coef p.1 p.2 c.ts with
   | .ofNat (m + 1) => if Nat.beq m 0 then proves cs f (e.sub c) else proves cs f (e.sub (c.sc (m + 1)))
   | _ => false
theorem proves_sound {cs : List Lin} {ρ : Nat → Int} (h : ∀ c ∈ cs, 0 ≤ c.ev ρ) (f : Nat) (e : Lin) (hp : proves cs f e = true) : 0 ≤ e.ev ρ := by
 induction f generalizing e with
 | zero =>
  simp only [proves, Bool.and_eq_true, List.isEmpty_iff, decide_eq_true_eq] at hp
  unfold Lin.ev; rw [hp.1]; simp [Lin.evT, hp.2]
 | succ f ih =>
  unfold proves at hp
  split at hp
  ·rename_i he
   unfold Lin.ev; rw [newest_none he]; simp only [Lin.evT]
   have := of_decide_eq_true hp; omega
  ·obtain ⟨c, hc, hp⟩ := List.any_eq_true.1 hp
   have hk := h c hc
   split at hp
   ·rename_i m _
    split at hp
    ·have := ih _ hp
     rw [Lin.ev_sub] at this
     omega
    ·have := ih _ hp
     rw [Lin.ev_sub, Lin.ev_sc] at this
     have h2 : 0 ≤ ((m : Int) + 1) * c.ev ρ := Int.mul_nonneg (by omega) hk
     omega
   ·cases hp
/-- The same, deeper: the newest letter goes by what is told of it when it was new. -/
def provesN (cs : List Lin) : Nat → Lin → Bool
 | 0, e => e.ts.isEmpty && decide (0 ≤ e.c)
 | f + 1, e => match newest e.ts with
  | none => decide (0 ≤ e.c)
  | some p => (cs.filter fun c => match newest c.ts with | some q => Nat.beq q.1 p.1 | none => false).any fun c => match coef p.1 p.2 c.ts with
   | .ofNat (m + 1) => if Nat.beq m 0 then provesN cs f (e.sub c) else provesN cs f (e.sub (c.sc (m + 1)))
   | _ => false
theorem provesN_sound {cs : List Lin} {ρ : Nat → Int} (h : ∀ c ∈ cs, 0 ≤ c.ev ρ) (f : Nat) (e : Lin) (hp : provesN cs f e = true) : 0 ≤ e.ev ρ := by
 induction f generalizing e with
 | zero =>
  simp only [provesN, Bool.and_eq_true, List.isEmpty_iff, decide_eq_true_eq] at hp
  unfold Lin.ev; rw [hp.1]; simp [Lin.evT, hp.2]
 | succ f ih =>
  unfold provesN at hp
  split at hp
  ·rename_i he
   unfold Lin.ev; rw [newest_none he]; simp only [Lin.evT]
   have := of_decide_eq_true hp; omega
  ·obtain ⟨c, hc, hp⟩ := List.any_eq_true.1 hp
   have hk := h c (List.mem_filter.1 hc).1
   split at hp
   ·rename_i m _
    split at hp
    ·have := ih _ hp
     rw [Lin.ev_sub] at this
     omega
    ·have := ih _ hp
     rw [Lin.ev_sub, Lin.ev_sc] at this
     have h2 : 0 ≤ ((m : Int) + 1) * c.ev ρ := Int.mul_nonneg (by omega) hk
     omega
   ·cases hp
end Go.Proofs.YtbjhcjgniciooaaGreatDoor.E
namespace Go.Proofs.YtbjhcjgniciooaaGreatDoor.E
set_option linter.unusedVariables false
set_option linter.unusedSimpArgs false
/-- A bound that grows with two counts. -/
structure Bd where
 a : Nat
 c : Nat
 b : Nat
def Bd.ev (d : Bd) (g h : Nat) : Nat := d.a * g + d.c * h + d.b
theorem Bd.mono (d : Bd) {g h g' h' : Nat} (h1 : g ≤ g') (h2 : h ≤ h') : d.ev g h ≤ d.ev g' h' := by
 unfold Bd.ev
 have := Nat.mul_le_mul_left d.a h1
 have := Nat.mul_le_mul_left d.c h2
 omega
/-! ### What may lie in memory that is told by its kind alone -/
mutual
inductive CT where
 | int (k : IntKind) (lo hi : Int)
 | uid
 | bool
 | str (lo : Nat) (d : Bd)
 | sl (τ lo : Nat) (d : Bd)
 | ptr (τ : Nat) (nul : Bool)
 | map (τ : Nat) (nul : Bool)
 | fn (nul : Bool) (fs : FTs)
 | iface (nul : Bool) (ts : ITs)
 | agg (cs : CTs)
inductive CTs where
 | nil
 | cons (t : CT) (ts : CTs)
inductive FTs where
 | nil
 | cons (f : Nat) (first cap : CTs) (r : FTs)
inductive ITs where
 | nil
 | cons (t : Nat) (c : CT) (r : ITs)
end
/-- One way in which a box may be: its cells' kinds; what holds of their numbers; a cell that holds one of some functions, bound to the box itself. -/
abbrev Alt := CTs × List Lin × Option (Nat × List Nat)
/-- A kind of block: a box (its contents: one of some lists), a row of elements, a map, or one that is none of ours. -/
inductive HTy where
 | obj (elem : TypeId) (alts : List Alt)
 | row (elem : TypeId) (size : Nat) (cs : CTs)
 | map (k v : CT)
 | opq
def HTy.isOpq : HTy → Bool
 | .opq => true
 | _ => false
def HTy.size : HTy → Nat
 | .row _ s _ => s
 | _ => 0
/-! ### A condition -/
inductive Cnd where
 | ge (e : Lin)
 | eq (e : Lin)
 | ne (e : Lin)
def Cnd.holds (ρ : Nat → Int) : Cnd → Bool
 | .ge e => decide (0 ≤ e.ev ρ)
 | .eq e => decide (e.ev ρ = 0)
 | .ne e => decide (e.ev ρ ≠ 0)
def Cnd.lin : Cnd → Lin
 | .ge e | .eq e | .ne e => e
def Cnd.neg : Cnd → Cnd
 | .ge e => .ge ((e.sc (-1)).addk (-1))
 | .eq e => .ne e
 | .ne e => .eq e
theorem Cnd.holds_neg (ρ : Nat → Int) (c : Cnd) : c.neg.holds ρ = !c.holds ρ := by
 cases c with
 | ge e =>
  simp only [neg, holds, Lin.ev_addk, Lin.ev_sc]
  by_cases h : 0 ≤ e.ev ρ
  ·simp [h]; omega
  ·simp [h]; omega
 | eq e => simp [neg, holds]
 | ne e => simp [neg, holds]
/-! ### What is known of a value -/
inductive AV where
 | top
 | bool (b : Bool)
 | cond (c : Cnd)
 | int (k : IntKind) (e : Lin)
 | str (l : List Nat)
 | strv (n : Lin)
 | ptr0
 | ptr (b o : Nat)
 | sl0
 | sl (b o n : Nat) (cap : Option Nat) (z : Nat)
 | tsl (τ : Nat) (n : Lin)
 | elem (τ f : Nat)
 | map0
 | map (b : Nat)
 | func (f : Nat) (first cap : List AV)
 | fn0
 | iface (t : Nat) (v : AV)
 | if0
 | agg (cs : List AV)
 | tup (cs : List AV)
 | emp
 | var (x : Nat)
/-- What the letters stand for. S: blocks told by their kind; A: a table's own; N: none of ours; B: told by their kind from the first; g, h: counts; U, T0: who may, and what was. -/
structure Env where
 n : Nat
 ρ : Nat → Int
 ν : Nat → Value
 β : Nat → Nat
 κ : Nat → Nat
 S : Nat → Option (Nat × Nat)
 A : Nat → Prop
 N : Nat → Prop
 B : Nat → Prop
 A0 : Nat → Prop
 g : Nat
 h : Nat
 U : Int → Prop
 T0 : Option (Nat × ((Int → Option (Int × Int × Int × Int)) × (Nat → Option Obj)))
/-- More letters, more blocks told by their kind; what was told stays. -/
structure Ext (E E' : Env) : Prop where
 n : E.n ≤ E'.n
 ρ : ∀ x, x < E.n → E.ρ x = E'.ρ x
 ν : ∀ x, x < E.n → E.ν x = E'.ν x
 β : ∀ x, x < E.n → E.β x = E'.β x
 κ : ∀ x, x < E.n → E.κ x = E'.κ x
 S : ∀ k t, E.S k = some t → E'.S k = some t
 A : ∀ k, E.A k → E'.A k
 nA : ∀ k, E.N k → E'.A k → E.A k
 N : E'.N = E.N
 B : E'.B = E.B
 A0 : E'.A0 = E.A0
 old : ∀ k, E.N k ∨ E.A k → E'.S k = E.S k
 g : E.g ≤ E'.g
 h : E.h ≤ E'.h
 U : E'.U = E.U
 T0 : E'.T0 = E.T0
theorem Ext.refl (E : Env) : Ext E E := ⟨Nat.le_refl _, fun _ _ => rfl, fun _ _ => rfl, fun _ _ => rfl, fun _ _ => rfl, fun _ _ h => h, fun _ h => h, fun _ _ h => h, rfl, rfl, rfl, fun _ _ => rfl, Nat.le_refl _, Nat.le_refl _, rfl, rfl⟩
theorem Ext.trans {E F H : Env} (h : Ext E F) (k : Ext F H) : Ext E H :=
 ⟨Nat.le_trans h.n k.n, fun x hx => (h.ρ x hx).trans (k.ρ x (Nat.lt_of_lt_of_le hx h.n)), fun x hx => (h.ν x hx).trans (k.ν x (Nat.lt_of_lt_of_le hx h.n)), fun x hx => (h.β x hx).trans (k.β x (Nat.lt_of_lt_of_le hx h.n)), fun x hx => (h.κ x hx).trans (k.κ x (Nat.lt_of_lt_of_le hx h.n)),
  fun i t hi => k.S i t (h.S i t hi), fun i hi => k.A i (h.A i hi), fun i hn ha => h.nA i hn (k.nA i (by rw [h.N]; exact hn) ha), k.N.trans h.N, k.B.trans h.B, k.A0.trans h.A0,
  fun i hi => (k.old i (hi.imp (fun hn => by rw [h.N]; exact hn) (h.A i))).trans (h.old i hi), Nat.le_trans h.g k.g, Nat.le_trans h.h k.h, k.U.trans h.U, k.T0.trans h.T0⟩
/-- Do two worlds agree on the tables' own blocks? -/
def AgrA (E : Env) (w w' : World) : Prop := ∀ i, E.A i → w'.heap[i]? = w.heap[i]?
/-- Kinds of blocks, what is asked of a block of which the kind alone is told, and facts. -/
structure Th where
 ty : Nat → HTy
 O : Env → Nat → World → Nat → Prop
 F : Env → Nat → World → List Value → Prop
 O_st : ∀ {E τ w w' k}, O E τ w k → AgrA E w w' → O E τ w' k
 O_ext : ∀ {E E' τ w k}, Ext E E' → O E τ w k → O E' τ w k
 O_ren : ∀ {E E' τ w k}, E'.A = E.A → E'.U = E.U → E'.T0 = E.T0 → O E τ w k → O E' τ w k
 F_st : ∀ {E t w w' vs}, F E t w vs → AgrA E w w' → F E t w' vs
 F_ext : ∀ {E E' t w vs}, Ext E E' → F E t w vs → F E' t w vs
 F_ren : ∀ {E E' t w vs}, E'.A = E.A → E'.U = E.U → E'.T0 = E.T0 → F E t w vs → F E' t w vs
 F_pure : ∀ {E t w w' vs}, t < 10 → F E t w vs → F E t w' vs
 opq0 : ∀ τ, (ty τ).isOpq = true → τ = 0
 F_uid : ∀ {E w n}, F E 0 w [.int .i64 n] ↔ E.U n
 F_mine : ∀ {E w i k m u g}, F E 4 w [i, k, m, u, g] → F E 0 w [u] → F E 7 w [i]
 F_root : ∀ {E w t vs}, F E 0 w [.int .i64 0] → t = 4 ∨ t = 7 → F E t w vs
 F_rfl : ∀ {E w k m}, F E 1 w [.int .i64 k, .int .i64 m, .int .i64 m]
 F_seq : ∀ {E w k a b c}, F E 1 w [k, a, b] → F E 1 w [k, b, c] → F E 1 w [k, a, c]
 F_clr : ∀ {E w m c}, 0 ≤ m → m ≤ 4095 → c = 2048 ∨ c = 1024 → F E 1 w [.int .i64 1, .int .i64 m, .int .i64 (IntKind.i64.wrap (BitVec.ofInt 64 m &&& ~~~BitVec.ofInt 64 c).toNat)]
 F_put : ∀ {E w i k m u g m'}, F E 4 w [i, k, m, u, g] → F E 1 w [k, m, m'] → F E 4 w [i, k, m', u, g]
instance : CoeFun Th (fun _ => Nat → HTy) := ⟨Th.ty⟩
/-- The number that a value is told by. -/
def numV : Value → Int
 | .int _ n => n
 | .string s => s.size
 | .slice _ m _ => m
 | .bool b => if b then 1 else 0
 | _ => 0
def numAt (vs : List Value) (i : Nat) : Int := match vs[i]? with | some v => numV v | none => 0
def relOk (rs : List Lin) (vs : List Value) : Prop := ∀ r ∈ rs, 0 ≤ r.ev (numAt vs)
section
variable (HT : Th)
/-- Rows of which a slice's room is not told. -/
def roK (τ : Nat) : Bool := Nat.beq τ 1061 || Nat.beq τ 1115 || Nat.beq τ 2035 || Nat.beq τ 7009
/-- Rows whose slices begin at the row's head. -/
def hdK (τ : Nat) : Bool := Nat.beq τ 1035
def SlX (τ j c len : Nat) : Prop := (roK τ = false → j + c ≤ len) ∧ (hdK τ = true → j = 0)
theorem SlX.at0 {τ c len : Nat} (h : c ≤ len) : SlX τ 0 c len := ⟨fun _ => by omega, fun _ => rfl⟩
def SlOk (E : Env) (τ : Nat) (a : Option Addr) (m c : Nat) : Prop :=
 (a = none ∧ m = 0 ∧ c = 0) ∨ ∃ b j len, a = some ⟨b, j * (HT τ).size, none⟩ ∧ E.S b = some (τ, len) ∧ m ≤ c ∧ j + m ≤ len ∧ SlX τ j c len
mutual
def VT (E : Env) : CT → Value → Prop
 | .int k lo hi, v => ∃ n, v = .int k n ∧ lo ≤ n ∧ n ≤ hi ∧ k.min ≤ n ∧ n ≤ k.max
 | .uid, v => ∃ n, v = .int .i64 n ∧ E.U n ∧ IntKind.i64.min ≤ n ∧ n ≤ IntKind.i64.max
 | .bool, v => ∃ b, v = .bool b
 | .str lo d, v => ∃ s, v = .string s ∧ lo ≤ s.size ∧ s.size ≤ d.ev E.g E.h
 | .sl τ lo d, v => ∃ ad m c, v = .slice ad m c ∧ (lo ≤ m ∧ m ≤ d.ev E.g E.h) ∧ SlOk HT E τ ad m c
 | .ptr τ nul, v => (nul = true ∧ v = .pointer none) ∨ ∃ k n, v = .pointer (some ⟨k, 0, none⟩) ∧ E.S k = some (τ, n)
 | .map τ nul, v => (nul = true ∧ v = .map none) ∨ ∃ k n, v = .map (some k) ∧ E.S k = some (τ, n)
 | .fn nul fs, v => (nul = true ∧ v = .nilFunc) ∨ VF E fs v
 | .iface nul ts, v => (nul = true ∧ v = .nilIface) ∨ VI E ts v
 | .agg cs, v => ∃ vs : Array Value, v = .agg vs ∧ VTs E cs vs.toList
def VTs (E : Env) : CTs → List Value → Prop
 | .nil, vs => vs = []
 | .cons t ts, vs => ∃ v r, vs = v :: r ∧ VT E t v ∧ VTs E ts r
def VF (E : Env) : FTs → Value → Prop
 | .nil, _ => False
 | .cons f a b r, v => (∃ x y : Array Value, v = .func (.func f) x y ∧ VTs E a x.toList ∧ VTs E b y.toList) ∨ VF E r v
def VI (E : Env) : ITs → Value → Prop
 | .nil, _ => False
 | .cons t c r, v => (∃ x, v = .iface t x ∧ VT E c x) ∨ VI E r v
end
mutual
def V (E : Env) : AV → Value → Prop
 | .top, _ => True
 | .bool b, v => v = .bool b
 | .cond c, v => v = .bool (c.holds E.ρ) ∧ c.lin.below E.n
 | .int k e, v => v = .int k (e.ev E.ρ) ∧ e.below E.n ∧ k.min ≤ e.ev E.ρ ∧ e.ev E.ρ ≤ k.max
 | .str l, v => ∃ s, v = .string s ∧ s.data.toList.map UInt8.toNat = l
 | .strv n, v => ∃ s, v = .string s ∧ (s.size : Int) = n.ev E.ρ ∧ n.below E.n
 | .ptr0, v => v = .pointer none
 | .ptr b o, v => v = .pointer (some ⟨E.β b, o, none⟩) ∧ b < E.n
 | .sl0, v => v = .slice none 0 0
 | .sl b o n cap z, v => ∃ c, v = .slice (some ⟨E.β b, o, none⟩) n c ∧ n ≤ c ∧ (∀ c', cap = some c' → c = c') ∧ b < E.n ∧ o + c * z ≤ E.κ b
 | .tsl τ n, v => ∃ a m c, v = .slice a m c ∧ (m : Int) = n.ev E.ρ ∧ n.below E.n ∧ SlOk HT E τ a m c
 | .elem τ f, v => ∃ b j len, v = .pointer (some ⟨b, j * (HT τ).size + f, none⟩) ∧ E.S b = some (τ, len) ∧ j < len
 | .map0, v => v = .map none
 | .map b, v => v = .map (some (E.β b)) ∧ b < E.n
 | .func f a b, v => ∃ x y : Array Value, v = .func (.func f) x y ∧ Vs E a x.toList ∧ Vs E b y.toList
 | .fn0, v => v = .nilFunc
 | .iface t a, v => ∃ x, v = .iface t x ∧ V E a x
 | .if0, v => v = .nilIface
 | .agg cs, v => ∃ x : Array Value, v = .agg x ∧ Vs E cs x.toList
 | .tup cs, v => ∃ x : Array Value, v = .tuple x ∧ Vs E cs x.toList
 | .emp, v => ∃ a c, v = .slice a 0 c
 | .var x, v => v = E.ν x ∧ x < E.n
def Vs (E : Env) : List AV → List Value → Prop
 | [], vs => vs = []
 | a :: as, vs => ∃ v r, vs = v :: r ∧ V E a v ∧ Vs E as r
end
theorem Lin.below.mono {e : Lin} {m n : Nat} (h : e.below m) (hm : m ≤ n) : e.below n := fun p hp => Nat.lt_of_lt_of_le (h p hp) hm
theorem Ext.ev {E F : Env} (h : Ext E F) {e : Lin} (hb : e.below E.n) : e.ev F.ρ = e.ev E.ρ := (Lin.ev_congr hb h.ρ).symm
theorem Ext.holds {E F : Env} (h : Ext E F) {c : Cnd} (hb : c.lin.below E.n) : c.holds F.ρ = c.holds E.ρ := by
 cases c with
 | ge e => simp only [Cnd.holds]; rw [h.ev (show e.below E.n from hb)]
 | eq e => simp only [Cnd.holds]; rw [h.ev (show e.below E.n from hb)]
 | ne e => simp only [Cnd.holds]; rw [h.ev (show e.below E.n from hb)]
theorem SlOk.ext {HT : Th} {E F : Env} (h : Ext E F) {τ : Nat} {a : Option Addr} {m c : Nat} (k : SlOk HT E τ a m c) : SlOk HT F τ a m c := by
 rcases k with k | ⟨b, j, len, h1, h2, h3, h4⟩
 ·exact .inl k
 ·exact .inr ⟨b, j, len, h1, h.S _ _ h2, h3, h4⟩
mutual
theorem VT.ext {E F : Env} (h : Ext E F) : ∀ (t : CT) {v : Value}, VT HT E t v → VT HT F t v
 | .int _ _ _, _, k => k
 | .uid, _, ⟨n, e, k, r⟩ => ⟨n, e, by rw [h.U]; exact k, r⟩
 | .bool, _, k => k
 | .str _ d, _, ⟨s, e, k1, k2⟩ => ⟨s, e, k1, Nat.le_trans k2 (d.mono h.g h.h)⟩
 | .sl _ _ d, _, ⟨a, m, c, e, ⟨k1, k2⟩, o⟩ => ⟨a, m, c, e, ⟨k1, Nat.le_trans k2 (d.mono h.g h.h)⟩, o.ext h⟩
 | .ptr _ _, _, k => k.imp id fun ⟨i, n, e, hs⟩ => ⟨i, n, e, h.S _ _ hs⟩
 | .map _ _, _, k => k.imp id fun ⟨i, n, e, hs⟩ => ⟨i, n, e, h.S _ _ hs⟩
 | .fn _ fs, _, k => k.imp id (VF.ext h fs)
 | .iface _ ts, _, k => k.imp id (VI.ext h ts)
 | .agg cs, _, ⟨vs, e, k⟩ => ⟨vs, e, VTs.ext h cs k⟩
theorem VTs.ext {E F : Env} (h : Ext E F) : ∀ (ts : CTs) {vs : List Value}, VTs HT E ts vs → VTs HT F ts vs
 | .nil, _, k => k
 | .cons t ts, _, ⟨v, r, e, k1, k2⟩ => ⟨v, r, e, VT.ext h t k1, VTs.ext h ts k2⟩
theorem VF.ext {E F : Env} (h : Ext E F) : ∀ (fs : FTs) {v : Value}, VF HT E fs v → VF HT F fs v
 | .nil, _, k => k
 | .cons f a b r, _, k => k.imp (fun ⟨x, y, e, k1, k2⟩ => ⟨x, y, e, VTs.ext h a k1, VTs.ext h b k2⟩) (VF.ext h r)
theorem VI.ext {E F : Env} (h : Ext E F) : ∀ (ts : ITs) {v : Value}, VI HT E ts v → VI HT F ts v
 | .nil, _, k => k
 | .cons t c r, _, k => k.imp (fun ⟨x, e, k1⟩ => ⟨x, e, VT.ext h c k1⟩) (VI.ext h r)
end
mutual
theorem V.ext {E F : Env} (h : Ext E F) : ∀ (a : AV) {v : Value}, V HT E a v → V HT F a v
 | .top, _, _ => trivial
 | .bool _, _, k => k
 | .cond c, _, ⟨e, b⟩ => ⟨by rw [h.holds b]; exact e, b.mono h.n⟩
 | .int _ _, _, ⟨e, b, r⟩ => ⟨by rw [h.ev b]; exact e, b.mono h.n, by rw [h.ev b]; exact r⟩
 | .str _, _, k => k
 | .strv _, _, ⟨s, e, k, b⟩ => ⟨s, e, by rw [h.ev b]; exact k, b.mono h.n⟩
 | .ptr0, _, k => k
 | .ptr _ _, _, ⟨e, b⟩ => ⟨by rw [← h.β _ b]; exact e, Nat.lt_of_lt_of_le b h.n⟩
 | .sl0, _, k => k
 | .sl _ _ _ _ _, _, ⟨c, e, k1, k2, b, k3⟩ => ⟨c, by rw [← h.β _ b]; exact e, k1, k2, Nat.lt_of_lt_of_le b h.n, by rw [← h.κ _ b]; exact k3⟩
 | .tsl _ _, _, ⟨a, m, c, e, k1, b, k2⟩ => ⟨a, m, c, e, by rw [h.ev b]; exact k1, b.mono h.n, k2.ext h⟩
 | .elem _ _, _, ⟨b, j, len, e, k1, k2⟩ => ⟨b, j, len, e, h.S _ _ k1, k2⟩
 | .map0, _, k => k
 | .map _, _, ⟨e, b⟩ => ⟨by rw [← h.β _ b]; exact e, Nat.lt_of_lt_of_le b h.n⟩
 | .func _ a b, _, ⟨x, y, e, k1, k2⟩ => ⟨x, y, e, Vs.ext h a k1, Vs.ext h b k2⟩
 | .fn0, _, k => k
 | .iface _ a, _, ⟨x, e, k⟩ => ⟨x, e, V.ext h a k⟩
 | .if0, _, k => k
 | .agg cs, _, ⟨x, e, k⟩ => ⟨x, e, Vs.ext h cs k⟩
 | .tup cs, _, ⟨x, e, k⟩ => ⟨x, e, Vs.ext h cs k⟩
 | .emp, _, k => k
 | .var _, _, ⟨e, b⟩ => ⟨by rw [← h.ν _ b]; exact e, Nat.lt_of_lt_of_le b h.n⟩
theorem Vs.ext {E F : Env} (h : Ext E F) : ∀ (as : List AV) {vs : List Value}, Vs HT E as vs → Vs HT F as vs
 | [], _, k => k
 | a :: as, _, ⟨v, r, e, k1, k2⟩ => ⟨v, r, e, V.ext h a k1, Vs.ext h as k2⟩
end
end
end Go.Proofs.YtbjhcjgniciooaaGreatDoor.E
namespace Go.Proofs.YtbjhcjgniciooaaGreatDoor.E
set_option linter.unusedVariables false
set_option linter.unusedSimpArgs false
/-! ### What is known of blocks -/
inductive Blk where
 | cells (elem : TypeId) (cs : List AV) (full : Bool) (ty : Option Nat)
 | sealed (τ : Nat)
 | map (es : List (AV × AV))
 | iter (l : List Nat) (pos : Nat)
 | iterv (n pos : Lin)
 | dead
 | frz (cs : List AV)
def Blk.solid : Blk → Bool
 | .cells .. | .map .. | .iter .. | .iterv .. | .frz .. => true
 | _ => false
structure St where
 nx : Nat
 cs : List Lin
 vt : PT CT
 vs : PT AV
 bk : PT Blk
 op : List (Nat × Nat)
 fp : List Nat
 md : List Nat
 tm : List Nat
 gh : List (Nat × List AV)
 gl : Lin
 hl : Lin
 wild : Bool
section
variable (HT : Th)
def Ents (E : Env) : List (AV × AV) → List MapEntry → Prop
 | [], es => es = []
 | (k, v) :: r, es => ∃ e es', es = e :: es' ∧ V HT E k e.key ∧ V HT E v e.val ∧ Ents E r es'
/-- Memory that one has alone. -/
def Prv (E : Env) (k : Nat) : Prop := E.S k = none ∧ ¬ E.A k ∧ ¬ E.N k
def Own (E : Env) (k : Nat) : Option Nat → Prop
 | none => Prv E k
 | some τ => (∃ n, E.S k = some (τ, n)) ∧ (HT τ).isOpq = false
def BlkOk (E : Env) (w : World) (b : Nat) : Blk → Prop
 | .cells elem cs full ty => ∃ (arr : Array Value) (pre rest : List Value), w.heap[E.β b]? = some (.cells arr elem (0, 0)) ∧ arr.toList = pre ++ rest ∧ Vs HT E cs pre ∧ (full = true → rest = []) ∧ Own HT E (E.β b) ty ∧ (ty = none → arr.size = E.κ b)
 | .sealed τ => ∃ n, E.S (E.β b) = some (τ, n) ∧ ((HT τ).size = 0 ∨ roK τ = true ∨ E.κ b ≤ n * (HT τ).size)
 | .map es => ∃ ents clock, w.heap[E.β b]? = some (.map ents clock) ∧ Ents HT E es ents.toList ∧ Own HT E (E.β b) none
 | .iter l pos => ∃ s, w.heap[E.β b]? = some (.stringIter s pos) ∧ s.data.toList.map UInt8.toNat = l ∧ Own HT E (E.β b) none
 | .iterv n pos => ∃ s p, w.heap[E.β b]? = some (.stringIter s p) ∧ (s.size : Int) = n.ev E.ρ ∧ (p : Int) = pos.ev E.ρ ∧ n.below E.n ∧ pos.below E.n ∧ Own HT E (E.β b) none
 | .dead => ¬ E.N (E.β b)
 | .frz cs => ∃ (arr : Array Value) (e : TypeId) (m : Nat × Nat), w.heap[E.β b]? = some (.cells arr e m) ∧ Vs HT E cs arr.toList ∧ Own HT E (E.β b) none
def selfOk (k : Nat) (vs : List Value) : Option (Nat × List Nat) → Prop
 | none => True
 | some (i, fs) => ∃ f ∈ fs, vs[i]? = some (.func (.func f) #[.pointer (some ⟨k, 0, none⟩)] #[])
def HOk (E : Env) (w : World) (k τ n : Nat) : Prop :=
 match HT τ with
 | .obj elem alts => ∃ arr : Array Value, w.heap[k]? = some (.cells arr elem (0, 0)) ∧ ∃ alt ∈ alts, VTs HT E alt.1 arr.toList ∧ relOk alt.2.1 arr.toList ∧ selfOk k arr.toList alt.2.2
 | .row elem size cs => ∃ arr : Array Value, w.heap[k]? = some (.cells arr elem (0, 0)) ∧ (n * size ≤ arr.size ∧ (roK τ = false → arr.size = n * size)) ∧ ∀ j, j < n → VTs HT E cs ((arr.toList.drop (j * size)).take size)
 | .map kt vt => ∃ ents clock, w.heap[k]? = some (.map ents clock) ∧ ∀ e ∈ ents.toList, VT HT E kt e.key ∧ VT HT E vt e.val
 | .opq => HT.O E τ w k
structure M (E : Env) (st : St) (w : World) : Prop where
 nx : E.n = st.nx
 g : (st.gl.ev E.ρ = E.g ∧ st.gl.below E.n) ∧ st.hl.ev E.ρ = E.h ∧ st.hl.below E.n
 cs : ∀ c ∈ st.cs, 0 ≤ c.ev E.ρ ∧ c.below E.n
 vt : ∀ x t, st.vt.get x = some t → VT HT E t (E.ν x) ∧ x < E.n
 vs : ∀ x a, st.vs.get x = some a → V HT E a (E.ν x) ∧ x < E.n
 bk : ∀ b k, st.bk.get b = some k → BlkOk HT E w b k ∧ b < E.n
 inj : ∀ b b' k k', st.bk.get b = some k → st.bk.get b' = some k' → k.solid = true → k'.solid = true → E.β b = E.β b' → b = b'
 heap : ∀ k τ n, E.S k = some (τ, n) → τ ∈ st.fp → (∃ b, (b, τ) ∈ st.op ∧ E.β b = k) ∨ HOk HT E w k τ n
 dom : ∀ k t, E.S k = some t → k < w.heap.size ∧ ¬ E.N k ∧ (E.A k ↔ (HT t.1).isOpq = true)
 an : ∀ k, E.A k ∨ E.N k → k < w.heap.size
 bt : (∀ k, E.B k → ∃ t, E.S k = some t) ∧ (∀ k, E.A0 k → E.A k) ∧ ∀ k, E.N k → ¬ E.A k
 born : ∀ k τ n, E.S k = some (τ, n) → E.B k ∨ τ ∈ st.fp
 md : ∀ b ∈ st.md, b < E.n
 op : ∀ b τ, (b, τ) ∈ st.op ↔ ∃ elem cs full, st.bk.get b = some (.cells elem cs full (some τ))
 gh : ∀ f ∈ st.gh, ∃ vs, Vs HT E f.2 vs ∧ HT.F E f.1 w vs
/-- What stayed since another world. -/
structure Ref (E : Env) (st : St) (r w : World) : Prop where
 os : w.os = r.os
 tape : w.tape = r.tape
 output : w.output = r.output
 size : r.heap.size ≤ w.heap.size
 blk : st.wild = false → ∀ k, k < r.heap.size → (∀ b ∈ st.md, E.β b ≠ k) → (∀ τ n, E.S k = some (τ, n) → τ ∉ st.tm) → ¬ E.A k → w.heap[k]? = r.heap[k]?
 agr : 0 ∉ st.tm → ∀ k, k < r.heap.size → E.A0 k → w.heap[k]? = r.heap[k]?
 frn : ∀ k, k < r.heap.size → (E.N k ∨ E.B k ∧ ∀ τ n, E.S k = some (τ, n) → τ ∉ st.tm) → w.heap[k]? = r.heap[k]?
variable {HT}
theorem Vs_iff {E : Env} {as : List AV} {vs : List Value} : Vs HT E as vs ↔ as.length = vs.length ∧ ∀ (i : Nat) a v, as[i]? = some a → vs[i]? = some v → V HT E a v := by
 induction as generalizing vs with
 | nil =>
  cases vs with
  | nil => simp [Vs]
  | cons v vs => simp [Vs]
 | cons a as ih =>
  cases vs with
  | nil => simp [Vs]
  | cons v vs =>
   constructor
   ·rintro ⟨v', r, e, h1, h2⟩
    injection e with e1 e2
    subst e1; subst e2
    obtain ⟨hl, hi⟩ := ih.1 h2
    refine ⟨by simp [hl], fun i x y hx hy => ?_⟩
    cases i with
    | zero => simp at hx hy; subst hx; subst hy; exact h1
    | succ i => simp at hx hy; exact hi i x y hx hy
   ·rintro ⟨hl, hi⟩
    exact ⟨v, vs, rfl, hi 0 a v rfl rfl, ih.2 ⟨by simpa using hl, fun i x y hx hy => hi (i + 1) x y (by simpa using hx) (by simpa using hy)⟩⟩
theorem Vs.len {E : Env} {as : List AV} {vs : List Value} (h : Vs HT E as vs) : as.length = vs.length := (Vs_iff.1 h).1
theorem Vs.get {E : Env} {as : List AV} {vs : List Value} (h : Vs HT E as vs) {i : Nat} {a : AV} (ha : as[i]? = some a) : ∃ v, vs[i]? = some v ∧ V HT E a v := by
 obtain ⟨hl, hi⟩ := Vs_iff.1 h
 have hlt : i < as.length := (List.getElem?_eq_some_iff.1 ha).1
 have hlt2 : i < vs.length := by omega
 exact ⟨vs[i], List.getElem?_eq_getElem hlt2, hi i a _ ha (List.getElem?_eq_getElem hlt2)⟩
theorem Vs.append {E : Env} {as bs : List AV} {vs us : List Value} (h : Vs HT E as vs) (k : Vs HT E bs us) : Vs HT E (as ++ bs) (vs ++ us) := by
 induction as generalizing vs with
 | nil => cases h; exact k
 | cons a as ih => obtain ⟨v, r, rfl, h1, h2⟩ := h; exact ⟨v, r ++ us, rfl, h1, ih h2⟩
theorem Vs.take {E : Env} {as : List AV} {vs : List Value} (h : Vs HT E as vs) (n : Nat) : Vs HT E (as.take n) (vs.take n) := by
 induction as generalizing vs n with
 | nil => cases h; simp [Vs]
 | cons a as ih =>
  obtain ⟨v, r, rfl, h1, h2⟩ := h
  cases n with
  | zero => simp [Vs]
  | succ n => exact ⟨v, r.take n, rfl, h1, ih h2 n⟩
theorem Vs.drop {E : Env} {as : List AV} {vs : List Value} (h : Vs HT E as vs) (n : Nat) : Vs HT E (as.drop n) (vs.drop n) := by
 induction as generalizing vs n with
 | nil => cases h; simp [Vs]
 | cons a as ih =>
  obtain ⟨v, r, rfl, h1, h2⟩ := h
  cases n with
  | zero => exact ⟨v, r, rfl, h1, h2⟩
  | succ n => exact ih h2 n
theorem Vs.set {E : Env} {as : List AV} {vs : List Value} (h : Vs HT E as vs) (i : Nat) {a : AV} {v : Value} (hv : V HT E a v) : Vs HT E (as.set i a) (vs.set i v) := by
 induction as generalizing vs i with
 | nil => cases h; simp [Vs]
 | cons b as ih =>
  obtain ⟨u, r, rfl, h1, h2⟩ := h
  cases i with
  | zero => exact ⟨v, r, rfl, hv, h2⟩
  | succ i => exact ⟨u, r.set i v, rfl, h1, ih h2 i⟩
theorem Ents.ext {E F : Env} (h : Ext E F) : ∀ {es : List (AV × AV)} {l : List MapEntry}, Ents HT E es l → Ents HT F es l
 | [], _, k => k
 | (a, b) :: r, _, ⟨e, es', he, k1, k2, k3⟩ => ⟨e, es', he, V.ext HT h a k1, V.ext HT h b k2, Ents.ext h k3⟩
/-! ### Worlds that agree -/
theorem HOk.agree {E : Env} {w w' : World} {k τ n : Nat} (h : HOk HT E w k τ n) (hk : (HT τ).isOpq = false → w'.heap[k]? = w.heap[k]?) (ho : AgrA E w w') : HOk HT E w' k τ n := by
 unfold HOk at *
 split at h <;> rename_i e
 ·rw [hk (by rw [e]; rfl)]; exact h
 ·rw [hk (by rw [e]; rfl)]; exact h
 ·rw [hk (by rw [e]; rfl)]; exact h
 ·exact HT.O_st h ho
theorem HOk.agreeC {E : Env} {w w' : World} {k τ n : Nat} (h : HOk HT E w k τ n) (hk : (HT τ).isOpq = false → w'.heap[k]? = w.heap[k]?) (ho : (HT τ).isOpq = true → AgrA E w w') : HOk HT E w' k τ n := by
 unfold HOk at *
 split at h <;> rename_i e
 ·rw [hk (by rw [e]; rfl)]; exact h
 ·rw [hk (by rw [e]; rfl)]; exact h
 ·rw [hk (by rw [e]; rfl)]; exact h
 ·exact HT.O_st h (ho (by rw [e]; rfl))
theorem HOk.ext {E F : Env} (h : Ext E F) {w : World} {k τ n : Nat} (hk : HOk HT E w k τ n) : HOk HT F w k τ n := by
 unfold HOk at *
 split at hk <;> rename_i e
 ·obtain ⟨arr, h1, alt, h2, h3, h4⟩ := hk; exact ⟨arr, h1, alt, h2, VTs.ext HT h _ h3, h4⟩
 ·obtain ⟨arr, h1, h2, h3⟩ := hk
  exact ⟨arr, h1, h2, fun j hj => VTs.ext HT h _ (h3 j hj)⟩
 ·obtain ⟨ents, clock, h1, h2⟩ := hk
  exact ⟨ents, clock, h1, fun x hx => ⟨VT.ext HT h _ (h2 x hx).1, VT.ext HT h _ (h2 x hx).2⟩⟩
 ·exact HT.O_ext h hk
theorem BlkOk.agree {E : Env} {w w' : World} {b : Nat} {k : Blk} (h : BlkOk HT E w b k) (hk : k.solid = true → w'.heap[E.β b]? = w.heap[E.β b]?) : BlkOk HT E w' b k := by
 cases k with
 | cells => simp only [BlkOk, hk rfl] at *; exact h
 | sealed => exact h
 | map => simp only [BlkOk, hk rfl] at *; exact h
 | iter => simp only [BlkOk, hk rfl] at *; exact h
 | iterv => simp only [BlkOk, hk rfl] at *; exact h
 | dead => exact h
 | frz => simp only [BlkOk, hk rfl] at *; exact h
theorem Own.ext {E F : Env} (h : Ext E F) {k : Nat} {ty : Option Nat} (ho : Own HT E k ty) (hs : Prv E k → Prv F k) : Own HT F k ty := by
 cases ty with
 | none => exact hs ho
 | some τ => obtain ⟨⟨n, hn⟩, h2⟩ := ho; exact ⟨⟨n, h.S _ _ hn⟩, h2⟩
theorem BlkOk.ext {E F : Env} (h : Ext E F) {w : World} {b : Nat} {k : Blk} (hk : BlkOk HT E w b k) (hb : b < E.n) (hs : k.solid = true → Prv E (E.β b) → Prv F (E.β b)) : BlkOk HT F w b k := by
 have e := h.β b hb
 cases k with
 | cells elem cs full ty =>
  obtain ⟨arr, pre, rest, h1, h2, h3, h4, h5, h6⟩ := hk
  exact ⟨arr, pre, rest, by rw [← e]; exact h1, h2, Vs.ext HT h _ h3, h4, by rw [← e]; exact h5.ext h (hs rfl), by rw [← h.κ b hb]; exact h6⟩
 | sealed τ => obtain ⟨n, hn, hκ⟩ := hk; exact ⟨n, by rw [← e]; exact h.S _ _ hn, by rw [← h.κ b hb]; exact hκ⟩
 | map es =>
  obtain ⟨ents, clock, h1, h2, h3⟩ := hk
  exact ⟨ents, clock, by rw [← e]; exact h1, h2.ext h, by rw [← e]; exact h3.ext h (hs rfl)⟩
 | iter l pos =>
  obtain ⟨s, h1, h2, h3⟩ := hk
  exact ⟨s, by rw [← e]; exact h1, h2, by rw [← e]; exact h3.ext h (hs rfl)⟩
 | iterv n pos =>
  obtain ⟨s, p, h1, h2, h3, h4, h5, h6⟩ := hk
  exact ⟨s, p, by rw [← e]; exact h1, by rw [h.ev h4]; exact h2, by rw [h.ev h5]; exact h3, h4.mono h.n, h5.mono h.n, by rw [← e]; exact h6.ext h (hs rfl)⟩
 | dead => show ¬ F.N (F.β b); rw [h.N, ← e]; exact hk
 | frz cs =>
  obtain ⟨arr, t, m, h1, h2, h3⟩ := hk
  exact ⟨arr, t, m, by rw [← e]; exact h1, Vs.ext HT h _ h2, by rw [← e]; exact h3.ext h (hs rfl)⟩
theorem Ref.ext {E F : Env} (h : Ext E F) (hS : F.S = E.S) (hA : F.A = E.A) {st : St} {r w : World} (k : Ref E st r w) (hm : ∀ b ∈ st.md, b < E.n) : Ref F st r w :=
 ⟨k.os, k.tape, k.output, k.size, fun hw i hi h1 h2 h3 => k.blk hw i hi (fun b hb e => h1 b hb (by rw [← h.β b (hm b hb)]; exact e)) (fun τ n hs => h2 τ n (h.S _ _ hs)) (by rw [← hA]; exact h3), fun h0 i hi ha => k.agr h0 i hi (by rw [← h.A0]; exact ha),
  fun i hi hp => k.frn i hi (by rw [← h.N, ← h.B, ← hS]; exact hp)⟩
theorem AgrA.refl (E : Env) (w : World) : AgrA E w w := fun _ _ => rfl
/-- Facts, and what they stand on. -/
theorem facts_ext {E F : Env} {gh : List (Nat × List AV)} {w : World} (h : ∀ f ∈ gh, ∃ vs, Vs HT E f.2 vs ∧ HT.F E f.1 w vs) (e : Ext E F) : ∀ f ∈ gh, ∃ vs, Vs HT F f.2 vs ∧ HT.F F f.1 w vs :=
 fun f hf => let ⟨vs, h1, h2⟩ := h f hf; ⟨vs, Vs.ext HT e _ h1, HT.F_ext e h2⟩
theorem facts_world {E : Env} {gh : List (Nat × List AV)} {w w' : World} (h : ∀ f ∈ gh, ∃ vs, Vs HT E f.2 vs ∧ HT.F E f.1 w vs) (ha : AgrA E w w') : ∀ f ∈ gh, ∃ vs, Vs HT E f.2 vs ∧ HT.F E f.1 w' vs :=
 fun f hf => let ⟨vs, h1, h2⟩ := h f hf; ⟨vs, h1, HT.F_st h2 ha⟩
/-- Solid blocks are no aliens. -/
theorem BlkOk.own {E : Env} {w : World} {b : Nat} {k : Blk} (h : BlkOk HT E w b k) (hs : k.solid = true) : ∃ ty, Own HT E (E.β b) ty := by
 cases k with
 | cells elem cs full ty => obtain ⟨_, _, _, _, _, _, _, h, _⟩ := h; exact ⟨_, h⟩
 | sealed => cases hs
 | map es => obtain ⟨_, _, _, _, h⟩ := h; exact ⟨_, h⟩
 | iter l pos => obtain ⟨_, _, _, h⟩ := h; exact ⟨_, h⟩
 | iterv n pos => obtain ⟨_, _, _, _, _, _, _, h⟩ := h; exact ⟨_, h⟩
 | dead => cases hs
 | frz cs => obtain ⟨_, _, _, _, _, h⟩ := h; exact ⟨_, h⟩
theorem BlkOk.lt {E : Env} {w : World} {b : Nat} {k : Blk} (h : BlkOk HT E w b k) (hs : k.solid = true) : E.β b < w.heap.size := by
 have aux : ∀ o, w.heap[E.β b]? = some o → E.β b < w.heap.size := fun o e => (Array.getElem?_eq_some_iff.1 e).1
 cases k with
 | cells elem cs full ty => obtain ⟨_, _, _, h, _⟩ := h; exact aux _ h
 | sealed => cases hs
 | map es => obtain ⟨_, _, h, _⟩ := h; exact aux _ h
 | iter l pos => obtain ⟨_, h, _⟩ := h; exact aux _ h
 | iterv n pos => obtain ⟨_, _, h, _⟩ := h; exact aux _ h
 | dead => cases hs
 | frz cs => obtain ⟨_, _, _, h, _⟩ := h; exact aux _ h
/-! ### A new letter -/
def Env.frc (E : Env) (i : Int) (v : Value) (k c : Nat) : Env :=
 { E with n := E.n + 1, ρ := fun x => if x = E.n then i else E.ρ x, ν := fun x => if x = E.n then v else E.ν x, β := fun x => if x = E.n then k else E.β x, κ := fun x => if x = E.n then c else E.κ x }
def Env.fr (E : Env) (i : Int) (v : Value) (k : Nat) : Env := E.frc i v k 0
theorem Env.frc_ext (E : Env) (i : Int) (v : Value) (k c : Nat) : Ext E (E.frc i v k c) :=
 ⟨Nat.le_succ _, fun x hx => by simp [Env.frc, Nat.ne_of_lt hx], fun x hx => by simp [Env.frc, Nat.ne_of_lt hx], fun x hx => by simp [Env.frc, Nat.ne_of_lt hx], fun x hx => by simp [Env.frc, Nat.ne_of_lt hx], fun _ _ h => h, fun _ h => h, fun _ _ h => h, rfl, rfl, rfl, fun _ _ => rfl, Nat.le_refl _, Nat.le_refl _, rfl, rfl⟩
@[simp] theorem Env.frc_ρ (E : Env) (i : Int) (v : Value) (k c : Nat) : (E.frc i v k c).ρ E.n = i := by simp [Env.frc]
@[simp] theorem Env.frc_β (E : Env) (i : Int) (v : Value) (k c : Nat) : (E.frc i v k c).β E.n = k := by simp [Env.frc]
@[simp] theorem Env.frc_κ (E : Env) (i : Int) (v : Value) (k c : Nat) : (E.frc i v k c).κ E.n = c := by simp [Env.frc]
@[simp] theorem Env.frc_n (E : Env) (i : Int) (v : Value) (k c : Nat) : (E.frc i v k c).n = E.n + 1 := rfl
@[simp] theorem Env.frc_S (E : Env) (i : Int) (v : Value) (k c : Nat) : (E.frc i v k c).S = E.S := rfl
@[simp] theorem Env.frc_A (E : Env) (i : Int) (v : Value) (k c : Nat) : (E.frc i v k c).A = E.A := rfl
@[simp] theorem Env.frc_N (E : Env) (i : Int) (v : Value) (k c : Nat) : (E.frc i v k c).N = E.N := rfl
@[simp] theorem Env.frc_g (E : Env) (i : Int) (v : Value) (k c : Nat) : (E.frc i v k c).g = E.g := rfl
@[simp] theorem Env.frc_h (E : Env) (i : Int) (v : Value) (k c : Nat) : (E.frc i v k c).h = E.h := rfl
theorem Env.fr_ext (E : Env) (i : Int) (v : Value) (k : Nat) : Ext E (E.fr i v k) := E.frc_ext i v k 0
@[simp] theorem Env.fr_ρ (E : Env) (i : Int) (v : Value) (k : Nat) : (E.fr i v k).ρ E.n = i := by simp [Env.fr, Env.frc]
@[simp] theorem Env.fr_ν (E : Env) (i : Int) (v : Value) (k : Nat) : (E.fr i v k).ν E.n = v := by simp [Env.fr, Env.frc]
@[simp] theorem Env.fr_β (E : Env) (i : Int) (v : Value) (k : Nat) : (E.fr i v k).β E.n = k := by simp [Env.fr, Env.frc]
@[simp] theorem Env.fr_n (E : Env) (i : Int) (v : Value) (k : Nat) : (E.fr i v k).n = E.n + 1 := rfl
@[simp] theorem Env.fr_S (E : Env) (i : Int) (v : Value) (k : Nat) : (E.fr i v k).S = E.S := rfl
/-- Which memory is whose stays; so do the counts. -/
structure Sam (E F : Env) : Prop where
 S : F.S = E.S
 A : F.A = E.A
 g : F.g = E.g
 h : F.h = E.h
theorem Sam.refl (E : Env) : Sam E E := ⟨rfl, rfl, rfl, rfl⟩
theorem Sam.trans {E F H : Env} (a : Sam E F) (b : Sam F H) : Sam E H := ⟨b.S.trans a.S, b.A.trans a.A, b.g.trans a.g, b.h.trans a.h⟩
theorem Env.frc_sam (E : Env) (i : Int) (v : Value) (k c : Nat) : Sam E (E.frc i v k c) := ⟨rfl, rfl, rfl, rfl⟩
theorem Env.fr_sam (E : Env) (i : Int) (v : Value) (k : Nat) : Sam E (E.fr i v k) := ⟨rfl, rfl, rfl, rfl⟩
theorem Sam.prv {E F : Env} (h : Sam E F) (e : Ext E F) {k : Nat} (p : Prv E k) : Prv F k := by
 obtain ⟨h1, h2, h3⟩ := p
 exact ⟨by rw [h.S]; exact h1, by rw [h.A]; exact h2, by rw [e.N]; exact h3⟩
theorem Sam.bs {E F : Env} (h : Sam E F) (e : Ext E F) : F.S = E.S ∧ F.B = E.B := ⟨h.S, e.B⟩
def St.fr (st : St) : St := { st with nx := st.nx + 1 }
theorem M.opn {E : Env} {st : St} {w : World} (h : M HT E st w) {b τ : Nat} (hb : (b, τ) ∈ st.op) : b < E.n := by
 obtain ⟨e, cs, f, h1⟩ := (h.op b τ).1 hb
 exact (h.bk _ _ h1).2
theorem M.ext {E F : Env} {st : St} {w : World} (h : M HT E st w) (e : Ext E F) (hS : Sam E F) (st' : St) (hn : F.n = st'.nx) (h1 : st'.cs = st.cs) (h2 : st'.vt = st.vt) (h2' : st'.vs = st.vs) (h3 : st'.bk = st.bk) (h4 : st'.op = st.op) (h5 : st'.fp = st.fp) (h6 : st'.md = st.md) (h7 : st'.gh = st.gh) (h8 : st'.gl = st.gl) (h9 : st'.hl = st.hl) : M HT F st' w := by
 refine ⟨hn, ?_, fun c hc => ?_, fun x t hx => ?_, fun x a hx => ?_, fun b z hb => ?_, fun b b' z z' hb hb' hs hs' hβ => ?_, fun j τ n hj ht => ?_, fun k t hk => ?_, fun k hk => ?_, ⟨fun k hk => by rw [hS.S]; rw [e.B] at hk; exact h.bt.1 k hk, fun k hk => by rw [hS.A]; rw [e.A0] at hk; exact h.bt.2.1 k hk, fun k hk => by rw [hS.A]; rw [e.N] at hk; exact h.bt.2.2 k hk⟩, fun k τ n hk => by rw [e.B, h5]; rw [hS.S] at hk; exact h.born k τ n hk, fun b hb => ?_, fun b τ => ?_, by rw [h7]; exact facts_ext h.gh e⟩
 ·obtain ⟨⟨g1, g2⟩, g3, g4⟩ := h.g
  rw [h8, h9, e.ev g2, e.ev g4, hS.g, hS.h]
  exact ⟨⟨g1, g2.mono e.n⟩, g3, g4.mono e.n⟩
 ·rw [h1] at hc
  obtain ⟨h1, h2⟩ := h.cs c hc; exact ⟨by rw [e.ev h2]; exact h1, h2.mono e.n⟩
 ·rw [h2] at hx
  obtain ⟨h1, h2⟩ := h.vt x t hx
  exact ⟨by rw [← e.ν x h2]; exact VT.ext HT e _ h1, Nat.lt_of_lt_of_le h2 e.n⟩
 ·rw [h2'] at hx
  obtain ⟨h1, h2⟩ := h.vs x a hx
  exact ⟨by rw [← e.ν x h2]; exact V.ext HT e _ h1, Nat.lt_of_lt_of_le h2 e.n⟩
 ·rw [h3] at hb
  obtain ⟨h1, h2⟩ := h.bk b z hb
  exact ⟨h1.ext e h2 (fun _ h => hS.prv e h), Nat.lt_of_lt_of_le h2 e.n⟩
 ·rw [h3] at hb hb'
  rw [← e.β b (h.bk b z hb).2, ← e.β b' (h.bk b' z' hb').2] at hβ
  exact h.inj b b' z z' hb hb' hs hs' hβ
 ·rw [hS.S] at hj
  rw [h5] at ht
  rcases h.heap j τ n hj ht with ⟨b, hb, hβ⟩ | hk
  ·exact .inl ⟨b, by rw [h4]; exact hb, by rw [← e.β b (h.opn hb)]; exact hβ⟩
  ·exact .inr (hk.ext e)
 ·rw [hS.S] at hk
  rw [hS.A, e.N]; exact h.dom k t hk
 ·rw [hS.A, e.N] at hk; exact h.an k hk
 ·rw [h6] at hb
  exact Nat.lt_of_lt_of_le (h.md b hb) e.n
 ·rw [h4, h3]; exact h.op b τ
theorem M.fr {E : Env} {st : St} {w : World} (h : M HT E st w) (i : Int) (v : Value) (k : Nat) : M HT (E.fr i v k) st.fr w :=
 h.ext (E.fr_ext i v k) (E.fr_sam i v k) _ (by show E.n + 1 = st.nx + 1; rw [h.nx]) rfl rfl rfl rfl rfl rfl rfl rfl rfl rfl
/-- A fact more. -/
def St.know (st : St) (c : Lin) : St := { st with cs := c :: st.cs }
theorem M.know {E : Env} {st : St} {w : World} (h : M HT E st w) {c : Lin} (hc : 0 ≤ c.ev E.ρ) (hb : c.below E.n) : M HT E (st.know c) w :=
 ⟨h.nx, h.g, fun d hd => by
  rcases List.mem_cons.1 hd with rfl | hd
  ·exact ⟨hc, hb⟩
  ·exact h.cs d hd, h.vt, h.vs, h.bk, h.inj, h.heap, h.dom, h.an, h.bt, h.born, h.md, h.op, h.gh⟩
theorem M.knows {E : Env} {st : St} {w : World} (h : M HT E st w) : ∀ c ∈ st.cs, 0 ≤ c.ev E.ρ := fun c hc => (h.cs c hc).1
/-- A new value that is told by its kind alone. -/
def St.newV (st : St) (t : CT) : St := { st.fr with vt := st.vt.set st.nx t }
theorem M.newV {E : Env} {st : St} {w : World} (h : M HT E st w) {t : CT} {v : Value} (hv : VT HT E t v) (i : Int) (k : Nat) : M HT (E.fr i v k) (st.newV t) w := by
 have h' := h.fr i v k
 refine ⟨h'.nx, h'.g, h'.cs, fun x u hx => ?_, h'.vs, h'.bk, h'.inj, h'.heap, h'.dom, h'.an, h'.bt, h'.born, h'.md, h'.op, h'.gh⟩
 have hx : (st.vt.set st.nx t).get x = some u := hx
 rw [PT.get_set] at hx
 by_cases e : x = st.nx
 ·rw [if_pos e] at hx
  injection hx with hx
  subst hx; subst e
  rw [← h.nx]
  exact ⟨by rw [Env.fr_ν]; exact VT.ext HT (E.fr_ext i v k) _ hv, Nat.lt_succ_self _⟩
 ·rw [if_neg e] at hx
  exact h'.vt x u hx
/-! ### A new block -/
theorem heap_alloc (w : World) (o : Obj) (k : Nat) (hk : k ≠ w.heap.size) : (w.alloc o).heap[k]? = w.heap[k]? := by
 show (w.heap.push o)[k]? = _
 rw [Array.getElem?_push, if_neg hk]
theorem heap_alloc_new (w : World) (o : Obj) : (w.alloc o).heap[w.heap.size]? = some o := by
 show (w.heap.push o)[w.heap.size]? = _
 rw [Array.getElem?_push, if_pos rfl]
def St.newB (st : St) (k : Blk) : St := { st.fr with bk := st.bk.set st.nx k }
theorem AgrA.alloc {E : Env} {st : St} {w : World} (h : M HT E st w) (o : Obj) : AgrA E w (w.alloc o) := fun i hi => heap_alloc w o i (Nat.ne_of_lt (h.an i (.inl hi)))
theorem M.alloc {E : Env} {st : St} {w : World} (h : M HT E st w) (o : Obj) : M HT E st (w.alloc o) := by
 have ne : ∀ k, k < w.heap.size → (w.alloc o).heap[k]? = w.heap[k]? := fun k hk => heap_alloc w o k (Nat.ne_of_lt hk)
 refine ⟨h.nx, h.g, h.cs, h.vt, h.vs, fun b z hb => ?_, h.inj, fun k τ n hk ht => ?_, fun k t hk => ?_, fun k hk => ?_, h.bt, h.born, h.md, h.op, facts_world h.gh (AgrA.alloc h o)⟩
 ·obtain ⟨h1, h2⟩ := h.bk b z hb
  exact ⟨h1.agree (fun hs => ne _ (h1.lt hs)), h2⟩
 ·rcases h.heap k τ n hk ht with hb | hb
  ·exact .inl hb
  ·exact .inr (hb.agree (fun _ => ne _ (h.dom _ _ hk).1) (AgrA.alloc h o))
 ·have := h.dom k t hk; rw [World.size_alloc]; exact ⟨by omega, this.2⟩
 ·have := h.an k hk; rw [World.size_alloc]; omega
theorem M.newB {E F : Env} {st : St} {w : World} (h : M HT E st w) (o : Obj) (k : Blk) (e : Ext E F) (hF : F.n = E.n + 1) (hS : Sam E F) (hβ0 : F.β E.n = w.heap.size)
  (hk : BlkOk HT F (w.alloc o) E.n k) (hc : ∀ e cs f τ, k ≠ .cells e cs f (some τ)) :
  M HT F (st.newB k) (w.alloc o) := by
 have h' : M HT F st.fr (w.alloc o) := (h.alloc o).ext e hS _ (by rw [hF, h.nx]; rfl) rfl rfl rfl rfl rfl rfl rfl rfl rfl rfl
 have hn : F.β st.nx = w.heap.size := by rw [← h.nx]; exact hβ0
 have bget : ∀ b z, (st.newB k).bk.get b = some z → (b = st.nx ∧ z = k) ∨ (b ≠ st.nx ∧ st.bk.get b = some z) := fun b z hz => by
  have hz : (st.bk.set st.nx k).get b = some z := hz
  rw [PT.get_set] at hz
  by_cases hb : b = st.nx
  ·rw [if_pos hb] at hz; injection hz with hz; exact .inl ⟨hb, hz.symm⟩
  ·rw [if_neg hb] at hz; exact .inr ⟨hb, hz⟩
 have old : ∀ b z, st.bk.get b = some z → z.solid = true → F.β b < w.heap.size := fun b z hz hs => by
  obtain ⟨h1, h2⟩ := h.bk b z hz
  rw [← e.β b h2]; exact h1.lt hs
 refine ⟨h'.nx, h'.g, h'.cs, h'.vt, h'.vs, fun b z hb => ?_, fun b b' z z' hb hb' hs hs' hβ => ?_, fun j τ n hj ht => ?_, h'.dom, h'.an, h'.bt, h'.born, h'.md, fun b τ => ?_, h'.gh⟩
 ·rcases bget b z hb with ⟨rfl, rfl⟩ | ⟨_, hb⟩
  ·rw [← h.nx]; exact ⟨hk, by rw [hF]; exact Nat.lt_succ_self _⟩
  ·exact h'.bk b z hb
 ·rcases bget b z hb with ⟨e1, e2⟩ | ⟨hne, gb⟩
  ·rcases bget b' z' hb' with ⟨e3, e4⟩ | ⟨hne', gb'⟩
   ·rw [e1, e3]
   ·have := old b' z' gb' hs'
    rw [e1, hn] at hβ; omega
  ·rcases bget b' z' hb' with ⟨e3, e4⟩ | ⟨hne', gb'⟩
   ·have := old b z gb hs
    rw [e3, hn] at hβ; omega
   ·exact h'.inj b b' z z' gb gb' hs hs' hβ
 ·exact h'.heap j τ n hj ht
 ·have ho : (b, τ) ∈ (st.newB k).op ↔ (b, τ) ∈ st.op := Iff.rfl
  rw [ho, h.op b τ]
  constructor
  ·rintro ⟨el, cs, f, hb⟩
   have : b ≠ st.nx := by have := (h.bk _ _ hb).2; rw [h.nx] at this; omega
   exact ⟨el, cs, f, by show (st.bk.set st.nx k).get b = _; rw [PT.get_set, if_neg this]; exact hb⟩
  ·rintro ⟨el, cs, f, hb⟩
   rcases bget b _ hb with ⟨rfl, he⟩ | ⟨_, hb⟩
   ·exact absurd he.symm (hc _ _ _ _)
   ·exact ⟨el, cs, f, hb⟩
theorem Ref.alloc {E : Env} {st : St} {r w : World} (h : Ref E st r w) (o : Obj) : Ref E st r (w.alloc o) :=
 ⟨h.os, h.tape, h.output, by rw [World.size_alloc]; have := h.size; omega, fun hw k hk h1 h2 h3 => by
  rw [heap_alloc w o k (by have := h.size; omega)]; exact h.blk hw k hk h1 h2 h3, fun h0 k hk ha => by
  rw [heap_alloc w o k (by have := h.size; omega)]; exact h.agr h0 k hk ha, fun k hk hp => by
  rw [heap_alloc w o k (by have := h.size; omega)]; exact h.frn k hk hp⟩
theorem Ref.st {E : Env} {st st' : St} {r w : World} (h : Ref E st r w) (h1 : st'.md = st.md) (h2 : st'.tm = st.tm) (h3 : st'.wild = st.wild := by rfl) : Ref E st' r w :=
 ⟨h.os, h.tape, h.output, h.size, fun hw k hk g1 g2 g3 => h.blk (by rw [← h3]; exact hw) k hk (by rw [← h1]; exact g1) (by rw [← h2]; exact g2) g3, fun h0 => h.agr (by rw [← h2]; exact h0), fun k hk hp => h.frn k hk (by rw [← h2]; exact hp)⟩
end
end Go.Proofs.YtbjhcjgniciooaaGreatDoor.E
namespace Go.Proofs.YtbjhcjgniciooaaGreatDoor.E
set_option linter.unusedVariables false
set_option linter.unusedSimpArgs false
section
variable {HT : Th}
def Blk.ty : Blk → Option Nat
 | .cells _ _ _ t => t
 | _ => none
theorem BlkOk.own' {E : Env} {w : World} {b : Nat} {k : Blk} (h : BlkOk HT E w b k) (hs : k.solid = true) : Own HT E (E.β b) k.ty := by
 cases k with
 | cells elem cs full ty => obtain ⟨_, _, _, _, _, _, _, h, _⟩ := h; exact h
 | sealed => cases hs
 | map es => obtain ⟨_, _, _, _, h⟩ := h; exact h
 | iter l pos => obtain ⟨_, _, _, h⟩ := h; exact h
 | iterv n pos => obtain ⟨_, _, _, _, _, _, _, h⟩ := h; exact h
 | dead => cases hs
 | frz cs => obtain ⟨_, _, _, _, _, h⟩ := h; exact h
def addU (l : List Nat) (t : Nat) : List Nat := if l.contains t then l else t :: l
theorem mem_addU {l : List Nat} {t x : Nat} : x ∈ addU l t ↔ x = t ∨ x ∈ l := by
 unfold addU
 split
 ·rename_i h
  constructor
  ·exact .inr
  ·rintro (rfl | h2)
   ·exact List.contains_iff_mem.1 h
   ·exact h2
 ·simp
def addAll : List Nat → List Nat → List Nat
 | [], m => m
 | x :: l, m => addU (addAll l m) x
theorem mem_addAll {l m : List Nat} {x : Nat} : x ∈ addAll l m ↔ x ∈ l ∨ x ∈ m := by
 induction l with
 | nil => simp [addAll]
 | cons y l ih => simp only [addAll, mem_addU, ih, List.mem_cons, or_assoc]
def St.put (st : St) (b : Nat) (k : Blk) : St :=
 { st with bk := st.bk.set b k, md := b :: st.md, tm := match k.ty with | none => st.tm | some τ => addU st.tm τ }
/-- A block of ours is written. -/
theorem M.put {E : Env} {st : St} {w w' : World} (h : M HT E st w) {b : Nat} {k k' : Blk} (hb : st.bk.get b = some k) (hs : k.solid = true) (hs' : k'.solid = true)
  (ht : k'.ty = k.ty) (hag : ∀ i, i ≠ E.β b → w'.heap[i]? = w.heap[i]?) (hsz : w'.heap.size = w.heap.size) (hk : BlkOk HT E w' b k') : M HT E (st.put b k') w' := by
 obtain ⟨h1, h2⟩ := h.bk b k hb
 have own := h1.own' hs
 have bget : ∀ c z, (st.put b k').bk.get c = some z → (c = b ∧ z = k') ∨ (c ≠ b ∧ st.bk.get c = some z) := fun c z hz => by
  have hz : (st.bk.set b k').get c = some z := hz
  rw [PT.get_set] at hz
  by_cases e : c = b
  ·rw [if_pos e] at hz; injection hz with hz; exact .inl ⟨e, hz.symm⟩
  ·rw [if_neg e] at hz; exact .inr ⟨e, hz⟩
 have opn : ∀ τ, k.ty = some τ → (b, τ) ∈ st.op := fun τ e => by
  cases k with
  | cells elem cs full ty => exact (h.op b τ).2 ⟨elem, cs, full, by rw [hb]; simp only [Blk.ty] at e; rw [e]⟩
  | _ => cases e
 have alien : AgrA E w w' := fun j hj => hag j (fun e' => by
  rw [e'] at hj
  cases hty : k.ty with
  | none => rw [hty] at own; exact own.2.1 hj
  | some τ' =>
   rw [hty] at own
   obtain ⟨⟨m, hm⟩, ho'⟩ := own
   have := (h.dom _ _ hm).2.2.1 hj
   rw [ho'] at this; cases this)
 refine ⟨h.nx, h.g, h.cs, h.vt, h.vs, fun c z hc => ?_, fun c c' z z' hc hc' hz hz' hβ => ?_, fun i τ n hi ht' => ?_, fun i t hi => by rw [hsz]; exact h.dom i t hi, fun i hi => by rw [hsz]; exact h.an i hi, h.bt, h.born, fun c hc => ?_, fun c τ => ?_, facts_world h.gh alien⟩
 ·rcases bget c z hc with ⟨rfl, rfl⟩ | ⟨hne, hc⟩
  ·exact ⟨hk, h2⟩
  ·obtain ⟨g1, g2⟩ := h.bk c z hc
   exact ⟨g1.agree (fun hz => hag _ (fun e => hne (h.inj c b z k hc hb hz hs e))), g2⟩
 ·rcases bget c z hc with ⟨e1, e2⟩ | ⟨hne, gc⟩
  ·rcases bget c' z' hc' with ⟨e3, e4⟩ | ⟨hne', gc'⟩
   ·rw [e1, e3]
   ·rw [e1] at hβ ⊢; exact h.inj b c' k z' hb gc' hs hz' hβ
  ·rcases bget c' z' hc' with ⟨e3, e4⟩ | ⟨hne', gc'⟩
   ·rw [e3] at hβ ⊢; exact h.inj c b z k gc hb hz hs hβ
   ·exact h.inj c c' z z' gc gc' hz hz' hβ
 ·rcases h.heap i τ n hi ht' with hl | hr
  ·exact .inl hl
  ·by_cases e : i = E.β b
   ·cases hty : k.ty with
    | none => rw [hty] at own; rw [e, own.1] at hi; cases hi
    | some τ' =>
     rw [hty] at own
     obtain ⟨⟨m, hm⟩, _⟩ := own
     rw [e, hm] at hi
     injection hi with hi; injection hi with hi _
     subst hi
     exact .inl ⟨b, opn _ hty, e.symm⟩
   ·exact .inr (hr.agree (fun _ => hag i e) alien)
 ·rcases List.mem_cons.1 hc with rfl | hc
  ·exact h2
  ·exact h.md c hc
 ·have ho : (c, τ) ∈ (st.put b k').op ↔ (c, τ) ∈ st.op := Iff.rfl
  rw [ho, h.op c τ]
  by_cases e : c = b
  ·subst e
   constructor
   ·rintro ⟨el, cs, f, hc⟩
    rw [hb] at hc; injection hc with hc
    rw [hc] at ht
    cases k' with
    | cells el' cs' f' ty' => simp only [Blk.ty] at ht; subst ht; exact ⟨el', cs', f', by show (st.bk.set _ _).get _ = _; rw [PT.get_set, if_pos rfl]⟩
    | _ => cases ht
   ·rintro ⟨el, cs, f, hc⟩
    rcases bget c _ hc with ⟨_, e2⟩ | ⟨hne, _⟩
    ·rw [← e2] at ht
     cases k with
     | cells el' cs' f' ty' => simp only [Blk.ty] at ht; subst ht; exact ⟨el', cs', f', hb⟩
     | _ => cases ht
    ·exact absurd rfl hne
  ·constructor
   ·rintro ⟨el, cs, f, hc⟩
    exact ⟨el, cs, f, by show (st.bk.set b k').get c = _; rw [PT.get_set, if_neg e]; exact hc⟩
   ·rintro ⟨el, cs, f, hc⟩
    rcases bget c _ hc with ⟨e1, _⟩ | ⟨_, hc⟩
    ·exact absurd e1 e
    ·exact ⟨el, cs, f, hc⟩
theorem Ref.put {E : Env} {st : St} {r w w' : World} (h : Ref E st r w) (m : M HT E st w) {b : Nat} {k k' : Blk} (hb : st.bk.get b = some k) (hs : k.solid = true) (ht : k'.ty = k.ty) (hag : ∀ i, i ≠ E.β b → w'.heap[i]? = w.heap[i]?) (hsz : w'.heap.size = w.heap.size)
  (h1 : w'.os = w.os) (h2 : w'.tape = w.tape) (h3 : w'.output = w.output) : Ref E (st.put b k') r w' := by
 have sub : ∀ τ, τ ∈ st.tm → τ ∈ (st.put b k').tm := fun τ hm => by
  show τ ∈ (match k'.ty with | none => st.tm | some τ => addU st.tm τ)
  split
  ·exact hm
  ·exact mem_addU.2 (.inr hm)
 refine ⟨h1.trans h.os, h2.trans h.tape, h3.trans h.output, by rw [hsz]; exact h.size, fun hw i hi g1 g2 g3 => ?_, fun h0 i hi ha => ?_, fun i hi hp => ?_⟩
 ·rw [hag i (fun e => g1 b (List.mem_cons_self ..) e.symm)]
  exact h.blk hw i hi (fun c hc => g1 c (List.mem_cons_of_mem _ hc)) (fun τ n hs hm => g2 τ n hs (sub τ hm)) g3
 ·rw [hag i (fun e => ?_)]
  ·exact h.agr (fun hm => h0 (sub 0 hm)) i hi ha
  ·have own := (m.bk b k hb).1.own' hs
   rw [← e] at own
   cases hty : k.ty with
   | none => rw [hty] at own; exact own.2.1 (m.bt.2.1 _ ha)
   | some τ' =>
    rw [hty] at own
    obtain ⟨⟨n', hn⟩, ho⟩ := own
    rw [(m.dom _ _ hn).2.2.1 (m.bt.2.1 _ ha)] at ho; cases ho
 ·rw [hag i (fun e => ?_)]
  ·exact h.frn i hi (hp.imp id fun ⟨h0, h1⟩ => ⟨h0, fun τ n hs hm => h1 τ n hs (sub τ hm)⟩)
  ·have own := (m.bk b k hb).1.own' hs
   rw [← e] at own
   cases hty : k.ty with
   | none =>
    rw [hty] at own
    rcases hp with hp | ⟨hp, _⟩
    ·exact own.2.2 hp
    ·obtain ⟨t, ht⟩ := m.bt.1 _ hp
     rw [own.1] at ht; cases ht
   | some τ' =>
    rw [hty] at own
    obtain ⟨⟨n', hn⟩, _⟩ := own
    rcases hp with hp | ⟨_, hq⟩
    ·exact (m.dom _ _ hn).2.1 hp
    ·refine hq _ _ hn ?_
     show τ' ∈ (match k'.ty with | none => st.tm | some τ => addU st.tm τ)
     rw [ht, hty]
     exact mem_addU.2 (.inl rfl)
/-- New memory is one's own. -/
theorem M.newPrv {E : Env} {st : St} {w : World} (h : M HT E st w) : Prv E w.heap.size := by
 refine ⟨?_, fun ha => ?_, fun hn => ?_⟩
 ·cases hs : E.S w.heap.size with
  | none => rfl
  | some t => exact absurd (h.dom _ _ hs).1 (Nat.lt_irrefl _)
 ·exact absurd (h.an _ (.inl ha)) (Nat.lt_irrefl _)
 ·exact absurd (h.an _ (.inr hn)) (Nat.lt_irrefl _)
/-- The world's counts of draws play no part. -/
theorem M.world {E : Env} {st : St} {w w' : World} (h : M HT E st w) (e : w'.heap = w.heap) : M HT E st w' := by
 have ag : AgrA E w w' := fun _ _ => by rw [e]
 exact ⟨h.nx, h.g, h.cs, h.vt, h.vs, fun b k hb => ⟨(h.bk b k hb).1.agree (fun _ => by rw [e]), (h.bk b k hb).2⟩, h.inj, fun k τ n hk ht => (h.heap k τ n hk ht).imp id (fun hr => hr.agree (fun _ => by rw [e]) ag),
  fun k t hk => by rw [e]; exact h.dom k t hk, fun k hk => by rw [e]; exact h.an k hk, h.bt, h.born, h.md, h.op, facts_world h.gh ag⟩
theorem Ref.world {E : Env} {st : St} {r w w' : World} (h : Ref E st r w) (e : w'.heap = w.heap) (h1 : w'.os = w.os) (h2 : w'.tape = w.tape) (h3 : w'.output = w.output) : Ref E st r w' :=
 ⟨h1.trans h.os, h2.trans h.tape, h3.trans h.output, by rw [e]; exact h.size, fun hw i hi g1 g2 g3 => by rw [e]; exact h.blk hw i hi g1 g2 g3, fun h0 i hi ha => by rw [e]; exact h.agr h0 i hi ha, fun i hi hp => by rw [e]; exact h.frn i hi hp⟩
/-! ### What a kind's value is told as -/
def St.bd (st : St) (d : Bd) : Lin := ((st.gl.sc d.a).add (st.hl.sc d.c)).addk d.b
theorem ev_bd {E : Env} {st : St} {w : World} (h : M HT E st w) (d : Bd) : (st.bd d).ev E.ρ = (d.ev E.g E.h : Int) := by
 unfold St.bd Bd.ev
 rw [Lin.ev_addk, Lin.ev_add, Lin.ev_sc, Lin.ev_sc, h.g.1.1, h.g.2.1]
 simp
theorem below_k (n : Int) (m : Nat) : (Lin.k n).below m := fun p hp => by cases hp
theorem below_v {x n : Nat} (h : x < n) : (Lin.v x).below n := fun p hp => by
 rcases List.mem_cons.1 hp with rfl | hp
 ·exact h
 ·cases hp
theorem below_addk {e : Lin} {n : Nat} (h : e.below n) (k : Int) : (e.addk k).below n := h
theorem below_scT {ts : List (Nat × Int)} {m : Int} {n : Nat} (h : ∀ p ∈ ts, p.1 < n) : ∀ p ∈ Lin.scT m ts, p.1 < n := by
 induction ts with
 | nil => intro p hp; cases hp
 | cons q ts ih =>
  obtain ⟨x, k⟩ := q
  intro p hp
  rcases List.mem_cons.1 hp with rfl | hp
  ·exact h (x, k) (List.mem_cons_self ..)
  ·exact ih (fun p hp => h p (List.mem_cons_of_mem _ hp)) p hp
theorem below_sc {e : Lin} {n : Nat} (h : e.below n) (m : Int) : (e.sc m).below n := by
 unfold Lin.sc
 split
 ·intro p hp; cases hp
 ·exact below_scT h
theorem below_addT {n : Nat} (f : Nat) (a b : List (Nat × Int)) (ha : ∀ p ∈ a, p.1 < n) (hb : ∀ p ∈ b, p.1 < n) : ∀ p ∈ Lin.addT f a b, p.1 < n := by
 induction f generalizing a b with
 | zero =>
  intro p hp
  rcases List.mem_append.1 hp with hp | hp
  ·exact ha p hp
  ·exact hb p hp
 | succ f ih =>
  cases a with
  | nil => exact hb
  | cons q a =>
   obtain ⟨x, k⟩ := q
   cases b with
   | nil => exact ha
   | cons q b =>
    obtain ⟨y, l⟩ := q
    have ha' : ∀ p ∈ a, p.1 < n := fun p hp => ha p (List.mem_cons_of_mem _ hp)
    have hb' : ∀ p ∈ b, p.1 < n := fun p hp => hb p (List.mem_cons_of_mem _ hp)
    intro p hp
    unfold Lin.addT at hp
    split at hp
    ·split at hp
     ·exact ih a b ha' hb' p hp
     ·rcases List.mem_cons.1 hp with rfl | hp
      ·exact ha (x, k) (List.mem_cons_self ..)
      ·exact ih a b ha' hb' p hp
    ·split at hp
     ·rcases List.mem_cons.1 hp with rfl | hp
      ·exact ha (x, k) (List.mem_cons_self ..)
      ·exact ih a _ ha' hb p hp
     ·rcases List.mem_cons.1 hp with rfl | hp
      ·exact hb (y, l) (List.mem_cons_self ..)
      ·exact ih _ b ha hb' p hp
theorem below_add {a b : Lin} {n : Nat} (ha : a.below n) (hb : b.below n) : (a.add b).below n := below_addT _ _ _ ha hb
theorem below_sub {a b : Lin} {n : Nat} (ha : a.below n) (hb : b.below n) : (a.sub b).below n := below_add ha (below_sc hb _)
theorem below_bd {E : Env} {st : St} {w : World} (h : M HT E st w) (d : Bd) : (st.bd d).below E.n := below_addk (below_add (below_sc h.g.1.2 _) (below_sc h.g.2.2 _)) _
/-- World as it was; more letters. -/
structure Up (HT : Th) (E : Env) (st : St) (w : World) (E' : Env) (st' : St) : Prop where
 ext : Ext E E'
 m : M HT E' st' w
 md : st'.md = st.md
 tm : st'.tm = st.tm
 fp : st'.fp = st.fp
 wild : st'.wild = st.wild
 S : Sam E E'
theorem Up.refl {E : Env} {st : St} {w : World} (h : M HT E st w) : Up HT E st w E st := ⟨Ext.refl E, h, rfl, rfl, rfl, rfl, Sam.refl E⟩
theorem Up.trans {E F H : Env} {s t u : St} {w : World} (h : Up HT E s w F t) (k : Up HT F t w H u) : Up HT E s w H u :=
 ⟨h.ext.trans k.ext, k.m, k.md.trans h.md, k.tm.trans h.tm, k.fp.trans h.fp, k.wild.trans h.wild, h.S.trans k.S⟩
theorem Up.ref {E F : Env} {s t : St} {r w : World} (h : Up HT E s w F t) (hm : M HT E s w) (k : Ref E s r w) : Ref F t r w := (k.ext h.ext h.S.S h.S.A hm.md).st h.md h.tm h.wild
theorem Up.know {E : Env} {st : St} {w : World} (h : M HT E st w) {c : Lin} (hc : 0 ≤ c.ev E.ρ) (hb : c.below E.n) : Up HT E st w E (st.know c) := ⟨Ext.refl E, h.know hc hb, rfl, rfl, rfl, rfl, Sam.refl E⟩
/-- A new number. -/
theorem Up.fr {E : Env} {st : St} {w : World} (h : M HT E st w) (i : Int) (v : Value) (k : Nat) : Up HT E st w (E.fr i v k) st.fr := ⟨E.fr_ext i v k, h.fr i v k, rfl, rfl, rfl, rfl, E.fr_sam i v k⟩
end
end Go.Proofs.YtbjhcjgniciooaaGreatDoor.E
