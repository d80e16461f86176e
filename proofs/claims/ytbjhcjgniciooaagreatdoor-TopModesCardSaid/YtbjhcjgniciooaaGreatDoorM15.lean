/- TopModes: a part of the proof, merged. -/
import Derived.Test.YtbjhcjgniciooaaGreatDoorM14
namespace Go.Proofs.YtbjhcjgniciooaaGreatDoor.G
open Go.RowKit Go.Proofs.YtbjhcjgniciooaaGreatDoorW.PrintWords Go.Proofs.YtbjhcjgniciooaaGreatDoorW.PrintLast Go.Proofs.YtbjhcjgniciooaaGreatDoorW.PrintMore
attribute [local go_sem] max2_int min2_int max_two min_two
set_option linter.unusedVariables false
set_option linter.unusedSimpArgs false
/-- What is appended to an empty slice without room: a new row, whole. -/
theorem append_new {ops : Array Oper} {Q : Exit → Act → World → Prop} {rest : List Oper} {o : Oper} {a : Act} {W : World} (hgd : o.guard = none) (s x : Operand) (t e : TypeId) (ti : TypeInfo) (z : Value) (m c : Nat) (ad : Addr) (B : Option Addr) (news : List Value)
  (ho : o.op = .call { callee := .builtin .append, args := #[s, x], argTypes := #[t, t] }) (ht : (E.CT0 E.rkF).und t = some (.slice e)) (hi : (E.CT0 E.rkF).inf e = some ti) (hz : ∀ w', (zeroValue e).run Tryz.prog w' = .ok z w')
  (hs : a.eval s = .slice B 0 0) (hx : a.eval x = .slice (some ad) m c) (hm : 0 < m) (hb : m ≤ 1000) (hti : ti.bytes ≤ 1000) (hl : news.length = m * ti.size) (hc : ∀ j u, news[j]? = some u → W.cell? (ad.add j) = some u)
  (h : ∀ nc, m ≤ nc → nc < 2 ^ 63 → wpList Tryz.prog ops Q rest (a.put o.dst (.slice (some ⟨W.heap.size, 0, none⟩) m nc)) (({ W with drawn := W.drawn + 1 } : World).alloc (.cells (news.toArray ++ Builtin.zeroCells z.cells (nc - m)) e))) :
  wpList Tryz.prog ops Q (o :: rest) a W := by
 have cell_h : ∀ (w' : World), w'.heap = W.heap → ∀ (b : Addr) u, W.cell? b = some u → w'.cell? b = some u := fun w' hw b u hu => by
  unfold World.cell? at hu ⊢; rw [hw]; exact hu
 have r := (E.r_append2 (E.CT0_ok E.rkF) (ty := o.type) ht hi (xT := t) (by unfold E.xTyOk; rw [ht]) B 0 0 m (.slice (some ad) m c) (new := news.toArray) (w := W) (fun w' => rfl) (fun w' hw => by
  show (loadCells ad (m * ti.size)).run _ w' = _
  have := run_loadCells_list (P := Tryz.prog) w' ad news (fun j v hj => cell_h w' hw _ _ (hc j v hj))
  rw [← hl]; exact this)).2 #[] z (by omega) (by omega) (by
   have : (2 * (0 + m) + 192) * ti.bytes ≤ 2192 * 1000 := Nat.mul_le_mul (by omega) hti
   have h2 : (2 : Nat) ^ 48 = 281474976710656 := by decide
   omega) (fun w' hw => by
   cases B with
   | none => rfl
   | some b => show (loadCells b (0 * ti.size)).run _ w' = _; rw [Nat.zero_mul]; rfl) hz
 obtain ⟨nc, h1, h2, hr⟩ := r
 rw [Nat.zero_add] at h1 hr
 refine wpList_plain hgd fun K hK => ?_
 unfold Oper.wp execOp
 have hr' : (Builtin.append_ #[t, t] o.type #[.slice B 0 0, .slice (some ad) m c]).run Tryz.prog W = .ok (.slice (some ⟨W.heap.size, 0, none⟩) m nc) (({ W with drawn := W.drawn + 1 } : World).alloc (.cells (news.toArray ++ Builtin.zeroCells z.cells (nc - m)) e)) := by
  have : (#[] ++ news.toArray ++ Builtin.zeroCells z.cells (nc - m)) = news.toArray ++ Builtin.zeroCells z.cells (nc - m) := by simp
  rw [← this]; exact hr
 simp only [ho, resolve, invoke, builtin, Sem.run_bind, Sem.run_pure, Result.andThen_ok, List.map_toArray, List.map_cons, List.map_nil, hs, hx, hr']
 exact hK _ _ (h nc h1 h2)
theorem und41 : (E.CT0 E.rkF).und 41 = some (.slice 5) := by kernel_rfl
theorem und42 : (E.CT0 E.rkF).und 42 = some (.slice 125) := by kernel_rfl
theorem inf5 : (E.CT0 E.rkF).inf 5 = some Tryz.t5 := by kernel_rfl
theorem inf125 : (E.CT0 E.rkF).inf 125 = some Tryz.t125 := by kernel_rfl
theorem zero5 (w' : World) : (zeroValue 5).run Tryz.prog w' = .ok (.int .u8 0) w' := by go_simp
theorem zero125 (w' : World) : (zeroValue 125).run Tryz.prog w' = .ok (.agg #[.string ByteArray.empty, .int .i64 0]) w' := by go_simp; rfl
/-- A new row, whole. -/
theorem whole_R {α : Type} (d : Kd α) (e : Nat) (W W0 : World) (base : Nat) (hb : base ≤ W.heap.size) (xs : List α) (inner : List Value) (hr : Reps (d.K W0) d.sz xs inner) (Z : Array Value) (nc : Nat) (h1 : xs.length ≤ nc) (h2 : nc < 2 ^ 63) (hz : Z.size = (nc - xs.length) * d.sz)
  (hKM : ∀ W' okp x cs, d.K W0 x cs → d.M W' base okp x cs) :
  d.R e (W.alloc (.cells (inner.toArray ++ Z) e)) base (fun k => base ≤ k) (.slice (some ⟨W.heap.size, 0, none⟩) xs.length nc) xs := by
 refine ⟨fun k hk => ?_, inner, ⟨hr.1, .inr ⟨W.heap.size, nc, _, rfl, hb, blk_new W _, h1, by simp only [maxLen]; omega, ?_, ?_⟩⟩, hr.imp_ fun p c hp => hKM _ _ _ _ hp⟩
 ·simp [Value.ownBlock] at hk; omega
 ·rw [Array.size_append, hz, List.size_toArray, hr.1, ← Nat.add_mul]; congr 1; omega
 ·rw [Array.toList_append, ← hr.1]; simp
/-- A row of whole cells. -/
def WhR (e sz : Nat) (ct : E.CTs) (w : World) (A : Option Addr) (c : Nat) : Prop :=
 (A = none ∧ c = 0) ∨ ∃ g cur, A = some ⟨g, 0, none⟩ ∧ w.heap[g]? = some (.cells cur e (0, 0)) ∧ ∀ En, E.RowL E.htT En ct sz c cur.toList
theorem WhR.step {e sz : Nat} {ct : E.CTs} {w w' : World} {A : Option Addr} {c : Nat} (h : WhR e sz ct w A c) (hs : ∀ g, A = some ⟨g, 0, none⟩ → w'.heap[g]? = w.heap[g]?) : WhR e sz ct w' A c :=
 h.imp id fun ⟨g, cur, h1, h2, h3⟩ => ⟨g, cur, h1, (hs g h1).trans h2, h3⟩
def ctB : E.CTs := E.cL [.int .u8 0 255]
def ctE : E.CTs := E.cL [E.cNm, E.cI]
theorem RowL_of_Reps {α : Type} {R : α → List Value → Prop} {ct : E.CTs} {sz : Nat} {xs : List α} {inner : List Value} (hr : Reps R sz xs inner) (En : E.Env) (hg : ∀ x ∈ xs, ∀ cs, R x cs → E.VTs E.htT En ct cs) : E.RowL E.htT En ct sz xs.length inner :=
 E.RowL.iff.2 ⟨hr.1, fun j hj => hg _ (List.getElem_mem hj) _ (hr.2 j _ (List.getElem?_eq_getElem hj))⟩
theorem whole_W {ct : E.CTs} {e sz : Nat} {W : World} {inner : List Value} {z : Array Value} {n nc : Nat} (h1 : n ≤ nc) (hr : ∀ En, E.RowL E.htT En ct sz n inner) (hz : ∀ En, E.VTs E.htT En ct z.toList) (hs : z.size = sz) (h0 : 0 < sz) : WhR e sz ct (W.alloc (.cells (inner.toArray ++ Builtin.zeroCells z (nc - n)) e)) (some ⟨W.heap.size, 0, none⟩) nc :=
 .inr ⟨_, _, rfl, blk_new W _, fun En => by
  rw [Array.toList_append]
  have := (hr En).append (E.RowL.zeros (hz En) hs h0 (nc - n))
  rw [show n + (nc - n) = nc by omega] at this
  exact this⟩
def CloneQ {α : Type} (d : Kd α) (e sz : Nat) (ct : E.CTs) (xs : List α) (w : World) (r : Ending) (w' : World) : Prop :=
 ∃ A c, r = .returned (.slice A xs.length c) ∧ xs.length ≤ c ∧ Kd.F d w' (fun k => w.heap.size ≤ k) A xs.length xs ∧ Below w.heap.size w w' ∧ WhR e sz ct w' A c ∧ ∀ g, A = some ⟨g, 0, none⟩ → w.heap.size ≤ g
theorem vtB (En : E.Env) (b : Int) (h : 0 ≤ b ∧ b ≤ 255) : E.VTs E.htT En ctB [.int .u8 b] := ⟨_, [], rfl, ⟨b, rfl, h.1, h.2, h.1, h.2⟩, rfl⟩
theorem vtE (En : E.Env) (s : ByteArray) (n : Int) (h : s.size ≤ 12 ∧ IntKind.i64.min ≤ n ∧ n ≤ IntKind.i64.max) : E.VTs E.htT En ctE [.string s, .int .i64 n] :=
 ⟨_, _, rfl, ⟨s, rfl, Nat.zero_le _, by show s.size ≤ _; simp [E.Bd.ev]; exact h.1⟩, _, [], rfl, ⟨n, rfl, h.2.1, h.2.2, h.2.1, h.2.2⟩, rfl⟩
theorem clone_fin {α : Type} (d : Kd α) (e : Nat) (ct : E.CTs) (w W W0 : World) (hB : Below w.heap.size w W) (xs : List α) (inner : List Value) (hr : Reps (d.K W0) d.sz xs inner) (z : Array Value) (nc : Nat) (h1 : xs.length ≤ nc) (h2 : nc < 2 ^ 63) (hz : ∀ En, E.VTs E.htT En ct z.toList) (hs : z.size = d.sz) (h0 : 0 < d.sz)
  (hKM : ∀ W' base okp x cs, d.K W0 x cs → d.M W' base okp x cs) (hg : ∀ En, ∀ x ∈ xs, ∀ cs, d.K W0 x cs → E.VTs E.htT En ct cs) :
  CloneQ d e d.sz ct xs w (.returned (.slice (some ⟨W.heap.size, 0, none⟩) xs.length nc)) (W.alloc (.cells (inner.toArray ++ Builtin.zeroCells z (nc - xs.length)) e)) :=
 ⟨_, nc, rfl, h1, Kd.R_F (whole_R d e W W0 w.heap.size hB.size xs inner hr _ nc h1 h2 (by rw [E.zeroCells_size, hs]) (fun W' okp x cs h => hKM W' _ okp x cs h)), hB.trans (below_alloc (Below.refl _ _) _ |>.mono hB.size), whole_W h1 (fun En => RowL_of_Reps hr En (hg En)) hz hs h0, fun g e => by injection e with e; injection e with e; rw [← e]; exact hB.size⟩
theorem cell_al {w : World} {o : Obj} {a : Addr} {v : Value} (h : w.cell? a = some v) : (w.alloc o).cell? a = some v := by
 have hlt : a.block < w.heap.size := by
  rcases Nat.lt_or_ge a.block w.heap.size with h' | h'
  ·exact h'
  ·simp [World.cell?, Array.getElem?_eq_none h'] at h
 rw [← h]
 simp only [World.cell?, World.alloc, Array.getElem?_push, Nat.ne_of_lt hlt, if_false]
theorem below_dr {b : Nat} {w W : World} (h : Below b w W) : Below b w { W with drawn := W.drawn + 1 } := ⟨h.os, h.tape, h.output, h.size, h.block⟩
set_option maxHeartbeats 800000 in
set_option maxRecDepth 100000 in
theorem cloneB2 (A : Option Addr) (c : Nat) (xs : List Int) (ok : Nat → Prop) (w : World) (hf : Kd.F (Kd.int .u8) w ok A xs.length xs) (hc : xs.length ≤ c) (hb : xs.length ≤ 1000) (hg : ∀ b ∈ xs, 0 ≤ b ∧ b ≤ 255) :
  Calls Tryz.prog 46 #[.slice A xs.length c] w (CloneQ (Kd.int .u8) 5 1 ctB xs w) := by
 have en := fun (a : Option Addr) (n c : Nat) (w : World) => Lib.run_eql_slice_nil w 41 5 a n c 0 0 Tryz.underlying41
 have HF := Aside0.mk (Kd.F_now hf)
 have HF0 := Aside0.mk hf
 clear hf
 cases A with
 | none =>
  have e0 : xs = [] := by
   cases xs with
   | nil => rfl
   | cons x l => obtain ⟨_, h, _⟩ := HF.out.2.2 (by simp); cases h
  subst e0
  go_enter Tryz.func46, Tryz.ntmps46
  go_wp2
  go_ret
  exact ⟨none, 0, rfl, Nat.le_refl _, Kd.F_nil _ _ _, Below.refl _ _, .inl ⟨rfl, rfl⟩, fun g e => by cases e⟩
 | some ad =>
  rcases Nat.eq_zero_or_pos xs.length with h0 | h0
  ·have e0 : xs = [] := List.eq_nil_of_length_eq_zero h0
   subst e0
   go_enter Tryz.func46, Tryz.ntmps46
   go_wp2
   go_ret
   exact ⟨some ⟨w.heap.size, 0, none⟩, 0, rfl, Nat.le_refl _, (fun W' hW => ⟨rfl, by simp, fun h => absurd h (by simp)⟩), below_alloc (Below.refl _ _) _, .inr ⟨_, #[], rfl, blk_new w _, fun En => rfl⟩, fun g e => by injection e with e; injection e with e; rw [← e]; exact Nat.le_refl _⟩
  ·obtain ⟨inner, hr, hcell⟩ := ReadsRow.inner_ (show ReadsRow ((Kd.int .u8).K w) 1 w (some ad) xs.length xs from HF.out)
   go_enter Tryz.func46, Tryz.ntmps46
   go_wp2_with (first
    | ((with_reducible refine gate_builtin (b := .append) (xs := #[.tmp 5, .tmp 6]) rfl ?_); at_builtin; refine append_new rfl (.tmp 5) (.tmp 6) 41 5 Tryz.t5 (.int .u8 0) xs.length c ad (some ⟨w.heap.size, 0, none⟩) inner rfl und41 inf5 zero5 rfl rfl h0 hb (by decide +kernel) (by rw [hr.1]; rfl) (fun j u hu => cell_al (hcell j u hu)) ?_; intro nc n1 n2))
   go_ret
   have q := clone_fin (Kd.int .u8) 5 ctB w _ w (below_dr (below_alloc (Below.refl _ _) (.cells #[] 5))) xs inner hr _ nc n1 n2 (fun En => vtB En 0 (by decide)) rfl (by decide) (fun _ _ _ _ _ h => h) (fun En x hx cs hk => by
    have : cs = [.int .u8 x] := hk
    rw [this]; exact vtB En x (hg x hx))
   simp only [World.size_alloc] at q
   exact q
set_option maxHeartbeats 800000 in
set_option maxRecDepth 100000 in
theorem cloneE2 (A : Option Addr) (c : Nat) (xs : List Ent) (ok : Nat → Prop) (w : World) (hf : Kd.F kE w ok A xs.length xs) (hc : xs.length ≤ c) (hb : xs.length ≤ 1000) (hg : ∀ b ∈ xs, b.name.size ≤ 12 ∧ IntKind.i64.min ≤ b.node ∧ b.node ≤ IntKind.i64.max) :
  Calls Tryz.prog 47 #[.slice A xs.length c] w (CloneQ kE 125 2 ctE xs w) := by
 have en := fun (a : Option Addr) (n c : Nat) (w : World) => Lib.run_eql_slice_nil w 42 125 a n c 0 0 Tryz.underlying42
 have HF := Aside0.mk (Kd.F_now hf)
 have HF0 := Aside0.mk hf
 clear hf
 cases A with
 | none =>
  have e0 : xs = [] := by
   cases xs with
   | nil => rfl
   | cons x l => obtain ⟨_, h, _⟩ := HF.out.2.2 (by simp); cases h
  subst e0
  go_enter Tryz.func47, Tryz.ntmps47
  go_wp2
  go_ret
  exact ⟨none, 0, rfl, Nat.le_refl _, Kd.F_nil _ _ _, Below.refl _ _, .inl ⟨rfl, rfl⟩, fun g e => by cases e⟩
 | some ad =>
  rcases Nat.eq_zero_or_pos xs.length with h0 | h0
  ·have e0 : xs = [] := List.eq_nil_of_length_eq_zero h0
   subst e0
   go_enter Tryz.func47, Tryz.ntmps47
   go_wp2
   go_ret
   exact ⟨some ⟨w.heap.size, 0, none⟩, 0, rfl, Nat.le_refl _, (fun W' hW => ⟨rfl, by simp, fun h => absurd h (by simp)⟩), below_alloc (Below.refl _ _) _, .inr ⟨_, #[], rfl, blk_new w _, fun En => rfl⟩, fun g e => by injection e with e; injection e with e; rw [← e]; exact Nat.le_refl _⟩
  ·obtain ⟨inner, hr, hcell⟩ := ReadsRow.inner_ (show ReadsRow (kE.K w) 2 w (some ad) xs.length xs from HF.out)
   go_enter Tryz.func47, Tryz.ntmps47
   go_wp2_with (first
    | ((with_reducible refine gate_builtin (b := .append) (xs := #[.tmp 5, .tmp 6]) rfl ?_); at_builtin; refine append_new rfl (.tmp 5) (.tmp 6) 42 125 Tryz.t125 (.agg #[.string ByteArray.empty, .int .i64 0]) xs.length c ad (some ⟨w.heap.size, 0, none⟩) inner rfl und42 inf125 zero125 rfl rfl h0 hb (by decide +kernel) (by rw [hr.1]; rfl) (fun j u hu => cell_al (hcell j u hu)) ?_; intro nc n1 n2))
   go_ret
   have q := clone_fin kE 125 ctE w _ w (below_dr (below_alloc (Below.refl _ _) (.cells #[] 125))) xs inner hr _ nc n1 n2 (fun En => vtE En ByteArray.empty 0 (by decide)) rfl (by decide) (fun _ _ _ _ _ h => h) (fun En x hx cs hk => by
    obtain ⟨a, b, rfl, ha, hb'⟩ := hk
    have e1 : a = [.string x.name] := ha
    have e2 : b = [.int .i64 x.node] := hb'
    rw [e1, e2]; exact vtE En x.name x.node (hg x hx))
   simp only [World.size_alloc] at q
   exact q
/-- A new row, whole: it lies above a bound. -/
def WhB (B e sz : Nat) (ct : E.CTs) (w : World) (A : Option Addr) (c : Nat) : Prop := WhR e sz ct w A c ∧ ∀ g, A = some ⟨g, 0, none⟩ → B ≤ g
theorem WhB.le {B C e sz : Nat} {ct : E.CTs} {w : World} {A : Option Addr} {c : Nat} (h : WhB B e sz ct w A c) (hc : C ≤ B) : WhB C e sz ct w A c := ⟨h.1, fun g e => Nat.le_trans hc (h.2 g e)⟩
theorem WhB.set {B e sz : Nat} {ct : E.CTs} {w : World} {A : Option Addr} {c : Nat} (h : WhB B e sz ct w A c) (b o : Nat) (v : Value) (hb : b < B) : WhB B e sz ct (w.setCell ⟨b, o, none⟩ v) A c :=
 ⟨h.1.step fun g e => Below.heap_setCell w ⟨b, o, none⟩ v g (by have := h.2 g e; show g ≠ b; omega), h.2⟩
theorem WhB.below {B e sz : Nat} {ct : E.CTs} {w w' : World} {A : Option Addr} {c : Nat} (h : WhB B e sz ct w A c) (hb : Below w.heap.size w w') : WhB B e sz ct w' A c :=
 ⟨h.1.imp id fun ⟨g, cur, h1, h2, h3⟩ => ⟨g, cur, h1, (hb.block g (blk_lt h2)).trans h2, h3⟩, h.2⟩
set_option maxHeartbeats 1600000 in
set_option maxRecDepth 100000 in
theorem own2 (x : Nd) (A4 : Option Addr) (c4 : Nat) (A5 : Option Addr) (c5 : Nat) (ok : Nat → Prop) (w : World) (h : NdC w ok x A4 c4 A5 c5) (b4 : x.data.length ≤ 1000) (b5 : x.ents.length ≤ 1000) (g4 : ∀ b ∈ x.data, 0 ≤ b ∧ b ≤ 255) (g5 : ∀ e ∈ x.ents, e.name.size ≤ 12 ∧ IntKind.i64.min ≤ e.node ∧ e.node ≤ IntKind.i64.max) :
  Calls Tryz.prog 24 #[.agg (ndCells x A4 c4 A5 c5)] w fun e w' => ∃ A4' c4' A5' c5', e = .returned (.agg (ndCells x A4' c4' A5' c5')) ∧ NdC w' (fun k => w.heap.size ≤ k) x A4' c4' A5' c5' ∧ Below w.heap.size w w' ∧ WhB w.heap.size 5 1 ctB w' A4' c4' ∧ WhB w.heap.size 125 2 ctE w' A5' c5' := by
 obtain ⟨l4, f4, l5, f5⟩ := h
 unfold ndCells
 have H4 := Aside0.mk f4
 have H5 := Aside0.mk f5
 have L4 := Aside0.mk l4
 have L5 := Aside0.mk l5
 have B4 := Aside0.mk b4
 have B5 := Aside0.mk b5
 have Q4 := Aside0.mk g4
 have Q5 := Aside0.mk g5
 have HB := Aside0.mk (below_alloc (below_alloc (Below.refl w.heap.size w) (.cells #[.int .i64 x.kind, .int .i64 x.mode, .int .i64 x.uid, .int .i64 x.gid, .slice A4 x.data.length c4, .slice A5 x.ents.length c5, .string x.target] 44)) (.cells #[.int .i64 0, .int .i64 0, .int .i64 0, .int .i64 0, .slice none 0 0, .slice none 0 0, .string ⟨#[]⟩] 44))
 clear l4 f4 l5 f5 b4 b5 g4 g5
 go_enter Tryz.func24, Tryz.ntmps24
 go_wp2_with fail
 refine (cloneB2 A4 c4 x.data ok _ (F_now_at H4.out HB.out) L4.out B4.out Q4.out).mono ?_
 rintro e w1 ⟨A4', c4', rfl, l4', f4', hb, wh4, wg4⟩
 have W4 := Aside0.mk (show WhB (w.heap.size + 2) 5 1 ctB w1 A4' c4' from ⟨wh4, fun g e => by have := wg4 g e; rw [World.size_alloc, World.size_alloc] at this; omega⟩)
 clear wh4 wg4
 have b0 := blk_below (blk_alloc (blk_new w (.cells #[.int .i64 x.kind, .int .i64 x.mode, .int .i64 x.uid, .int .i64 x.gid, .slice A4 x.data.length c4, .slice A5 x.ents.length c5, .string x.target] 44)) (.cells #[.int .i64 0, .int .i64 0, .int .i64 0, .int .i64 0, .slice none 0 0, .slice none 0 0, .string ⟨#[]⟩] 44)) hb
 have b1 := blk_below (blk_new (w.alloc (.cells #[.int .i64 x.kind, .int .i64 x.mode, .int .i64 x.uid, .int .i64 x.gid, .slice A4 x.data.length c4, .slice A5 x.ents.length c5, .string x.target] 44)) (.cells #[.int .i64 0, .int .i64 0, .int .i64 0, .int .i64 0, .slice none 0 0, .slice none 0 0, .string ⟨#[]⟩] 44)) hb
 rw [World.size_alloc] at b1
 have L4' := Aside0.mk l4'
 have F4' := Aside0.mk (Kd.F_mono f4' (ok' := fun k => w.heap.size + 1 < k) (fun k hk => by rw [World.size_alloc, World.size_alloc] at hk; omega))
 have n_ := Aside0.mk (below_step HB.out hb)
 clear HB f4' l4' hb
 have HB := n_
 clear n_
 have p := blk_cell b0
 have q := blk_frozen b0
 have B0 := Aside0.mk b0
 have B1 := Aside0.mk b1
 clear b0 b1
 dsimp only
 go_wp2_with fail
 refine (cloneE2 A5 c5 x.ents ok _ (F_now_at H5.out (below_set HB.out (Nat.le_refl _))) L5.out B5.out Q5.out).mono ?_
 rintro e w2 ⟨A5', c5', rfl, l5', f5', hb, wh5, wg5⟩
 have W4' := Aside0.mk ((W4.out.set w.heap.size 4 (.slice A4' x.data.length c4') (by omega)).below hb)
 have wg5' : ∀ g, A5' = some ⟨g, 0, none⟩ → w.heap.size + 2 ≤ g := fun g e => by
  have := wg5 g e
  have lt1 := blk_lt B1.out
  have hz : (w1.setCell ⟨w.heap.size, 4, none⟩ (.slice A4' x.data.length c4')).heap.size = w1.heap.size := by simp
  rw [hz] at this; omega
 have W5 := Aside0.mk (show WhB (w.heap.size + 2) 125 2 ctE w2 A5' c5' from ⟨wh5, wg5'⟩)
 clear wh5 wg5 wg5' W4
 have L5' := Aside0.mk l5'
 have lt1 := blk_lt B1.out
 have hz : (w1.setCell ⟨w.heap.size, 4, none⟩ (.slice A4' x.data.length c4')).heap.size = w1.heap.size := by simp
 have F5' := Aside0.mk (Kd.F_mono f5' (ok' := fun k => w.heap.size + 1 < k) (fun k hk => by rw [hz] at hk; omega))
 have F4 := Aside0.mk (F_now_at (F_set w.heap.size 4 (.slice A4' x.data.length c4') F4'.out (by omega)) hb)
 have b0 := blk_below (blk_put B0.out 4 (.slice A4' x.data.length c4') rfl) hb
 have b1 := blk_below (blk_far B1.out (p := ⟨w.heap.size, 4, none⟩) (by simp) (.slice A4' x.data.length c4')) hb
 have n_ := Aside0.mk (below_step (below_set HB.out (Nat.le_refl _)) hb)
 clear HB hz f5' l5' F4' B0 B1 p q hb lt1
 have HB := n_
 clear n_
 have p := blk_cell b0
 have q := blk_frozen b0
 have p1 := blk_cell b1
 have q1 := blk_frozen b1
 have B0 := Aside0.mk b0
 have B1 := Aside0.mk b1
 clear b0 b1
 dsimp only
 go_wp2_with fail
 refine bodyPost_ret (v := .agg #[.int .i64 x.kind, .int .i64 x.mode, .int .i64 x.uid, .int .i64 x.gid, .slice A4' x.data.length c4', .slice A5' x.ents.length c5', .string x.target]) (by simp [results, Tryz.results24, go_sem, p1]) rfl ⟨A4', c4', A5', c5', rfl, ⟨L4'.out, ?_, L5'.out, ?_⟩, ?_, ?_, ?_⟩
 ·refine F_le (B := w.heap.size + 1) ?_ (by omega); (iterate 8 (with_reducible refine F_lt _ _ _ ?_ (by omega))); exact F4.out
 ·refine F_le (B := w.heap.size + 1) ?_ (by omega); (iterate 8 (with_reducible refine F_lt _ _ _ ?_ (by omega))); exact F5'.out
 ·(iterate 8 (with_reducible refine below_set ?_ (by omega))); exact HB.out
 ·refine WhB.le (B := w.heap.size + 2) ?_ (by omega); (iterate 8 (with_reducible refine WhB.set ?_ _ _ _ (by omega))); exact W4'.out
 ·refine WhB.le (B := w.heap.size + 2) ?_ (by omega); (iterate 8 (with_reducible refine WhB.set ?_ _ _ _ (by omega))); exact W5.out
set_option maxHeartbeats 800000 in
set_option maxRecDepth 100000 in
theorem Get2 (g : Nat) (ok : Nat → Prop) (T : Tab) (i : Int) (w : World) (h : TabAt w g ok T) (hs : ∀ i, i < 24 → (T.nd i).data.length ≤ 1000 ∧ (T.nd i).ents.length ≤ 1000) (hq : ∀ i, i < 24 → (∀ b ∈ (T.nd i).data, 0 ≤ b ∧ b ≤ 255) ∧ ∀ e ∈ (T.nd i).ents, e.name.size ≤ 12 ∧ IntKind.i64.min ≤ e.node ∧ e.node ≤ IntKind.i64.max) :
  Calls Tryz.prog 11 #[.pointer (some ⟨g, 0, none⟩), .int .i64 i] w fun e w' => ∃ A4 c4 A5 c5, e = .returned (.tuple #[.agg (ndCells (T.get i) A4 c4 A5 c5), .bool (live T i)]) ∧ NdC w' (fun k => w.heap.size ≤ k) (T.get i) A4 c4 A5 c5 ∧ Below w.heap.size w w' ∧ WhB w.heap.size 5 1 ctB w' A4 c4 ∧ WhB w.heap.size 125 2 ctE w' A5 c5 := by
 have H := Aside0.mk (h.below (below_alloc (Below.refl _ _) (.cells #[.int .i64 0, .int .i64 0, .int .i64 0, .int .i64 0, .slice none 0 0, .slice none 0 0, .string ⟨#[]⟩] 44)))
 cases hl : live T i with
 | false =>
  have e : T.get i = zN := by unfold Tab.get; rw [hl]; rfl
  rw [e]
  have HL := Aside0.mk hl
  clear h hs hq hl e
  go_enter Tryz.func11, Tryz.ntmps11
  go_wp2_with fail
  refine (at_nil g ok T i _ H.out HL.out).mono ?_
  rintro e w1 ⟨rfl, ⟨nd, rfl⟩⟩
  dsimp only
  go_wp2
  refine bodyPost_ret (v := .tuple #[.agg (ndCells zN none 0 none 0), .bool false]) (by simp [results, Tryz.results11, go_sem, ndCells, zN]) rfl ⟨none, 0, none, 0, rfl, NdC.zero _ _, ?_, ⟨.inl ⟨rfl, rfl⟩, fun g e => by cases e⟩, ⟨.inl ⟨rfl, rfl⟩, fun g e => by cases e⟩⟩
  iterate 7 (with_reducible refine below_set ?_ (Nat.le_refl _))
  exact pw_below_drewN (below_alloc (Below.refl _ _) _) _
 | true =>
  have hr : 1 ≤ i ∧ i ≤ T.room := by unfold live at hl; simp at hl; exact ⟨hl.1.1, hl.1.2⟩
  have hi : i.toNat - 1 < 24 := by have := h.r2; omega
  have e : T.get i = T.nd (i.toNat - 1) := by unfold Tab.get; rw [hl]; rfl
  rw [e]
  have HL := Aside0.mk hl
  have HS := Aside0.mk (hs _ hi)
  have HQ := Aside0.mk (hq _ hi)
  obtain ⟨A4, c4, A5, c5, hN, q0, q1, q2, q3, q4, q5, q6⟩ := H.out.at7 _ hi
  have HN := Aside0.mk hN
  have G := Aside0.mk h.lt
  clear h hs hq hl e hr hi hN
  obtain ⟨x, hx⟩ : ∃ x, T.nd (i.toNat - 1) = x := ⟨_, rfl⟩
  rw [hx] at q0 q1 q2 q3 q4 q5 q6 HN HS HQ ⊢
  clear hx
  go_enter Tryz.func11, Tryz.ntmps11
  go_wp2_with fail
  refine (at_some g ok T i _ H.out HL.out).mono ?_
  rintro e w1 ⟨rfl, ⟨nd, rfl⟩⟩
  dsimp only
  go_wp2_with fail
  refine (own2 x A4 c4 A5 c5 ok _ (HN.out.below (pw_below_drewN (Below.refl _ _) nd)) HS.out.1 HS.out.2 HQ.out.1 HQ.out.2).mono ?_
  rintro e w2 ⟨B4, b4, B5, b5, rfl, hN2, hb, wh4, wh5⟩
  have W4 := Aside0.mk (wh4.le (C := w.heap.size + 1) (by have := (World.size_alloc (w := w) (o := .cells #[.int .i64 0, .int .i64 0, .int .i64 0, .int .i64 0, .slice none 0 0, .slice none 0 0, .string ⟨#[]⟩] 44)); exact Nat.le_of_eq this.symm))
  have W5 := Aside0.mk (wh5.le (C := w.heap.size + 1) (by have := (World.size_alloc (w := w) (o := .cells #[.int .i64 0, .int .i64 0, .int .i64 0, .int .i64 0, .slice none 0 0, .slice none 0 0, .string ⟨#[]⟩] 44)); exact Nat.le_of_eq this.symm))
  clear wh4 wh5
  have b0 := blk_below (blk_drewN (blk_new w (.cells #[.int .i64 0, .int .i64 0, .int .i64 0, .int .i64 0, .slice none 0 0, .slice none 0 0, .string ⟨#[]⟩] 44)) nd) hb
  have p := blk_cell b0
  have q := blk_frozen b0
  have HB := Aside0.mk (below_step (pw_below_drewN (below_alloc (Below.refl _ _) (.cells #[.int .i64 0, .int .i64 0, .int .i64 0, .int .i64 0, .slice none 0 0, .slice none 0 0, .string ⟨#[]⟩] 44)) nd) hb)
  have HM := Aside0.mk (hN2.mono (ok' := fun k => w.heap.size < k) (fun k hk => by have := (Nat.le_trans (Nat.le_of_eq (World.size_alloc (w := w) (o := .cells #[.int .i64 0, .int .i64 0, .int .i64 0, .int .i64 0, .slice none 0 0, .slice none 0 0, .string ⟨#[]⟩] 44)).symm) hk); omega))
  clear hN2 hb b0 q0 q1 q2 q3 q4 q5 q6
  unfold ndCells
  dsimp only
  go_wp2
  refine bodyPost_ret (v := .tuple #[.agg (ndCells x B4 b4 B5 b5), .bool true]) (by simp [results, Tryz.results11, go_sem, ndCells, p]) rfl ⟨B4, b4, B5, b5, rfl, ?_, ?_, ?_, ?_⟩
  ·refine NdC.mono (ok := fun k => w.heap.size < k) ?_ (fun k hk => by omega)
   iterate 7 (with_reducible refine NdC.set ?_ _ _ _ (Nat.lt_irrefl _))
   exact HM.out
  ·iterate 7 (with_reducible refine below_set ?_ (Nat.le_refl _))
   exact HB.out
  ·refine WhB.le (B := w.heap.size + 1) ?_ (by omega); (iterate 7 (with_reducible refine WhB.set ?_ _ _ _ (by omega))); exact W4.out
  ·refine WhB.le (B := w.heap.size + 1) ?_ (by omega); (iterate 7 (with_reducible refine WhB.set ?_ _ _ _ (by omega))); exact W5.out
end Go.Proofs.YtbjhcjgniciooaaGreatDoor.G
namespace Go.Proofs.YtbjhcjgniciooaaGreatDoor.G.R
open Go.Proofs.YtbjhcjgniciooaaGreatDoor.G
open Go.RowKit Go.Proofs.YtbjhcjgniciooaaGreatDoorW.PrintWords Go.Proofs.YtbjhcjgniciooaaGreatDoorW.PrintLast Go.Proofs.YtbjhcjgniciooaaGreatDoorW.PrintMore
attribute [local go_sem] max2_int min2_int max_two min_two
set_option linter.unusedVariables false
set_option linter.unusedSimpArgs false
/-! ### Counts that are numbers of the machine -/
abbrev R64 := { n : Int // IntKind.i64.min ≤ n ∧ n ≤ IntKind.i64.max }
theorem wr64 (n : Int) : IntKind.i64.min ≤ wrap64 n ∧ wrap64 n ≤ IntKind.i64.max := by
 constructor
 ·show (-9223372036854775808 : Int) ≤ _
  unfold wrap64; omega
 ·show _ ≤ (9223372036854775807 : Int)
  unfold wrap64; omega
theorem d64 (j : Nat) (h : j < 24) : IntKind.i64.min ≤ (j : Int) + 1 ∧ (j : Int) + 1 ≤ IntKind.i64.max := ⟨by show (-9223372036854775808 : Int) ≤ _; omega, by show _ ≤ (9223372036854775807 : Int); omega⟩
def TellOk (F : Nat) (caps : Array Value) (c : Nat) : Prop := ∀ (W : World) (d n : R64), W.heap[c]? = some (.cells #[.int .i64 n.1] 3 (0, 0)) → Calls Tryz.prog F (#[.int .i64 d.1] ++ caps) W fun e w' => e = .returned (.tuple #[]) ∧ ∃ n' : R64, w' = W.setCell ⟨c, 0, none⟩ (.int .i64 n'.1)
structure EntJ (w : World) (g : Nat) (ok : Nat → Prop) (T : Tab) (c b4 b5 : Nat) (i : Int) (F : Nat) (caps : Array Value) (W : World) : Prop where
 tab : TabAt W g ok T
 x4 : W.heap[b4]? = some (.cells #[.int .i64 i] 3 (0, 0))
 x5 : W.heap[b5]? = some (.cells #[.func (.func F) #[] caps] 248 (0, 0))
 xc : ∃ n : R64, W.heap[c]? = some (.cells #[.int .i64 n.1] 3 (0, 0))
 fr : Fr (· = c) w W
section
variable {w : World} {g : Nat} {ok : Nat → Prop} {T : Tab} {c b4 b5 : Nat} {i : Int} {F : Nat} {caps : Array Value} {W W1 : World}
theorem EntJ.below (h : EntJ w g ok T c b4 b5 i F caps W) (k : Below W.heap.size W W1) : EntJ w g ok T c b4 b5 i F caps W1 :=
 ⟨h.tab.below k, blk_below h.x4 k, blk_below h.x5 k, by obtain ⟨n, hn⟩ := h.xc; exact ⟨n, blk_below hn k⟩, h.fr.step k⟩
theorem EntJ.set (h : EntJ w g ok T c b4 b5 i F caps W) (hg : c ≠ g) (ho : ¬ ok c) (h4 : b4 ≠ c) (h5 : b5 ≠ c) (n : R64) : EntJ w g ok T c b4 b5 i F caps (W.setCell ⟨c, 0, none⟩ (.int .i64 n.1)) := by
 have f : Fr (· = c) W (W.setCell ⟨c, 0, none⟩ (.int .i64 n.1)) := Fr.set (S := (· = c)) (g := c) (Fr.refl _ _) (.inl rfl) _ _
 obtain ⟨m, hm⟩ := h.xc
 exact ⟨h.tab.fr f (fun e => hg e.symm) (fun k hk e => ho (e ▸ hk)), f.blk h.x4 h4, f.blk h.x5 h5, ⟨n, blk_put hm 0 _ rfl⟩, Fr.set (S := (· = c)) (g := c) h.fr (.inl rfl) _ _⟩
end
set_option maxHeartbeats 1600000 in
set_option maxRecDepth 100000 in
theorem ents1.calls (w : World) (g : Nat) (ok : Nat → Prop) (T : Tab) (c b4 b5 : Nat) (i : Int) (F : Nat) (caps : Array Value) (eg : ∀ args w, (callFunc F args).run Tryz.prog w = .ok (.enter F args) w)
  (hc : TellOk F caps c) (hg : c ≠ g) (ho : ¬ ok c) (h4 : b4 ≠ c) (h5 : b5 ≠ c) (hs : ∀ i, i < 24 → (T.nd i).data.length ≤ 1000 ∧ (T.nd i).ents.length ≤ 1000) (d : R64) (j : Nat) (hj : j < 24) (W : World) (h : EntJ w g ok T c b4 b5 i F caps W) :
  Calls Tryz.prog 248 #[.int .i64 d.1, .pointer (some ⟨g, 1 + j * 7, none⟩), .pointer (some ⟨b4, 0, none⟩), .pointer (some ⟨b5, 0, none⟩)] W fun e w' => e = .returned (.tuple #[]) ∧ EntJ w g ok T c b4 b5 i F caps w' := by
 obtain ⟨A4, c4, A5, c5, hN, _, _, _, _, _, q5, _⟩ := h.tab.at7 j hj
 have HJ := Aside0.mk h
 have HN := Aside0.mk hN
 have HC := Aside0.mk hc
 have X := Aside0.mk (And.intro hg (And.intro ho (And.intro h4 h5)))
 have HL := Aside0.mk (hs j hj).2
 obtain ⟨l, hl⟩ : ∃ l, (T.nd j).ents = l := ⟨_, rfl⟩
 have f5 := hN.f5
 have l5 := hN.l5
 rw [hl] at q5 f5 l5 HL
 have HF5 := Aside0.mk f5
 have hl2 : (l.length : Int) ≤ 1000 := by have := HL.out; omega
 clear h hN hc hg ho h4 h5 hs hl f5 l5
 go_enter Tryz.func248, Tryz.ntmps248
 go_wp2
 clear q5
 go_loopg [13] l.length (fun gk i13 wr => ∃ k : Nat, k ≤ l.length ∧ i13 = .int .i64 k ∧ l.length ≤ k + gk ∧ EntJ w g ok T c b4 b5 i F caps wr ∧ Kd.F kE wr ok A5 l.length l)
 case atStart => exact ⟨0, Nat.zero_le _, rfl, by omega, HJ.out, HF5.out⟩
 case round =>
  obtain ⟨k, hk, rfl, hgk, hjr, hfr⟩ := hrel
  have JR := Aside0.mk hjr
  have FR := Aside0.mk hfr
  have HK := Aside0.mk hgk
  clear hgk hjr hfr
  by_cases hlt : k < l.length
  ·obtain ⟨g', rfl⟩ : ∃ g', gk = g' + 1 := ⟨gk - 1, by have := HK.out; omega⟩
   obtain ⟨ad, rfl, p0, p1, _⟩ := kE_at (Kd.F_now FR.out) k hlt
   obtain ⟨e, he⟩ : ∃ e, l.getD k zE = e := ⟨_, rfl⟩
   rw [he] at p0 p1
   have x4 := fun o => blk_cell (blk_alloc JR.out.x4 o) 0
   have x5 := fun o => blk_cell (blk_alloc JR.out.x5 o) 0
   clear he
   by_cases hq : e.node = i
   ·have hq' : (e.node == i) = true := beq_iff_eq.2 hq
    have HQ := Aside0.mk hq
    clear hq
    go_wp2_with fail
    obtain ⟨n, hn⟩ := JR.out.xc
    refine (HC.out _ d n (blk_alloc hn _)).mono ?_
    rintro e2 w5 ⟨rfl, n', rfl⟩
    dsimp only
    go_wp2
    go_roundg g'
    case measure => have := HK.out; omega
    case rel => exact ⟨k + 1, by omega, by go_num, by have := HK.out; omega, (JR.out.below (below_alloc (Below.refl _ _) _)).set X.out.1 X.out.2.1 X.out.2.2.1 X.out.2.2.2 n', F_set _ _ _ (Kd.F_below FR.out (below_alloc (Below.refl _ _) _)) X.out.2.1⟩
   ·have hq' : (e.node == i) = false := beq_eq_false_iff_ne.2 hq
    have HQ := Aside0.mk hq
    clear hq
    go_wp2
    go_roundg g'
    case measure => have := HK.out; omega
    case rel => exact ⟨k + 1, by omega, by go_num, by have := HK.out; omega, JR.out.below (below_alloc (Below.refl _ _) _), Kd.F_below FR.out (below_alloc (Below.refl _ _) _)⟩
  ·go_wp2
   go_end0
   exact ⟨rfl, JR.out⟩
set_option maxHeartbeats 1600000 in
set_option maxRecDepth 100000 in
theorem ents.calls (w : World) (g : Nat) (ok : Nat → Prop) (T : Tab) (c : Nat) (i : Int) (F : Nat) (caps : Array Value) (eg : ∀ args w, (callFunc F args).run Tryz.prog w = .ok (.enter F args) w)
  (hc : TellOk F caps c) (hg : c ≠ g) (ho : ¬ ok c) (hs : ∀ i, i < 24 → (T.nd i).data.length ≤ 1000 ∧ (T.nd i).ents.length ≤ 1000) (h : TabAt w g ok T) (n : R64) (hn : w.heap[c]? = some (.cells #[.int .i64 n.1] 3 (0, 0))) :
  Calls Tryz.prog 197 #[.pointer (some ⟨g, 0, none⟩), .int .i64 i, .func (.func F) #[] caps] w fun e w' => e = .returned (.tuple #[]) ∧ (∃ n : R64, w'.heap[c]? = some (.cells #[.int .i64 n.1] 3 (0, 0))) ∧ Fr (· = c) w w' := by
 have hmf : ∀ (fn : Fn) (first cap : Array Value) (w : World), (Instr.makeFunc fn first cap).run Tryz.prog w = .ok (.func fn first cap) w := fun _ _ _ _ => rfl
 have lc := blk_lt hn
 have J := Aside0.mk (show EntJ w g ok T c w.heap.size (w.heap.size + 1) i F caps ((w.alloc (.cells #[.int .i64 i] 3)).alloc (.cells #[.func (.func F) #[] caps] 248)) from
  ⟨(h.below (below_alloc (Below.refl _ _) _)).below (below_alloc (Below.refl _ _) _), blk_alloc (blk_new w _) _, by have := blk_new (w.alloc (.cells #[.int .i64 i] 3)) (.cells #[.func (.func F) #[] caps] 248); rw [World.size_alloc] at this; exact this, ⟨n, blk_alloc (blk_alloc hn _) _⟩, (Fr.refl _ _).alloc _ |>.alloc _⟩)
 have HC := Aside0.mk hc
 have X := Aside0.mk (And.intro hg (And.intro ho (And.intro lc hs)))
 clear hc hg ho lc hs h hn
 go_enter Tryz.func197, Tryz.ntmps197
 go_wp2_with fail
 refine (each.calls g ok T 248 #[.pointer (some ⟨w.heap.size, 0, none⟩), .pointer (some ⟨w.heap.size + 1, 0, none⟩)] (EntJ w g ok T c w.heap.size (w.heap.size + 1) i F caps) _ (enters Tryz.func248 (by kernel_rfl) rfl) (fun W h => h.tab) (fun W n h => h.below (pw_below_drewN (Below.refl _ _) n))
  (fun W j hj hl h => ents1.calls w g ok T c _ _ i F caps eg HC.out X.out.1 X.out.2.1 (by have := X.out.2.2.1; omega) (by have := X.out.2.2.1; omega) X.out.2.2.2 ⟨(j : Int) + 1, d64 j hj⟩ j hj W h) J.out).mono ?_
 rintro e w1 ⟨rfl, hj⟩
 have HJ := Aside0.mk hj
 clear hj
 dsimp only
 go_wp2
 go_end0
 exact ⟨rfl, HJ.out.xc, HJ.out.fr⟩
theorem links1 (c : Nat) : TellOk 198 #[.pointer (some ⟨c, 0, none⟩)] c := by
 intro W d n h
 have c0 := blk_cell h 0
 have f0 := blk_frozen h 0
 clear h
 obtain ⟨n, hn1⟩ := n
 obtain ⟨d, hd1⟩ := d
 dsimp only at c0 f0 ⊢
 show Calls Tryz.prog 198 #[.int .i64 d, .pointer (some ⟨c, 0, none⟩)] W _
 go_enter Tryz.func198, Tryz.ntmps198
 go_wp2
 go_end0
 exact ⟨rfl, ⟨_, wr64 _⟩, rfl⟩
theorem parent1 (c : Nat) : TellOk 245 #[.pointer (some ⟨c, 0, none⟩)] c := by
 intro W d n h
 have c0 := blk_cell h 0
 have f0 := blk_frozen h 0
 have hw := Aside0.mk h
 obtain ⟨n, hn1⟩ := n
 obtain ⟨d, hd1⟩ := d
 dsimp only at c0 f0 h hw ⊢
 show Calls Tryz.prog 245 #[.int .i64 d, .pointer (some ⟨c, 0, none⟩)] W _
 by_cases hn : n = 0
 ·have hn' : (n == 0) = true := beq_iff_eq.2 hn
  clear h hn
  go_enter Tryz.func245, Tryz.ntmps245
  go_wp2
  go_end0
  exact ⟨rfl, ⟨d, hd1⟩, rfl⟩
 ·have hn' : (n == 0) = false := beq_eq_false_iff_ne.2 hn
  clear h hn
  go_enter Tryz.func245, Tryz.ntmps245
  go_wp2
  go_end0
  exact ⟨rfl, ⟨n, hn1⟩, set_same hw.out⟩
def IntQ (w : World) (e : Ending) (w' : World) : Prop := ∃ n : R64, e = .returned (.int .i64 n.1) ∧ Below w.heap.size w w'
set_option maxHeartbeats 1600000 in
set_option maxRecDepth 100000 in
theorem Links.calls (g : Nat) (ok : Nat → Prop) (T : Tab) (i : Int) (w : World) (h : TabAt w g ok T) (hs : ∀ i, i < 24 → (T.nd i).data.length ≤ 1000 ∧ (T.nd i).ents.length ≤ 1000) :
  Calls Tryz.prog 124 #[.pointer (some ⟨g, 0, none⟩), .int .i64 i] w (IntQ w) := by
 have hmf : ∀ (fn : Fn) (first cap : Array Value) (w : World), (Instr.makeFunc fn first cap).run Tryz.prog w = .ok (.func fn first cap) w := fun _ _ _ _ => rfl
 have HT := Aside0.mk (h.bound.below (cnt_below w))
 have HG := Aside0.mk h.lt
 have HS := Aside0.mk hs
 clear h hs
 go_enter Tryz.func124, Tryz.ntmps124
 go_wp2_with fail
 refine (ents.calls (cnt w) g _ T w.heap.size i 198 #[.pointer (some ⟨w.heap.size, 0, none⟩)] (enters Tryz.func198 (by kernel_rfl) rfl) (links1 _) (by have := HG.out; omega) (fun hk => by omega) HS.out HT.out ⟨0, by decide⟩ (cnt_blk w)).mono ?_
 rintro e w1 ⟨rfl, ⟨n, hn⟩, hf⟩
 have c0 := blk_cell hn 0
 have HB := Aside0.mk (fr_cnt hf)
 clear hn hf
 dsimp only
 go_wp2
 go_ret
 unfold IntQ
 exact ⟨n, rfl, HB.out⟩
set_option maxHeartbeats 1600000 in
set_option maxRecDepth 100000 in
theorem Parent.calls (g : Nat) (ok : Nat → Prop) (T : Tab) (i : Int) (w : World) (h : TabAt w g ok T) (hs : ∀ i, i < 24 → (T.nd i).data.length ≤ 1000 ∧ (T.nd i).ents.length ≤ 1000) :
  Calls Tryz.prog 194 #[.pointer (some ⟨g, 0, none⟩), .int .i64 i] w (IntQ w) := by
 have hmf : ∀ (fn : Fn) (first cap : Array Value) (w : World), (Instr.makeFunc fn first cap).run Tryz.prog w = .ok (.func fn first cap) w := fun _ _ _ _ => rfl
 have HT := Aside0.mk (h.bound.below (cnt_below w))
 have HG := Aside0.mk h.lt
 have HS := Aside0.mk hs
 clear h hs
 go_enter Tryz.func194, Tryz.ntmps194
 go_wp2_with fail
 refine (ents.calls (cnt w) g _ T w.heap.size i 245 #[.pointer (some ⟨w.heap.size, 0, none⟩)] (enters Tryz.func245 (by kernel_rfl) rfl) (parent1 _) (by have := HG.out; omega) (fun hk => by omega) HS.out HT.out ⟨0, by decide⟩ (cnt_blk w)).mono ?_
 rintro e w1 ⟨rfl, ⟨n, hn⟩, hf⟩
 have c0 := blk_cell hn 0
 have HB := Aside0.mk (fr_cnt hf)
 clear hn hf
 dsimp only
 go_wp2
 go_ret
 unfold IntQ
 exact ⟨n, rfl, HB.out⟩
set_option maxHeartbeats 1600000 in
set_option maxRecDepth 100000 in
theorem Used.calls (g : Nat) (ok : Nat → Prop) (T : Tab) (w : World) (h : TabAt w g ok T) :
  Calls Tryz.prog 205 #[.pointer (some ⟨g, 0, none⟩)] w (IntQ w) := by
 have hmf : ∀ (fn : Fn) (first cap : Array Value) (w : World), (Instr.makeFunc fn first cap).run Tryz.prog w = .ok (.func fn first cap) w := fun _ _ _ _ => rfl
 have HT := Aside0.mk (h.bound.below (cnt_below w))
 have HG := Aside0.mk h.lt
 clear h
 go_enter Tryz.func205, Tryz.ntmps205
 go_wp2_with fail
 refine (each.calls g _ T 253 #[.pointer (some ⟨w.heap.size, 0, none⟩)] (fun W => TabAt W g (fun k => ok k ∧ k < w.heap.size) T ∧ (∃ n : R64, W.heap[w.heap.size]? = some (.cells #[.int .i64 n.1] 3 (0, 0))) ∧ Fr (· = w.heap.size) (cnt w) W) _ (enters Tryz.func253 (by kernel_rfl) rfl) (fun W h => h.1) (fun W n h => ⟨h.1.drewN n, by obtain ⟨m, hm⟩ := h.2.1; exact ⟨m, blk_drewN hm n⟩, h.2.2.drewN n⟩) ?hf ⟨HT.out, ⟨⟨0, by decide⟩, cnt_blk w⟩, Fr.refl _ _⟩).mono ?_
 case hf =>
  intro W j hj hl ⟨ht, ⟨n, hn⟩, hf⟩
  have c0 := blk_cell hn 0
  have f0 := blk_frozen hn 0
  have H := Aside0.mk (And.intro ht (And.intro hn hf))
  have HG2 := Aside0.mk HG.out
  clear ht hn hf hl HT HG
  show Calls Tryz.prog 253 #[.int .i64 _, .pointer _, .pointer (some ⟨w.heap.size, 0, none⟩)] W _
  go_enter Tryz.func253, Tryz.ntmps253
  go_wp2
  go_end0
  have f : ∀ v, Fr (· = w.heap.size) W (W.setCell ⟨w.heap.size, 0, none⟩ v) := fun v => Fr.set (S := (· = w.heap.size)) (g := w.heap.size) (Fr.refl _ _) (.inl rfl) _ _
  have hg := HG2.out
  exact ⟨rfl, H.out.1.fr (S := (· = w.heap.size)) (f _) (fun e => by have e' : g = w.heap.size := e; omega) (fun k hk e => by have e' : k = w.heap.size := e; have := hk.2; omega), ⟨⟨_, wr64 _⟩, blk_put H.out.2.1 0 _ rfl⟩, Fr.set (S := (· = w.heap.size)) (g := w.heap.size) H.out.2.2 (.inl rfl) _ _⟩
 rintro e w1 ⟨rfl, _, ⟨n, hn⟩, hf⟩
 have c0 := blk_cell hn 0
 have HB := Aside0.mk (fr_cnt hf)
 clear hn hf
 dsimp only
 go_wp2
 go_ret
 unfold IntQ
 exact ⟨n, rfl, HB.out⟩
end Go.Proofs.YtbjhcjgniciooaaGreatDoor.G.R
