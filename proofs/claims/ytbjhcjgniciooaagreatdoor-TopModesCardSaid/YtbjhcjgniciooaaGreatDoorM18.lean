/- TopModes: a part of the proof, merged. -/
import Derived.Sort.OwnSorted
import Derived.Test.YtbjhcjgniciooaaGreatDoorM16
import Derived.Test.YtbjhcjgniciooaaGreatDoorM17
namespace Go.Proofs.YtbjhcjgniciooaaGreatDoor.G
open Go.RowKit Go.Proofs.YtbjhcjgniciooaaGreatDoorW.PrintWords Go.Proofs.YtbjhcjgniciooaaGreatDoorW.PrintLast Go.Proofs.YtbjhcjgniciooaaGreatDoorW.PrintMore
attribute [local go_sem] max2_int min2_int max_two min_two
set_option linter.unusedVariables false
set_option linter.unusedSimpArgs false
open Go.Sort Go.Proofs in
theorem Sort.calls (A : Option Addr) (c : Nat) (ts : List ByteArray) (base : Nat) (ok : Nat → Prop) (w : World) (h : Kd.R Kd.string 9 w base ok (.slice A ts.length c) ts) (hs : ts.length ≤ 1000000) :
  Calls Tryz.prog 201 #[.slice A ts.length c] w fun e w' => e = .returned (.tuple #[]) ∧ ∃ ts2 : List ByteArray, ts2.length = ts.length ∧ (∀ s ∈ ts2, s ∈ ts) ∧ Kd.R Kd.string 9 w' base ok (.slice A ts2.length c) ts2 ∧ w.grownBy w' (Value.ownBlock (.slice A ts.length c)) := by
 have hown := Kd.own_of_R h
 rcases hown.2 with ⟨h0, hl⟩ | ⟨g, cap, cur, hv, hg, hb, hn, hcap, hsz, htk⟩
 ·injection h0 with h1 h2 h3
  subst h1
  rw [hl] at h ⊢
  refine (Tryz.slices_Sort_string_none none c w).mono ?_
  rintro e w' ⟨rfl, rfl⟩
  have : ts = [] := List.length_eq_zero_iff.1 hl
  subst this
  exact ⟨rfl, [], rfl, fun s hs => hs, h, ⟨rfl, rfl, rfl, Nat.le_refl _, fun _ _ _ => rfl⟩⟩
 ·injection hv with h1 h2 h3
  subst h1 h3
  obtain ⟨ss, hss⟩ : ∃ ss : List (List UInt8), ts.map (fun s => s.data.toList) = ss := ⟨_, rfl⟩
  have hl : ss.length = ts.length := by rw [← hss, List.length_map]
  have henc : encs Value.string ts = ss.map encStr := by
   rw [← hss]
   simp [encs]
  have hc := Tryz.slices_Sort_string g 0 c ss w (holds_of_block hb (by rw [hl, ← henc]; simpa using htk)) (blk_lt hb) (by omega)
  rw [hl] at hc
  refine hc.mono ?_
  rintro e w' ⟨rfl, n, os, rfl⟩
  generalize hms : ss.mergeSort (fun x y => decide (x ≤ y)) = ms
  have hml : ms.length = ss.length := by rw [← hms]; simp
  refine ⟨rfl, ms.map (fun b => (⟨b.toArray⟩ : ByteArray)), by rw [List.length_map, hml, hl], fun s hs => ?_, ?_, grownBy_sorted _⟩
  ·obtain ⟨b, hb2, rfl⟩ := List.mem_map.1 hs
   have : b ∈ ss := by rw [← hms] at hb2; simpa using hb2
   rw [← hss] at this
   obtain ⟨s, hs2, rfl⟩ := List.mem_map.1 this
   simpa using hs2
  ·have ho := ownsRow_sorted (n := n) (os := os) (ts := ms) hml hg hb (by omega) hcap (by omega)
   refine Kd.R_of_own ?_ h.1
   rw [List.length_map, hml]
   have e2 : encs Value.string (ms.map (fun b => (⟨b.toArray⟩ : ByteArray))) = ms.map encStr := by simp [encs]
   rw [e2]
   exact ho
/-! ### Package build -/
structure Rw where
 kind : Int
 mode : Int
 uid : Int
 gid : Int
 parent : Int
 name : ByteArray
 data : List Int
 target : ByteArray
 node : Int
def rwCells (r : Rw) (A : Option Addr) (c : Nat) : Array Value := #[.int .i64 r.kind, .int .i64 r.mode, .int .i64 r.uid, .int .i64 r.gid, .int .i64 r.parent, .string r.name, .slice A r.data.length c, .string r.target, .int .i64 r.node]
structure RwC (W : World) (ok : Nat → Prop) (r : Rw) (A : Option Addr) (c : Nat) : Prop where
 l : r.data.length ≤ c
 f : Kd.F (Kd.int .u8) W ok A r.data.length r.data
 b : r.data.length ≤ 1000
 n : r.name.size ≤ 100000
theorem RwC.below {W W1 : World} {ok : Nat → Prop} {r : Rw} {A : Option Addr} {c : Nat} (h : RwC W ok r A c) (k : Below W.heap.size W W1) : RwC W1 ok r A c := ⟨h.l, F_now_at h.f k, h.b, h.n⟩
def Rw.nd (r : Rw) : Nd := ⟨r.kind, r.mode, r.uid, r.gid, r.data, [], r.target⟩
theorem RwC.nd {W : World} {ok : Nat → Prop} {r : Rw} {A : Option Addr} {c : Nat} (h : RwC W ok r A c) : NdC W ok r.nd A c none 0 := ⟨h.l, h.f, Nat.le_refl _, Kd.F_nil _ _ _⟩
theorem made.calls (r : Rw) (A : Option Addr) (c : Nat) (w : World) : Calls Tryz.prog 62 #[.agg (rwCells r A c)] w fun e w' => e = .returned (.agg (ndCells r.nd A c none 0)) ∧ Below w.heap.size w w' := by
 have b0 := blk_alloc (blk_new w (.cells (rwCells r A c) 87)) (.cells #[.int .i64 0, .int .i64 0, .int .i64 0, .int .i64 0, .slice none 0 0, .slice none 0 0, .string ⟨#[]⟩] 44)
 have b1 := blk_new (w.alloc (.cells (rwCells r A c) 87)) (.cells #[.int .i64 0, .int .i64 0, .int .i64 0, .int .i64 0, .slice none 0 0, .slice none 0 0, .string ⟨#[]⟩] 44)
 have HB := Aside0.mk (below_alloc (below_alloc (Below.refl w.heap.size w) (.cells (rwCells r A c) 87)) (.cells #[.int .i64 0, .int .i64 0, .int .i64 0, .int .i64 0, .slice none 0 0, .slice none 0 0, .string ⟨#[]⟩] 44))
 rw [World.size_alloc] at b1
 unfold rwCells ndCells Rw.nd at *
 have p := blk_cell b0
 have p1 := blk_cell b1
 have q1 := blk_frozen b1
 clear b0 b1
 go_enter Tryz.func62, Tryz.ntmps62
 go_wp2_with fail
 refine bodyPost_ret (v := .agg #[.int .i64 r.kind, .int .i64 r.mode, .int .i64 r.uid, .int .i64 r.gid, .slice A r.data.length c, .slice none 0 0, .string r.target]) (by simp [results, Tryz.results62, go_sem, p1]) rfl ⟨rfl, ?_⟩
 exact below_alloc (below_alloc (Below.refl _ _) _) _
def ToldP (T : Tab) (r : Rw) (n err : Int) (T' : Tab) : Prop := (r.kind ≠ 4 ∧ AddP T r.nd n err T') ∨ (r.kind = 4 ∧ T' = T ∧ ((err = 1 ∨ err = 2) ∨ (err = 0 ∧ n = r.node)))
def ToldQ (g : Nat) (ok : Nat → Prop) (T : Tab) (r : Rw) (w : World) (e : Ending) (w' : World) : Prop := ∃ n err T', e = .returned (.tuple #[.int .i64 n, .int .i64 err]) ∧ ToldP T r n err T' ∧ TabAt w' g (okx ok w) T' ∧ Fr (· = g) w w'
set_option maxHeartbeats 4000000 in
set_option maxRecDepth 100000 in
theorem told.calls (g : Nat) (ok okr : Nat → Prop) (T : Tab) (r : Rw) (A : Option Addr) (c : Nat) (w : World) (h : TabAt w g ok T) (hs : ∀ i, i < 24 → (T.nd i).data.length ≤ 1000 ∧ (T.nd i).ents.length ≤ 1000) (hr : RwC w okr r A c) :
  Calls Tryz.prog 100 #[.agg (rwCells r A c), .pointer (some ⟨g, 0, none⟩)] w (ToldQ g ok T r w) := by
 have hb0 := below_alloc (Below.refl w.heap.size w) (.cells (rwCells r A c) 87)
 have b0 := blk_new w (.cells (rwCells r A c) 87)
 have HT := Aside0.mk (h.below hb0)
 have HG := Aside0.mk h.lt
 have HR := Aside0.mk (hr.below hb0)
 have HB := Aside0.mk hb0
 have HS := Aside0.mk hs
 have HM := Aside0.mk (made.calls r A c (w.alloc (.cells (rwCells r A c) 87)))
 have p := blk_cell b0
 have q := blk_frozen b0
 have B0 := Aside0.mk b0
 clear h hs hr hb0 b0
 unfold rwCells at *
 by_cases hk : r.kind = 4
 ·have HK := Aside0.mk hk
  have hk2 : (r.kind != 4) = false := by simp [hk]
  clear hk
  have HGt := Aside0.mk (Get.calls g ok T r.node _ HT.out HS.out)
  go_enter Tryz.func100, Tryz.ntmps100
  go_wp2_with fail
  refine HGt.out.mono ?_
  rintro e w1 ⟨A4, c4, A5, c5, rfl, hn, hb⟩
  have HB1 := Aside0.mk (below_step HB.out hb)
  have HT1 := Aside0.mk (HT.out.below hb)
  have b0 := blk_below B0.out hb
  clear p q hb hn
  have p := blk_cell b0
  have q := blk_frozen b0
  have pa := fun o => blk_cell (blk_alloc b0 o) 8
  clear b0
  have hz := below_size HB1.out
  have HZ := Aside0.mk hz
  clear hz
  obtain ⟨y, hy⟩ : ∃ y, T.get r.node = y := ⟨_, rfl⟩
  rw [hy]
  unfold ndCells
  dsimp only
  have fin : ∀ (n err : Int) (o : Obj), ((err = 1 ∨ err = 2) ∨ (err = 0 ∧ n = r.node)) → ToldQ g ok T r w (.returned (.tuple #[.int .i64 n, .int .i64 err])) (w1.alloc o) := fun n err o he =>
   ⟨n, err, T, rfl, .inr ⟨HK.out, rfl, he⟩, (HT1.out.below (below_alloc (Below.refl _ _) _)).okx w HG.out, Fr.of_below _ (below_alloc HB1.out _)⟩
  have FI := Aside0.mk fin
  clear fin
  cases hl : live T r.node with
  | false =>
   clear hl
   go_wp2_with fail
   exact bodyPost_ret (v := .tuple #[.int .i64 0, .int .i64 2]) (by simp [results, Tryz.results100, go_sem]) rfl (FI.out _ _ _ (.inl (by decide)))
  | true =>
   clear hl
   by_cases h2 : y.kind = 2
   ·have h2b : (y.kind == 2) = true := by simp [h2]
    clear hy
    go_wp2_with fail
    exact bodyPost_ret (v := .tuple #[.int .i64 0, .int .i64 1]) (by simp [results, Tryz.results100, go_sem]) rfl (FI.out _ _ _ (.inl (by decide)))
   ·have h2b : (y.kind == 2) = false := by simp [h2]
    clear hy
    go_wp2_with fail
    exact bodyPost_ret (v := .tuple #[.int .i64 r.node, .int .i64 0]) (by simp [results, Tryz.results100, go_sem]) rfl (FI.out _ _ _ (.inr ⟨rfl, rfl⟩))
 ·have HK := Aside0.mk hk
  have hk2 : (r.kind != 4) = true := by simp [hk]
  clear hk
  go_enter Tryz.func100, Tryz.ntmps100
  go_wp2_with fail
  refine HM.out.mono ?_
  rintro e w1 ⟨rfl, hb⟩
  have HA := Aside0.mk (Add.calls g ok okr T r.nd A c none 0 w1 (HT.out.below hb) (HR.out.below hb).nd HR.out.b (by unfold Rw.nd; simp))
  have HB1 := Aside0.mk (below_step HB.out hb)
  clear hb p q
  unfold ndCells Rw.nd at *
  dsimp only
  go_wp2_with fail
  refine HA.out.mono ?_
  rintro e w2 ⟨n, err, T', rfl, ha, ht, hf⟩
  have HE := Aside0.mk (And.intro ha (And.intro ht hf))
  clear ha ht hf
  dsimp only
  go_wp2_with fail
  obtain ⟨ha, ht, hf⟩ := HE.out
  have hz := below_size HB1.out
  refine bodyPost_ret (v := .tuple #[.int .i64 n, .int .i64 err]) (by simp [results, Tryz.results100, go_sem]) rfl ⟨n, err, T', rfl, .inl ⟨HK.out, ha⟩, ht.mono (fun k hk => ?_) (fun k hk e => ?_), (Fr.of_below _ HB1.out).trans hf (fun _ _ h => h)⟩
  ·rcases hk with hk | hk
   ·exact .inl hk
   ·exact .inr (by omega)
  ·rcases hk with hk | hk
   ·exact HT.out.out k hk e
   ·have := HG.out; omega
theorem withE_len {x : Nd} {nm : ByteArray} {id : Int} (h : withE x nm id = 0) : x.ents.length < 8 := by
 unfold withE at h
 by_cases h8 : 8 ≤ x.ents.length
 ·rw [if_pos h8] at h
  repeat' split at h
  all_goals exact absurd h (by decide)
 ·omega
theorem okx2 {ok : Nat → Prop} {w W1 W2 : World} (h1 : w.heap.size ≤ W1.heap.size) (h2 : w.heap.size ≤ W2.heap.size) : ∀ k, okx (okx ok W1) W2 k → okx ok w k := fun k h => by
 rcases h with (h | h) | h
 ·exact .inl h
 ·exact .inr (by omega)
 ·exact .inr (by omega)
theorem okx1 {ok : Nat → Prop} {w W1 : World} (h1 : w.heap.size ≤ W1.heap.size) : ∀ k, okx ok W1 k → okx ok w k := fun k h => by
 rcases h with h | h
 ·exact .inl h
 ·exact .inr (by omega)
theorem okx_out {W w : World} {g : Nat} {ok : Nat → Prop} {T : Tab} (h : TabAt W g ok T) (hg : g < w.heap.size) : ∀ k, okx ok w k → k ≠ g := fun k hk e => by
 rcases hk with hk | hk
 ·exact h.out k hk e
 ·omega
def szT (T : Tab) : Prop := ∀ i, i < 24 → (T.nd i).data.length ≤ 1000 ∧ (T.nd i).ents.length ≤ 1000
theorem szT.set {T : Tab} (h : szT T) (hl : T.nodes.length = 24) (i : Nat) (hi : i < 24) (x : Nd) (h1 : x.data.length ≤ 1000) (h2 : x.ents.length ≤ 1000) : szT (T.setN i x) := fun j hj => by
 rw [Tab.nd_set T i j x (by omega)]
 split
 ·exact ⟨h1, h2⟩
 ·exact h j hj
theorem szT.get {T : Tab} (h : szT T) (i : Int) (hr : T.room ≤ 24) : (T.get i).data.length ≤ 1000 ∧ (T.get i).ents.length ≤ 1000 := by
 unfold Tab.get
 split
 ·rename_i hl
  have := live_lt hl
  exact h _ (by omega)
 ·exact ⟨by simp [zN], by simp [zN]⟩
theorem ToldP.sz {T T' : Tab} {r : Rw} {n err : Int} (h : ToldP T r n err T') (hs : szT T) (hl : T.nodes.length = 24) (hr : T.room ≤ 24) (hd : r.data.length ≤ 1000) : szT T' := by
 rcases h with ⟨_, h⟩ | ⟨_, rfl, _⟩
 ·rcases h with ⟨_, _, _, rfl⟩ | ⟨_, _, _, _, rfl⟩ | ⟨_, k, hk, _, _, _, _, rfl⟩
  ·exact hs
  ·exact hs
  ·exact hs.set hl k (by omega) _ hd (by simp [Rw.nd])
 ·exact hs
def OneP (T : Tab) (r : Rw) (err : Int) (T' : Tab) : Prop := (live T r.parent = false ∧ err = 2 ∧ T' = T) ∨ (live T r.parent = true ∧ ∃ n e1 T1, ToldP T r n e1 T1 ∧ ((e1 ≠ 0 ∧ err = e1 ∧ T' = T1) ∨ (e1 = 0 ∧ ((withE (T1.get r.parent) r.name n ≠ 0 ∧ err = withE (T1.get r.parent) r.name n ∧ T' = T1) ∨
 (withE (T1.get r.parent) r.name n = 0 ∧ ∃ k, k ≤ (T1.get r.parent).ents.length ∧ err = putE T1 r.parent { T1.get r.parent with ents := (T1.get r.parent).ents.take k ++ [⟨r.name, n⟩] ++ (T1.get r.parent).ents.drop k } ∧ T' = T1.put r.parent { T1.get r.parent with ents := (T1.get r.parent).ents.take k ++ [⟨r.name, n⟩] ++ (T1.get r.parent).ents.drop k })))))
def OneQ (g : Nat) (ok : Nat → Prop) (T : Tab) (r : Rw) (w : World) (e : Ending) (w' : World) : Prop := ∃ err T', e = .returned (.int .i64 err) ∧ OneP T r err T' ∧ TabAt w' g (okx ok w) T' ∧ Fr (· = g) w w'
set_option maxHeartbeats 8000000 in
set_option maxRecDepth 100000 in
theorem one.calls (g : Nat) (ok okr : Nat → Prop) (T : Tab) (r : Rw) (A : Option Addr) (c : Nat) (w : World) (h : TabAt w g ok T) (hs : szT T) (hr : RwC w okr r A c) (hg : ∀ k, okr k → k ≠ g) :
  Calls Tryz.prog 63 #[.agg (rwCells r A c), .pointer (some ⟨g, 0, none⟩)] w (OneQ g ok T r w) := by
 have hmf : ∀ (fn : Fn) (first cap : Array Value) (w : World), (Instr.makeFunc fn first cap).run Tryz.prog w = .ok (.func fn first cap) w := fun _ _ _ _ => rfl
 have eg := enters Tryz.func11 (by kernel_rfl) rfl
 have hb0 := below_alloc (Below.refl w.heap.size w) (.cells (rwCells r A c) 87)
 have b0 := blk_new w (.cells (rwCells r A c) 87)
 have HT := Aside0.mk (h.below hb0)
 have HG := Aside0.mk h.lt
 have HO := Aside0.mk (okx_out (w := w) h h.lt)
 have HR := Aside0.mk (hr.below hb0)
 have HB := Aside0.mk hb0
 have HS := Aside0.mk hs
 have HGr := Aside0.mk hg
 have p := blk_cell b0
 have q := blk_frozen b0
 have B0 := Aside0.mk b0
 have HGt := Aside0.mk (Get.calls g ok T r.parent _ HT.out hs)
 clear h hs hr hb0 b0 hg
 unfold rwCells at *
 go_enter Tryz.func63, Tryz.ntmps63
 go_wp2_with fail
 refine HGt.out.mono ?_
 rintro e w1 ⟨A4, c4, A5, c5, rfl, hn, hb⟩
 have HB1 := Aside0.mk (below_step HB.out hb)
 have HT1 := Aside0.mk (HT.out.below hb)
 have HR1 := Aside0.mk (HR.out.below hb)
 have b0 := blk_below B0.out hb
 clear p q hb hn HGt
 have p := blk_cell b0
 have q := blk_frozen b0
 have pa := fun o i => blk_cell (blk_alloc b0 o) i
 have BR := Aside0.mk b0
 clear b0
 obtain ⟨y, hy⟩ : ∃ y, T.get r.parent = y := ⟨_, rfl⟩
 rw [hy]
 clear hy
 unfold ndCells
 dsimp only
 cases hl : live T r.parent with
 | false =>
  have HL := Aside0.mk hl
  clear hl
  go_wp2
  go_ret
  exact ⟨2, T, rfl, .inl ⟨HL.out, rfl, rfl⟩, (HT1.out.below (below_alloc (Below.refl _ _) _)).okx w HG.out, Fr.of_below _ (below_alloc HB1.out _)⟩
 | true =>
  have HL := Aside0.mk hl
  clear hl
  have ha := below_alloc (Below.refl w1.heap.size w1) (.cells (ndCells y A4 c4 A5 c5) 44)
  have TC := Aside0.mk (told.calls g ok okr T r A c _ (HT1.out.below ha) HS.out (HR1.out.below ha))
  clear ha
  unfold ndCells rwCells at TC
  go_wp2_with fail
  refine TC.out.mono ?_
  rintro e w2 ⟨n, e1, T1, rfl, hp, ht, hf⟩
  have hz1 := below_size HB1.out
  have hzf := hf.size
  rw [World.size_alloc] at hzf
  have b0 := hf.blk (blk_alloc BR.out (.cells (ndCells y A4 c4 A5 c5) 44)) (by have := HG.out; omega)
  have HZ := Aside0.mk (show w.heap.size ≤ w1.heap.size ∧ w1.heap.size + 1 ≤ w2.heap.size from ⟨hz1, hzf⟩)
  have HP := Aside0.mk hp
  have HF2 := Aside0.mk (((Fr.of_below (· = g) HB1.out).alloc _).trans hf (fun _ _ h => h))
  have HT2 := Aside0.mk (ht.mono (ok' := okx ok w) (okx1 (by rw [World.size_alloc]; omega)) HO.out)
  have S2 := Aside0.mk (hp.sz HS.out HT.out.len HT.out.r2 HR.out.b)
  clear p q pa hp ht hf hz1 hzf TC BR
  have p := blk_cell b0
  have q := blk_frozen b0
  have BR := Aside0.mk b0
  clear b0
  dsimp only
  by_cases h1 : e1 = 0
  case neg =>
   have h1b : (e1 != 0) = true := by simp [h1]
   have H1 := Aside0.mk h1
   clear h1
   go_wp2
   go_ret
   exact ⟨e1, T1, rfl, .inr ⟨HL.out, n, e1, T1, HP.out, .inl ⟨H1.out, rfl, rfl⟩⟩, HT2.out, HF2.out⟩
  have h1b : (e1 != 0) = false := by simp [h1]
  have H1 := Aside0.mk h1
  clear h1
  have GC := Aside0.mk (Get.calls g _ T1 r.parent _ HT2.out S2.out)
  go_wp2_with fail
  refine GC.out.mono ?_
  rintro e w3 ⟨B4, d4, B5, d5, rfl, hn, hb⟩
  have hsz := S2.out.get r.parent HT2.out.r2
  obtain ⟨y2, hy2⟩ : ∃ y, T1.get r.parent = y := ⟨_, rfl⟩
  have HW : ∀ err T', ((withE y2 r.name n ≠ 0 ∧ err = withE y2 r.name n ∧ T' = T1) ∨ (withE y2 r.name n = 0 ∧ ∃ k, k ≤ y2.ents.length ∧ err = putE T1 r.parent { y2 with ents := y2.ents.take k ++ [⟨r.name, n⟩] ++ y2.ents.drop k } ∧ T' = T1.put r.parent { y2 with ents := y2.ents.take k ++ [⟨r.name, n⟩] ++ y2.ents.drop k })) → OneP T r err T' := fun err T' h => .inr ⟨HL.out, n, e1, T1, HP.out, .inr ⟨H1.out, by rw [hy2]; exact h⟩⟩
  rw [hy2] at hn hsz ⊢
  have JW := Aside0.mk HW
  clear HW hy2
  have b0 := blk_alloc (blk_below BR.out hb) (.cells (ndCells y2 B4 d4 B5 d5) 44)
  have bx := blk_new w3 (.cells (ndCells y2 B4 d4 B5 d5) 44)
  have ha := below_alloc (Below.refl w3.heap.size w3) (.cells (ndCells y2 B4 d4 B5 d5) 44)
  have WC := Aside0.mk (With.calls y2 B4 d4 B5 d5 _ r.name n (w3.alloc (.cells (ndCells y2 B4 d4 B5 d5) 44)) (hn.below ha) hsz.1 hsz.2 HR.out.n)
  have HSZ := Aside0.mk hsz
  have HT3 := Aside0.mk (HT2.out.below hb)
  have HF3 := Aside0.mk (HF2.out.step hb)
  have HA := Aside0.mk ha
  have HZ3 := Aside0.mk (below_size hb)
  have BR3 := Aside0.mk b0
  have BX := Aside0.mk bx
  clear p q hb hn hsz ha GC
  have p := blk_cell b0
  have q := blk_frozen b0
  have p1 := blk_cell bx
  have q1 := blk_frozen bx
  clear b0 bx
  unfold ndCells at *
  dsimp only
  go_wp2_with fail
  refine WC.out.mono ?_
  rintro e w4 (⟨h0, D4, c4', D5, c5', rfl, hn, hb⟩ | ⟨h0, k, hk, D4, c4', D5, c5', rfl, hn, hb⟩)
  ·have b0 := blk_below BR3.out hb
   have bx := blk_below BX.out hb
   have HB4 := Aside0.mk (below_step HA.out hb)
   have hb1 : (withE y2 r.name n != 0) = true := by simp [h0]
   have H0 := Aside0.mk h0
   generalize hE : withE y2 r.name n = er at *
   clear p q p1 q1 hb hn h0
   have p := blk_cell b0
   have q := blk_frozen b0
   have p1 := blk_cell bx
   have q1 := blk_frozen bx
   clear b0 bx
   unfold ndCells
   dsimp only
   go_wp2
   go_ret
   have fin : ∀ W, Below w3.heap.size w3 W → OneQ g ok T r w (.returned (.int .i64 er)) W := fun W hF => ⟨er, T1, rfl, JW.out _ _ (.inl ⟨H0.out, rfl, rfl⟩), HT3.out.below hF, HF3.out.step hF⟩
   refine fin _ ?_
   (iterate 7 (with_reducible refine below_set ?_ (Nat.le_refl _))); exact HB4.out
  ·have b0 := blk_below BR3.out hb
   have bx := blk_below BX.out hb
   have HB4 := Aside0.mk (below_step HA.out hb)
   have H0 := Aside0.mk h0
   have HK := Aside0.mk hk
   obtain ⟨x3, hx3⟩ : ∃ x3 : Nd, { y2 with ents := y2.ents.take k ++ [⟨r.name, n⟩] ++ y2.ents.drop k } = x3 := ⟨_, rfl⟩
   have hl4 : x3.data.length ≤ 1000 := by rw [← hx3]; exact HSZ.out.1
   have hl5 : x3.ents.length ≤ 1000 := by
    rw [← hx3]; simp only [List.length_append, List.length_take, List.length_drop, List.length_singleton]; have := withE_len h0; omega
   have JW2 := Aside0.mk (JW.out _ _ (.inr ⟨h0, k, hk, rfl, rfl⟩))
   rw [hx3] at hn JW2 ⊢
   have HN := Aside0.mk hn
   have HL4 := Aside0.mk hl4
   have HL5 := Aside0.mk hl5
   clear p q p1 q1 hb hn h0 hk hx3 hl4 hl5
   have p := blk_cell b0
   have q := blk_frozen b0
   have p1 := blk_cell bx
   have q1 := blk_frozen bx
   clear b0
   have JX := Aside0.mk bx
   clear bx
   have hne : w.heap.size ≠ w3.heap.size := by have := HZ.out; have := HZ3.out; omega
   have hne2 : w3.heap.size ≠ w.heap.size := fun e => hne e.symm
   unfold ndCells
   dsimp only
   go_wp2_with fail
   have fin : ∀ W, Below w3.heap.size w3 W → NdC W (fun k => w3.heap.size + 1 ≤ k) x3 D4 c4' D5 c5' → Calls Tryz.prog 102 #[.pointer (some ⟨g, 0, none⟩), .int .i64 r.parent, .agg (ndCells x3 D4 c4' D5 c5')] W fun e w' => e = .returned (.int .i64 (putE T1 r.parent x3)) ∧ OneQ g ok T r w (.returned (.int .i64 (putE T1 r.parent x3))) w' := fun W hF hN =>
    (Put.calls g _ _ T1 r.parent x3 D4 c4' D5 c5' W (HT3.out.below hF) hN HL4.out HL5.out).mono fun e w' ⟨he, ht, hf⟩ => ⟨he, putE T1 r.parent x3, T1.put r.parent x3, rfl, JW2.out, ht.mono (okx2 (Nat.le_refl _) (by have := below_size hF; have := HZ.out; have := HZ3.out; omega)) HO.out, (HF3.out.step hF).trans hf (fun _ _ h => h)⟩
   unfold ndCells at fin
   refine (fin _ ?_ ?_).mono ?_
   ·(iterate 7 (with_reducible refine below_set ?_ (Nat.le_refl _))); exact HB4.out
   ·have hn := HN.out
    rw [World.size_alloc] at hn
    (iterate 7 (with_reducible refine NdC.set ?_ _ _ _ (by omega))); exact hn
   ·rintro e w5 ⟨rfl, hq⟩
    have HQ := Aside0.mk hq
    clear hq fin p q p1 q1
    dsimp only
    go_wp2
    go_ret
    exact HQ.out
def kR : Kd Rw := Kd.iso (Kd.pair (Kd.int .i64) (Kd.pair (Kd.int .i64) (Kd.pair (Kd.int .i64) (Kd.pair (Kd.int .i64) (Kd.pair (Kd.int .i64) (Kd.pair Kd.string (Kd.pair (Kd.slice 5 (Kd.int .u8)) (Kd.pair Kd.string (Kd.int .i64))))))))) (fun r => (r.kind, r.mode, r.uid, r.gid, r.parent, r.name, r.data, r.target, r.node))
def zR : Rw := ⟨0, 0, 0, 0, 0, ⟨#[]⟩, [], ⟨#[]⟩, 0⟩
theorem kR_open {W : World} {ok : Nat → Prop} {x : Rw} {cs : List Value} (h : Kd.FK kR W ok x cs) : ∃ A c, cs = (rwCells x A c).toList ∧ x.data.length ≤ c ∧ Kd.F (Kd.int .u8) W ok A x.data.length x.data := by
 have key : ∀ W', kR.K W' x cs → ∃ A c, cs = (rwCells x A c).toList ∧ x.data.length ≤ c ∧ Kd.C (Kd.int .u8) W' A x.data.length x.data := by
  rintro W' ⟨_, _, rfl, rfl, _, _, rfl, rfl, _, _, rfl, rfl, _, _, rfl, rfl, _, _, rfl, rfl, _, _, rfl, rfl, _, _, rfl, ⟨A, c, rfl, hl, hc⟩, _, _, rfl, rfl, rfl⟩
  exact ⟨A, c, rfl, hl, hc⟩
 obtain ⟨A, c, rfl, hl, _⟩ := key W (Kd.FK_now h)
 refine ⟨A, c, rfl, hl, fun W' hW => ?_⟩
 obtain ⟨A', c', e, _, h2⟩ := key W' (h W' hW)
 simp [rwCells] at e
 obtain ⟨rfl, rfl⟩ := e
 exact h2
theorem kR_at {w : World} {ok : Nat → Prop} {B : Option Addr} {n : Nat} {xs : List Rw} (h : Kd.F kR w ok B n xs) (i : Nat) (h1 : i < n) : ∃ ad A c, B = some ad ∧ (xs.getD i zR).data.length ≤ c ∧ Kd.F (Kd.int .u8) w ok A (xs.getD i zR).data.length (xs.getD i zR).data ∧
  (∀ j, j < 9 → w.cell? (ad.add (i * 9 + j)) = (rwCells (xs.getD i zR) A c)[j]?) := by
 obtain ⟨ad, cs, e, hl, hf, hc, _⟩ := Kd.F_get h zR i (by omega) (by omega)
 obtain ⟨A, c, rfl, hlc, hd⟩ := kR_open hf
 refine ⟨ad, A, c, e, hlc, hd, fun j hj => ?_⟩
 have hj2 : j < (rwCells (xs.getD i zR) A c).toList.length := hj
 rw [Int.toNat_natCast] at hc
 rw [← Array.getElem?_toList, List.getElem?_eq_getElem hj2]
 exact hc j _ (List.getElem?_eq_getElem hj2)
theorem kR_pts {w : World} {ad : Addr} {i : Nat} {r : Rw} {A : Option Addr} {c : Nat} (h : ∀ j, j < 9 → w.cell? (ad.add (i * 9 + j)) = (rwCells r A c)[j]?) :
  w.cell? (ad.add (i * 9)) = some (.int .i64 r.kind) ∧ w.cell? ⟨(ad.add (i * 9)).block, (ad.add (i * 9)).off + 1, none⟩ = some (.int .i64 r.mode) ∧ w.cell? ⟨(ad.add (i * 9)).block, (ad.add (i * 9)).off + 2, none⟩ = some (.int .i64 r.uid) ∧
  w.cell? ⟨(ad.add (i * 9)).block, (ad.add (i * 9)).off + 3, none⟩ = some (.int .i64 r.gid) ∧ w.cell? ⟨(ad.add (i * 9)).block, (ad.add (i * 9)).off + 4, none⟩ = some (.int .i64 r.parent) ∧ w.cell? ⟨(ad.add (i * 9)).block, (ad.add (i * 9)).off + 5, none⟩ = some (.string r.name) ∧
  w.cell? ⟨(ad.add (i * 9)).block, (ad.add (i * 9)).off + 6, none⟩ = some (.slice A r.data.length c) ∧ w.cell? ⟨(ad.add (i * 9)).block, (ad.add (i * 9)).off + 7, none⟩ = some (.string r.target) ∧ w.cell? ⟨(ad.add (i * 9)).block, (ad.add (i * 9)).off + 8, none⟩ = some (.int .i64 r.node) := by
 refine ⟨h 0 (by decide), ?_, ?_, ?_, ?_, ?_, ?_, ?_, ?_⟩
 ·rw [← add_field _ _ 1 (by omega)]; exact h 1 (by decide)
 ·rw [← add_field _ _ 2 (by omega)]; exact h 2 (by decide)
 ·rw [← add_field _ _ 3 (by omega)]; exact h 3 (by decide)
 ·rw [← add_field _ _ 4 (by omega)]; exact h 4 (by decide)
 ·rw [← add_field _ _ 5 (by omega)]; exact h 5 (by decide)
 ·rw [← add_field _ _ 6 (by omega)]; exact h 6 (by decide)
 ·rw [← add_field _ _ 7 (by omega)]; exact h 7 (by decide)
 ·rw [← add_field _ _ 8 (by omega)]; exact h 8 (by decide)
theorem kR_pts0 {w : World} {ad : Addr} {r : Rw} {A : Option Addr} {c : Nat} (h : ∀ j, j < 9 → w.cell? (ad.add (0 * 9 + j)) = (rwCells r A c)[j]?) :
  w.cell? ad = some (.int .i64 r.kind) ∧ w.cell? ⟨ad.block, ad.off + 1, none⟩ = some (.int .i64 r.mode) ∧ w.cell? ⟨ad.block, ad.off + 2, none⟩ = some (.int .i64 r.uid) ∧
  w.cell? ⟨ad.block, ad.off + 3, none⟩ = some (.int .i64 r.gid) ∧ w.cell? ⟨ad.block, ad.off + 4, none⟩ = some (.int .i64 r.parent) ∧ w.cell? ⟨ad.block, ad.off + 5, none⟩ = some (.string r.name) ∧
  w.cell? ⟨ad.block, ad.off + 6, none⟩ = some (.slice A r.data.length c) ∧ w.cell? ⟨ad.block, ad.off + 7, none⟩ = some (.string r.target) ∧ w.cell? ⟨ad.block, ad.off + 8, none⟩ = some (.int .i64 r.node) := by
 have e : ad.add (0 * 9) = ad := by
  unfold Addr.add
  split <;> simp_all
 have := kR_pts h
 rw [e] at this
 exact this
/-- The table behind Raws, one after the other. -/
inductive Chain : Tab → List Rw → Tab → Prop
 | nil (T : Tab) : Chain T [] T
 | snoc {T T1 T2 : Tab} {l : List Rw} {r : Rw} : Chain T l T1 → OneP T1 r 0 T2 → Chain T (l ++ [r]) T2
def BuildP (room : Int) (l : List Rw) (T : Tab) : Prop := ∃ r rs T0, l = r :: rs ∧ r.kind = 2 ∧ r.parent = 0 ∧ r.name.toList = [] ∧ AddP (newT room) r.nd 1 0 T0 ∧ Chain T0 rs T
def BuildQ (room : Int) (l : List Rw) (w : World) (e : Ending) (w' : World) : Prop :=
 (∃ k err : Int, e = .returned (.tuple #[.pointer none, .int .i64 k, .int .i64 err]) ∧ (err ≠ 0 ∧ 0 ≤ err ∧ err ≤ 100) ∧ 0 ≤ k ∧ (k < l.length ∨ k = 0) ∧ Below w.heap.size w w') ∨
 (∃ g ok T, e = .returned (.tuple #[.pointer (some ⟨g, 0, none⟩), .int .i64 0, .int .i64 0]) ∧ w.heap.size ≤ g ∧ BuildP room l T ∧ szT T ∧ TabAt w' g ok T ∧ (∀ k, ok k → w.heap.size < k) ∧ Below w.heap.size w w')
theorem AddP.err {T T' : Tab} {x : Nd} {n err : Int} (h : AddP T x n err T') : 0 ≤ err ∧ err ≤ 100 := by
 rcases h with ⟨_, _, rfl, _⟩ | ⟨_, _, _, rfl, _⟩ | ⟨_, k, _, _, _, _, rfl, _⟩ <;> exact ⟨by decide, by decide⟩
theorem withE_err (x : Nd) (nm : ByteArray) (id : Int) : 0 ≤ withE x nm id ∧ withE x nm id ≤ 100 := by
 unfold withE
 repeat' split
 all_goals exact ⟨by decide, by decide⟩
theorem putE_err (T : Tab) (i : Int) (x : Nd) : 0 ≤ putE T i x ∧ putE T i x ≤ 100 := by
 unfold putE
 repeat' split
 all_goals exact ⟨by decide, by decide⟩
theorem OneP.err {T T' : Tab} {r : Rw} {err : Int} (h : OneP T r err T') : 0 ≤ err ∧ err ≤ 100 := by
 rcases h with ⟨_, rfl, _⟩ | ⟨_, n, e1, T1, ht, h⟩
 ·exact ⟨by decide, by decide⟩
 ·have he : 0 ≤ e1 ∧ e1 ≤ 100 := by
   rcases ht with ⟨_, ha⟩ | ⟨_, _, h | ⟨h, _⟩⟩
   ·exact ha.err
   ·omega
   ·omega
  rcases h with ⟨_, rfl, _⟩ | ⟨_, ⟨_, rfl, _⟩ | ⟨_, k, _, rfl, _⟩⟩
  ·exact he
  ·exact withE_err _ _ _
  ·exact putE_err _ _ _
theorem AddP.sz {T T' : Tab} {x : Nd} {n err : Int} (h : AddP T x n err T') (hs : szT T) (hl : T.nodes.length = 24) (hr : T.room ≤ 24) (h1 : x.data.length ≤ 1000) (h2 : x.ents.length ≤ 1000) : szT T' := by
 rcases h with ⟨_, _, _, rfl⟩ | ⟨_, _, _, _, rfl⟩ | ⟨_, k, hk, _, _, _, _, rfl⟩
 ·exact hs
 ·exact hs
 ·exact hs.set hl k (by omega) _ h1 h2
theorem OneP.sz {T T' : Tab} {r : Rw} {err : Int} (h : OneP T r err T') (hs : szT T) (hl : T.nodes.length = 24) (hr : T.room ≤ 24) (hd : r.data.length ≤ 1000) (hl2 : ∀ n e T1, ToldP T r n e T1 → T1.nodes.length = 24 ∧ T1.room ≤ 24) : szT T' := by
 rcases h with ⟨_, _, rfl⟩ | ⟨_, n, e1, T1, ht, h⟩
 ·exact hs
 ·have s1 := ht.sz hs hl hr hd
  obtain ⟨l1, r1⟩ := hl2 _ _ _ ht
  rcases h with ⟨_, _, rfl⟩ | ⟨_, ⟨_, _, rfl⟩ | ⟨h0, k, hk, _, rfl⟩⟩
  ·exact s1
  ·exact s1
  ·unfold Tab.put
   split
   ·rename_i hlv
    split
    ·have := live_lt hlv
     have g1 := s1.get r.parent r1
     refine s1.set l1 _ (by omega) _ g1.1 ?_
     have := withE_len h0
     simp only [List.length_append, List.length_take, List.length_drop, List.length_singleton]
     omega
    ·exact s1
   ·exact s1
theorem ToldP.len {T T' : Tab} {r : Rw} {n err : Int} (h : ToldP T r n err T') (hl : T.nodes.length = 24) (hr : T.room ≤ 24) : T'.nodes.length = 24 ∧ T'.room ≤ 24 := by
 rcases h with ⟨_, h⟩ | ⟨_, rfl, _⟩
 ·rcases h with ⟨_, _, _, rfl⟩ | ⟨_, _, _, _, rfl⟩ | ⟨_, k, hk, _, _, _, _, rfl⟩
  ·exact ⟨hl, hr⟩
  ·exact ⟨hl, hr⟩
  ·exact ⟨by unfold Tab.setN; simpa using hl, hr⟩
 ·exact ⟨hl, hr⟩
theorem live_new (n i : Int) : live (newT n) i = false := by
 have e : (newT n).nd (i.toNat - 1) = zN := by
  show (List.replicate 24 zN).getD (i.toNat - 1) zN = zN
  rw [List.getD_eq_getElem?_getD, List.getElem?_replicate]
  split <;> rfl
 unfold live
 rw [e]
 simp [zN]
theorem AddP.one {room : Int} {x : Nd} {n : Int} {T : Tab} (h : AddP (newT room) x n 0 T) : n = 1 := by
 rcases h with ⟨_, _, h, _⟩ | ⟨_, _, _, h, _⟩ | ⟨_, k, _, hj, _, hn, _, _⟩
 ·cases h
 ·cases h
 ·rcases Nat.eq_zero_or_pos k with rfl | hk
  ·simpa using hn
  ·have := hj 0 hk
   rw [live_new] at this; cases this
theorem szT_new (n : Int) : szT (newT n) := fun i hi => by
 have e : (List.replicate 24 zN).getD i zN = zN := by
  rw [List.getD_eq_getElem?_getD, List.getElem?_replicate]
  split <;> rfl
 show ((List.replicate 24 zN).getD i zN).data.length ≤ 1000 ∧ ((List.replicate 24 zN).getD i zN).ents.length ≤ 1000
 rw [e]
 exact ⟨Nat.zero_le _, Nat.zero_le _⟩
set_option maxHeartbeats 8000000 in
set_option maxRecDepth 100000 in
theorem Build.calls (room : Int) (l : List Rw) (B : Option Addr) (c : Nat) (okl : Nat → Prop) (w : World) (h : Kd.F kR w okl B l.length l) (hc : l.length ≤ c) (hl : l.length ≤ 2000) (hd : ∀ r ∈ l, r.data.length ≤ 1000 ∧ r.name.size ≤ 100000) :
  Calls Tryz.prog 31 #[.int .i64 room, .slice B l.length c] w (BuildQ room l w) := by
 have fail0 : ∀ W, Below w.heap.size w W → BuildQ room l w (.returned (.tuple #[.pointer none, .int .i64 0, .int .i64 22])) W := fun W hb => .inl ⟨0, 22, rfl, ⟨by decide, by decide, by decide⟩, by omega, .inr rfl, hb⟩
 cases l with
 | nil =>
  have FI := Aside0.mk fail0
  clear h hc hl hd fail0
  go_enter Tryz.func31, Tryz.ntmps31
  go_wp2_with fail
  exact bodyPost_ret (v := .tuple #[.pointer none, .int .i64 0, .int .i64 22]) (by simp [results, Tryz.results31, go_sem]) rfl (FI.out _ (Below.refl _ _))
 | cons r rs =>
  obtain ⟨ad, A, c0, rfl, hlc, hdf, hcell⟩ := kR_at (Kd.F_bound h) 0 (by simp)
  have e0 : (r :: rs).getD 0 zR = r := rfl
  rw [e0] at hlc hdf hcell
  obtain ⟨p0, p1, p2, p3, p4, p5, p6, p7, p8⟩ := kR_pts0 hcell
  have hne : ((rs.length : Int) + 1 == 0) = false := by simp; omega
  have HD := Aside0.mk hd
  have HL := Aside0.mk hl
  have HC := Aside0.mk hc
  have HF := Aside0.mk (Kd.F_bound h)
  have HDF := Aside0.mk hdf
  clear h hc hl hd hcell hdf
  by_cases h1 : r.kind = 2
  case neg =>
   have h1b : (r.kind != 2) = true := by simp [h1]
   have FI := Aside0.mk fail0
   clear fail0
   go_enter Tryz.func31, Tryz.ntmps31
   go_wp2_with fail
   exact bodyPost_ret (v := .tuple #[.pointer none, .int .i64 0, .int .i64 22]) (by simp [results, Tryz.results31, go_sem]) rfl (FI.out _ (Below.refl _ _))
  have h1b : (r.kind != 2) = false := by simp [h1]
  by_cases h2 : r.parent = 0
  case neg =>
   have h2b : (r.parent != 0) = true := by simp [h2]
   have FI := Aside0.mk fail0
   clear fail0
   go_enter Tryz.func31, Tryz.ntmps31
   go_wp2_with fail
   exact bodyPost_ret (v := .tuple #[.pointer none, .int .i64 0, .int .i64 22]) (by simp [results, Tryz.results31, go_sem]) rfl (FI.out _ (Below.refl _ _))
  have h2b : (r.parent != 0) = false := by simp [h2]
  by_cases h3 : r.name.toList = []
  case neg =>
   have h3b := emp_f h3
   have FI := Aside0.mk fail0
   clear fail0
   go_enter Tryz.func31, Tryz.ntmps31
   go_wp2_with fail
   exact bodyPost_ret (v := .tuple #[.pointer none, .int .i64 0, .int .i64 22]) (by simp [results, Tryz.results31, go_sem]) rfl (FI.out _ (Below.refl _ _))
  have h3b := emp_t h3
  have HK := Aside0.mk (And.intro h1 (And.intro h2 h3))
  clear h1 h2 h3 fail0
  go_enter Tryz.func31, Tryz.ntmps31
  go_wp2_with fail
  refine (New.calls room w (fun k => w.heap.size < k) (fun k hk e => by omega)).mono ?_
  rintro e w1 ⟨rfl, ht, hb⟩
  obtain ⟨ad', A', c1, e1, hlc1, hdf1, hcell1⟩ := kR_at (F_now_at HF.out hb) 0 (by simp)
  injection e1 with e1
  subst e1
  rw [e0] at hlc1 hdf1 hcell1
  have HB1 := Aside0.mk hb
  have HT1 := Aside0.mk ht
  have R1 := Aside0.mk (RwC.mk hlc1 hdf1 (HD.out r (by simp)).1 (HD.out r (by simp)).2)
  clear p0 p1 p2 p3 p4 p5 p6 p7 p8 ht hb
  obtain ⟨p0, p1, p2, p3, p4, p5, p6, p7, p8⟩ := kR_pts0 hcell1
  clear hcell1 hlc1 hdf1
  have MC := Aside0.mk (made.calls r A' c1 w1)
  unfold rwCells at MC
  dsimp only
  go_wp2_with fail
  refine MC.out.mono ?_
  rintro e w2 ⟨rfl, hb⟩
  have AC := Aside0.mk (Add.calls w.heap.size _ _ (newT room) r.nd A' c1 none 0 w2 (HT1.out.below hb) (R1.out.below hb).nd R1.out.b (by simp [Rw.nd]))
  have HB2 := Aside0.mk (below_step HB1.out hb)
  have Z12 := Aside0.mk (below_size hb)
  clear p0 p1 p2 p3 p4 p5 p6 p7 p8 hb MC
  dsimp only
  go_wp2_with fail
  refine AC.out.mono ?_
  rintro e w3 ⟨n, er, T0, rfl, ha, ht, hf⟩
  have hbf := HB2.out.trans (hf.below (B := w.heap.size) (below_size HB2.out) (by rintro k rfl; exact Nat.le_refl _))
  have HB3 := Aside0.mk hbf
  have S3 := Aside0.mk (ha.sz (szT_new room) HT1.out.len HT1.out.r2 R1.out.b (by simp [Rw.nd]))
  have HP := Aside0.mk ha
  have HT3 := Aside0.mk ht
  clear ha ht hf hbf AC
  dsimp only
  by_cases h4 : er = 0
  case neg =>
   have h4b : (er != 0) = true := by simp [h4]
   have H4 := Aside0.mk h4
   clear h4
   go_wp2_with fail
   exact bodyPost_ret (v := .tuple #[.pointer none, .int .i64 0, .int .i64 er]) (by simp [results, Tryz.results31, go_sem]) rfl (.inl ⟨0, er, rfl, ⟨H4.out, HP.out.err⟩, by omega, .inr rfl, HB3.out⟩)
  subst h4
  obtain ⟨Bc, hcut, hF⟩ := cutK kR 23 87 Tryz.underlying23 (by kernel_rfl) (some ad) c (r :: rs) 1 (by simp) HC.out
  have hcut1 : ∀ W, (Instr.slice 23 (.slice (some ad) (rs.length + 1) c) (some (.int .i64 1)) none none).run Tryz.prog W = .ok (.slice Bc rs.length (c - 1)) W := hcut
  have HFc := Aside0.mk hF
  clear hcut hF
  go_wp2
  have hl2 : (rs.length : Int) ≤ 2000 := by have := HL.out; simp at this; omega
  go_loopg [54] rs.length (fun gk i wr => ∃ (k : Nat) (T : Tab) (ok : Nat → Prop), k ≤ rs.length ∧ i = .int .i64 k ∧ rs.length ≤ k + gk ∧ Chain T0 (rs.take k) T ∧ szT T ∧ TabAt wr w.heap.size ok T ∧ (∀ k, ok k → w.heap.size < k) ∧ Below w.heap.size w wr)
  case atStart => exact ⟨0, T0, _, Nat.zero_le _, rfl, by omega, Chain.nil _, S3.out, HT3.out, fun k hk => by
   rcases hk with hk | hk
   ·exact hk
   ·have := HT1.out.lt; have := Z12.out; omega, HB3.out⟩
  case round =>
   obtain ⟨k, T, ok, hk, rfl, hgk, hch, hsz, hta, hok, hb⟩ := hrel
   have HX := Aside0.mk (And.intro hch (And.intro hsz (And.intro hta (And.intro hok hb))))
   have HG2 := Aside0.mk hgk
   clear hgk hch hsz hta hok hb
   by_cases hlt : k < rs.length
   ·obtain ⟨g', rfl⟩ : ∃ g', gk = g' + 1 := ⟨gk - 1, by have := HG2.out; omega⟩
    obtain ⟨hch, hsz, hta, hok, hb⟩ := HX.out
    obtain ⟨ad2, A2, c2, rfl, hlc, hdf, hcell⟩ := kR_at (HFc.out wr _ (F_now_at HF.out hb)) k hlt
    obtain ⟨r2, hr2⟩ : ∃ r2, ((r :: rs).drop 1).getD k zR = r2 := ⟨_, rfl⟩
    rw [hr2] at hlc hdf hcell
    have hmem : r2 ∈ r :: rs := by
     rw [← hr2]
     show rs.getD k zR ∈ r :: rs
     rw [List.getD_eq_getElem?_getD, List.getElem?_eq_getElem hlt]
     exact List.mem_cons_of_mem _ (List.getElem_mem hlt)
    have RC := RwC.mk hlc hdf (HD.out r2 hmem).1 (HD.out r2 hmem).2
    have ha := below_alloc (Below.refl wr.heap.size wr) (.cells (rwCells r2 A2 c2) 87)
    have OC := Aside0.mk (one.calls w.heap.size ok _ T r2 A2 c2 _ (hta.below ha) hsz (RC.below ha) (fun k hk e => by have := hk.2; omega))
    have R2 := Aside0.mk hr2
    obtain ⟨p0, p1, p2, p3, p4, p5, p6, p7, p8⟩ := kR_pts hcell
    clear hch hsz hta hok hb hlc hdf hcell RC ha hr2 hmem
    unfold rwCells at OC
    go_wp2_with fail
    refine OC.out.mono ?_
    rintro e w5 ⟨err, T5, rfl, ho, ht, hf⟩
    have HY := Aside0.mk (And.intro ho (And.intro ht hf))
    clear ho ht hf p0 p1 p2 p3 p4 p5 p6 p7 p8 OC
    dsimp only
    have hk2000 : (k : Int) ≤ 2000 := by omega
    by_cases h5 : err = 0
    ·subst h5
     go_wp2
     go_roundg g'
     case measure => have := HG2.out; omega
     case rel =>
      obtain ⟨ho, ht, hf⟩ := HY.out
      obtain ⟨hch, hsz, hta, hok, hb⟩ := HX.out
      have e1 : rs.take (k + 1) = rs.take k ++ [r2] := by
       rw [List.take_succ_eq_append_getElem hlt, ← R2.out]
       congr 2
       show _ = rs.getD k zR
       rw [List.getD_eq_getElem?_getD, List.getElem?_eq_getElem hlt]; rfl
      have hba := below_alloc hb (.cells (rwCells r2 A2 c2) 87)
      refine ⟨k + 1, T5, _, by omega, by go_num, by have := HG2.out; omega, by rw [e1]; exact Chain.snoc hch ho, ho.sz hsz hta.len hta.r2 (HD.out r2 (by rw [← R2.out]; show rs.getD k zR ∈ r :: rs; rw [List.getD_eq_getElem?_getD, List.getElem?_eq_getElem hlt]; exact List.mem_cons_of_mem _ (List.getElem_mem hlt))).1 (fun _ _ _ h => h.len hta.len hta.r2), ht, fun q hq => ?_, hba.trans (hf.below (below_size hba) (by rintro q rfl; exact Nat.le_refl _))⟩
      rcases hq with hq | hq
      ·exact hok q hq
      ·have := hta.lt; rw [World.size_alloc] at hq; omega
    ·have h5b : (err != 0) = true := by simp [h5]
     have H5 := Aside0.mk h5
     clear h5
     go_wp2_with fail
     obtain ⟨ho, ht, hf⟩ := HY.out
     obtain ⟨hch, hsz, hta, hok, hb⟩ := HX.out
     have hba := below_alloc hb (.cells (rwCells r2 A2 c2) 87)
     exact bodyPost_ret (v := .tuple #[.pointer none, .int .i64 (k + 1), .int .i64 err]) (by simp [results, Tryz.results31, go_sem]) rfl (.inl ⟨k + 1, err, rfl, ⟨H5.out, ho.err⟩, by omega, .inl (by simp; omega), hba.trans (hf.below (below_size hba) (by rintro q rfl; exact Nat.le_refl _))⟩)
   ·have hk2 : k = rs.length := by omega
    subst hk2
    go_wp2_with fail
    obtain ⟨hch, hsz, hta, hok, hb⟩ := HX.out
    rw [List.take_length] at hch
    exact bodyPost_ret (v := .tuple #[.pointer (some ⟨w.heap.size, 0, none⟩), .int .i64 0, .int .i64 0]) (by simp [results, Tryz.results31, go_sem]) rfl (.inr ⟨w.heap.size, ok, T, rfl, Nat.le_refl _, ⟨r, rs, T0, rfl, HK.out.1, HK.out.2.1, HK.out.2.2, HP.out.one ▸ HP.out, hch⟩, hsz, hta, hok, hb⟩)
end Go.Proofs.YtbjhcjgniciooaaGreatDoor.G
namespace Go.Proofs.YtbjhcjgniciooaaGreatDoor.E.Kt
open Go.Proofs.YtbjhcjgniciooaaGreatDoor.G (TabAt Tab Nd live zN rightN NdC kE ndCells okx Fr WhB WhR ctB ctE Rw rwCells kR AddP ToldP OneP Chain BuildP newT withE)
open Go.RowKit Go.Proofs.YtbjhcjgniciooaaGreatDoorW.PrintWords Go.Proofs.YtbjhcjgniciooaaGreatDoorW.PrintLast Go.Proofs.YtbjhcjgniciooaaGreatDoorW.PrintMore
set_option linter.unusedVariables false
set_option linter.unusedSimpArgs false
/-! ### A new table, by hand: what is built of Raws; a copy -/
def Env.newtab (E : Env) (w w' : World) (g : Nat) : Env := { E with A := fun b => E.A b ∨ (w.heap.size ≤ b ∧ b < w'.heap.size), S := fun b => if b = g then some (0, 1) else E.S b }
theorem aft_newtab {K : Con} {E : Env} {w w' : World} {g : Nat} {ok : Nat → Prop} {T : Tab} (hp : HeapOk htN E w K.fp) (hb : Below w.heap.size w w') (hg : w.heap.size ≤ g) (ht : TabAt w' g ok T) (hok : ∀ k, ok k → E.A k ∨ w.heap.size ≤ k) (hz : ∀ i, i < 24 → RightZ (T.nd i)) (h5 : 0 ∈ K.fp) (h0 : K.dg = 0 ∧ K.ha = 0 ∧ K.hb = 0) :
  K.Aft htN E w (Env.newtab E w w' g) w' := by
 have hgl : g < w'.heap.size := ht.lt
 have old : ∀ k, k < w.heap.size → (Env.newtab E w w' g).S k = E.S k := fun k hk => by
  show (if k = g then _ else E.S k) = _
  rw [if_neg (by omega)]
 have get : ∀ k t, (Env.newtab E w w' g).S k = some t → (k = g ∧ t = (0, 1)) ∨ E.S k = some t := fun k t h => by
  have h : (if k = g then some (0, 1) else E.S k) = some t := h
  split at h
  ·rename_i e; injection h with h; exact .inl ⟨e, h.symm⟩
  ·exact .inr h
 have mono : ∀ k t, E.S k = some t → (Env.newtab E w w' g).S k = some t := fun k t h => by rw [old k (hp.dom k t h).1]; exact h
 have x0 : Ext { E with N := fun _ => False } { Env.newtab E w w' g with N := fun _ => False } :=
  ⟨Nat.le_refl _, fun _ _ => rfl, fun _ _ => rfl, fun _ _ => rfl, fun _ _ => rfl, fun k t h => mono k t h, fun _ h => .inl h, fun b hN _ => hN.elim, rfl, rfl, rfl, fun k hk => hk.elim (fun h => h.elim) (fun h => old k (hp.an k h)), Nat.le_refl _, Nat.le_refl _, rfl, rfl⟩
 refine ⟨⟨fun k υ n hk ht' => ?_, fun k t hk => ?_, fun k hk => ?_⟩, mono, fun _ h => .inl h, fun k hk => ⟨old k hk, fun h => h.resolve_right (by omega)⟩, fun k υ n h1 h2 => ?_, by rw [h0.1]; rfl, by rw [h0.2.1, h0.2.2]; simp [Env.newtab], rfl, rfl, hb.os, hb.tape, hb.output, hb.size, fun k hk _ _ => hb.block k hk, fun k υ n hk _ => hb.block k (hp.dom k _ hk).1, fun _ k hk => hb.block k (hp.an k hk)⟩
 ·rcases get k _ hk with ⟨e, e2⟩ | hk'
  ·injection e2 with e2 e3; subst e2; subst e3; subst e
   show tN (Env.newtab E w w' k) 0 w' k
   refine ⟨T, .inr ⟨hg, hgl⟩, (G.TabAt.bound ht).mono (fun b hb' => ?_) (fun b hb' => hb'.2), hz⟩
   have hne : b ≠ k := ht.out b hb'.1
   exact ⟨(hok b hb'.1).imp id (fun h => ⟨h, hb'.2⟩), hne⟩
  ·have h1 := (HeapOk.belowG hp hb).ok k υ n hk' ht'
   have h2 : HOk htN { E with N := fun _ => False } w' k υ n := HOk.core (E := E) (F := { E with N := fun _ => False }) (show Core E { E with N := fun _ => False } from ⟨rfl, rfl, rfl, rfl, rfl, rfl⟩) h1
   exact HOk.core (E := { Env.newtab E w w' g with N := fun _ => False }) (F := Env.newtab E w w' g) (show Core { Env.newtab E w w' g with N := fun _ => False } (Env.newtab E w w' g) from ⟨rfl, rfl, rfl, rfl, rfl, rfl⟩) (h2.ext x0)
 ·rcases get k _ hk with ⟨rfl, rfl⟩ | hk'
  ·exact ⟨hgl, fun _ => rfl, fun _ => .inr ⟨hg, hgl⟩⟩
  ·have := hp.dom k t hk'
   exact ⟨Nat.lt_of_lt_of_le this.1 hb.size, fun h => this.2.1 (h.resolve_right (by omega)), fun h => .inl (this.2.2 h)⟩
 ·rcases hk with hk | hk
  ·exact Nat.lt_of_lt_of_le (hp.an k hk) hb.size
  ·exact hk.2
 ·rcases get k _ h1 with ⟨_, e⟩ | h
  ·injection e with e _; rw [e]; exact h5
  ·rw [h2] at h; cases h
theorem row_FG {HT : Th} {α : Type} {E : Env} {w : World} {fp : List Nat} {τ e sz m c : Nat} {ct : CTs} {A : Option Addr} (hp : HeapOk HT E w fp) (hτ : τ ∈ fp) (hty : HT τ = .row e sz ct) (so : SlOk HT E τ A m c) (hm : m ≤ 9223372036854775807) (d : Kd α) (hsz : d.sz = sz) (dec : List Value → α)
  (hd : ∀ cs w', VTs HT E ct cs → d.K w' (dec cs) cs) :
  ∃ xs : List α, xs.length = m ∧ Kd.F d w (fun b => ∃ n, E.S b = some (τ, n)) A m xs ∧ ∀ x ∈ xs, ∃ cs, VTs HT E ct cs ∧ x = dec cs := by
 rcases so with ⟨rfl, rfl, rfl⟩ | ⟨b, j, len, rfl, hs, h1, h2⟩
 ·exact ⟨[], rfl, Kd.F_nil _ _ _, fun x hx => absurd hx List.not_mem_nil⟩
 ·have hk := hp.ok b τ len hs hτ
  unfold HOk at hk
  rw [show HT τ = _ from hty] at hk
  obtain ⟨arr, ha, hl, hv⟩ := hk
  have hszs : (HT τ).size = sz := by rw [show HT τ = _ from hty]; rfl
  have at_ : ∀ q, q < m → ((List.range m).map fun i => dec ((arr.toList.drop ((j + i) * sz)).take sz))[q]? = some (dec ((arr.toList.drop ((j + q) * sz)).take sz)) := fun q hq => by simp [hq]
  refine ⟨(List.range m).map fun i => dec ((arr.toList.drop ((j + i) * sz)).take sz), by simp, fun W' hW => ⟨by simp, hm, fun _ => ⟨⟨b, j * (HT τ).size, none⟩, rfl, fun q p hq => ?_⟩⟩, fun x hx => ?_⟩
  ·have hlt : q < m := by
    have := (List.getElem?_eq_some_iff.1 hq).1
    simpa using this
   rw [at_ q hlt] at hq
   injection hq with hq
   have hq2 := hv (j + q) (by omega)
   refine ⟨_, ?_, by rw [← hq]; exact hd _ W' hq2, fun i u hu => ?_⟩
   ·have hl := hl.1
    rw [hsz, List.length_take, List.length_drop, Array.length_toList]
    have : (j + q + 1) * sz ≤ len * sz := Nat.mul_le_mul_right _ (by omega)
    rw [Nat.add_mul, Nat.one_mul] at this
    omega
   ·have hi : i < sz := by
     have := (List.getElem?_eq_some_iff.1 hu).1
     rw [List.length_take] at this
     omega
    rw [List.getElem?_take_of_lt hi, List.getElem?_drop] at hu
    have hW2 : W'.heap[b]? = some (.cells arr e (0, 0)) := (hW b ⟨len, hs⟩ (hp.dom b _ hs).1).trans ha
    rw [add_addr, cell_of hW2, hszs, hsz, ← hu, Array.getElem?_toList]
    congr 1
    rw [Nat.add_mul]; omega
  ·obtain ⟨i, hi, rfl⟩ := List.mem_map.1 hx
   exact ⟨_, hv (j + i) (by have := List.mem_range.1 hi; omega), rfl⟩
/-! ### Nodes that are right stay so -/
def RZ (T : Tab) : Prop := ∀ i, i < 24 → RightZ (T.nd i)
theorem RZ.set {T : Tab} (h : RZ T) (hl : T.nodes.length = 24) (k : Nat) (hk : k < 24) {x : Nd} (hx : RightZ x) : RZ (T.setN k x) := fun i hi => by
 rw [G.Tab.nd_set T k i x (by omega)]
 split
 ·exact hx
 ·exact h i hi
def RwOk (r : Rw) : Prop := (∀ b ∈ r.data, 0 ≤ b ∧ b ≤ 255) ∧ IntKind.i64.min ≤ r.node ∧ r.node ≤ IntKind.i64.max
theorem RZ.add {T T' : Tab} {r : Rw} {n err : Int} (h : RZ T) (hl : T.nodes.length = 24) (hr : T.room ≤ 24) (ho : RwOk r) (ha : AddP T r.nd n err T') : RZ T' ∧ IntKind.i64.min ≤ n ∧ n ≤ IntKind.i64.max := by
 have i0 : IntKind.i64.min ≤ 0 := by decide
 have i1 : (25 : Int) ≤ IntKind.i64.max := by decide
 rcases ha with ⟨_, rfl, _, rfl⟩ | ⟨_, _, rfl, _, rfl⟩ | ⟨h1, k, hk, _, _, rfl, _, rfl⟩
 ·exact ⟨h, by omega, by omega⟩
 ·exact ⟨h, by omega, by omega⟩
 ·exact ⟨h.set hl k (by omega) ⟨.inr h1, ho.1, fun e he => absurd he List.not_mem_nil⟩, by omega, by omega⟩
theorem RZ.get {T : Tab} (h : RZ T) (i : Int) (hr : T.room ≤ 24) : RightZ (T.get i) := by
 unfold G.Tab.get
 split
 ·rename_i hl
  have := G.live_lt hl
  exact h _ (by omega)
 ·exact ⟨.inl rfl, fun b hb => absurd hb List.not_mem_nil, fun e he => absurd he List.not_mem_nil⟩
theorem withE_name {x : Nd} {nm : ByteArray} {id : Int} (h : withE x nm id = 0) : nm.size ≤ 12 := by
 unfold G.withE at h
 split at h
 ·cases h
 split at h
 ·cases h
 split at h
 ·cases h
 omega
theorem RZ.one {T T' : Tab} {r : Rw} {err : Int} (h : RZ T) (hl : T.nodes.length = 24) (hr : T.room ≤ 24) (ho : RwOk r) (hp : OneP T r err T') : RZ T' ∧ T'.nodes.length = 24 ∧ T'.room ≤ 24 := by
 rcases hp with ⟨_, _, rfl⟩ | ⟨_, n, e1, T1, ht, h3⟩
 ·exact ⟨h, hl, hr⟩
 ·have hlen := G.ToldP.len ht hl hr
  have key : RZ T1 ∧ (e1 = 0 → IntKind.i64.min ≤ n ∧ n ≤ IntKind.i64.max) := by
   rcases ht with ⟨_, ha⟩ | ⟨_, rfl, hn⟩
   ·have := h.add hl hr ho ha; exact ⟨this.1, fun _ => this.2⟩
   ·refine ⟨h, fun e0 => ?_⟩
    rcases hn with hn | ⟨_, rfl⟩
    ·omega
    ·exact ho.2
  rcases h3 with ⟨_, _, rfl⟩ | ⟨e0, ⟨_, _, rfl⟩ | ⟨hw, k, hk, _, rfl⟩⟩
  ·exact ⟨key.1, hlen⟩
  ·exact ⟨key.1, hlen⟩
  ·unfold G.Tab.put
   split
   ·rename_i hlv
    split
    ·rename_i hright
     have := G.live_lt hlv
     have g1 := key.1.get r.parent hlen.2
     refine ⟨key.1.set hlen.1 _ (by omega) ⟨.inr hright, g1.2.1, fun e he => ?_⟩, by unfold G.Tab.setN; simpa using hlen.1, hlen.2⟩
     simp only [List.append_assoc, List.mem_append, List.mem_singleton] at he
     rcases he with he | rfl | he
     ·exact g1.2.2 e (List.mem_of_mem_take he)
     ·exact ⟨withE_name hw, key.2 e0⟩
     ·exact g1.2.2 e (List.mem_of_mem_drop he)
    ·exact ⟨key.1, hlen⟩
   ·exact ⟨key.1, hlen⟩
theorem RZ.chain {T T' : Tab} {l : List Rw} (hc : Chain T l T') (h : RZ T) (hl : T.nodes.length = 24) (hr : T.room ≤ 24) (ho : ∀ r ∈ l, RwOk r) : RZ T' ∧ T'.nodes.length = 24 ∧ T'.room ≤ 24 := by
 induction hc with
 | nil => exact ⟨h, hl, hr⟩
 | snoc hc h1 ih =>
  obtain ⟨a, b, c⟩ := ih (fun r hr => ho r (List.mem_append_left _ hr))
  exact a.one b c (ho _ (List.mem_append_right _ (List.mem_singleton_self _))) h1
theorem newT_nd (room : Int) (i : Nat) : (newT room).nd i = zN := by
 show (List.replicate 24 zN).getD i zN = zN
 rw [List.getD_eq_getElem?_getD, List.getElem?_replicate]
 split <;> rfl
theorem BuildP.rz {room : Int} {l : List Rw} {T : Tab} (h : BuildP room l T) (ho : ∀ r ∈ l, RwOk r) (h1 : (newT room).nodes.length = 24) (h2 : (newT room).room ≤ 24) : RZ T := by
 obtain ⟨r, rs, T0, rfl, _, _, _, ha, hc⟩ := h
 have z : RZ (newT room) := fun i _ => by rw [newT_nd]; exact ⟨.inl rfl, fun b hb => absurd hb List.not_mem_nil, fun e he => absurd he List.not_mem_nil⟩
 have := z.add h1 h2 (ho r (List.mem_cons_self ..)) ha
 have hl : T0.nodes.length = 24 ∧ T0.room ≤ 24 := by
  rcases ha with ⟨_, _, _, rfl⟩ | ⟨_, _, _, _, rfl⟩ | ⟨_, k, _, _, _, _, _, rfl⟩
  ·exact ⟨h1, h2⟩
  ·exact ⟨h1, h2⟩
  ·exact ⟨by unfold G.Tab.setN; simpa using h1, h2⟩
 exact (RZ.chain hc this.1 hl.1 hl.2 (fun q hq => ho q (List.mem_cons_of_mem _ hq))).1
end Go.Proofs.YtbjhcjgniciooaaGreatDoor.E.Kt
namespace Go.Proofs.YtbjhcjgniciooaaGreatDoor.E.Kt
open Go.Proofs.YtbjhcjgniciooaaGreatDoor.G (TabAt Tab Nd live zN rightN NdC kE ndCells okx Fr WhB WhR ctB ctE Rw rwCells kR zR BuildP newT)
open Go.RowKit Go.Proofs.YtbjhcjgniciooaaGreatDoorW.PrintWords Go.Proofs.YtbjhcjgniciooaaGreatDoorW.PrintLast Go.Proofs.YtbjhcjgniciooaaGreatDoorW.PrintMore
set_option linter.unusedVariables false
set_option linter.unusedSimpArgs false
/-! ### build.Build's and Clone's contracts -/
theorem k33_ok : HldN k33 := by
 intro E w vs pre
 obtain ⟨v, r, e, hv, hn⟩ := pre.args
 have ev : vs = #[v] := by rw [← Array.toArray_toList (xs := vs), e, show r = [] from hn]
 rcases hv with ⟨h, _⟩ | ⟨k, n, rfl, hs⟩
 ·cases h
 obtain ⟨T, hA, ht⟩ : tN E 0 w k := pre.heap.ok k 0 n hs (by decide)
 subst ev
 refine (G.Clone.calls k _ T w ht.1 (TabI.small (k := k) ht)).mono ?_
 rintro e w' ⟨rfl, ht2, hb⟩
 have aft := aft_newtab (K := k33) pre.heap hb (Nat.le_refl _) ht2 (fun q hq => by
  rcases hq with hq | hq
  ·exact .inl hq.1.1
  ·exact .inr (by omega)) ht.2 (by decide) ⟨rfl, rfl, rfl⟩
 exact ⟨[.pointer (some ⟨w.heap.size, 0, none⟩)], _, rfl, aft, _, List.mem_cons_self .., ⟨_, [], rfl, .inr ⟨w.heap.size, 1, rfl, by show (if w.heap.size = w.heap.size then _ else _) = _; rw [if_pos rfl]⟩, rfl⟩, fun q hq' => absurd hq' List.not_mem_nil, fun f hf => absurd hf List.not_mem_nil⟩
/-! ### A row of Raws -/
def rawC : CTs := cL [cI, cI, cI, cI, cI, cW0, .sl 1005 0 ⟨0, 0, 1000⟩, cW0, cI]
/-- What a Raw is, in the memory of a world. -/
structure RawIs (w : World) (ok : Nat → Prop) (cs : List Value) (r : Rw) (A : Option Addr) (c : Nat) : Prop where
 cs : cs = (rwCells r A c).toList
 l : r.data.length ≤ c
 f : Kd.F (Kd.int .u8) w ok A r.data.length r.data
 b : r.data.length ≤ 1000
 n : r.name.size ≤ 1500
 o : RwOk r
theorem vtB {HT : Th} {E : Env} {cs : List Value} (h : VTs HT E (cL [cU8]) cs) : cs = [.int .u8 (decB cs)] ∧ 0 ≤ decB cs ∧ decB cs ≤ 255 := by
 obtain ⟨v, r, rfl, ⟨n, rfl, h1, h2, _⟩, h3⟩ := h
 rw [show r = [] from h3]
 exact ⟨rfl, h1, h2⟩
theorem raw_is {E : Env} {w : World} {fp : List Nat} (hp : HeapOk htN E w fp) (h5 : 1005 ∈ fp) {cs : List Value} (h : VTs htN E rawC cs) : ∃ r A c, RawIs w (fun b => ∃ n, E.S b = some (1005, n)) cs r A c := by
 obtain ⟨_, _, rfl, ⟨k0, rfl, _, _, _, _⟩, _, _, rfl, ⟨k1, rfl, _, _, _, _⟩, _, _, rfl, ⟨k2, rfl, _, _, _, _⟩, _, _, rfl, ⟨k3, rfl, _, _, _, _⟩, _, _, rfl, ⟨k4, rfl, _, _, _, _⟩, _, _, rfl, ⟨s5, rfl, _, h5s⟩, _, _, rfl, ⟨A, m, c, rfl, ⟨_, hm⟩, so⟩, _, _, rfl, ⟨s7, rfl, _, _⟩, _, _, rfl, ⟨k8, rfl, _, _, h8, h9⟩, h10⟩ := h
 have hm : m ≤ 1000 := by simpa [Bd.ev] using hm
 have h5s : s5.size ≤ 1500 := by simpa [Bd.ev] using h5s
 obtain ⟨xs, hl, hf, hx⟩ := row_FG hp h5 (show htN 1005 = .row 5 1 (cL [cU8]) from rfl) so (by omega) (Kd.int .u8) rfl decB (fun cs w' h => by have := vtB h; rw [this.1]; rfl)
 have hmc : m ≤ c := by
  rcases so with ⟨_, h1, h2⟩ | ⟨_, _, _, _, _, h1, _⟩
  ·omega
  ·exact h1
 subst hl
 refine ⟨⟨k0, k1, k2, k3, k4, s5, xs, s7, k8⟩, A, c, ?_, hmc, hf, hm, h5s, fun b hb => ?_, h8, h9⟩
 ·rw [show _ = ([] : List Value) from h10]; rfl
 ·obtain ⟨cs, hc, rfl⟩ := hx b hb
  have := vtB hc
  exact ⟨this.2.1, this.2.2⟩
theorem row_raws {E : Env} {w : World} {fp : List Nat} {A : Option Addr} {m c : Nat} (hp : HeapOk htN E w fp) (h5 : 1005 ∈ fp) (h87 : 1087 ∈ fp) (so : SlOk htN E 1087 A m c) (hm : m ≤ 2000) :
  ∃ xs : List Rw, xs.length = m ∧ (∀ r ∈ xs, RwOk r ∧ r.data.length ≤ 1000 ∧ r.name.size ≤ 1500) ∧ Kd.F kR w (fun b => ∃ n, E.S b = some (1087, n) ∨ E.S b = some (1005, n)) A m xs := by
 rcases so with ⟨rfl, rfl, rfl⟩ | ⟨b, j, len, rfl, hs, h1, h2, _⟩
 ·exact ⟨[], rfl, fun r hr => absurd hr List.not_mem_nil, Kd.F_nil _ _ _⟩
 ·have hk := hp.ok b 1087 len hs h87
  unfold HOk at hk
  rw [show htN 1087 = .row 87 9 rawC from rfl] at hk
  obtain ⟨arr, ha, hl, hv⟩ := hk
  have key : ∀ q, q < m → ∃ r A c, RawIs w (fun b => ∃ n, E.S b = some (1005, n)) ((arr.toList.drop ((j + q) * 9)).take 9) r A c := fun q hq => raw_is hp h5 (hv (j + q) (by omega))
  have : ∃ f : Nat → Rw, ∀ q, q < m → ∃ A c, RawIs w (fun b => ∃ n, E.S b = some (1005, n)) ((arr.toList.drop ((j + q) * 9)).take 9) (f q) A c :=
   ⟨fun q => if h : q < m then Classical.choose (key q h) else zR, fun q hq => by dsimp only; rw [dif_pos hq]; exact Classical.choose_spec (key q hq)⟩
  obtain ⟨f, hf⟩ := this
  have at_ : ∀ q, q < m → ((List.range m).map f)[q]? = some (f q) := fun q hq => by simp [hq]
  refine ⟨(List.range m).map f, by simp, fun r hr => ?_, fun W' hW => ⟨by simp, by omega, fun _ => ⟨⟨b, j * (htN 1087).size, none⟩, rfl, fun q p hq => ?_⟩⟩⟩
  ·obtain ⟨q, hq, rfl⟩ := List.mem_map.1 hr
   obtain ⟨A, c, h⟩ := hf q (List.mem_range.1 hq)
   exact ⟨h.o, h.b, h.n⟩
  ·have hlt : q < m := by
    have := (List.getElem?_eq_some_iff.1 hq).1
    simpa using this
   rw [at_ q hlt] at hq
   injection hq with hq
   obtain ⟨A, c, h⟩ := hf q hlt
   rw [hq] at h
   have hlen : ((arr.toList.drop ((j + q) * 9)).take 9).length = 9 := by rw [h.cs]; rfl
   refine ⟨(arr.toList.drop ((j + q) * 9)).take 9, hlen, ?_, fun i u hu => ?_⟩
   ·rw [h.cs]
    have hc := h.f W' (fun k hk hlt' => hW k (by obtain ⟨n, hn⟩ := hk; exact ⟨n, .inr hn⟩) hlt')
    exact ⟨[.int .i64 p.kind], _, rfl, rfl, [.int .i64 p.mode], _, rfl, rfl, [.int .i64 p.uid], _, rfl, rfl, [.int .i64 p.gid], _, rfl, rfl, [.int .i64 p.parent], _, rfl, rfl, [.string p.name], _, rfl, rfl, [.slice A p.data.length c], _, rfl, ⟨A, c, rfl, h.l, hc⟩, [.string p.target], _, rfl, rfl, rfl⟩
   ·have hi : i < 9 := by
     have := (List.getElem?_eq_some_iff.1 hu).1
     omega
    rw [List.getElem?_take_of_lt hi, List.getElem?_drop] at hu
    have hW2 : W'.heap[b]? = some (.cells arr 87 (0, 0)) := (hW b ⟨len, .inl hs⟩ (hp.dom b _ hs).1).trans ha
    rw [add_addr, cell_of hW2, ← hu, Array.getElem?_toList]
    congr 1
    show j * 9 + (q * 9 + i) = _
    rw [Nat.add_mul]; omega
theorem k31_ok : HldN k31 := by
 intro E w vs pre
 obtain ⟨v, r, e, ⟨room, rfl, _, _, r1, r2⟩, u, r3, e3, ⟨A, m, c, rfl, ⟨h1m, hm⟩, so⟩, hn⟩ := pre.args
 have ev : vs = #[.int .i64 room, .slice A m c] := by rw [← Array.toArray_toList (xs := vs), e, e3, show r3 = [] from hn]
 have hm : m ≤ 2000 := by simpa [Bd.ev] using hm
 have hmc : m ≤ c := by
  rcases so with ⟨_, h1, h2⟩ | ⟨_, _, _, _, _, h1, _⟩
  ·omega
  ·exact h1
 obtain ⟨xs, hl, hx, hF⟩ := row_raws pre.heap (show 1005 ∈ k31.fp by decide) (show 1087 ∈ k31.fp by decide) so hm
 subst hl
 subst ev
 refine (G.Build.calls room xs A c _ w hF hmc hm (fun r hr => ⟨(hx r hr).2.1, by have := (hx r hr).2.2; omega⟩)).mono ?_
 rintro e w' (⟨k, err, rfl, ⟨he0, he1, he2⟩, hk0, hk1, hb⟩ | ⟨g, ok, T, rfl, hg, hbp, hsz, ht, hok, hb⟩)
 ·have i1 : (2000 : Int) ≤ IntKind.i64.max := by decide
  have i0 : IntKind.i64.min ≤ 0 := by decide
  have hk : k < xs.length := by rcases hk1 with h | h <;> omega
  refine ⟨[.pointer none, .int .i64 k, .int .i64 err], E, rfl, aft_roG pre.heap hb ⟨rfl, rfl, rfl⟩, _, List.mem_cons_of_mem _ (List.mem_cons_self ..), ⟨_, _, rfl, .inl ⟨rfl, rfl⟩, _, _, rfl, ⟨k, rfl, hk0, by omega, by omega, by omega⟩, _, [], rfl, ⟨err, rfl, by omega, by show err ≤ (9223372036854775807 : Int); omega, by omega, by omega⟩, rfl⟩, fun q hq' => ?_, fun f hf => absurd hf List.not_mem_nil⟩
  have : q = ⟨-1, [(1, 1), (3, -1)]⟩ := by simpa [ps] using hq'
  subst this
  show 0 ≤ Lin.ev _ _
  simp [Lin.ev, Lin.evT, numAt, leavesV, numV, Value.cells]
  omega
 ·have aft := aft_newtab (K := k31) pre.heap hb hg ht (fun q hq => .inr (by have := hok q hq; omega)) (BuildP.rz hbp (fun r hr => (hx r hr).1) (by unfold G.newT; simp) (by unfold G.newT; dsimp only; split; decide; split; decide; omega)) (by decide) ⟨rfl, rfl, rfl⟩
  have i0 : IntKind.i64.min ≤ 0 := by decide
  have i1 : (0 : Int) ≤ IntKind.i64.max := by decide
  exact ⟨[.pointer (some ⟨g, 0, none⟩), .int .i64 0, .int .i64 0], _, rfl, aft, _, List.mem_cons_self .., ⟨_, _, rfl, .inr ⟨g, 1, rfl, by show (if g = g then _ else _) = _; rw [if_pos rfl]⟩, _, _, rfl, ⟨0, rfl, Int.le_refl _, Int.le_refl _, i0, i1⟩, _, [], rfl, ⟨0, rfl, Int.le_refl _, Int.le_refl _, i0, i1⟩, rfl⟩, fun q hq' => absurd hq' List.not_mem_nil, fun f hf => absurd hf List.not_mem_nil⟩
end Go.Proofs.YtbjhcjgniciooaaGreatDoor.E.Kt
namespace Go.Proofs.YtbjhcjgniciooaaGreatDoor.E.Kt
open Go.Proofs.YtbjhcjgniciooaaGreatDoor.G (TabAt Tab Nd live zN rightN NdC kE ndCells okx Fr WhB WhR ctB ctE)
open Go.RowKit Go.Proofs.YtbjhcjgniciooaaGreatDoorW.PrintWords Go.Proofs.YtbjhcjgniciooaaGreatDoorW.PrintLast Go.Proofs.YtbjhcjgniciooaaGreatDoorW.PrintMore
set_option linter.unusedVariables false
set_option linter.unusedSimpArgs false
/-! ### Blocks by other kinds: what a kind leads to -/
mutual
def refT (u : Bool) (p : Nat → Bool) : CT → Bool
 | .int _ _ _ => true
 | .uid => u
 | .bool => true
 | .str _ _ => true
 | .sl τ _ _ => p τ
 | .ptr τ _ => p τ
 | .map τ _ => p τ
 | .fn _ fs => refF u p fs
 | .iface _ ts => refI u p ts
 | .agg cs => refC u p cs
def refC (u : Bool) (p : Nat → Bool) : CTs → Bool
 | .nil => true
 | .cons t ts => refT u p t && refC u p ts
def refF (u : Bool) (p : Nat → Bool) : FTs → Bool
 | .nil => true
 | .cons _ a b r => refC u p a && refC u p b && refF u p r
def refI (u : Bool) (p : Nat → Bool) : ITs → Bool
 | .nil => true
 | .cons _ c r => refT u p c && refI u p r
end
def refH (u : Bool) (p : Nat → Bool) : HTy → Bool
 | .obj _ alts => alts.all fun a => refC u p a.1
 | .row _ _ cs => refC u p cs
 | .map k v => refT u p k && refT u p v
 | .opq => false
/-- The two say the same of values that lead to some kinds alone. -/
structure Rek (u : Bool) (p : Nat → Bool) (E F : Env) : Prop where
 S : ∀ k τ n, p τ = true → E.S k = some (τ, n) → F.S k = some (τ, n)
 g : F.g = E.g
 h : F.h = E.h
 U : u = true → F.U = E.U
section
variable {HT HT' : Th} {E F : Env} {w : World} {u : Bool} {p : Nat → Bool}
theorem SlOk.rek (ht : HT'.ty = HT.ty) (c : Rek u p E F) {τ : Nat} {a : Option Addr} {m k : Nat} (hp : p τ = true) (h : SlOk HT E τ a m k) : SlOk HT' F τ a m k := by
 rcases h with h | ⟨b, j, len, h1, h2, h3⟩
 ·exact .inl h
 ·exact .inr ⟨b, j, len, by rw [show HT'.ty τ = HT.ty τ by rw [ht]]; exact h1, c.S _ _ _ hp h2, h3⟩
mutual
theorem VT.rek (ht : HT'.ty = HT.ty) (c : Rek u p E F) : ∀ (t : CT) {v : Value}, refT u p t = true → VT HT E t v → VT HT' F t v
 | .int _ _ _, _, _, k => k
 | .uid, _, hu, ⟨n, e, k, r⟩ => ⟨n, e, by rw [c.U hu]; exact k, r⟩
 | .bool, _, _, k => k
 | .str _ d, _, _, ⟨s, e, k1, k2⟩ => ⟨s, e, k1, by rw [c.g, c.h]; exact k2⟩
 | .sl _ _ d, _, hp, ⟨a, m, k, e, ⟨k1, k2⟩, o⟩ => ⟨a, m, k, e, ⟨k1, by rw [c.g, c.h]; exact k2⟩, SlOk.rek ht c hp o⟩
 | .ptr _ _, _, hp, k => k.imp id fun ⟨i, n, e, hs⟩ => ⟨i, n, e, c.S _ _ _ hp hs⟩
 | .map _ _, _, hp, k => k.imp id fun ⟨i, n, e, hs⟩ => ⟨i, n, e, c.S _ _ _ hp hs⟩
 | .fn _ fs, _, hp, k => k.imp id (VF.rek ht c fs hp)
 | .iface _ ts, _, hp, k => k.imp id (VI.rek ht c ts hp)
 | .agg cs, _, hp, ⟨vs, e, k⟩ => ⟨vs, e, VTs.rek ht c cs hp k⟩
theorem VTs.rek (ht : HT'.ty = HT.ty) (c : Rek u p E F) : ∀ (ts : CTs) {vs : List Value}, refC u p ts = true → VTs HT E ts vs → VTs HT' F ts vs
 | .nil, _, _, k => k
 | .cons t ts, _, hp, ⟨v, r, e, k1, k2⟩ => ⟨v, r, e, VT.rek ht c t ((Bool.and_eq_true _ _).mp hp).1 k1, VTs.rek ht c ts ((Bool.and_eq_true _ _).mp hp).2 k2⟩
theorem VF.rek (ht : HT'.ty = HT.ty) (c : Rek u p E F) : ∀ (ts : FTs) {v : Value}, refF u p ts = true → VF HT E ts v → VF HT' F ts v
 | .nil, _, _, k => k
 | .cons f a b r, _, hp, k => k.imp (fun ⟨x, y, e, k1, k2⟩ => ⟨x, y, e, VTs.rek ht c a ((Bool.and_eq_true _ _).mp ((Bool.and_eq_true _ _).mp hp).1).1 k1, VTs.rek ht c b ((Bool.and_eq_true _ _).mp ((Bool.and_eq_true _ _).mp hp).1).2 k2⟩) (VF.rek ht c r ((Bool.and_eq_true _ _).mp hp).2)
theorem VI.rek (ht : HT'.ty = HT.ty) (c : Rek u p E F) : ∀ (ts : ITs) {v : Value}, refI u p ts = true → VI HT E ts v → VI HT' F ts v
 | .nil, _, _, k => k
 | .cons t d r, _, hp, k => k.imp (fun ⟨x, e, k1⟩ => ⟨x, e, VT.rek ht c d ((Bool.and_eq_true _ _).mp hp).1 k1⟩) (VI.rek ht c r ((Bool.and_eq_true _ _).mp hp).2)
end
theorem HOk.rek (ht : HT'.ty = HT.ty) (c : Rek u p E F) {k τ n : Nat} (hr : refH u p (HT τ) = true) (h : HOk HT E w k τ n) : HOk HT' F w k τ n := by
 unfold HOk at *
 rw [show HT'.ty τ = HT.ty τ by rw [ht]]
 split at h <;> rename_i e
 ·rw [e] at hr
  obtain ⟨arr, h1, alt, h2, h3, h4⟩ := h
  exact ⟨arr, h1, alt, h2, VTs.rek ht c _ (List.all_eq_true.1 hr alt h2) h3, h4⟩
 ·rw [e] at hr
  obtain ⟨arr, h1, h2, h3⟩ := h
  exact ⟨arr, h1, h2, fun j hj => VTs.rek ht c _ hr (h3 j hj)⟩
 ·rw [e] at hr
  obtain ⟨ents, clock, h1, h2⟩ := h
  have := (Bool.and_eq_true _ _).mp hr
  exact ⟨ents, clock, h1, fun x hx => ⟨VT.rek ht c _ this.1 (h2 x hx).1, VT.rek ht c _ this.2 (h2 x hx).2⟩⟩
 ·rw [e] at hr; cases hr
end
end Go.Proofs.YtbjhcjgniciooaaGreatDoor.E.Kt
