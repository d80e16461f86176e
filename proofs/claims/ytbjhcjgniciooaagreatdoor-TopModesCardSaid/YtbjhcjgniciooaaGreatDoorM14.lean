/- TopModes: a part of the proof, merged. -/
import Derived.Test.YtbjhcjgniciooaaGreatDoorM10
import Derived.Test.YtbjhcjgniciooaaGreatDoorM10b
import Derived.Test.YtbjhcjgniciooaaGreatDoorM13
namespace Go.Proofs.YtbjhcjgniciooaaGreatDoor.G
open Go.RowKit Go.Proofs.YtbjhcjgniciooaaGreatDoorW.PrintWords Go.Proofs.YtbjhcjgniciooaaGreatDoorW.PrintLast Go.Proofs.YtbjhcjgniciooaaGreatDoorW.PrintMore
attribute [local go_sem] max2_int min2_int max_two min_two
set_option linter.unusedVariables false
set_option linter.unusedSimpArgs false
theorem far7 {W : World} {g g' : Nat} {cs : Array Value} (hne : g' ≠ g) (h : ∀ i, W.cell? ⟨g', i, none⟩ = cs[i]?) (a b c d e f i : Nat) (va vb vc vd ve vf vi : Value) :
  ∀ j, (((((((W.setCell ⟨g, a, none⟩ va).setCell ⟨g, b, none⟩ vb).setCell ⟨g, c, none⟩ vc).setCell ⟨g, d, none⟩ vd).setCell ⟨g, e, none⟩ ve).setCell ⟨g, f, none⟩ vf).setCell ⟨g, i, none⟩ vi).cell? ⟨g', j, none⟩ = cs[j]? := fun j => by
 have n : ∀ o, (⟨g, o, none⟩ : Addr) ≠ ⟨g', j, none⟩ := fun o h => hne (by injection h with h; exact h.symm)
 rw [World.cell?_setCell_other (h := n _), World.cell?_setCell_other (h := n _), World.cell?_setCell_other (h := n _), World.cell?_setCell_other (h := n _), World.cell?_setCell_other (h := n _), World.cell?_setCell_other (h := n _), World.cell?_setCell_other (h := n _)]
 exact h j
/-- What Add may answer: a number, an error, and the table then. -/
def AddP (T : Tab) (x : Nd) (n err : Int) (T' : Tab) : Prop :=
 (rightN x = false ∧ n = 0 ∧ err = 22 ∧ T' = T) ∨ (rightN x = true ∧ (∀ j : Nat, (j : Int) < T.room → live T ((j : Int) + 1) = true) ∧ n = 0 ∧ err = 28 ∧ T' = T) ∨
 (rightN x = true ∧ ∃ k : Nat, (k : Int) < T.room ∧ (∀ j : Nat, j < k → live T ((j : Int) + 1) = true) ∧ live T ((k : Int) + 1) = false ∧ n = (k : Int) + 1 ∧ err = 0 ∧ T' = T.setN k x)
def AddQ (g : Nat) (ok : Nat → Prop) (T : Tab) (x : Nd) (w : World) (e : Ending) (w' : World) : Prop := ∃ n err T', e = .returned (.tuple #[.int .i64 n, .int .i64 err]) ∧ AddP T x n err T' ∧ TabAt w' g (okx ok w) T' ∧ Fr (· = g) w w'
set_option maxHeartbeats 1600000 in
set_option maxRecDepth 100000 in
theorem Add.calls (g : Nat) (ok okn : Nat → Prop) (T : Tab) (x : Nd) (A4 : Option Addr) (c4 : Nat) (A5 : Option Addr) (c5 : Nat) (w : World) (h : TabAt w g ok T) (hx : NdC w okn x A4 c4 A5 c5) (b4 : x.data.length ≤ 1000) (b5 : x.ents.length ≤ 1000) :
  Calls Tryz.prog 61 #[.pointer (some ⟨g, 0, none⟩), .agg (ndCells x A4 c4 A5 c5)] w (AddQ g ok T x w) := by
 have HX := boxed hx
 have HT := Aside0.mk (h.below (below_alloc (Below.refl _ _) (.cells (ndCells x A4 c4 A5 c5) 44)))
 have HG := Aside0.mk h.lt
 have HB := Aside0.mk (below_alloc (Below.refl w.heap.size w) (.cells (ndCells x A4 c4 A5 c5) 44))
 have B4 := Aside0.mk b4
 have B5 := Aside0.mk b5
 have R2 := Aside0.mk h.r2
 have R1 := Aside0.mk h.r1
 cases hr : rightN x with
 | false =>
  have HR := Aside0.mk hr
  clear h hx hr b4 b5
  unfold ndCells at *
  go_enter Tryz.func61, Tryz.ntmps61
  go_wp2_with fail
  refine (Right.calls x A4 c4 A5 c5 okn _ HX.out B4.out B5.out).mono ?_
  rw [HR.out]
  rintro e w2 ⟨rfl, hb⟩
  have HB2 := Aside0.mk hb
  clear hb
  dsimp only
  go_wp2
  go_ret2
  unfold AddQ
  exact ⟨0, 22, T, rfl, .inl ⟨HR.out, rfl, rfl, rfl⟩, (HT.out.below HB2.out).okx _ HG.out, Fr.of_below _ (below_step HB.out HB2.out)⟩
 | true =>
  have HR := Aside0.mk hr
  clear h hx hr b4 b5
  unfold ndCells at *
  go_enter Tryz.func61, Tryz.ntmps61
  go_wp2_with fail
  refine (Right.calls x A4 c4 A5 c5 okn _ HX.out B4.out B5.out).mono ?_
  rw [HR.out]
  rintro e w2 ⟨rfl, hb⟩
  have HB2 := Aside0.mk hb
  have b0 := blk_below (blk_new w (.cells (ndCells x A4 c4 A5 c5) 44)) hb
  clear hb
  dsimp only
  go_wp2_with fail
  refine (Room.calls g ok T _ (HT.out.below HB2.out)).mono ?_
  rintro e w3 ⟨rfl, ⟨nd, rfl⟩⟩
  have B0 := Aside0.mk (blk_drewN b0 nd)
  have HB3 := Aside0.mk (pw_below_drewN (Below.refl w2.heap.size w2) nd)
  generalize w2.drewN nd = w3 at B0 HB3
  clear b0
  dsimp only
  go_wp2
  go_loopg [12] 24 (fun gk i12 wr => ∃ k : Nat, (k : Int) ≤ T.room ∧ i12 = .int .i64 k ∧ 24 ≤ k + gk ∧ Below w3.heap.size w3 wr ∧ ∀ j : Nat, j < k → live T ((j : Int) + 1) = true)
  case atStart => exact ⟨0, by have := R1.out; omega, rfl, Nat.le_refl _, Below.refl _ _, fun j hj => absurd hj (Nat.not_lt_zero _)⟩
  case round =>
   obtain ⟨k, hk, rfl, hgk, hbw, hall⟩ := hrel
   have HA := Aside0.mk hall
   have HW := Aside0.mk hbw
   have HK := Aside0.mk hgk
   clear hall hbw hgk
   by_cases hlt : (k : Int) < T.room
   ·have hk24 : (k : Int) < 24 := by have := R2.out; omega
    obtain ⟨g', rfl⟩ : ∃ g', gk = g' + 1 := ⟨gk - 1, by have := HK.out; omega⟩
    have HTw := Aside0.mk (((HT.out.below HB2.out).below HB3.out).below HW.out)
    cases hl : live T ((k : Int) + 1) with
    | true =>
     have HL := Aside0.mk hl
     clear hl
     go_wp2_with fail
     refine (at_some g ok T ((k : Int) + 1) _ HTw.out HL.out).mono ?_
     rintro e w4 ⟨rfl, ⟨nd4, rfl⟩⟩
     dsimp only
     go_wp2
     go_roundg g'
     case measure => have := HK.out; omega
     case rel => exact ⟨k + 1, by omega, by go_num, by have := HK.out; omega, pw_below_drewN HW.out nd4, fun j hj => by
      by_cases hjk : j = k
      ·subst hjk; exact HL.out
      ·exact HA.out j (by omega)⟩
    | false =>
     have HL := Aside0.mk hl
     clear hl
     go_wp2_with fail
     refine (at_nil g ok T ((k : Int) + 1) _ HTw.out HL.out).mono ?_
     rintro e w4 ⟨rfl, ⟨nd4, rfl⟩⟩
     have HT4 := Aside0.mk (HTw.out.drewN nd4)
     have HW4 := Aside0.mk (pw_below_drewN HW.out nd4)
     generalize wr.drewN nd4 = w4 at HT4 HW4
     have b0 := blk_below B0.out HW4.out
     unfold ndCells at b0
     have p := blk_cell b0
     dsimp only
     go_wp2
     have ne : w.heap.size ≠ g := by have := HG.out; omega
     have hk3 : (k : Int) < 24 := hk24
     have PD := Aside0.mk (fun i => blk_cell (blk_drew b0) i)
     go_region_held3 (fun W => ∀ i, W.cell? ⟨w.heap.size, i, none⟩ = (#[.int .i64 x.kind, .int .i64 x.mode, .int .i64 x.uid, .int .i64 x.gid, .slice A4 x.data.length c4, .slice A5 x.ents.length c5, .string x.target] : Array Value)[i]?)
      (with_reducible first | exact PD.out | exact P5.out | exact far7 ne P5.out _ _ _ _ _ _ _ _ _ _ _ _ _ _)
      (first | (go_at_call 24; refine (own.calls x A4 c4 A5 c5 okn _ ?hn B4.out B5.out).mono ?_; (case hn => exact ((((HX.out.below HB2.out).below HB3.out).below HW4.out).below (below_drew (Below.refl _ _)))); rintro e w5 ⟨C4, d4, C5, d5, rfl, hn, hb⟩; have HN := Aside0.mk hn; have HB5 := Aside0.mk hb; have HT5 := Aside0.mk ((HT4.out.below (below_drew (Below.refl _ _))).below hb); have P5 := Aside0.mk (fun i => blk_cell (blk_below (blk_drew b0) hb) i); clear hn hb; unfold ndCells; obtain ⟨E4, f4, E5, f5, hE, q0, q1, q2, q3, q4, q5, q6⟩ := HT5.out.at7 k (by omega); clear hE; have q7 := HT5.out.frz))
     clear q0 q1 q2 q3 q4 q5 q6 q7 p PD
     go_wp2
     go_ret2
     have hz := Nat.le_trans (below_size (below_step (below_step (below_step HB.out HB2.out) HB3.out) HW4.out)) (Nat.le_refl _)
     unfold AddQ
     exact ⟨(k : Int) + 1, 0, T.setN k x, rfl, .inr (.inr ⟨HR.out, k, hlt, HA.out, HL.out, rfl, rfl, rfl⟩), TabAt.set7 (HT5.out.okx w HG.out) k (by omega) x (HN.out.mono (fun i hi => .inr (Nat.le_trans hz hi))), Fr.set7 (S := (· = g)) (g := g) (Fr.of_below _ (below_step (below_step (below_step (below_step HB.out HB2.out) HB3.out) HW4.out) (below_step (below_drew (Below.refl _ _)) HB5.out))) rfl _ _ _ _ _ _ _ _ _ _ _ _ _ _⟩
   ·have hke : (k : Int) = T.room := by omega
    have HE := Aside0.mk hke
    clear hke
    go_wp2
    go_ret2
    unfold AddQ
    exact ⟨0, 28, T, rfl, .inr (.inl ⟨HR.out, fun j hj => HA.out j (by have := HE.out; omega), rfl, rfl, rfl⟩), (((HT.out.below HB2.out).below HB3.out).below HW.out).okx _ HG.out, Fr.of_below _ (below_step (below_step (below_step HB.out HB2.out) HB3.out) HW.out)⟩
def Tab.drop (T : Tab) (i : Int) : Tab := if live T i = true then T.setN (i.toNat - 1) zN else T
set_option maxHeartbeats 1600000 in
set_option maxRecDepth 100000 in
theorem Drop.calls (g : Nat) (ok : Nat → Prop) (T : Tab) (i : Int) (w : World) (h : TabAt w g ok T) :
  Calls Tryz.prog 126 #[.pointer (some ⟨g, 0, none⟩), .int .i64 i] w fun e w' => e = .returned (.bool (live T i)) ∧ TabAt w' g ok (T.drop i) ∧ Fr (· = g) w w' := by
 have HT := Aside0.mk h
 cases hl : live T i with
 | false =>
  have HL := Aside0.mk hl
  unfold Tab.drop
  rw [hl]
  clear h hl
  go_enter Tryz.func126, Tryz.ntmps126
  go_wp2_with fail
  refine (at_nil g ok T i _ HT.out HL.out).mono ?_
  rintro e w1 ⟨rfl, ⟨nd, rfl⟩⟩
  dsimp only
  go_wp2
  go_ret
  exact ⟨rfl, HT.out.drewN nd, (Fr.refl _ _).drewN nd⟩
 | true =>
  have HL := Aside0.mk hl
  have HI := Aside0.mk (show i.toNat - 1 < 24 by have := (live_lt hl).2; have := h.r2; omega)
  unfold Tab.drop
  rw [hl]
  clear h hl
  go_enter Tryz.func126, Tryz.ntmps126
  go_wp2_with fail
  refine (at_some g ok T i _ HT.out HL.out).mono ?_
  rintro e w1 ⟨rfl, ⟨nd, rfl⟩⟩
  have HT1 := Aside0.mk (HT.out.drewN nd)
  have HF := Aside0.mk ((Fr.refl (· = g) w).drewN nd)
  generalize w.drewN nd = w1 at HT1 HF
  obtain ⟨E4, f4, E5, f5, hE, q0, q1, q2, q3, q4, q5, q6⟩ := HT1.out.at7 _ HI.out
  clear hE
  have q7 := HT1.out.frz
  dsimp only
  go_wp2
  go_ret
  exact ⟨rfl, TabAt.set7 HT1.out _ HI.out zN (NdC.zero _ _), Fr.set7 (S := (· = g)) (g := g) HF.out rfl _ _ _ _ _ _ _ _ _ _ _ _ _ _⟩
def newT (n : Int) : Tab := ⟨if n < 1 then 1 else if 24 < n then 24 else n, List.replicate 24 zN⟩
set_option maxHeartbeats 1600000 in
set_option maxRecDepth 100000 in
theorem each.calls (g : Nat) (ok : Nat → Prop) (T : Tab) (F : Nat) (caps : Array Value) (J : World → Prop) (w : World) (eg : ∀ args w, (callFunc F args).run Tryz.prog w = .ok (.enter F args) w)
  (hT : ∀ W, J W → TabAt W g ok T) (hd : ∀ W n, J W → J (W.drewN n))
  (hf : ∀ W (i : Nat), i < 24 → live T ((i : Int) + 1) = true → J W → Calls Tryz.prog F (#[.int .i64 ((i : Int) + 1), .pointer (some ⟨g, 1 + i * 7, none⟩)] ++ caps) W fun e w' => e = .returned (.tuple #[]) ∧ J w') (h : J w) :
  Calls Tryz.prog 247 #[.pointer (some ⟨g, 0, none⟩), .func (.func F) #[] caps] w fun e w' => e = .returned (.tuple #[]) ∧ J w' := by
 have HT := Aside0.mk hT
 have HD := Aside0.mk hd
 have HF := Aside0.mk hf
 have HJ := Aside0.mk h
 have R1 := Aside0.mk (hT w h).r1
 have R2 := Aside0.mk (hT w h).r2
 clear hT hd hf h
 go_enter Tryz.func247, Tryz.ntmps247
 go_wp2_with fail
 refine (Room.calls g ok T _ (HT.out w HJ.out)).mono ?_
 rintro e w1 ⟨rfl, ⟨nd, rfl⟩⟩
 have HJ1 := Aside0.mk (HD.out w nd HJ.out)
 generalize w.drewN nd = w1 at HJ1
 dsimp only
 go_wp2
 go_loopg [8] 24 (fun gk i8 wr => ∃ k : Nat, (k : Int) ≤ T.room ∧ i8 = .int .i64 k ∧ 24 ≤ k + gk ∧ J wr)
 case atStart => exact ⟨0, by have := R1.out; omega, rfl, Nat.le_refl _, HJ1.out⟩
 case round =>
  obtain ⟨k, hk, rfl, hgk, hj⟩ := hrel
  have HW := Aside0.mk hj
  have HK := Aside0.mk hgk
  clear hgk hj
  by_cases hlt : (k : Int) < T.room
  ·have hk24 : (k : Int) < 24 := by have := R2.out; omega
   obtain ⟨g', rfl⟩ : ∃ g', gk = g' + 1 := ⟨gk - 1, by have := HK.out; omega⟩
   cases hl : live T ((k : Int) + 1) with
   | true =>
    have HL := Aside0.mk hl
    clear hl
    go_wp2_with fail
    refine (at_some g ok T ((k : Int) + 1) _ (HT.out _ HW.out) HL.out).mono ?_
    rintro e w4 ⟨rfl, ⟨nd4, rfl⟩⟩
    have HW4 := Aside0.mk (HD.out _ nd4 HW.out)
    generalize wr.drewN nd4 = w4 at HW4
    dsimp only
    go_wp2_with fail
    refine (HF.out _ k (by omega) HL.out HW4.out).mono ?_
    rintro e w5 ⟨rfl, hj5⟩
    have HW5 := Aside0.mk hj5
    clear hj5
    dsimp only
    go_wp2
    go_roundg g'
    case measure => have := HK.out; omega
    case rel => exact ⟨k + 1, by omega, by go_num, by have := HK.out; omega, HW5.out⟩
   | false =>
    have HL := Aside0.mk hl
    clear hl
    go_wp2_with fail
    refine (at_nil g ok T ((k : Int) + 1) _ (HT.out _ HW.out) HL.out).mono ?_
    rintro e w4 ⟨rfl, ⟨nd4, rfl⟩⟩
    have HW4 := Aside0.mk (HD.out _ nd4 HW.out)
    generalize wr.drewN nd4 = w4 at HW4
    dsimp only
    go_wp2
    go_roundg g'
    case measure => have := HK.out; omega
    case rel => exact ⟨k + 1, by omega, by go_num, by have := HK.out; omega, HW4.out⟩
  ·go_wp2
   go_end0
   exact ⟨rfl, HW.out⟩
end Go.Proofs.YtbjhcjgniciooaaGreatDoor.G
namespace Go.Proofs.YtbjhcjgniciooaaGreatDoor.G
open Go.RowKit Go.Proofs.YtbjhcjgniciooaaGreatDoorW.PrintWords Go.Proofs.YtbjhcjgniciooaaGreatDoorW.PrintLast Go.Proofs.YtbjhcjgniciooaaGreatDoorW.PrintMore
attribute [local go_sem] max2_int min2_int max_two min_two
set_option linter.unusedVariables false
set_option linter.unusedSimpArgs false
theorem enters {F : Nat} {fn : Func} (hf : Tryz.prog.funcs[F]? = some fn) (hn : (fn.name == "runtime.NumGoroutine") = false) (hb : fn.body.isSome = true) : ∀ args w, (callFunc F args).run Tryz.prog w = .ok (.enter F args) w := fun args w => enters_ hf hn hb args w
structure EntJ (w : World) (g : Nat) (ok : Nat → Prop) (T : Tab) (c b4 b5 : Nat) (i : Int) (F : Nat) (caps : Array Value) (W : World) : Prop where
 tab : TabAt W g ok T
 x4 : W.heap[b4]? = some (.cells #[.int .i64 i] 3 (0, 0))
 x5 : W.heap[b5]? = some (.cells #[.func (.func F) #[] caps] 248 (0, 0))
 xc : ∃ n : Int, W.heap[c]? = some (.cells #[.int .i64 n] 3 (0, 0))
 fr : Fr (· = c) w W
section
variable {w : World} {g : Nat} {ok : Nat → Prop} {T : Tab} {c b4 b5 : Nat} {i : Int} {F : Nat} {caps : Array Value} {W W1 : World}
theorem EntJ.set (h : EntJ w g ok T c b4 b5 i F caps W) (hg : c ≠ g) (ho : ¬ ok c) (h4 : b4 ≠ c) (h5 : b5 ≠ c) (n : Int) : EntJ w g ok T c b4 b5 i F caps (W.setCell ⟨c, 0, none⟩ (.int .i64 n)) := by
 have f : Fr (· = c) W (W.setCell ⟨c, 0, none⟩ (.int .i64 n)) := Fr.set (S := (· = c)) (g := c) (Fr.refl _ _) (.inl rfl) _ _
 obtain ⟨m, hm⟩ := h.xc
 exact ⟨h.tab.fr f (fun e => hg e.symm) (fun k hk e => ho (e ▸ hk)), f.blk h.x4 h4, f.blk h.x5 h5, ⟨n, blk_put hm 0 _ rfl⟩, Fr.set (S := (· = c)) (g := c) h.fr (.inl rfl) _ _⟩
end
theorem set_same {W : World} {c : Nat} {n : Int} (h : W.heap[c]? = some (.cells #[.int .i64 n] 3 (0, 0))) : W = W.setCell ⟨c, 0, none⟩ (.int .i64 n) := by
 have e : (W.setCell ⟨c, 0, none⟩ (.int .i64 n)).heap = W.heap := by
  apply Array.ext_getElem?
  intro i
  by_cases hi : i = c
  ·subst hi
   rw [blk_put h 0 _ rfl, h]; rfl
  ·exact Below.heap_setCell W _ _ i hi
 calc W = { W with heap := W.heap } := rfl
  _ = { W with heap := (W.setCell ⟨c, 0, none⟩ (.int .i64 n)).heap } := by rw [e]
  _ = _ := rfl
def IntQ (w : World) (e : Ending) (w' : World) : Prop := ∃ n : Int, e = .returned (.int .i64 n) ∧ Below w.heap.size w w'
theorem NdC.bound {W : World} {ok : Nat → Prop} {x : Nd} {A4 A5 : Option Addr} {c4 c5 : Nat} (h : NdC W ok x A4 c4 A5 c5) : NdC W (fun k => ok k ∧ k < W.heap.size) x A4 c4 A5 c5 := ⟨h.l4, Kd.F_bound h.f4, h.l5, Kd.F_bound h.f5⟩
theorem TabAt.bound {W : World} {g : Nat} {ok : Nat → Prop} {T : Tab} (h : TabAt W g ok T) : TabAt W g (fun k => ok k ∧ k < W.heap.size) T := by
 obtain ⟨r1, r2, len, ⟨cells, hz, hb, h0, hn⟩, out⟩ := h
 refine ⟨r1, r2, len, ⟨cells, hz, hb, h0, fun i hi => ?_⟩, fun k hk => out k hk.1⟩
 obtain ⟨A4, c4, A5, c5, hN, hc⟩ := hn i hi
 exact ⟨A4, c4, A5, c5, hN.bound, hc⟩
/-- A counter of the call's own, in a new block. -/
abbrev cnt (w : World) : World := w.alloc (.cells #[.int .i64 0] 3)
theorem cnt_below (w : World) : Below w.heap.size w (cnt w) := below_alloc (Below.refl _ _) _
theorem cnt_blk (w : World) : (cnt w).heap[w.heap.size]? = some (.cells #[.int .i64 0] 3 (0, 0)) := blk_new w _
theorem fr_cnt {w W : World} (h : Fr (· = w.heap.size) (cnt w) W) : Below w.heap.size w W := (cnt_below w).trans (h.below (by have := (cnt_below w).size; omega) (fun k hk => by rw [hk]; exact Nat.le_refl _))
end Go.Proofs.YtbjhcjgniciooaaGreatDoor.G
namespace Go.Proofs.YtbjhcjgniciooaaGreatDoor.E
open Go.Proofs.YtbjhcjgniciooaaGreatDoor.G (TabAt Tab Nd live zN rightN)
set_option linter.unusedVariables false
set_option linter.unusedSimpArgs false
/-! ### What a step may make of a table -/
abbrev Q4 := Int × Int × Int × Int
/-- A mode that lost set user or set group, if any. -/
def weak (k m m' : Int) : Prop := m'.toNat ||| 3072 = m.toNat ||| 3072 ∧ m'.toNat ||| m.toNat = m.toNat ∧ (m' = m ∨ k = 1)
theorem weak.refl (k m : Int) : weak k m m := ⟨rfl, Nat.or_self _, .inl rfl⟩
theorem weak.trans {k a b c : Int} (h : weak k a b) (g : weak k b c) : weak k a c := by
 obtain ⟨h1, h2, h3⟩ := h
 obtain ⟨g1, g2, g3⟩ := g
 refine ⟨g1.trans h1, ?_, ?_⟩
 ·rw [← h2, ← Nat.or_assoc, g2]
 ·rcases g3 with rfl | g3
  ·exact h3
  ·exact .inr g3
def rlU (U : Int → Prop) (o n : Q4) : Prop := U o.2.2.1 ∨ (n.2.2.1 = o.2.2.1 ∧ n.1 = o.1 ∧ n.2.2.2 = o.2.2.2 ∧ weak o.1 o.2.1 n.2.1)
def quad (x : Nd) : Q4 := (x.kind, x.mode, x.uid, x.gid)
def RightZ (x : Nd) : Prop := (x = zN ∨ rightN x = true) ∧ (∀ b ∈ x.data, 0 ≤ b ∧ b ≤ 255) ∧ ∀ e ∈ x.ents, e.name.size ≤ 12 ∧ IntKind.i64.min ≤ e.node ∧ e.node ≤ IntKind.i64.max
def TabI (E : Env) (w : World) (k : Nat) (T : Tab) : Prop := TabAt w k (fun b => E.A b ∧ b ≠ k) T ∧ ∀ i, i < 24 → RightZ (T.nd i)
def LawT (U : Int → Prop) (f : Int → Option Q4) (T : Tab) : Prop := U 0 ∨ ∀ i old, f i = some old → live T i = true → rlU U old (quad (T.nd (i.toNat - 1)))
/-- Blocks that lie as they lay. -/
def Snap (E : Env) (w : World) (k : Nat) (s : Nat → Option Obj) : Prop := ∀ i o, s i = some o → E.A i ∧ i ≠ k ∧ w.heap[i]? = some o
theorem Snap.st {E : Env} {w w' : World} {k : Nat} {s : Nat → Option Obj} (h : Snap E w k s) (a : AgrA E w w') : Snap E w' k s := fun i o hi => let ⟨a1, a2, a3⟩ := h i o hi; ⟨a1, a2, (a i a1).trans a3⟩
theorem Snap.ext {E E' : Env} {w : World} {k : Nat} {s : Nat → Option Obj} (h : Snap E w k s) (a : ∀ i, E.A i → E'.A i) : Snap E' w k s := fun i o hi => let ⟨a1, a2, a3⟩ := h i o hi; ⟨a i a1, a2, a3⟩
def tO (E : Env) (τ : Nat) (w : World) (k : Nat) : Prop := ∃ f T, E.T0 = some (k, f) ∧ E.A k ∧ TabI E w k T ∧ LawT E.U f.1 T ∧ Snap E w k f.2
def tF (E : Env) (t : Nat) (w : World) (vs : List Value) : Prop :=
 match t with
 | 0 => ∃ n, vs = [.int .i64 n] ∧ E.U n
 | 1 => ∃ k m m', vs = [.int .i64 k, .int .i64 m, .int .i64 m'] ∧ weak k m m'
 | 4 => E.U 0 ∨ ∃ i k m u g, vs = [.int .i64 i, .int .i64 k, .int .i64 m, .int .i64 u, .int .i64 g] ∧ ((k = 0 ∧ u = 0) ∨ ∀ tb f old, E.T0 = some (tb, f) → f.1 i = some old → rlU E.U old (k, m, u, g))
 | 7 => E.U 0 ∨ ∃ i, vs = [.int .i64 i] ∧ ∀ tb f old, E.T0 = some (tb, f) → f.1 i = some old → E.U old.2.2.1
 | 13 => vs = [] ∧ ∃ tb f T, E.T0 = some (tb, f) ∧ E.A tb ∧ TabI E w tb T ∧ ∀ i old, f.1 i = some old → live T i = true
 | _ => False
abbrev factT := @tF
theorem TabI.st {E : Env} {w w' : World} {k : Nat} {T : Tab} (h : TabI E w k T) (hk : E.A k) (a : AgrA E w w') : TabI E w' k T := ⟨h.1.step (a k hk) (fun i hi _ => a i hi.1), h.2⟩
theorem TabI.ext {E E' : Env} {w : World} {k : Nat} {T : Tab} (h : TabI E w k T) (a : ∀ i, E.A i → E'.A i) : TabI E' w k T := ⟨h.1.mono (fun i hi => ⟨a i hi.1, hi.2⟩) (fun i hi => hi.2), h.2⟩
theorem tF_to {E E' : Env} {t : Nat} {w w' : World} {vs : List Value} (hU : E'.U = E.U) (hT : E'.T0 = E.T0) (h13 : t = 13 → tF E t w vs → tF E' t w' vs) (h : tF E t w vs) : tF E' t w' vs := by
 unfold tF at h ⊢
 split at h
 ·rw [hU]; exact h
 ·exact h
 ·rw [hU, hT]; exact h
 ·rw [hU, hT]; exact h
 ·have := h13 rfl h
  unfold tF at this
  exact this
 ·exact h.elim
theorem tF_13 {E E' : Env} {w w' : World} {vs : List Value} (hT : E'.T0 = E.T0) (hA : ∀ i, E.A i → E'.A i) (a : AgrA E w w') (h : tF E 13 w vs) : tF E' 13 w' vs := by
 obtain ⟨h1, tb, f, T, h2, h3, h4, h5⟩ := h
 exact ⟨h1, tb, f, T, by rw [hT]; exact h2, hA _ h3, (h4.st h3 a).ext hA, h5⟩
theorem kty_opq (τ : Nat) (h : (kty τ).isOpq = true) : τ = 0 := by
 unfold kty at h
 split at h <;> first | rfl | (simp [HTy.isOpq, o1, rw1] at h)
def clrB (c m : Nat) : Bool := let m' := (BitVec.ofInt 64 (m : Int) &&& ~~~BitVec.ofInt 64 (c : Int)).toNat
 Nat.beq (m' ||| 3072) (m ||| 3072) && Nat.beq (m' ||| m) m && Nat.ble m' 4095
theorem clr_tab : ((List.range 4096).all fun m => clrB 2048 m && clrB 1024 m) = true := by decide +kernel
theorem clr_weak {m c : Int} (h0 : 0 ≤ m) (h1 : m ≤ 4095) (hc : c = 2048 ∨ c = 1024) : weak 1 m (IntKind.i64.wrap (BitVec.ofInt 64 m &&& ~~~BitVec.ofInt 64 c).toNat) := by
 obtain ⟨n, rfl⟩ := Int.eq_ofNat_of_zero_le h0
 have t := List.all_eq_true.1 clr_tab n (List.mem_range.2 (by omega))
 simp only [Bool.and_eq_true] at t
 have hb : ∃ d : Nat, c = (d : Int) ∧ clrB d n = true := by
  rcases hc with rfl | rfl
  ·exact ⟨2048, rfl, t.1⟩
  ·exact ⟨1024, rfl, t.2⟩
 obtain ⟨d, rfl, hb⟩ := hb
 unfold clrB at hb
 simp only [Bool.and_eq_true, Nat.beq_eq] at hb
 obtain ⟨⟨b1, b2⟩, b3⟩ := hb
 have b3 := Nat.le_of_ble_eq_true b3
 rw [wrap_in .i64 _ (by show (-9223372036854775808 : Int) ≤ _; omega) (by show _ ≤ (9223372036854775807 : Int); omega)]
 exact ⟨by simpa using b1, by simpa using b2, .inr rfl⟩
/-- The kinds, with what is asked of the table. -/
def htT : Th where
 ty := kty
 O := tO
 F := tF
 O_st := fun ⟨f, T, h1, h2, h3, h4, h5⟩ a => ⟨f, T, h1, h2, h3.st h2 a, h4, h5.st a⟩
 O_ext := fun e ⟨f, T, h1, h2, h3, h4, h5⟩ => ⟨f, T, by rw [e.T0]; exact h1, e.A _ h2, h3.ext e.A, by rw [e.U]; exact h4, h5.ext e.A⟩
 O_ren := fun hA hU hT ⟨f, T, h1, h2, h3, h4, h5⟩ => ⟨f, T, by rw [hT]; exact h1, by rw [hA]; exact h2, h3.ext (fun i hi => by rw [hA]; exact hi), by rw [hU]; exact h4, h5.ext (fun i hi => by rw [hA]; exact hi)⟩
 F_st := fun h a => tF_to rfl rfl (fun e h => by subst e; exact tF_13 rfl (fun _ h => h) a h) h
 F_ext := fun e h => tF_to e.U e.T0 (fun e' h => by subst e'; exact tF_13 e.T0 e.A (AgrA.refl _ _) h) h
 F_ren := fun hA hU hT h => tF_to hU hT (fun e' h => by subst e'; exact tF_13 hT (fun i hi => by rw [hA]; exact hi) (AgrA.refl _ _) h) h
 F_pure := fun ht h => tF_to rfl rfl (fun e _ => by omega) h
 opq0 := kty_opq
 F_uid := ⟨fun ⟨n, e, h⟩ => by injection e with e; injection e with _ e; rw [e]; exact h, fun h => ⟨_, rfl, h⟩⟩
 F_mine := fun {E w i k m u g} h4 ⟨n, e, h⟩ => by
  rcases h4 with h4 | ⟨i', k', m', u', g', e4, h4⟩
  ·exact .inl h4
  ·injection e with e
   simp only [List.cons.injEq, and_true] at e4
   obtain ⟨rfl, rfl, rfl, e5, rfl⟩ := e4
   rw [e] at e5
   injection e5 with _ e5
   subst e5
   rcases h4 with ⟨_, rfl⟩ | h4
   ·exact .inl h
   ·refine .inr ⟨i', rfl, fun tb f old h1 h2 => ?_⟩
    rcases h4 tb f old h1 h2 with h5 | ⟨h5, _⟩
    ·exact h5
    ·rw [← h5]; exact h
 F_root := fun ⟨n, e, h⟩ ht => by
  injection e with e
  injection e with _ e
  subst e
  rcases ht with rfl | rfl
  ·exact .inl h
  ·exact .inl h
 F_rfl := ⟨_, _, _, rfl, weak.refl _ _⟩
 F_seq := fun ⟨k1, a1, b1, e1, h1⟩ ⟨k2, b2, c2, e2, h2⟩ => by
  simp only [List.cons.injEq, and_true] at e1 e2
  obtain ⟨rfl, rfl, rfl⟩ := e1
  obtain ⟨e3, e4, rfl⟩ := e2
  injection e3 with _ e3
  injection e4 with _ e4
  subst e3; subst e4
  exact ⟨_, _, _, rfl, h1.trans h2⟩
 F_clr := fun h0 h1 hc => ⟨_, _, _, rfl, clr_weak h0 h1 hc⟩
 F_put := fun {E w i k m u g m'} h4 ⟨k1, m1, m2, e1, hw⟩ => by
  rcases h4 with h4 | ⟨i', k', m'', u', g', e4, h4⟩
  ·exact .inl h4
  ·simp only [List.cons.injEq, and_true] at e1 e4
   obtain ⟨rfl, rfl, rfl⟩ := e1
   obtain ⟨rfl, e5, e6, rfl, rfl⟩ := e4
   injection e5 with _ e5
   injection e6 with _ e6
   subst e5; subst e6
   refine .inr ⟨i', k1, m2, u', g', rfl, ?_⟩
   rcases h4 with h4 | h4
   ·exact .inl h4
   ·refine .inr fun tb f old h1 h2 => ?_
    rcases h4 tb f old h1 h2 with h5 | ⟨h5, h6, h7, h8⟩
    ·exact .inl h5
    ·exact .inr ⟨h5, h6, h7, h8.trans (by rw [← h6]; exact hw)⟩
noncomputable def CT0 (rk : Nat → Option Nat) : Cx := cx htT [64, 378, 209] rk
noncomputable def FT0 : Fx := fx mtL mtvL extA
theorem CT0_ok (rk : Nat → Option Nat) : CxOk (CT0 rk) := cx_ok htT rk (by decide +kernel)
theorem FT0_ok (rk : Nat → Option Nat) : FxOk (CT0 rk) FT0 := fx_ok htT _ rk
end Go.Proofs.YtbjhcjgniciooaaGreatDoor.E
namespace Go.Proofs.YtbjhcjgniciooaaGreatDoor.E
open Go.RowKit Go.Proofs.YtbjhcjgniciooaaGreatDoorW.PrintWords Go.Proofs.YtbjhcjgniciooaaGreatDoorW.PrintLast Go.Proofs.YtbjhcjgniciooaaGreatDoorW.PrintMore
set_option linter.unusedVariables false
set_option linter.unusedSimpArgs false
/-! ### Two of the library's functions, by hand -/
section
variable {HT : Th} {E : Env} {st : St} {r w w' : World}
theorem M.below (h : M HT E st w) (hb : Below w.heap.size w w') : M HT E st w' := by
 have ag : AgrA E w w' := fun i hi => hb.block i (h.an i (.inl hi))
 refine ⟨h.nx, h.g, h.cs, h.vt, h.vs, fun b z hz => ?_, h.inj, fun k τ n hk ht => ?_, fun k t hk => ?_, fun k hk => ?_, h.bt, h.born, h.md, h.op, facts_world h.gh ag⟩
 ·obtain ⟨h1, h2⟩ := h.bk b z hz
  exact ⟨h1.agree (fun hs => hb.block _ (h1.lt hs)), h2⟩
 ·rcases h.heap k τ n hk ht with hk' | hk'
  ·exact .inl hk'
  ·exact .inr (hk'.agree (fun _ => hb.block _ (h.dom k _ hk).1) ag)
 ·have := h.dom k t hk
  exact ⟨Nat.lt_of_lt_of_le this.1 hb.size, this.2⟩
 ·exact Nat.lt_of_lt_of_le (h.an k hk) hb.size
theorem Ref.below (h : Ref E st r w) (hb : Below w.heap.size w w') : Ref E st r w' := by
 have blk : ∀ k, k < r.heap.size → w'.heap[k]? = w.heap[k]? := fun k hk => hb.block k (Nat.lt_of_lt_of_le hk h.size)
 exact ⟨hb.os.trans h.os, hb.tape.trans h.tape, hb.output.trans h.output, Nat.le_trans h.size hb.size, fun hw k hk h1 h2 h3 => (blk k hk).trans (h.blk hw k hk h1 h2 h3), fun h0 k hk ha => (blk k hk).trans (h.agr h0 k hk ha), fun k hk hp => (blk k hk).trans (h.frn k hk hp)⟩
end
def handA (id : Nat) (st : St) (args : List AV) : Outs :=
 match args with
 | [a, .str l] => if Nat.beq id 162 && l == [47, 0] then match slen a with
   | some n => if st.ge ((Lin.k 4294967280).sub n) then some [(.cond (.ge ((Lin.v st.nx).addk (-1))), st.newI (.k 0) (.k 1))] else none
   | none => none
  else none
 | [.str l, .int .i32 e] => if Nat.beq id 267 && l.all (fun b => Nat.blt b 128) && Nat.blt l.length 1000 && st.ge e && st.ge ((Lin.k 1114111).sub e) then some [(.int .i64 (.v st.nx), st.newI (.k (-1)) (.k (l.length - 1)))] else none
 | _ => none
def handH (F : Fx) : Callee := fun id st args => if (F.fn id).isSome then handA id st args else none
theorem idx_range (l : List UInt8) (c : UInt8) : -1 ≤ Lib.indexByte l c ∧ Lib.indexByte l c ≤ (l.length : Int) - 1 := by
 induction l with
 | nil => exact ⟨Int.le_refl _, Int.le_refl _⟩
 | cons b l ih =>
  unfold Lib.indexByte
  simp only [List.length_cons]
  repeat' split
  all_goals (first | omega | (push_cast; omega) | (constructor <;> omega))
theorem handH_ok (C : Cx) (hP : C.P = Tryz.prog) {F : Fx} : CallOk C F (handH F) := by
 intro id st args outs ho
 unfold handH at ho
 split at ho
 case isFalse => cases ho
 rename_i hf
 refine ⟨Option.isSome_iff_exists.1 hf, fun E w r vs m hr hv => ?_⟩
 rw [hP]
 unfold handA at ho
 split at ho
 ·rename_i a l
  split at ho
  case isFalse => cases ho
  rename_i hc
  simp only [Bool.and_eq_true, Nat.beq_eq, beq_iff_eq] at hc
  obtain ⟨rfl, rfl⟩ := hc
  split at ho
  case h_2 => cases ho
  rename_i n hn
  split at ho
  case isFalse => cases ho
  rename_i hg
  injection ho with ho; subst ho
  obtain ⟨v, r1, e1, h1, u, r2, e2, h2, h3⟩ := hv
  have ev : vs = #[v, u] := by rw [← Array.toArray_toList (xs := vs), e1, e2, show r2 = [] from h3]
  obtain ⟨s, rfl, hs, _⟩ := slen_ok h1 hn
  obtain ⟨t, rfl, ht⟩ := h2
  have hg := m.ge hg
  rw [Lin.ev_sub, Lin.ev_k, ← hs] at hg
  have ht' : t.data = #[47, 0] := by
   have : t.data.toList = [47, 0] := by
    have inj : ∀ (a b : List UInt8), a.map UInt8.toNat = b.map UInt8.toNat → a = b := fun a => by
     induction a with
     | nil => intro b h; cases b with | nil => rfl | cons _ _ => cases h
     | cons x a ih => intro b h; cases b with | nil => cases h | cons y b => simp only [List.map_cons, List.cons.injEq] at h; rw [UInt8.toNat_inj.1 h.1, ih b h.2]
    exact inj _ [47, 0] ht
   rw [← Array.toArray_toList (xs := t.data), this]
  subst ev
  refine (G.strings_ContainsAny.calls s t (G.anyOf s) w (by unfold G.strings_ContainsAny.f; rw [if_pos ⟨ht', by omega⟩])).mono ?_
  rintro e w' ⟨rfl, hb⟩
  have m' := m.below hb
  have u := Up.newI m' (if G.anyOf s then 1 else 0) (lo := .k 0) (hi := .k 1) (by simp; split <;> decide) (by simp; split <;> decide) (below_k _ _) (below_k _ _)
  refine ⟨_, List.mem_cons_self .., _, u.ext, u.m, u.ref m' (hr.below hb), ?_⟩
  rw [← m.nx]
  refine ⟨?_, below_addk (below_v (Nat.lt_succ_self _)) _⟩
  simp only [Cnd.holds, Lin.ev_addk, Lin.ev_v, Env.fr_ρ]
  cases G.anyOf s <;> rfl
 ·rename_i l e
  split at ho
  case isFalse => cases ho
  rename_i hc
  simp only [Bool.and_eq_true, Nat.beq_eq, Nat.blt_eq] at hc
  obtain ⟨⟨⟨⟨rfl, hasc⟩, hlen⟩, g1⟩, g2⟩ := hc
  injection ho with ho; subst ho
  obtain ⟨v, r1, e1, h1, u, r2, e2, h2, h3⟩ := hv
  have ev : vs = #[v, u] := by rw [← Array.toArray_toList (xs := vs), e1, e2, show r2 = [] from h3]
  obtain ⟨s, rfl, hs⟩ := h1
  obtain ⟨rfl, hbe, _⟩ := h2
  have g1 := m.ge g1
  have g2 := m.ge g2
  rw [Lin.ev_sub, Lin.ev_k] at g2
  have hsz : s.data.toList.length = l.length := by rw [← hs]; simp
  have hsz2 : s.size = l.length := by rw [← hsz, Array.length_toList]; rfl
  have hA : G.isAscii s = true := by
   unfold G.isAscii
   rw [List.all_eq_true]
   intro b hb
   rw [← hs, List.all_map, List.all_eq_true] at hasc
   have := hasc b hb
   simp only [Function.comp, Nat.blt_eq] at this
   simpa using this
  subst ev
  refine (G.strings_IndexRune.calls s (e.ev E.ρ) _ w (by unfold G.strings_IndexRune.f; rw [if_pos ⟨hA, by omega, by omega, by omega⟩])).mono ?_
  rintro e' w' ⟨rfl, hb⟩
  have m' := m.below hb
  have rg : -1 ≤ G.idxRune s (e.ev E.ρ) ∧ G.idxRune s (e.ev E.ρ) ≤ (l.length : Int) - 1 := by
   unfold G.idxRune
   split
   ·have := idx_range s.data.toList (e.ev E.ρ).toNat.toUInt8
    rw [hsz] at this; exact this
   ·omega
  have u := Up.newI m' (G.idxRune s (e.ev E.ρ)) (lo := .k (-1)) (hi := .k (l.length - 1)) (by rw [Lin.ev_k]; exact rg.1) (by rw [Lin.ev_k]; exact rg.2) (below_k _ _) (below_k _ _)
  refine ⟨_, List.mem_cons_self .., _, u.ext, u.m, u.ref m' (hr.below hb), ?_⟩
  rw [← m.nx]
  exact ⟨by simp, below_v (Nat.lt_succ_self _), by simp only [Lin.ev_v, Env.fr_ρ]; show (-9223372036854775808 : Int) ≤ _; omega, by simp only [Lin.ev_v, Env.fr_ρ]; show _ ≤ (9223372036854775807 : Int); omega⟩
 ·cases ho
/-- The one, or else the other. -/
def orH (a b : Callee) : Callee := fun id st args => match a id st args with
 | some o => some o
 | none => b id st args
theorem orH_ok {C : Cx} {F : Fx} {a b : Callee} (ha : CallOk C F a) (hb : CallOk C F b) : CallOk C F (orH a b) := by
 intro id st args outs ho
 unfold orH at ho
 split at ho
 ·rename_i o h
  injection ho with ho; subst ho
  exact ha id st args _ h
 ·exact hb id st args _ ho
end Go.Proofs.YtbjhcjgniciooaaGreatDoor.E
namespace Go.Proofs.YtbjhcjgniciooaaGreatDoor.E.Kt
set_option linter.unusedVariables false
/-! ### What each function asks and tells -/
def bSl (t : Nat) : CT := .sl t 0 ⟨0, 0, 250000000000⟩
def mkC (id : Nat) (args : List CT) (posts : List Pst) (fp tm : List Nat := []) (pre : List Lin := []) (gr : Nat × Nat × Nat := (0, 0, 0)) : Con := ⟨id, args, pre, [], fp, tm, if gr.1 == 0 then 30000 else if gr.1 == 1 then 28000 else 25000, if gr.1 == 0 then 600000000 else if gr.1 == 1 then 590000000 else 550000000, gr.1, gr.2.1, gr.2.2, posts⟩
def gF : Nat × Nat × Nat := (1, 0, 0)
def gN : Nat × Nat × Nat := (2, 0, 50100)
def ps (res : List CT) (rel : List Lin := []) (facts : List (Nat × List Nat) := []) : Pst := ⟨res, rel, facts⟩
def cB (lo hi : Int) : CT := .int .i64 lo hi
def ag (l : List CT) : CT := .agg (cL l)
def cRes : CT := ag cResult
def cAny : CT := ag [cI, cP, cP, cI, cI, cSl 5]
def callPosts : List Pst := [ps [cAny, .bool]]
def copyPosts : List Pst := callPosts
def lowG (K : Con) : Con := { K with gm := 25000, hm := 550000000 }
def k87 : Con := mkC 87 [cS] [ps [cI, cI]]
def k85 : Con := mkC 85 [cS] [ps [cI, .bool]]
def k341 : Con := mkC 341 [.ptr 418 true, cRes] copyPosts [418, 1005, 1009] [418]
def sB (a c b : Nat) : CT := .str 0 ⟨a, c, b⟩
def k212 : Con := mkC 212 [cS] [ps [cStrs] [⟨0, [(0, 1), (1, -1)]⟩]] [1009] []
def k313 : Con := mkC 313 [cS] [ps [cS]] [1009] []
def k312 : Con := mkC 312 [cS, cS] [ps [sB 28 0 4001] [⟨1, [(0, 1), (1, 1), (2, -1)]⟩]] [] []
def gg (n : Nat) : Nat × Nat × Nat := (n, 0, 0)
def hC (n : Nat) (id : Nat) : Con := mkC id [.ptr 294 false, cRes] callPosts [294, 418, 1209, 1009, 1005, 3009] [294, 418, 1209] [] (gg n)
def k282 : Con := mkC 282 [.ptr 294 false] callPosts [294, 1009] [294]
def k328 : Con := mkC 328 [.ptr 294 false, cP, cI] callPosts [1209, 294, 1009] [294, 1209] [] gF
def cmdFp : List Nat := [270, 288, 294, 298, 337, 332, 328, 1268, 295, 418, 1209, 1009, 1005, 3009, 7009, 1369, 1378, 65, 4, 5]
def cmdTm : List Nat := [270, 288, 294, 295, 298, 337, 332, 328, 1268, 418, 1209, 1009, 3009]
def cmdK (id τ : Nat) : Con := mkC id [.ptr τ false, cRes] callPosts cmdFp cmdTm [] gN
def k389 : Con := cmdK 389 294
def hF (n : Nat) (id : Nat) : Con := mkC id [.ptr 298 false, cRes] callPosts [298, 295, 418, 1209, 1009, 1005, 3009] [298, 295, 418, 1209] [] (gg n)
def k283 : Con := mkC 283 [.ptr 298 false] callPosts [298, 1009] [298]
def k330 : Con := mkC 330 [.ptr 298 false, cP, cI] callPosts [1209, 298, 1009] [298, 1209] [] gF
def k390 : Con := cmdK 390 298
def hM (n : Nat) (id : Nat) : Con := mkC id [.ptr 288 false, cRes] callPosts [288, 1209, 1009, 1005, 3009, 1369, 1378] [288, 1209, 1009] [] (gg n)
def k235 : Con := mkC 235 [.ptr 288 false] callPosts [288, 1009] [288, 1009]
def k388 : Con := cmdK 388 288
def bF : List Nat := [1209, 1009, 1005, 3009, 7009, 1369, 1378, 65, 4, 5]
def hD (n : Nat) (id : Nat) : Con := mkC id [.ptr 270 false, cRes] callPosts (bF ++ [270, 332, 328, 1268]) [270, 332, 328, 1268, 1209, 3009] [] (gg n)
def k386 : Con := cmdK 386 270
def wk : CT := .ptr 332 true
def k271 : Con := mkC 271 [wk] [ps [ag cItem, .bool]] [332, 1268] [332, 1268]
def k303 : Con := mkC 303 [wk, ag cStat] [ps [.bool]] [332, 328] [332, 328]
def k338 : Con := mkC 338 [.fn false (fL [(346, [], [.ptr 65 false])])] [ps [.sl 7009 0 ⟨0, 0, 8⟩]] [65, 3009, 7009] []
def k333 : Con := mkC 333 [wk, cNames] [ps []] [332, 1268, 3009, 7009, 65, 1009, 4, 5] [332, 1268, 3009] [] gF
def k279 : Con := mkC 279 [cI, cI] [ps [cI]] [] []
def k280 : Con := mkC 280 [ag [cU8, cI, cI], cI, .bool] [ps [cI]] [] []
def k278 : Con := mkC 278 [cSl 369] [ps [.bool]] [1369, 1378] []
def k236 : Con := mkC 236 [cSl 369, cI, .bool, cI] [ps [cI]] [1369, 1378] []
def hO (n : Nat) (id : Nat) : Con := mkC id [.ptr 337 false, cRes] callPosts (bF ++ [337, 332, 328, 1268]) [337, 332, 328, 1268, 1209, 3009] [] (gg n)
def k387 : Con := cmdK 387 337
def cCmd (n : Bool) : CT := .iface n (iL [(143, .agg (cL [.ptr 141 false, cI])), (198, .ptr 270 false), (200, .ptr 337 false), (202, .ptr 288 false), (204, .ptr 294 false), (206, .ptr 298 false)])
def k35 : Con := lowG <| mkC 35 [cI, cStrs] [ps [cCmd false]] [88, 1009, 1209, 141, 270, 337, 288, 294, 298, 332, 328, 1268, 1369, 1378, 295, 418, 1334, 5, 4, 1005] [1209, 1009, 1334, 1369, 1378, 1268]
def nextTm : List Nat := [1003, 1209, 1009, 141, 270, 337, 288, 294, 298, 332, 328, 1268, 418, 295, 3009, 1334, 1369, 1378]
def nextFp : List Nat := [65, 111, 1065, 1003] ++ [88, 1009, 1209, 141, 270, 337, 288, 294, 298, 332, 328, 1268, 1369, 1378, 295, 418, 1334, 5, 4, 1005, 3009, 7009]
def k21 : Con := { mkC 21 [.ptr 111 true, cRes] callPosts nextFp (111 :: nextTm) [] (14, 0, 350700) with gm := 24980, hm := 549600000 }
def cFlags : CT := .sl 1334 0 ⟨0, 0, 250000000000⟩
def k167 : Con := lowG (mkC 167 [.str 0 ⟨0, 0, 20⟩, cStrs] [ps [ag [cFlags, cStrs], cI]] [1334, 1009] [1334, 1009])
def k169 : Con := mkC 169 [ag [cFlags, cStrs], cU8] [ps [.bool]] [1334] []
def k178 : Con := mkC 178 [ag [cFlags, cStrs], cU8] [ps [cS, .bool]] [1334] []
def k171 : Con := mkC 171 [ag [cFlags, cStrs], cS] [ps [cU8]] [1334] []
def k183 : Con := mkC 183 [cI] [ps [.str 0 ⟨0, 0, 2000⟩]] [] []
def nodeL : List CT := [cB 0 3, cB 0 4095, cB 0 65535, cB 0 65535, .sl 1005 0 ⟨0, 0, 48⟩, cEnts, .str 0 ⟨0, 0, 64⟩]
def cNode : CT := ag nodeL
def cNodeA : CT := ag [cI, cI, cI, cI, .sl 1005 0 ⟨0, 0, 1000⟩, .sl 1125 0 ⟨0, 0, 100⟩, cS]
def tF : List Nat := [0, 1005, 1125]
def cCred : CT := ag [.uid, cI, cSl 3]
def tb : CT := .ptr 0 false
def cNat : CT := cB 0 9223372036854775807
def k11 : Con := mkC 11 [tb, cI] [ps [cNode, .bool] [] [(4, [1, 2, 3, 4, 5])]] tF []
def k10 : Con := mkC 10 [tb] [ps [cNat]] tF []
def k194 : Con := mkC 194 [tb, cI] [ps [cI]] tF []
def k124 : Con := mkC 124 [tb, cI] [ps [cI]] tF []
def k196 : Con := mkC 196 [cCred, cI, cI, cI, cI] [ps [.bool]] [1003] []
def k121 : Con := mkC 121 [tb, cCred, cI, cI] [ps [.bool]] [0, 1003, 1005, 1125] []
def cSteps : CT := .sl 5009 0 ⟨28, 0, 4100⟩
def k212b : Con := mkC 212 [cP] [ps [cSteps] [⟨0, [(0, 1), (1, -1)]⟩]] [5009] []
def k147 : Con := mkC 147 [cP] [ps [.bool, .sl 5009 0 ⟨28, 0, 4101⟩] [⟨1, [(0, 1), (2, -1)]⟩]] [5009] [5009]
def k191 : Con := mkC 191 [tb, cP] [ps [cI]] tF []
def k136 : Con := mkC 136 [cP, cU8] [ps [.int .i64 (-1) 9223372036854775807]] [] []
def rk5 (e : Nat) : Option Nat := if e == 9 then some 5009 else rkF e
def rk3 (e : Nat) : Option Nat := if e == 9 then some 3009 else rkF e
def cFound : CT := ag [cI, cP, cI]
def k119 : Con := mkC 119 [tb, cCred, cP, .bool] [ps [cFound, cI]] [0, 1003, 5009, 1125, 1005] [5009]
def cStatA : CT := ag cStat
def k200 : Con := mkC 200 [tb, cI] [ps [cStatA, .bool]] tF []
def k127 : Con := mkC 127 [tb, cCred, cP, .bool] [ps [cStatA, cI]] [0, 1003, 5009, 1125, 1005] [5009]
def k201 : Con := mkC 201 [cNames] [ps []] [3009] [3009]
def k128 : Con := mkC 128 [cNode] [ps [cNames]] [3009, 1125] [3009]
def k77 : Con := mkC 77 [tb, cCred, cP] [ps [cNames, cI]] [0, 1003, 5009, 1125, 3009, 1005] [5009, 3009]
def withPf (f : List (Nat × List Nat)) (K : Con) : Con := { K with pf := f }
def k102 : Con := withPf [(4, [1, 2, 3, 4, 5])] (mkC 102 [tb, cI, cNodeA] [ps [cI]] tF [0])
def k102m : Con := withPf [(7, [1])] (mkC 102 [tb, cI, cNodeA] [ps [cI]] tF [0])
def k61 : Con := withPf [(13, [])] (mkC 61 [tb, cNodeA] [ps [cI, cI]] tF [0])
def k126 : Con := mkC 126 [tb, cI] [ps [.bool]] tF [0]
def k205 : Con := mkC 205 [tb] [ps [cI]] tF []
def tbFp : List Nat := [0, 1003, 5009, 1125, 1005, 1004]
def k78 : Con := mkC 78 [tb, cCred, cP, cI] [ps [cI]] tbFp [0, 5009]
def k84 : Con := mkC 84 [tb, cCred, cP, cI, cI, .bool] [ps [cI]] tbFp [0, 5009]
def k79 : Con := withPf [(13, [])] (mkC 79 [tb, cCred, cI, cP, cI] [ps [cI]] tbFp [0, 5009, 1125, 1005])
def k81 : Con := mkC 81 [tb, cCred, cP, bSl 1003] [ps [cI]] tbFp [0, 5009, 1125, 1005]
def k229 : Con := lowG (mkC 229 [cS] [ps [cSl 369, cI]] [1369, 1378, 1009] [1369, 1378, 1009])
def k270 : Con := lowG (mkC 270 [cS] [ps [ag [cI, cSl 378], .bool]] [1378] [1378])
def cModeT : CT := ag cMode
def k168 : Con := lowG (mkC 168 [cS] [ps [cModeT, cI]] [1369, 1378, 1009] [1369, 1378, 1009])
def k187 : Con := lowG (mkC 187 [cS] [ps [cI, cI]] [1369, 1378, 1009] [1369, 1378, 1009])
def cSep : CT := .str 1 ⟨0, 0, 1⟩
def k28 : Con := mkC 28 [cS, cSep] [ps [cStrs] [⟨1, [(0, 1), (2, -1)]⟩]] [1009] [1009]
def k299 : Con := lowG (mkC 299 [cS] [ps [cI, cS] [⟨0, [(0, 1), (2, -1)]⟩]] [] [])
def k300 : Con := lowG (mkC 300 [cS] [ps [ag [.int .u8 0 0, cB 0 0, cB 0 0], cS] [⟨0, [(0, 1), (4, -1)]⟩], ps [ag [cU8, cI, cI], cS] [⟨-1, [(0, 1), (4, -1)]⟩]] [] [])
def k188 : Con := lowG (mkC 188 [cS] [ps [cI, cI]] [88] [])
def k175 : Con := lowG (mkC 175 [cS] [ps [cI, cI]] [88] [])
def k146 : Con := lowG (mkC 146 [cS] [ps [cI, cI, cI]] [88] [])
def k241 : Con := lowG (mkC 241 [cModeT, cI, .bool, cI] [ps [cI]] [1369, 1378] [])
def newFp : List Nat := [88, 1009, 1209, 141, 270, 337, 288, 294, 298, 332, 328, 1268, 1369, 1378, 295, 418, 1334, 5, 4, 1005]
def k170 : Con := lowG (mkC 170 [cU8, .bool, cStrs] [ps [.ptr 332 false]] newFp [1268])
def k104 : Con := lowG (mkC 104 [cI, cStrs] [ps [.ptr 270 false]] newFp [1209, 1009, 1334, 1369, 1378, 1268])
def k106 : Con := lowG (mkC 106 [cStrs] [ps [.ptr 337 false]] newFp [1209, 1009, 1334, 1369, 1378, 1268])
def k108 : Con := lowG (mkC 108 [cStrs] [ps [.ptr 337 false]] newFp [1209, 1009, 1334, 1369, 1378, 1268])
def k110 : Con := lowG (mkC 110 [cI, cStrs] [ps [.ptr 288 false]] newFp [1209, 1009, 1334, 1369, 1378, 1268])
def k112 : Con := lowG (mkC 112 [cI, cStrs] [ps [.ptr 288 false]] newFp [1209, 1009, 1334, 1369, 1378, 1268])
def k114 : Con := lowG (mkC 114 [cStrs] [ps [.ptr 294 false]] newFp [1209, 1009, 1334, 1369, 1378, 1268])
def k116 : Con := lowG (mkC 116 [cStrs] [ps [.ptr 298 false]] newFp [1209, 1009, 1334, 1369, 1378, 1268])
def k233 : Con := lowG (mkC 233 [cS, .map 88 false] [ps [cI, cI]] [88] [])
def rpK (τ : Nat) : List Con := [lowG (mkC 381 [.ptr τ false] [ps [cDiags]] [τ, 1209] [1209]), lowG (mkC 382 [.ptr τ false] [ps [cOut]] [τ, 1009] [1009]), lowG (mkC 383 [.ptr τ false] [ps [cI]] [τ, 1209] [1209])]
def k384 : Con := mkC 384 [.agg (cL [.ptr 141 false, cI]), cRes] callPosts cmdFp cmdTm [] gN
def k145 : Con := mkC 145 [cCred, cI, cB 0 4095] [ps [cI] [] [(1, [3, 4, 5])]] [1003, 1004] []
def k120 : Con := withPf [(13, [])] (mkC 120 [tb, cCred, cI, cP, cI, .bool] [ps [cI, cI]] tbFp [0, 5009, 1125, 1005])
def k80 : Con := withPf [(13, [])] (mkC 80 [tb, cCred, cP, cP] [ps [cI]] tbFp [0, 5009, 1125, 1005])
def k82 : Con := mkC 82 [tb, cCred, cP] [ps [cI]] tbFp [0, 5009, 1125, 1005]
def k83 : Con := mkC 83 [tb, cCred, cP, cP, bSl 1003] [ps [cI]] tbFp [0, 5009, 1125, 1005]
def k72 : Con := mkC 72 [tb, cI, bSl 1003] [ps [.bool]] (1003 :: tF) [0]
def k76 : Con := mkC 76 [tb, cCred, cP] [ps [.str 0 ⟨0, 0, 64⟩, cI]] [0, 1003, 5009, 1125, 1005] [5009]
def k68 : Con := withPf [(13, [])] (mkC 68 [tb, cCred, cI, cP, cI, cI] [ps [cI, cI]] tbFp [0, 5009, 1125, 1005])
def k70 : Con := mkC 70 [tb, cI, cI, cI] [ps [.sl 1005 0 ⟨0, 0, 48⟩, cI]] tF [1005]
def k71 : Con := mkC 71 [tb, cCred, cI, cI, cSl 5] [ps [cI]] (1003 :: 1004 :: tF) [0, 1005]
def syF : List Nat := tbFp ++ [105, 152, 3009, 1115]
def sysP : CT := .ptr 105 false
def prP : CT := .ptr 152 false
def k73 : Con := mkC 73 [sysP] [ps [bSl 1003]] [105, 1115, 152, 1003] [1003]
def k36 : Con := mkC 36 [sysP, cI] [ps [.ptr 152 true]] [105, 1115, 152] []
def syTm : List Nat := [0, 5009, 1125, 1005, 1003, 3009, 152]
def sC (id : Nat) : Con := mkC id [sysP, prP, cAny] [ps [cRes]] syF syTm
def k38 : Con := withPf [(13, [])] (sC 38)
def k45 : Con := withPf [(13, [])] (sC 45)
def k22 : Con := withPf [(13, [])] (mkC 22 [sysP, cI, cAny] [ps [cRes]] syF syTm)
def cPlace : CT := ag ([cI, cP, cI] ++ nodeL ++ nodeL)
def plFp : List Nat := [0, 1003, 5009, 1125, 1005]
def k140 : Con := mkC 140 [tb, cCred, cP] [ps [cPlace, cI]] plFp [5009]
def k138 : Con := mkC 138 [tb, cCred, cP] [ps [cPlace, cI]] plFp [5009]
def k139 : Con := mkC 139 [cPlace, tb] [ps []] plFp [0, 1125, 1005]
def k142 : Con := mkC 142 [cCred, cPlace, cPlace] [ps [cI]] [1003, 1125, 1005] []
def k141 : Con := mkC 141 [tb, cI, cI] [ps [.bool]] tF []
def eqR (a b : Nat) : List Lin := [⟨0, [(a, 1), (b, -1)]⟩, ⟨0, [(b, 1), (a, -1)]⟩]
def cNodeB : CT := ag [cI, cI, cI, cI, .sl 1005 0 ⟨0, 0, 1000⟩, .sl 1125 0 ⟨0, 0, 100⟩, cS]
def k101 : Con := mkC 101 [cNode, cP, cI] [ps [cNodeB, cB 0 0] (eqR 0 9 ++ eqR 1 10 ++ eqR 2 11 ++ eqR 3 12), ps [cNodeB, cB 1 1000]] [1125, 1005] [1125, 1005]
def k208 : Con := mkC 208 [cNode, cP] [ps [cNodeB, cB 0 0] (eqR 0 8 ++ eqR 1 9 ++ eqR 2 10 ++ eqR 3 11), ps [cNodeB, cB 1 1000]] [1125, 1005] [1125, 1005]
def wFp : List Nat := [59, 1061, 69] ++ nextFp ++ [0, 5009, 1125, 105, 152, 1115, 1004]
def wTm : List Nat := 69 :: (111 :: nextTm) ++ syTm
def k8 : Con := { withPf [(13, [])] (mkC 8 [.ptr 59 true, cI] [ps [.bool]] wFp wTm [] (14, 0, 350700)) with gm := 24980, hm := 549600000 }
def k7 : Con := mkC 7 [.ptr 59 true] [ps [.bool]] [59, 1061, 69] []
def k202 : Con := mkC 202 [.sl 1004 3 ⟨0, 0, 4⟩] [ps [.bool]] [1004] []
def k204 : Con := mkC 204 [cCred, cI] [ps [.bool]] [1003, 1004] []
def k342 : Con := mkC 342 [.ptr 418 true] [ps [ag [cP, cI], .bool]] [418] []
/-- A contract holds, if a run of its function shows it, and those that are taken for known hold. -/
noncomputable def callK (rk : Nat → Option Nat) (hs : RHints) (Ks : List Con) : Callee := callN (CT0 rk) FT0 (rLp htT hs 60) (orH (handH FT0) (conH (CT0 rk) FT0 Ks)) 12
noncomputable def chkK (rk : Nat → Option Nat) (hs : RHints) (Ks : List Con) (K : Con) (op : Bool) (gr : Nat × Nat × Nat) : Bool := chk (CT0 rk) FT0 (callK rk hs Ks) (rLp htT hs 60 K.id) K op gr
abbrev Hld (K : Con) : Prop := K.Holds (CT0 rkF)
theorem chkK_ok {rk : Nat → Option Nat} {hs : RHints} {Ks : List Con} {K : Con} {op : Bool} {gr : Nat × Nat × Nat} (h : chkK rk hs Ks K op gr = true) (hK : ∀ k ∈ Ks, Hld k) : Hld K :=
 chk_ok (C := CT0 rk) (CT0_ok rk) (FT0_ok rk) (callN_ok (CT0_ok rk) (FT0_ok rk) (fun id => rLp_ok hs 60 id) (orH_ok (handH_ok (CT0 rk) rfl) (conH_ok (C := CT0 rk) hK)) 12) (rLp_ok hs 60 K.id) h
end Go.Proofs.YtbjhcjgniciooaaGreatDoor.E.Kt
