/- ApplyTwice, walked: its own body. -/
import Derived.Test.YtlohbepfecahdaaDoorZeT
namespace Go.Proofs.YtlohbepfecahdaaDoor.S
open Go.RowKit Go.Proofs.YtlohbepfecahdaaDoorW.PrintWords Go.Proofs.YtlohbepfecahdaaDoorW.PrintLast Go.Proofs.YtlohbepfecahdaaDoorW.PrintMore
set_option linter.unusedVariables false
set_option linter.unusedSimpArgs false
abbrev oneL (who o p : Int) : List S34 := ([(⟨wrap64 (Int.tmod who 8), (([(⟨o, p, 0⟩ : S60)] : List (S60)))⟩ : S34)] : List (S34))
set_option maxHeartbeats 3200000 in
set_option maxRecDepth 100000 in
theorem gaolerlaw03_ApplyTwice.calls (k : Nat) (a0 a1 a2 a3 a5 p m o x y z v : Int) (a4 : Bool) (w : World)
    (ha : gaolerlaw03_awake.f k = some true) (hp : Go.bits .andNot .i64 (wrap64 (Int.tmod a2 64)) 8 = p) (hm : wrap64 (Int.tmod a3 4096) = m)
    (h0 : 0 ≤ Int.tmod a1 3) (h3 : Int.tmod a1 3 < 3) (ho : bt (⟨#[43, 45, 61]⟩ : ByteArray) (Int.tmod a1 3) = o)
    (c1 : apply_Apply.f k (oneL a0 o p) m a4 (wrap64 a5) = some x) (c2 : apply_Apply.f k (oneL a0 o p) x a4 (wrap64 a5) = some x)
    (c3 : apply_Apply.f k (oneL a0 43 p) m a4 (wrap64 a5) = some y) (c4 : apply_Apply.f k (oneL a0 45 p) y a4 (wrap64 a5) = some z)
    (c5 : apply_Apply.f k (oneL a0 45 p) m a4 (wrap64 a5) = some z) (c6 : apply_Apply.f k (oneL a0 43 p) z a4 (wrap64 a5) = some y)
    (c7 : apply_Apply.f k (oneL a0 61 p) y a4 (wrap64 a5) = some v) (c8 : apply_Apply.f k (oneL a0 61 p) m a4 (wrap64 a5) = some v) :
    Calls Tryd.prog 11 #[.int .u8 a0, .int .u8 a1, .int .u8 a2, .int .u16 a3, .bool a4, .int .u16 a5] w fun e w' => e = .returned (.bool true) ∧ Below w.heap.size w w' := by
  have HB := Aside0.mk (Below.refl w.heap.size w)
  have hmf : ∀ (fn : Fn) (first cap : Array Value) (w : World), (Instr.makeFunc fn first cap).run Tryd.prog w = .ok (.func fn first cap) w := fun _ _ _ _ => rfl
  have A7 := Aside0.mk ha
  have C1 := Aside0.mk c1
  have C2 := Aside0.mk c2
  have C3 := Aside0.mk c3
  have C4 := Aside0.mk c4
  have C5 := Aside0.mk c5
  have C6 := Aside0.mk c6
  have C7 := Aside0.mk c7
  have C8 := Aside0.mk c8
  have HP := Aside0.mk hp
  have HM := Aside0.mk hm
  have HO := Aside0.mk ho
  clear ha c1 c2 c3 c4 c5 c6 c7 c8 hp hm ho
  obtain ⟨j, hj⟩ : ∃ j_ : Int, (Int.tmod a1 3) = j_ := ⟨_, rfl⟩
  rw [hj] at h0 h3 HO
  go_enter Tryd.func11, Tryd.ntmps11
  go_wp2_with (first
    | ((with_reducible refine gate_callee (f := 23) rfl ?_); refine goesL_ (some 19) rfl rfl Tryd.func23 (by kernel_rfl) rfl #[] rfl (by (try simp only [List.map_toArray, List.map_cons, List.map_nil]); first | done | rfl) ?_; (with_reducible refine (gaolerlaw03_awake.calls k true _ A7.out).mono ?_); rintro e w14 ⟨rfl, hb⟩; refine ⟨_, rfl, ?_⟩; have F0 := Aside0.mk (blk_below (blk_alloc (blk_alloc (blk_new w (.cells #[.int .u8 a0] 5 (0, 0))) (.cells #[.bool a4] 4 (0, 0))) (.cells #[.int .u16 a5] 58 (0, 0))) hb); have F2 := Aside0.mk (blk_below (blk_alloc (blk_new (w.alloc (.cells #[.int .u8 a0] 5 (0, 0))) (.cells #[.bool a4] 4 (0, 0))) (.cells #[.int .u16 a5] 58 (0, 0))) hb); have F3 := Aside0.mk (blk_below (blk_new ((w.alloc (.cells #[.int .u8 a0] 5 (0, 0))).alloc (.cells #[.bool a4] 4 (0, 0))) (.cells #[.int .u16 a5] 58 (0, 0))) hb); have n0_ := Aside0.mk (below_step (by repeat (first | (with_reducible first | exact HB.out | apply below_alloc | apply pw_below_drewN | apply below_drew1) | exact HB.out)) hb); clear HB; have HB := n0_; clear n0_ hb; have hp := HP.out; have hm := HM.out; have hx12 := bt_at (⟨#[43, 45, 61]⟩ : ByteArray) j; rw [HO.out] at hx12; have p12 : 0 ≤ j := h0; have q12 : j < (3 : Int) := h3; replace p12 := eq_true p12; replace q12 := eq_true q12; rw [show (w.alloc (.cells #[.int .u8 a0] 5 (0, 0))).heap.size = w.heap.size + 1 by simp only [World.size_alloc]] at F2; rw [show ((w.alloc (.cells #[.int .u8 a0] 5 (0, 0))).alloc (.cells #[.bool a4] 4 (0, 0))).heap.size = w.heap.size + 1 + 1 by simp only [World.size_alloc]] at F3)
    | ((with_reducible refine gate_dst (N := 14) rfl ?_); refine box_event ?hg (N := 14) ?hd (cs := #[.int .i64 0]) (t := 3) ?hr ?_; (case hd => rfl); (case hg => rfl); (case hr => first | (go_simp; done) | (go_simp; rfl)); intro g1 hg w3 hbox hb; have NE0 : Aside0 (w.heap.size ≠ g1) := ⟨blk_ne (blk_below F0.out hb) hbox (by decide)⟩; have NE2 : Aside0 (w.heap.size + 1 ≠ g1) := ⟨blk_ne (blk_below F2.out hb) hbox (by decide)⟩; have NE3 : Aside0 (w.heap.size + 1 + 1 ≠ g1) := ⟨blk_ne (blk_below F3.out hb) hbox (by decide)⟩; have n0_ := Aside0.mk (blk_far (blk_below F0.out hb) (p := ⟨g1, 0, none⟩) NE0.out (.int .i64 p)); clear F0; have F0 := n0_; clear n0_; have n0_ := Aside0.mk (blk_far (blk_below F2.out hb) (p := ⟨g1, 0, none⟩) NE2.out (.int .i64 p)); clear F2; have F2 := n0_; clear n0_; have n0_ := Aside0.mk (blk_far (blk_below F3.out hb) (p := ⟨g1, 0, none⟩) NE3.out (.int .i64 p)); clear F3; have F3 := n0_; clear n0_; have F1 := Aside0.mk (blk_put hbox 0 (.int .i64 p) rfl); have n0_ := Aside0.mk (below_set (g := g1) (j := 0) (v := .int .i64 p) (below_step (by repeat (first | (with_reducible first | exact HB.out | apply below_alloc | apply pw_below_drewN | apply below_drew1) | exact HB.out)) hb) (by have := HB.out.size; omega)); clear HB; have HB := n0_; clear n0_; have v1 : w3.cell? ⟨g1, 0, none⟩ = some (.int .i64 0) := blk_cell hbox 0; have v2 := blk_frozen hbox 0; clear hg hbox hb)
    | (go_at_call 33; (first | (with_reducible refine (gaolerlaw03_ApplyTwice.one k w.heap.size g1 (w.heap.size + 1) (w.heap.size + 1 + 1) a0 p o m a5 x a4 _ ?b0 ?b1 ?b2 ?b3 C1.out).mono ?_) | (with_reducible refine (gaolerlaw03_ApplyTwice.one k w.heap.size g1 (w.heap.size + 1) (w.heap.size + 1 + 1) a0 p o x a5 x a4 _ ?b0 ?b1 ?b2 ?b3 C2.out).mono ?_) | (with_reducible refine (gaolerlaw03_ApplyTwice.one k w.heap.size g1 (w.heap.size + 1) (w.heap.size + 1 + 1) a0 p 43 m a5 y a4 _ ?b0 ?b1 ?b2 ?b3 C3.out).mono ?_) | (with_reducible refine (gaolerlaw03_ApplyTwice.one k w.heap.size g1 (w.heap.size + 1) (w.heap.size + 1 + 1) a0 p 45 y a5 z a4 _ ?b0 ?b1 ?b2 ?b3 C4.out).mono ?_) | (with_reducible refine (gaolerlaw03_ApplyTwice.one k w.heap.size g1 (w.heap.size + 1) (w.heap.size + 1 + 1) a0 p 45 m a5 z a4 _ ?b0 ?b1 ?b2 ?b3 C5.out).mono ?_) | (with_reducible refine (gaolerlaw03_ApplyTwice.one k w.heap.size g1 (w.heap.size + 1) (w.heap.size + 1 + 1) a0 p 43 z a5 y a4 _ ?b0 ?b1 ?b2 ?b3 C6.out).mono ?_) | (with_reducible refine (gaolerlaw03_ApplyTwice.one k w.heap.size g1 (w.heap.size + 1) (w.heap.size + 1 + 1) a0 p 61 y a5 v a4 _ ?b0 ?b1 ?b2 ?b3 C7.out).mono ?_) | (with_reducible refine (gaolerlaw03_ApplyTwice.one k w.heap.size g1 (w.heap.size + 1) (w.heap.size + 1 + 1) a0 p 61 m a5 v a4 _ ?b0 ?b1 ?b2 ?b3 C8.out).mono ?_)); (case b0 => (first | exact F0.out | exact blk_drewN F0.out _)); (case b1 => (first | exact F1.out | exact blk_drewN F1.out _)); (case b2 => (first | exact F2.out | exact blk_drewN F2.out _)); (case b3 => (first | exact F3.out | exact blk_drewN F3.out _)); rintro e wn ⟨rfl, hb⟩; have n0_ := Aside0.mk (blk_below (by first | exact F0.out | exact blk_drewN F0.out _) hb); clear F0; have F0 := n0_; clear n0_; have n0_ := Aside0.mk (blk_below (by first | exact F1.out | exact blk_drewN F1.out _) hb); clear F1; have F1 := n0_; clear n0_; have n0_ := Aside0.mk (blk_below (by first | exact F2.out | exact blk_drewN F2.out _) hb); clear F2; have F2 := n0_; clear n0_; have n0_ := Aside0.mk (blk_below (by first | exact F3.out | exact blk_drewN F3.out _) hb); clear F3; have F3 := n0_; clear n0_; have n0_ := Aside0.mk (below_step (by repeat (first | (with_reducible first | exact HB.out | apply below_alloc | apply pw_below_drewN | apply below_drew1) | exact HB.out)) hb); clear HB; have HB := n0_; clear n0_ hb))
  go_ret
  exact ⟨rfl, by repeat (first | (with_reducible first | exact HB.out | apply below_alloc | apply pw_below_drewN | apply below_drew1) | exact HB.out)⟩
end Go.Proofs.YtlohbepfecahdaaDoor.S
