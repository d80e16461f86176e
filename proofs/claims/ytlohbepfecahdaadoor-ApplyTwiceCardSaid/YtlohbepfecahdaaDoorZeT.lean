/- ApplyTwice, walked: the closure, and the law's own body. -/
import Derived.Test.YtlohbepfecahdaaDoorZeS17
import Derived.Test.YtlohbepfecahdaaDoorZeWLast
import Derived.Test.YtlohbepfecahdaaDoorZeWMore
namespace Go.Proofs.YtlohbepfecahdaaDoor.S
open Go.RowKit Go.Proofs.YtlohbepfecahdaaDoorW.PrintWords Go.Proofs.YtlohbepfecahdaaDoorW.PrintLast Go.Proofs.YtlohbepfecahdaaDoorW.PrintMore
set_option linter.unusedVariables false
set_option linter.unusedSimpArgs false
set_option maxHeartbeats 3200000 in
set_option maxRecDepth 100000 in
theorem gaolerlaw03_ApplyTwice.one (k g0 g1 g2 g3 : Nat) (who p op m u r : Int) (d : Bool) (w : World)
    (h0 : w.heap[g0]? = some (.cells #[.int .u8 who] 5 (0, 0))) (h1 : w.heap[g1]? = some (.cells #[.int .i64 p] 3 (0, 0))) (h2 : w.heap[g2]? = some (.cells #[.bool d] 4 (0, 0))) (h3 : w.heap[g3]? = some (.cells #[.int .u16 u] 58 (0, 0)))
    (hf : apply_Apply.f k (([(⟨wrap64 (Int.tmod who 8), (([(⟨op, p, 0⟩ : S60)] : List (S60)))⟩ : S34)] : List (S34))) m d (wrap64 u) = some r) :
    Calls Tryd.prog 33 #[.int .u8 op, .int .i64 m, .pointer (some ⟨g0, 0, none⟩), .pointer (some ⟨g1, 0, none⟩), .pointer (some ⟨g2, 0, none⟩), .pointer (some ⟨g3, 0, none⟩)] w fun e w' => e = .returned (.int .i64 r) ∧ Below w.heap.size w w' := by
  have hu60 := Tryd.underlying60
  have hu34 := Tryd.underlying34
  have HB := Aside0.mk (Below.refl w.heap.size w)
  have c0 : w.cell? ⟨g0, 0, none⟩ = some (.int .u8 who) := blk_cell h0 0
  have c1 : w.cell? ⟨g1, 0, none⟩ = some (.int .i64 p) := blk_cell h1 0
  have c2 : w.cell? ⟨g2, 0, none⟩ = some (.bool d) := blk_cell h2 0
  have c3 : w.cell? ⟨g3, 0, none⟩ = some (.int .u16 u) := blk_cell h3 0
  have l0 := blk_lt' h0
  have l1 := blk_lt' h1
  have l2 := blk_lt' h2
  have l3 := blk_lt' h3
  have B0 := Aside0.mk h0
  have B1 := Aside0.mk h1
  have B2 := Aside0.mk h2
  have B3 := Aside0.mk h3
  clear h0 h1 h2 h3
  obtain ⟨y1, hy1⟩ : ∃ y_ : List (S60), y_ = (([(⟨op, p, 0⟩ : S60)] : List (S60))) := ⟨_, rfl⟩
  rw [← hy1] at hf
  have Ny1 := Aside0.mk hy1
  clear hy1
  obtain ⟨y2, hy2⟩ : ∃ y_ : List (S34), y_ = (([(⟨wrap64 (Int.tmod who 8), y1⟩ : S34)] : List (S34))) := ⟨_, rfl⟩
  rw [← hy2] at hf
  have Ny2 := Aside0.mk hy2
  clear hy2
  have A13 := Aside0.mk hf
  clear hf
  go_enter Tryd.func33, Tryd.ntmps33
  go_wp2_with (first
    | ((with_reducible refine gate_dst (N := 15) rfl ?_); refine Kd.R_lit k60 _ 60 ?hg (N := 15) ?hd (xs := ([(⟨op, p, 0⟩ : S60)] : List (S60))) (inner := [.int .u8 op, .int .i64 p, .int .i64 0]) (ok := fun _ => True) (okp := fun _ => True) ?hr ?hp (fun _ hk => hk) trivial (Below.refl _ _) (Nat.le_refl _) (by simp) ?_; (case hd => rfl); (case hg => rfl); (case hr => first | (go_simp; done) | (go_simp; rfl)); (case hp => exact (Reps.c3 (show Kd.M k60 _ _ _ (⟨op, p, 0⟩ : S60) [.int .u8 op, .int .i64 p, .int .i64 0] from (k60_mkM _ _ _ (⟨op, p, 0⟩ : S60) )) (Reps.none _ _))); intro v434 w15 ho16 hb hg_ hnew_; clear hg_ hnew_; rw [← Ny1.out] at ho16; have n0_ := Aside0.mk (Kd.R_lower ho16 (below_size (by repeat (first | (with_reducible first | exact HB.out | apply below_alloc | apply pw_below_drewN | apply below_drew1) | exact HB.out)))); have n1_ := Aside0.mk (below_step (by repeat (first | (with_reducible first | exact HB.out | apply below_alloc | apply pw_below_drewN | apply below_drew1) | exact HB.out)) hb); clear HB; have HO435 := n0_; have HB := n1_; clear n0_ n1_; have cA := hb; clear hb ho16; obtain ⟨Ao17, co17, eo17⟩ := Kd.R_slice HO435.out; subst eo17)
    | ((with_reducible refine gate_dst (N := 17) rfl ?_); refine Kd.N_lit k34 _ 34 ?hg (N' := 17) ?hd (xs := ([(⟨wrap64 (Int.tmod who 8), y1⟩ : S34)] : List (S34))) (inner := [.int .i64 (wrap64 (Int.tmod who 8)), .slice Ao17 y1.length co17]) (ok := (fun _ => True)) (okp := (fun _ => True)) ?hr ?hp (fun _ hk => hk) ((show ∀ k_, w15.heap.size ≤ k_ → (fun _ => True) k_ from fun k_ hk => trivial) _ (Nat.le_refl _)) (Below.refl _ _) (Nat.le_refl _) (by simp) ?_; (case hd => rfl); (case hg => rfl); (case hr => first | (go_simp; done) | (go_simp; rfl)); (case hp => exact (Reps.c2 (show Kd.FK k34 _ _ (⟨wrap64 (Int.tmod who 8), y1⟩ : S34) [.int .i64 (wrap64 (Int.tmod who 8)), .slice Ao17 y1.length co17] from (k34_mkF _ _ (⟨wrap64 (Int.tmod who 8), y1⟩ : S34) (Kd.R_reads' (Kd.R_mono (ok' := (fun _ => True)) (HO435.out) (fun k_ hk => trivial))).2.1 (Kd.R_F (Kd.R_mono (ok' := (fun _ => True)) (HO435.out) (fun k_ hk => trivial))))) (Reps.none _ _))); intro v437 w18 ho19 hb hg_ hnew_; clear hg_ hnew_; rw [← Ny2.out] at ho19; have n0_ := Aside0.mk (Kd.N_lower ho19 (below_size (by repeat (first | (with_reducible first | exact HB.out | apply below_alloc | apply pw_below_drewN | apply below_drew1) | exact HB.out)))); have n1_ := Aside0.mk (below_step (by repeat (first | (with_reducible first | exact HB.out | apply below_alloc | apply pw_below_drewN | apply below_drew1) | exact HB.out)) hb); clear HB; clear HO435; have HO438 := n0_; have HB := n1_; clear n0_ n1_; clear hb ho19; obtain ⟨Ao20, co20, eo20⟩ := Kd.N_slice HO438.out; subst eo20; have z2 : w18.cell? ⟨g2, 0, none⟩ = some (.bool d) := blk_cell (blk_of_below HB.out B2.out) 0; have z3 : w18.cell? ⟨g3, 0, none⟩ = some (.int .u16 u) := blk_cell (blk_of_below HB.out B3.out) 0)
    | ((with_reducible refine gate_callee (f := 29) rfl ?_); refine goesL_ (some 22) rfl rfl Tryd.func29 (by kernel_rfl) rfl #[.slice Ao20 y2.length co20, .int .i64 m, .bool d, .int .i64 (wrap64 u)] rfl (by (try simp only [List.map_toArray, List.map_cons, List.map_nil]); first | done | rfl | (simp only [List.length_drop, List.length_take]; rfl)) ?_; (with_reducible refine (apply_Apply.calls k _ _ y2 m d (wrap64 u) r _ ?side1 ?side2 A13.out).mono ?_); (case side1 => repeat (first | exact (Kd.N_reads' HO438.out).2.2 | (with_reducible refine Kd.C_alloc ?_ _) | (with_reducible refine Kd.C_drewN ?_ _) | (with_reducible refine Kd.C_drew ?_))); (case side2 => exact (Kd.N_reads' HO438.out).2.1); rintro e w21 ⟨rfl, hb⟩; refine ⟨_, rfl, ?_⟩; have n1_ := Aside0.mk (below_step (by repeat (first | (with_reducible first | exact HB.out | apply below_alloc | apply pw_below_drewN | apply below_drew1) | exact HB.out)) hb); clear HO438; clear HB; have HB := n1_; clear n1_; (try clear hb)))
  go_ret
  exact ⟨rfl, by repeat (first | (with_reducible first | exact HB.out | apply below_alloc | apply pw_below_drewN | apply below_drew1) | exact HB.out)⟩
end Go.Proofs.YtlohbepfecahdaaDoor.S
