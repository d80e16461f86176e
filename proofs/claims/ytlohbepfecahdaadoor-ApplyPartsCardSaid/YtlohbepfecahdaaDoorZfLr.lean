/- An argument that is clauses, opened: the list of them, and what stands in memory. -/
import Derived.Test.YtlohbepfecahdaaDoorZfS0
import Derived.Deep.SlicePairs
import Derived.Lib.SmallJoins
namespace Go.Proofs.YtlohbepfecahdaaDoor.L
open Go.RowKit Go.Proofs.YtlohbepfecahdaaDoor.S Go.Proofs.YtlohbepfecahdaaDoorW.PrintWords Go.Deep Go.ChangeShapes Go.WideShapes Go.Joins
set_option linter.unusedVariables false
set_option linter.unusedSimpArgs false
theorem cellsOf60 : Tryd.prog.cellsOf 60 = 3 := by kernel_rfl
theorem cellsOf34 : Tryd.prog.cellsOf 34 = 2 := by kernel_rfl
theorem cellsOf5 : Tryd.prog.cellsOf 5 = 1 := by kernel_rfl
theorem cellsOf3 : Tryd.prog.cellsOf 3 = 1 := by kernel_rfl
theorem cellsOf32 : Tryd.prog.cellsOf 32 = 1 := by kernel_rfl
instance : Inhabited S60 := ⟨z60⟩
instance : Inhabited S34 := ⟨z34⟩
def wfA (a : S60) : Prop := (Lit.int .u8 a.f0).wf = true ∧ (Lit.int .i64 a.f1).wf = true ∧ (Lit.int .i64 a.f2).wf = true
def wfC (c : S34) : Prop := (Lit.int .i64 c.f0).wf = true ∧ c.f1.length ≤ maxLen ∧ ∀ a ∈ c.f1, wfA a
section
variable {H : Type} {enc : TypeId × Value → H} {W : World}
set_option maxRecDepth 100000 in
theorem open_acts {A : Option Addr} {len cap fuel : Nat} {x : DataW H × List MemPlace} (h : DataW.trod enc Tryd.prog W 0 (fun _ => true) true fuel 32 [.slice A len cap] = some x) :
    ∃ l : List S60, l.length = len ∧ len ≤ cap ∧ cap ≤ maxLen ∧ Kd.C k60 W A l.length l ∧ ∀ a ∈ l, wfA a := by
  rcases open_slice Tryd.underlying32 h with ⟨hcs, _⟩ | ⟨a, len', cap', m, n, D, Pl, hcs, _, hl, hm, hmm, _, hx⟩
  · simp at hcs
    obtain ⟨rfl, rfl, rfl⟩ := hcs
    exact ⟨[], rfl, Nat.le_refl _, Nat.zero_le _, ⟨rfl, by decide, fun h => absurd h (by decide)⟩, fun a ha => by simp at ha⟩
  · simp at hcs
    obtain ⟨rfl, rfl, rfl⟩ := hcs
    have hmc : m = cap := by rw [hmm]; simp
    rw [cellsOf60] at hx
    obtain ⟨q, hq⟩ := choose_lt (α := S60) (p := fun i p => (∀ j u, [Value.int .u8 p.f0, Value.int .i64 p.f1, Value.int .i64 p.f2][j]? = some u → W.cell? (a.add (i * 3 + j)) = some u) ∧ wfA p) (n := m) (fun i hi => by
      obtain ⟨cs', h1, h2⟩ := hx i hi
      obtain ⟨_, hlen, hcell⟩ := World.cells?_some h1
      obtain ⟨xs, k, hk, hxy, _, hxl, hf⟩ := DataW.trod_struct Tryd.underlying60 h2
      match cs', hlen with
      | [v0, v1, v2], _ =>
        have g0 := hf 0 _ rfl
        have g1 := hf 1 _ rfl
        have g2 := hf 2 _ rfl
        match xs, hxl with
        | [y0, y1, y2], _ =>
          simp [cellsOf5, cellsOf3] at g0 g1 g2
          obtain ⟨n0, e0, _, w0⟩ := DataW.trod_int Tryd.underlying5 g0
          obtain ⟨n1, e1, _, w1⟩ := DataW.trod_int Tryd.underlying3 g1
          obtain ⟨n2, e2, _, w2⟩ := DataW.trod_int Tryd.underlying3 g2
          obtain rfl := (List.cons.inj e0).1
          obtain rfl := (List.cons.inj e1).1
          obtain rfl := (List.cons.inj e2).1
          refine ⟨⟨n0, n1, n2⟩, fun j u hu => ?_, ⟨w0, w1, w2⟩⟩
          have hj : j < 3 := by
            have := (List.getElem?_eq_some_iff.1 hu).1
            simpa using this
          have := hcell j (by omega)
          rw [Deep.add_add] at this
          rw [this]
          exact hu)
    refine ⟨(List.range len).map q, by simp, hl, hm, ⟨rfl, ?_, fun _ => ⟨a, rfl, fun j p hj => ?_⟩⟩, fun p hp => ?_⟩
    · rw [List.length_map, List.length_range]; unfold maxLen at hm; omega
    · have hjl : j < len := by
        have := (List.getElem?_eq_some_iff.1 hj).1
        simpa using this
      rw [List.getElem?_map, List.getElem?_range hjl] at hj
      have hj' := Option.some.inj hj
      subst hj'
      exact ⟨[.int .u8 (q j).f0, .int .i64 (q j).f1, .int .i64 (q j).f2], rfl, k60_mk W (q j), (hq j (by omega)).1⟩
    · obtain ⟨i, hi, rfl⟩ := List.mem_map.1 hp
      exact (hq i (by have := List.mem_range.1 hi; omega)).2
set_option maxRecDepth 100000 in
theorem open_clauses {A : Option Addr} {len cap fuel : Nat} {x : DataW H × List MemPlace} (h : DataW.trod enc Tryd.prog W 0 (fun _ => true) true fuel 23 [.slice A len cap] = some x) :
    ∃ l : List S34, l.length = len ∧ len ≤ cap ∧ cap ≤ maxLen ∧ Kd.C k34 W A l.length l ∧ ∀ c ∈ l, wfC c := by
  rcases open_slice_pairs Tryd.underlying23 Tryd.underlying34 cellsOf34 rfl rfl cellsOf3 cellsOf32 h with ⟨hcs, _⟩ | ⟨a, len', cap', m, n, V0, V1, D0, D1, P0, P1, hcs, _, hl, hm, hmm, _, hx⟩
  · simp at hcs
    obtain ⟨rfl, rfl, rfl⟩ := hcs
    exact ⟨[], rfl, Nat.le_refl _, Nat.zero_le _, ⟨rfl, by decide, fun h => absurd h (by decide)⟩, fun a ha => by simp at ha⟩
  · simp at hcs
    obtain ⟨rfl, rfl, rfl⟩ := hcs
    have hmc : m = cap := by rw [hmm]; simp
    obtain ⟨q, hq⟩ := choose_lt (α := S34) (p := fun i p => (∃ c, k34.K W p c ∧ c.length = 2 ∧ ∀ j u, c[j]? = some u → W.cell? (a.add (i * 2 + j)) = some u) ∧ wfC p) (n := m) (fun i hi => by
      obtain ⟨h0, h1, t0, t1⟩ := hx i hi
      obtain ⟨n0, e0, _, w0⟩ := DataW.trod_int Tryd.underlying3 t0
      obtain e0 := (List.cons.inj e0).1
      obtain ⟨A1, len1, cap1, ea⟩ := slice_form Tryd.underlying32 t1
      obtain ea := (List.cons.inj ea).1
      rw [ea] at t1 h1
      rw [e0] at h0
      obtain ⟨l1, rfl, hl1, hm1, hC, hw⟩ := open_acts t1
      refine ⟨⟨n0, l1⟩, ⟨_, k34_mk W ⟨n0, l1⟩ hl1 hC, rfl, fun j u hu => ?_⟩, ⟨w0, Nat.le_trans hl1 hm1, hw⟩⟩
      match j, hu with
      | 0, hu => have := Option.some.inj hu; subst this; exact h0
      | 1, hu => have := Option.some.inj hu; subst this; exact h1
      | j + 2, hu => simp at hu)
    refine ⟨(List.range len).map q, by simp, hl, hm, ⟨rfl, ?_, fun _ => ⟨a, rfl, fun j p hj => ?_⟩⟩, fun p hp => ?_⟩
    · rw [List.length_map, List.length_range]; unfold maxLen at hm; omega
    · have hjl : j < len := by
        have := (List.getElem?_eq_some_iff.1 hj).1
        simpa using this
      rw [List.getElem?_map, List.getElem?_range hjl] at hj
      have hj' := Option.some.inj hj
      subst hj'
      obtain ⟨⟨c, k1, k2, k3⟩, _⟩ := hq j (by omega)
      exact ⟨c, k2, k1, k3⟩
    · obtain ⟨i, hi, rfl⟩ := List.mem_map.1 hp
      exact (hq i (by have := List.mem_range.1 hi; omega)).2
end
theorem wfC_bytes {c : S34} (h : wfC c) : ∀ a ∈ c.f1, 0 ≤ a.f0 ∧ a.f0 ≤ 255 := fun a ha => by
  have := (h.2.2 a ha).1
  simpa [Lit.wf, IntKind.min, IntKind.max, IntKind.signed, IntKind.bits] using this
end Go.Proofs.YtlohbepfecahdaaDoor.L
