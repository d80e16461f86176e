/- TopModes: a part of the proof, merged. -/
import Derived.Test.YtbjhcjgniciooaaGreatDoorM34
namespace Go.Proofs.YtbjhcjgniciooaaGreatDoor.E.Kt
open Go.Proofs.YtbjhcjgniciooaaGreatDoor.G (TabAt Tab Nd live zN rightN NdC kE ndCells okx Fr WhB WhR ctB ctE)
open Go.RowKit Go.Proofs.YtbjhcjgniciooaaGreatDoorW.PrintWords Go.Proofs.YtbjhcjgniciooaaGreatDoorW.PrintLast Go.Proofs.YtbjhcjgniciooaaGreatDoorW.PrintMore
attribute [local go_sem] max2_int min2_int max_two min_two
set_option linter.unusedVariables false
set_option linter.unusedSimpArgs false
/-! ### TopModes, walked -/
def Awake : Prop := ∀ w : World, Calls Tryz.prog 4 #[] w fun e w' => e = .returned (.bool true) ∧ w'.os = w.os ∧ w'.tape = w.tape ∧ w'.output = w.output ∧ w.heap.size ≤ w'.heap.size ∧ ∀ k, k < w.heap.size → w'.heap[k]? = w.heap[k]?
set_option maxHeartbeats 6400000 in
set_option maxRecDepth 100000 in
theorem top_ok (aw : Awake) (h7 : Hld k7) (h8 : Hld k8) (text : ByteArray) (hbig : text.size ≤ 9223372036854775807) (w : World) : Calls Tryz.prog 3 #[.string text] w fun e w' => e = .returned (.bool true) ∧ Below w.heap.size w w' := by
 have AW := Aside0.mk aw
 have H7 := Aside0.mk h7
 have H8 := Aside0.mk h8
 have HBIG := Aside0.mk hbig
 clear aw h7 h8 hbig
 go_enter Tryz.func3, Tryz.ntmps3
 go_wp2_with fail
 refine (AW.out _).mono ?_
 rintro e w1 ⟨rfl, a1, a2, a3, a4, a5⟩
 have B1 := Aside0.mk (show Below w.heap.size w w1 from ⟨a1, a2, a3, a4, a5⟩)
 clear a1 a2 a3 a4 a5
 dsimp only
 go_wp2_with fail
 refine (begun_ok text HBIG.out w1).mono ?_
 rintro e w2 ⟨r, um, ta, tn, tc, ja, jn, jc, pa, pn, pc, wp, ok, rfl, hb2, hgood⟩
 have B2 := Aside0.mk (B1.out.trans (hb2.mono B1.out.size))
 have HG := Aside0.mk (And.intro hb2.size hgood)
 have b0 := blk_new w2 (.cells #[.int .i64 r, .int .i64 um, .slice ta tn tc, .slice ja jn jc, .slice pa pn pc] 27)
 have q := blk_frozen b0
 have P0 := Aside0.mk b0
 have p := blk_cell b0
 clear hb2 hgood b0
 unfold scV
 dsimp only
 cases ok with
 | false =>
  go_wp2_with fail
  go_ret
  exact ⟨rfl, B2.out.alloc B2.out.size _⟩
 | true =>
  obtain ⟨hsz, hgd⟩ := HG.out
  obtain ⟨b, jb, us, E, tb, T, hfree, rfl, rfl, hj1, hj4, hjc, hpn, hpk, hst, hg, hh⟩ := hgd rfl
  have HJ := Aside0.mk (And.intro hj1 (And.intro hj4 (And.intro hpn hpk)))
  have sz : ∀ o, (w2.alloc o).heap.size = w2.heap.size + 1 := fun o => World.size_alloc w2 o
  have own : ∀ i, (∃ t, E.S i = some t) ∨ E.A i ∨ i = jb → i < w2.heap.size := fun i hi => by
   rcases hi with ⟨t, hi⟩ | hi | hi
   ·exact (hst.hp.dom i t hi).1
   ·exact hst.hp.an i hi
   ·rw [hi]; exact hst.jl
  obtain ⟨gs, hgs⟩ : ∃ gs, w2.heap.size = gs := ⟨_, rfl⟩
  obtain ⟨W, hW⟩ : ∃ W, w2.alloc (.cells #[.int .i64 r, .int .i64 um, .slice ta tn tc, .slice (some ⟨jb, 0, none⟩) jn jc, .slice pa pn pc] 27) = W := ⟨_, rfl⟩
  have hst3 : Start W E b tb jb jn us T := hst.fr (by rw [← hW, sz]; omega) (fun i hi => by rw [← hW]; exact (below_alloc (Below.refl w2.heap.size w2) _).block i (own i hi))
  have free : ∀ i, i < w.heap.size ∨ i = gs → E.S i = none ∧ ¬ E.A i ∧ i ≠ jb := fun i hi => by
   rcases hi with hi | hi
   ·exact hfree i (Nat.lt_of_lt_of_le hi B1.out.size)
   ·have hn : ¬ ((∃ t, E.S i = some t) ∨ E.A i ∨ i = jb) := fun h => by have := own i h; omega
    refine ⟨?_, fun h => hn (.inr (.inl h)), fun h => hn (.inr (.inr h))⟩
    cases hS : E.S i with
    | none => rfl
    | some t => exact absurd (.inl ⟨t, hS⟩) hn
  have B3 := Aside0.mk (show Below w.heap.size w W by rw [← hW]; exact B2.out.alloc B2.out.size _)
  have bx := P0.out
  rw [hW] at bx p q
  rw [hgs] at bx p q
  have BX := Aside0.mk bx
  have HST := Aside0.mk (And.intro hst3 (And.intro free (And.intro hg hh)))
  have jobs := hst3.jobs
  have JL := Aside0.mk hst3.jl
  clear hfree hst hg hh hsz hgd HG own sz hst3 free bx P0 B2 hj1 hpn hpk
  go_wp2_with fail
  clear hW hgs
  go_loopg [7] jn (fun gk i wr => ∃ k : Nat, k ≤ jn ∧ i = .int .i64 k ∧ jn ≤ k + gk ∧ wr = W ∧ ∀ q, q < k → us q ≠ 0)
  case atStart => exact ⟨0, Nat.zero_le _, rfl, by omega, rfl, fun q hq => by omega⟩
  case round =>
   obtain ⟨k, hk, rfl, hgk, hW, hok⟩ := hrel
   obtain rfl : W = wr := hW.symm
   have HK := Aside0.mk hgk
   have HO := Aside0.mk hok
   clear hgk hok
   by_cases hlt : k < jn
   ·obtain ⟨g', rfl⟩ : ∃ g', gk = g' + 1 := ⟨gk - 1, by have := HK.out; omega⟩
    have hlt2 : decide ((k : Int) < (jn : Int)) = true := by simp; omega
    have c3 := jobs k hlt
    by_cases h0 : us k = 0
    ·have h02 : (us k == 0) = true := by rw [h0]; rfl
     go_wp2_with fail
     go_ret
     exact ⟨rfl, B3.out⟩
    ·have h02 : (us k == 0) = false := by simp [h0]
     go_wp2_with fail
     go_roundg g'
     case measure => have := HK.out; omega
     case rel => exact ⟨k + 1, by omega, by go_num, by have := HK.out; omega, rfl, fun q hq => by
      by_cases e : q = k
      ·subst e; exact h0
      ·exact HO.out q (by omega)⟩
   ·obtain rfl : jn = k := by omega
    have hlt2 : decide ((jn : Int) < (jn : Int)) = false := by simp
    go_wp2_with fail
    refine (table_of HST.out.1).mono ?_
    rintro e w4 ⟨rfl, ht, hb4⟩
    have TP := Aside0.mk (Top.first (n0 := w.heap.size) (k := 0) HST.out.1 HST.out.2.1 BX.out HJ.out.2.2.2 (by have := HST.out.2.2.1; omega) (by have := HST.out.2.2.2; omega) hb4 ht)
    have B4 := Aside0.mk (B3.out.trans (hb4.mono B3.out.size))
    obtain ⟨gl, hgl⟩ : ∃ gl, W.heap.size = gl := ⟨_, rfl⟩
    rw [hgl] at TP
    have HGL := Aside0.mk hgl
    clear ht hb4 hgl jobs p q hlt hlt2 hk BX B3
    dsimp only
    rw [HGL.out]
    clear HGL
    go_wp2_with fail
    go_loopg [8, 9] 1500 (fun gk last i wr => ∃ (j : Nat) (E : Env) (T : Tab) (gl : Nat), j ≤ 1500 ∧ i = .int .i64 j ∧ 1500 ≤ j + gk ∧ last = .pointer (some ⟨gl, 0, none⟩) ∧ Below w.heap.size w wr ∧ Top w.heap.size gs (.cells #[.int .i64 r, .int .i64 um, .slice ta tn tc, .slice (some ⟨jb, 0, none⟩) jn jc, .slice pa pn pc] 27) wr E b tb jb jn us T gl T pa pn pc j)
    case atStart => exact ⟨0, _, _, gl, by omega, rfl, by omega, rfl, B4.out, TP.out⟩
    case round =>
     obtain ⟨j, E, T, gl, hj, rfl, hgk, rfl, hb, htop⟩ := hrel
     have HB := Aside0.mk hb
     have HK := Aside0.mk hgk
     have HT := Aside0.mk htop
     clear hgk hb htop B4 TP
     by_cases hlt : j < 1500
     ·obtain ⟨g', rfl⟩ : ∃ g', gk = g' + 1 := ⟨gk - 1, by have := HK.out; omega⟩
      have hlt2 : decide ((j : Int) < 1500) = true := by simp; omega
      have HLT := Aside0.mk hlt
      clear hj
      go_wp2_with fail
      refine (done7 H7.out HT.out.st (by have := HT.out.g; have := HLT.out; omega) (by have := HT.out.h; have := HLT.out; omega)).mono ?_
      rintro e w5 ⟨r5, rfl, hb5⟩
      dsimp only
      cases r5 with
      | true =>
       go_wp2_with fail
       go_ret
       exact ⟨rfl, HB.out.trans (hb5.mono HB.out.size)⟩
      | false =>
       have HT5 := Aside0.mk (HT.out.below hb5)
       have HB5 := Aside0.mk (HB.out.trans (hb5.mono HB.out.size))
       have p := blk_cell HT5.out.box
       have q := blk_frozen HT5.out.box
       clear hb5
       go_wp2_with fail
       refine (next9 r um ta tn tc _ jn jc pa pn pc j _ HJ.out.1 HJ.out.2.1 HJ.out.2.2.1 HLT.out (pick_of HT5.out.st.hp HT5.out.pick)).mono ?_
       rintro e w6 ⟨n, rfl, hn, hb6⟩
       have HT6 := Aside0.mk (HT5.out.below hb6)
       have HB6 := Aside0.mk (HB5.out.trans (hb6.mono HB5.out.size))
       have HN := Aside0.mk hn
       clear hn hb6 p q
       dsimp only
       go_wp2_with fail
       refine (HT6.out.step H8.out HB6.out.size HLT.out n HN.out).mono ?_
       rintro e w7 ⟨r7, E7, T7, rfl, ht7, hb7⟩
       have HT7 := Aside0.mk ht7
       have HB7 := Aside0.mk (HB6.out.trans hb7)
       clear ht7 hb7
       dsimp only
       go_wp2_with fail
       refine (table_of HT7.out.st).mono ?_
       rintro e w8 ⟨rfl, ht8, hb8⟩
       have HT8 := Aside0.mk (HT7.out.below hb8)
       have HN8 := Aside0.mk (HT7.out.next hb8 ht8)
       have HB8 := Aside0.mk (HB7.out.trans (hb8.mono HB7.out.size))
       obtain ⟨gn, hgn⟩ : ∃ gn, w7.heap.size = gn := ⟨_, rfl⟩
       rw [hgn] at HN8
       have HGN := Aside0.mk hgn
       clear ht8 hb8 hgn
       dsimp only
       rw [HGN.out]
       clear HGN
       go_wp2_with fail
       go_loopg [11] 25 (fun gk i wr => ∃ c : Nat, 1 ≤ c ∧ c ≤ 25 ∧ i = .int .i64 c ∧ 25 ≤ c + gk ∧ Below w8.heap.size w8 wr)
       case atStart => exact ⟨1, by omega, by omega, rfl, by omega, Below.refl _ _⟩
       case round =>
        obtain ⟨c, hc1, hc25, rfl, hgc, hbr⟩ := hrel
        have HC := Aside0.mk (And.intro hc1 (And.intro hc25 hgc))
        have HR := Aside0.mk hbr
        clear hc1 hgc hbr
        go_wp2_with fail
        have TL := HT8.out.last.below HR.out
        have TN := HN8.out.last.below HR.out
        refine (G.Room.calls gn _ T7 wr TN).mono ?_
        rintro e w9 ⟨rfl, d9⟩
        have R9 := Aside0.mk (HR.out.trans (d9.below.mono HR.out.size))
        clear TL TN d9
        dsimp only
        by_cases hr : (c : Int) ≤ T7.room
        ·have hr2 : decide ((c : Int) ≤ T7.room) = true := by simp; omega
         have HRM := Aside0.mk hr
         obtain ⟨gc, rfl⟩ : ∃ gc, gk = gc + 1 := ⟨gk - 1, by have := HC.out; have := HN8.out.last.r2; omega⟩
         clear hr
         go_wp2_with fail
         refine (G.Get.calls gl _ T c _ (HT8.out.last.below R9.out) (right_small HT8.out.small)).mono ?_
         rintro e w10 ⟨A4, c4, A5, c5, rfl, _, hb10⟩
         have R10 := Aside0.mk (R9.out.trans (hb10.mono R9.out.size))
         clear hb10
         dsimp only [G.ndCells]
         obtain ⟨x, hx⟩ : ∃ x, T.get c = x := ⟨_, rfl⟩
         have HX := Aside0.mk hx
         rw [hx]
         clear hx
         obtain ⟨s1, hs1⟩ : ∃ s, w10.heap.size = s := ⟨_, rfl⟩
         obtain ⟨w11, hw11⟩ : ∃ W, w10.alloc (.cells #[.int .i64 x.kind, .int .i64 x.mode, .int .i64 x.uid, .int .i64 x.gid, .slice A4 x.data.length c4, .slice A5 x.ents.length c5, .string x.target] 44) = W := ⟨_, rfl⟩
         have R11 := Aside0.mk (show Below w8.heap.size w8 w11 by rw [← hw11]; exact R10.out.alloc R10.out.size _)
         have K11 := Aside0.mk (show w11.heap[s1]? = some (.cells #[.int .i64 x.kind, .int .i64 x.mode, .int .i64 x.uid, .int .i64 x.gid, .slice A4 x.data.length c4, .slice A5 x.ents.length c5, .string x.target] 44 (0, 0)) by rw [← hw11, ← hs1]; exact blk_new _ _)
         clear R10
         go_wp2_with fail
         refine (G.Get.calls gn _ T7 c _ (HN8.out.last.below R11.out) (right_small HN8.out.small)).mono ?_
         rintro e w12 ⟨D4, e4, D5, e5, rfl, _, hb12⟩
         have R12 := Aside0.mk (R11.out.trans (hb12.mono R11.out.size))
         have K12 := Aside0.mk (blk_below K11.out hb12)
         clear hb12 hw11 hs1 R11 K11
         dsimp only [G.ndCells]
         obtain ⟨y, hy⟩ : ∃ y, T7.get c = y := ⟨_, rfl⟩
         have HY := Aside0.mk hy
         rw [hy]
         clear hy
         obtain ⟨s2, hs2⟩ : ∃ s, w12.heap.size = s := ⟨_, rfl⟩
         obtain ⟨w13, hw13⟩ : ∃ W, w12.alloc (.cells #[.int .i64 y.kind, .int .i64 y.mode, .int .i64 y.uid, .int .i64 y.gid, .slice D4 y.data.length e4, .slice D5 y.ents.length e5, .string y.target] 44) = W := ⟨_, rfl⟩
         have R13 := Aside0.mk (show Below w8.heap.size w8 w13 by rw [← hw13]; exact R12.out.alloc R12.out.size _)
         have K13 := Aside0.mk (show w13.heap[s1]? = some (.cells #[.int .i64 x.kind, .int .i64 x.mode, .int .i64 x.uid, .int .i64 x.gid, .slice A4 x.data.length c4, .slice A5 x.ents.length c5, .string x.target] 44 (0, 0)) by rw [← hw13]; exact blk_alloc K12.out _)
         have L13 := Aside0.mk (show w13.heap[s2]? = some (.cells #[.int .i64 y.kind, .int .i64 y.mode, .int .i64 y.uid, .int .i64 y.gid, .slice D4 y.data.length e4, .slice D5 y.ents.length e5, .string y.target] 44 (0, 0)) by rw [← hw13, ← hs2]; exact blk_new _ _)
         clear R12 K12
         have hl : live T c = true ∧ live T7 c = true ∨ live T c = true ∧ live T7 c = false ∨ live T c = false := by
          cases live T c <;> cases live T7 c <;> simp
         rcases hl with ⟨l1, l2⟩ | ⟨l1, l2⟩ | l1
         all_goals
          go_wp2_with fail
          go_loopg [16, 17] jn (fun gk s i wr => ∃ (d : Nat) (sb : Bool), d ≤ jn ∧ i = .int .i64 d ∧ s = .bool sb ∧ jn ≤ d + gk ∧ (sb = false → (live T c = true ∧ live T7 c = true) ∧ ∀ q, q < d → us q ≠ x.uid) ∧ Below w13.heap.size w13 wr)
          case atStart => exact ⟨0, _, by omega, rfl, rfl, by omega, (fun h => by first | exact ⟨⟨l1, l2⟩, fun q hq => by omega⟩ | cases h), Below.refl _ _⟩
          case round =>
           obtain ⟨d, sb, hd, rfl, rfl, hgd, hsb, hbd⟩ := hrel
           have HD := Aside0.mk hgd
           have HS := Aside0.mk hsb
           have RD := Aside0.mk hbd
           have R := Aside0.mk (R13.out.trans (hbd.mono R13.out.size))
           have p := blk_cell (HT8.out.below R.out).box
           have q := blk_frozen (HT8.out.below R.out).box
           have p1 := blk_cell (blk_below K13.out hbd)
           have p2 := blk_cell (blk_below L13.out hbd)
           clear hgd hsb hbd l1 hw13 hs2; try clear l2
           by_cases hlt : d < jn
           ·obtain ⟨g', rfl⟩ : ∃ g', gk = g' + 1 := ⟨gk - 1, by have := HD.out; omega⟩
            have hlt2 : decide ((d : Int) < (jn : Int)) = true := by simp; omega
            have c3 := (HT8.out.below R.out).st.jobs d hlt
            go_wp2_with fail
            have P := G.Over.blk (HT8.out.below R.out).box
            have P1 := G.Over.blk (blk_below K13.out RD.out)
            have C3 := G.Over.cell c3
            clear p q p1 p2 c3
            refine G.wp_region_below (by kernel_rfl) (by kernel_rfl) ?_
            cases sb with
            | true =>
             repeat (go_big_quiet_step (fail))
             refine wpQuiet_nil ?_
             rintro _ ⟨⟨W2, hb2⟩, rfl⟩
             have RE := Aside0.mk (below_step RD.out hb2)
             clear hb2
             go_wp2_with fail
             go_roundg g'
             case measure => have := HD.out; omega
             case rel => exact ⟨d + 1, true, by omega, by go_num, rfl, by have := HD.out; omega, fun h => (by cases h), RE.out⟩
            | false =>
             cases he : us d == x.uid with
             | true =>
              repeat (go_big_quiet_step (fail))
              refine wpQuiet_nil ?_
              rintro _ ⟨⟨W2, hb2⟩, rfl⟩
              have RE := Aside0.mk (below_step RD.out hb2)
              clear hb2
              go_wp2_with fail
              go_roundg g'
              case measure => have := HD.out; omega
              case rel => exact ⟨d + 1, true, by omega, by go_num, rfl, by have := HD.out; omega, fun h => (by cases h), RE.out⟩
             | false =>
              repeat (go_big_quiet_step (fail))
              refine wpQuiet_nil ?_
              rintro _ ⟨⟨W2, hb2⟩, rfl⟩
              have RE := Aside0.mk (below_step RD.out hb2)
              clear hb2
              go_wp2_with fail
              go_roundg g'
              case measure => have := HD.out; omega
              case rel => exact ⟨d + 1, false, by omega, by go_num, rfl, by have := HD.out; omega, fun h => ⟨(HS.out (by trivial)).1, fun q hq => by
               by_cases e : q = d
               ·subst e; intro h; rw [h] at he; simp at he
               ·exact (HS.out (by trivial)).2 q (by omega)⟩, RE.out⟩
           ·have hlt2 : decide ((d : Int) < (jn : Int)) = false := by simp; omega
            have HF := Aside0.mk (show sb = false → (x.gid != y.gid) = false ∧ (bits .or .i64 (bits .or .i64 x.mode 2048) 1024 != bits .or .i64 (bits .or .i64 y.mode 2048) 1024) = false ∧ (bits .or .i64 y.mode x.mode != x.mode) = false ∧ ((x.mode != y.mode) = true → (x.kind != 1) = false) from fun h => by
             obtain ⟨⟨m1, m2⟩, m3⟩ := HS.out h
             have := HT8.out.node (fun q hq => HO.out q hq) c m1 m2 (by rw [HX.out]; exact fun q hq => m3 q (by omega))
             rw [HX.out, HY.out] at this
             exact this)
            cases sb with
            | true =>
             go_wp2_with fail
             go_roundg gc
             case measure => have := HC.out; omega
             case rel => exact ⟨c + 1, by omega, by have := HC.out; have := HRM.out; have := HN8.out.last.r2; omega, by go_num, by have := HC.out; omega, R.out⟩
            | false =>
             obtain ⟨f1, f2, f3, f4⟩ := HF.out rfl
             cases f5 : (x.mode != y.mode) with
             | true =>
              have f6 := f4 f5
              clear f4
              go_wp2_with fail
              go_roundg gc
              case measure => have := HC.out; omega
              case rel => exact ⟨c + 1, by omega, by have := HC.out; have := HRM.out; have := HN8.out.last.r2; omega, by go_num, by have := HC.out; omega, R.out⟩
             | false =>
              clear f4
              go_wp2_with fail
              go_roundg gc
              case measure => have := HC.out; omega
              case rel => exact ⟨c + 1, by omega, by have := HC.out; have := HRM.out; have := HN8.out.last.r2; omega, by go_num, by have := HC.out; omega, R.out⟩
        ·have hr2 : decide ((c : Int) ≤ T7.room) = false := by simp; omega
         clear hr
         go_wp2_with fail
         go_roundg g'
         case measure => have := HK.out; omega
         case rel => exact ⟨j + 1, E7, T7, gn, by have := HLT.out; omega, by go_num, by have := HK.out; omega, rfl, HB8.out.trans (R9.out.mono HB8.out.size), HN8.out.below R9.out⟩
     ·have hlt2 : decide ((j : Int) < 1500) = false := by simp; omega
      go_wp2_with fail
      go_ret
      exact ⟨rfl, HB.out⟩
end Go.Proofs.YtbjhcjgniciooaaGreatDoor.E.Kt
