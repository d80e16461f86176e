-- Written by wip/tools/myprint.py, a session's own driver of the kit's printer.
import Derived.Test.YtkibigbjgohdkaaDoorS0
namespace Go.Proofs.YtkibigbjgohdkaaDoor.S
open Go.RowKit Go.Proofs.YtkibigbjgohdkaaDoorW.PrintWords Go.Proofs.YtkibigbjgohdkaaDoorW.PrintLast Go.Proofs.YtkibigbjgohdkaaDoorW.PrintMore
attribute [local go_sem] max2_int min2_int max_two min_two max_three min_three max_four min_four   -- for this text's walks alone
set_option linter.unusedVariables false
set_option linter.unusedSimpArgs false

-- NOT PRINTED: function 35 (strings_FieldsFunc)

/-! ### paths_names: function 24 -/
def paths_names.f (a0 : ByteArray) : Option (List ByteArray) := if a0.size ≤ 4294967296 then some (namesOf a0) else none
set_option maxHeartbeats 1600000 in
set_option maxRecDepth 100000 in
theorem slash_pred (w : World) : PredAtRunes Tryd.prog 36 #[] (fun r => r == 47) w := by
  intro W x hx hb
  show Calls Tryd.prog 36 #[.int .i32 (x : Int)] W _
  have hd : ((x : Int) == 47) = (x == 47) := by rw [Bool.eq_iff_iff]; simp; omega
  go_enter Tryd.func36, Tryd.ntmps36
  go_wp2
  go_ret
  exact ⟨rfl, 0, rfl⟩
set_option maxHeartbeats 1600000 in
set_option maxRecDepth 100000 in
theorem paths_names.calls (a0 : ByteArray) (r : List ByteArray) (w : World) (h : paths_names.f a0 = some r) :
    Calls Tryd.prog 24 #[.string a0] w fun e w' => ∃ v0_ : Value, e = .returned (v0_) ∧ Kd.R Kd.string 9 w' w.heap.size (fun _ => True) v0_ r ∧ Below w.heap.size w w' := by
  unfold paths_names.f at h
  split at h
  · rename_i hs
    simp only [Option.some.injEq] at h
    have hf := (fields_names a0).trans h
    clear h
    go_enter Tryd.func24, Tryd.ntmps24
    go_wp2_with fail
    refine (Tryd.strings_FieldsFunc_runes 36 #[] (enters_of Tryd.func36 (by kernel_rfl) rfl) (fun r => r == 47) a0 w hs (slash_pred w)).mono ?_
    rintro e w1 ⟨A, rfl, hA, ho, hb⟩
    rw [hf] at ho ⊢
    go_wp2_with fail
    go_ret
    exact ⟨_, rfl, ⟨fun _ _ => trivial, _, ho, Kd.reps_scalar r⟩, hb⟩
  · exact absurd h (by simp)

/-! ### stringslite_HasSuffix: function 37 -/
def stringslite_HasSuffix.f (a0 : ByteArray) (a1 : ByteArray) : Option (Bool) := if (a0.size : Int) ≥ (a1.size : Int) then (if 0 ≤ (wrap64 ((a0.size : Int) - (a1.size : Int))) then (if (wrap64 ((a0.size : Int) - (a1.size : Int))) ≤ (a0.size : Int) then (some ((a0.extract ((wrap64 ((a0.size : Int) - (a1.size : Int))) : Int).toNat a0.size).toList == a1.toList)) else (none)) else (none)) else (some false)
set_option maxHeartbeats 8000000 in
set_option maxRecDepth 100000 in
theorem stringslite_HasSuffix.calls (a0 : ByteArray) (a1 : ByteArray) (r : Bool) (w : World) (h : stringslite_HasSuffix.f a0 a1 = some r) :
    Calls Tryd.prog 37 #[.string a0, .string a1] w fun e w' => e = .returned (.bool r) ∧ Drawn0 w w' := by
  have H : (if (a0.size : Int) ≥ (a1.size : Int) then (if 0 ≤ (wrap64 ((a0.size : Int) - (a1.size : Int))) then (if (wrap64 ((a0.size : Int) - (a1.size : Int))) ≤ (a0.size : Int) then (some ((a0.extract ((wrap64 ((a0.size : Int) - (a1.size : Int))) : Int).toNat a0.size).toList == a1.toList)) else (none)) else (none)) else (some false)) = some r := h
  clear h
  by_cases c3 : (a0.size : Int) ≥ (a1.size : Int)
  · rw [if_pos c3] at H
    have c3b0 : decide ((a1.size : Int) ≤ (a0.size : Int)) = true := decide_eq_true c3
    have c3b1 : decide (a1.size ≤ a0.size) = true := decide_eq_true (Int.ofNat_le.mp c3)
    clear c3
    obtain ⟨ji4, hji4⟩ : ∃ j_ : Int, (wrap64 ((a0.size : Int) - (a1.size : Int))) = j_ := ⟨_, rfl⟩
    replace H : (if 0 ≤ (ji4) then (if (ji4) ≤ (a0.size : Int) then (some ((a0.extract ((ji4) : Int).toNat a0.size).toList == a1.toList)) else (none)) else (none)) = some r := by first | (rw [hji4] at H; exact H) | (simp only [hji4] at H ⊢; exact H)
    have hji4w : (IntKind.i64.wrap ((a0.size : Int) - (a1.size : Int))) = ji4 := (i64_w _).trans hji4
    by_cases c5 : 0 ≤ (ji4)
    · rw [if_pos c5] at H
      have c5b0 := eq_true c5
      have c5b1 : decide (0 ≤ (ji4)) = true := decide_eq_true c5
      clear c5
      by_cases c6 : (ji4) ≤ (a0.size : Int)
      · rw [if_pos c6] at H
        have c6b0 := eq_true c6
        have c6b1 : decide ((ji4) ≤ (a0.size : Int)) = true := decide_eq_true c6
        clear c6
        obtain rfl := Option.some.inj H
        go_enter Tryd.func37, Tryd.ntmps37
        go_wp2
        go_ret
        exact ⟨by first | rfl | (simp; done) | (simp only [← hji4] <;> (first | rfl | simp)) | (simp [*]; done), by repeat (first | exact Drawn0.refl _ | apply Drawn0.step)⟩
      · rw [if_neg c6] at H
        exact absurd H (by simp)
    · rw [if_neg c5] at H
      exact absurd H (by simp)
  · rw [if_neg c3] at H
    have c3b0 : decide ((a1.size : Int) ≤ (a0.size : Int)) = false := decide_eq_false c3
    have c3b1 : decide (a1.size ≤ a0.size) = false := decide_eq_false (fun h => c3 (Int.ofNat_le.mpr h))
    clear c3
    obtain rfl := Option.some.inj H
    go_enter Tryd.func37, Tryd.ntmps37
    go_wp2
    go_ret
    exact ⟨by first | rfl | (simp; done) | (simp [*]; done), by repeat (first | exact Drawn0.refl _ | apply Drawn0.step)⟩

/-! ### strings_HasSuffix: function 25 -/
def strings_HasSuffix.f (a0 : ByteArray) (a1 : ByteArray) : Option (Bool) := (stringslite_HasSuffix.f a0 a1).bind fun t101 => (some t101)
set_option maxHeartbeats 8000000 in
set_option maxRecDepth 100000 in
theorem strings_HasSuffix.calls (a0 : ByteArray) (a1 : ByteArray) (r : Bool) (w : World) (h : strings_HasSuffix.f a0 a1 = some r) :
    Calls Tryd.prog 25 #[.string a0, .string a1] w fun e w' => e = .returned (.bool r) ∧ Drawn0 w w' := by
  have H : ((stringslite_HasSuffix.f a0 a1).bind fun t101 => (some t101)) = some r := h
  clear h
  replace H := Option.bind_eq_some_iff.mp H
  obtain ⟨t101, A30, H⟩ := H
  replace H : (some t101) = some r := H
  have A3 := Aside0.mk A30
  clear A30
  obtain rfl := Option.some.inj H
  go_enter Tryd.func25, Tryd.ntmps25
  go_wp2_with (first | ((with_reducible refine gate_callee (f := 37) rfl ?_); refine goesL_ (some 7) rfl rfl Tryd.func37 (by kernel_rfl) rfl #[.string a0, .string a1] rfl (by (try simp only [List.map_toArray, List.map_cons, List.map_nil]); first | done | rfl | (simp only [List.length_drop, List.length_take]; rfl)) ?_; (with_reducible refine (stringslite_HasSuffix.calls a0 a1 t101 _ A3.out).mono ?_); rintro e w' ⟨rfl, ⟨nd, rfl⟩⟩; refine ⟨_, rfl, ?_⟩))
  go_ret
  exact ⟨by first | rfl | (simp; done) | (simp [*]; done), by repeat (first | exact Drawn0.refl _ | apply Drawn0.step)⟩

/-! ### stringslite_HasPrefix: function 47 -/
def stringslite_HasPrefix.f (a0 : ByteArray) (a1 : ByteArray) : Option (Bool) := if (a0.size : Int) ≥ (a1.size : Int) then (if 0 ≤ (a1.size : Int) then (if (a1.size : Int) ≤ (a0.size : Int) then (some ((a0.extract 0 ((a1.size : Int) : Int).toNat).toList == a1.toList)) else (none)) else (none)) else (some false)
set_option maxHeartbeats 8000000 in
set_option maxRecDepth 100000 in
theorem stringslite_HasPrefix.calls (a0 : ByteArray) (a1 : ByteArray) (r : Bool) (w : World) (h : stringslite_HasPrefix.f a0 a1 = some r) :
    Calls Tryd.prog 47 #[.string a0, .string a1] w fun e w' => e = .returned (.bool r) ∧ Drawn0 w w' := by
  have H : (if (a0.size : Int) ≥ (a1.size : Int) then (if 0 ≤ (a1.size : Int) then (if (a1.size : Int) ≤ (a0.size : Int) then (some ((a0.extract 0 ((a1.size : Int) : Int).toNat).toList == a1.toList)) else (none)) else (none)) else (some false)) = some r := h
  clear h
  by_cases c3 : (a0.size : Int) ≥ (a1.size : Int)
  · rw [if_pos c3] at H
    have c3b0 : decide ((a1.size : Int) ≤ (a0.size : Int)) = true := decide_eq_true c3
    have c3b1 : decide (a1.size ≤ a0.size) = true := decide_eq_true (Int.ofNat_le.mp c3)
    clear c3
    by_cases c4 : 0 ≤ (a1.size : Int)
    · rw [if_pos c4] at H
      have c4b0 := eq_true c4
      have c4b1 : decide (0 ≤ (a1.size : Int)) = true := decide_eq_true c4
      clear c4
      by_cases c5 : (a1.size : Int) ≤ (a0.size : Int)
      · rw [if_pos c5] at H
        have c5b0 := eq_true c5
        have c5b1 : decide ((a1.size : Int) ≤ (a0.size : Int)) = true := decide_eq_true c5
        clear c5
        obtain rfl := Option.some.inj H
        go_enter Tryd.func47, Tryd.ntmps47
        go_wp2
        go_ret
        exact ⟨by first | rfl | (simp; done) | (simp [*]; done), by repeat (first | exact Drawn0.refl _ | apply Drawn0.step)⟩
      · rw [if_neg c5] at H
        exact absurd H (by simp)
    · rw [if_neg c4] at H
      exact absurd H (by simp)
  · rw [if_neg c3] at H
    have c3b0 : decide ((a1.size : Int) ≤ (a0.size : Int)) = false := decide_eq_false c3
    have c3b1 : decide (a1.size ≤ a0.size) = false := decide_eq_false (fun h => c3 (Int.ofNat_le.mpr h))
    clear c3
    obtain rfl := Option.some.inj H
    go_enter Tryd.func47, Tryd.ntmps47
    go_wp2
    go_ret
    exact ⟨by first | rfl | (simp; done) | (simp [*]; done), by repeat (first | exact Drawn0.refl _ | apply Drawn0.step)⟩

/-! ### strings_HasPrefix: function 38 -/
def strings_HasPrefix.f (a0 : ByteArray) (a1 : ByteArray) : Option (Bool) := (stringslite_HasPrefix.f a0 a1).bind fun t102 => (some t102)
set_option maxHeartbeats 8000000 in
set_option maxRecDepth 100000 in
theorem strings_HasPrefix.calls (a0 : ByteArray) (a1 : ByteArray) (r : Bool) (w : World) (h : strings_HasPrefix.f a0 a1 = some r) :
    Calls Tryd.prog 38 #[.string a0, .string a1] w fun e w' => e = .returned (.bool r) ∧ Drawn0 w w' := by
  have H : ((stringslite_HasPrefix.f a0 a1).bind fun t102 => (some t102)) = some r := h
  clear h
  replace H := Option.bind_eq_some_iff.mp H
  obtain ⟨t102, A30, H⟩ := H
  replace H : (some t102) = some r := H
  have A3 := Aside0.mk A30
  clear A30
  obtain rfl := Option.some.inj H
  go_enter Tryd.func38, Tryd.ntmps38
  go_wp2_with (first | ((with_reducible refine gate_callee (f := 47) rfl ?_); refine goesL_ (some 7) rfl rfl Tryd.func47 (by kernel_rfl) rfl #[.string a0, .string a1] rfl (by (try simp only [List.map_toArray, List.map_cons, List.map_nil]); first | done | rfl | (simp only [List.length_drop, List.length_take]; rfl)) ?_; (with_reducible refine (stringslite_HasPrefix.calls a0 a1 t102 _ A3.out).mono ?_); rintro e w' ⟨rfl, ⟨nd, rfl⟩⟩; refine ⟨_, rfl, ?_⟩))
  go_ret
  exact ⟨by first | rfl | (simp; done) | (simp [*]; done), by repeat (first | exact Drawn0.refl _ | apply Drawn0.step)⟩

/-! ### paths_abs: function 26 -/
def paths_abs.f (a0 : ByteArray) : Option (Bool) := (strings_HasPrefix.f a0 (⟨#[47]⟩ : ByteArray)).bind fun t103 => (some t103)
set_option maxHeartbeats 8000000 in
set_option maxRecDepth 100000 in
theorem paths_abs.calls (a0 : ByteArray) (r : Bool) (w : World) (h : paths_abs.f a0 = some r) :
    Calls Tryd.prog 26 #[.string a0] w fun e w' => e = .returned (.bool r) ∧ Drawn0 w w' := by
  have H : ((strings_HasPrefix.f a0 (⟨#[47]⟩ : ByteArray)).bind fun t103 => (some t103)) = some r := h
  clear h
  replace H := Option.bind_eq_some_iff.mp H
  obtain ⟨t103, A20, H⟩ := H
  replace H : (some t103) = some r := H
  have A2 := Aside0.mk A20
  clear A20
  obtain rfl := Option.some.inj H
  go_enter Tryd.func26, Tryd.ntmps26
  go_wp2_with (first | ((with_reducible refine gate_callee (f := 38) rfl ?_); refine goesL_ (some 4) rfl rfl Tryd.func38 (by kernel_rfl) rfl #[.string a0, .string (⟨#[47]⟩ : ByteArray)] rfl (by (try simp only [List.map_toArray, List.map_cons, List.map_nil]); first | done | rfl | (simp only [List.length_drop, List.length_take]; rfl)) ?_; (with_reducible refine (strings_HasPrefix.calls a0 (⟨#[47]⟩ : ByteArray) t103 _ A2.out).mono ?_); rintro e w' ⟨rfl, ⟨nd, rfl⟩⟩; refine ⟨_, rfl, ?_⟩))
  go_ret
  exact ⟨by first | rfl | (simp; done) | (simp [*]; done), by repeat (first | exact Drawn0.refl _ | apply Drawn0.step)⟩

/-! ### paths_Split: function 9 -/
def paths_Split.f (a0 : ByteArray) : Option (Bool × List ByteArray) :=
  (paths_names.f a0).bind fun t => (strings_HasSuffix.f a0 ⟨#[47]⟩).bind fun b => (paths_abs.f a0).bind fun c =>
    if t = [] then some (c, []) else if b = true then (if t.length < 8796093022208 then some (c, t ++ [⟨#[46]⟩]) else none) else some (c, t)
set_option maxHeartbeats 3200000 in
set_option maxRecDepth 100000 in
theorem paths_Split.calls (a0 : ByteArray) (r1 : Bool) (r2 : List ByteArray) (w : World) (h : paths_Split.f a0 = some (r1, r2)) :
    Calls Tryd.prog 9 #[.string a0] w fun e w' => ∃ v1_ : Value, e = .returned (.tuple #[.bool r1, v1_]) ∧ Kd.V Kd.string 9 w' w.heap.size (fun k_ => w.heap.size ≤ k_) v1_ r2 ∧ Below w.heap.size w w' := by
  obtain ⟨t, ht, h⟩ := Option.bind_eq_some_iff.mp h
  obtain ⟨b, hb0, h⟩ := Option.bind_eq_some_iff.mp h
  obtain ⟨c, hc0, h⟩ := Option.bind_eq_some_iff.mp h
  have AT := Aside0.mk ht
  have AB := Aside0.mk hb0
  have AC := Aside0.mk hc0
  clear ht hb0 hc0
  by_cases ht0 : t = []
  · rw [if_pos ht0] at h
    simp only [Option.some.injEq, Prod.mk.injEq] at h
    obtain ⟨rfl, rfl⟩ := h
    have AT0 := Aside0.mk ht0
    clear ht0
    go_enter Tryd.func9, Tryd.ntmps9
    go_wp2_with fail
    refine (paths_names.calls a0 t _ AT.out).mono ?_
    rintro e w1 ⟨v, rfl, ho, hb⟩
    rw [AT0.out] at ho
    obtain ⟨A, cc, rfl⟩ := Kd.R_slice ho
    have HO := Aside0.mk ho
    have HB := Aside0.mk hb
    clear ho hb
    have g1 : decide ((([] : List ByteArray).length : Int) > 0) = false := rfl
    rw [List.length_nil] at *
    go_wp2_with fail
    go_quiet ((go_at_call 26; exact (paths_abs.calls a0 c _ AC.out).mono (fun e w' ⟨he, m, hm⟩ => ⟨he, _, hm.trans (World.drewN_drewN _ _ _)⟩)))
    go_wp2_with fail
    go_ret2
    exact ⟨_, rfl, Kd.V_drewN (Kd.V_mk (xs := ([] : List ByteArray)) (c := 0) (Nat.le_refl _) (Kd.R_F (Kd.R_mono (Kd.R_bound HO.out) (fun k hk => hk.2.1)))) _, pw_below_drewN HB.out _⟩
  · rw [if_neg ht0] at h
    have hpos : 0 < t.length := List.length_pos_iff.2 ht0
    have gp : decide (0 < (t.length : Int)) = true := decide_eq_true (by omega)
    have gp2 : decide (0 < t.length) = true := decide_eq_true hpos
    cases b with
    | false =>
      rw [if_neg (by decide)] at h
      simp only [Option.some.injEq, Prod.mk.injEq] at h
      obtain ⟨rfl, rfl⟩ := h
      go_enter Tryd.func9, Tryd.ntmps9
      go_wp2_with fail
      refine (paths_names.calls a0 t _ AT.out).mono ?_
      rintro e w1 ⟨v, rfl, ho, hb⟩
      obtain ⟨A, cc, rfl⟩ := Kd.R_slice ho
      have hcc := (Kd.R_reads' ho).2.1
      have hcc2 : (t.length : Int) ≤ (cc : Int) := by omega
      have HO := Aside0.mk ho
      have HB := Aside0.mk hb
      clear ho hb
      go_wp2_with fail
      refine (strings_HasSuffix.calls a0 ⟨#[47]⟩ false _ AB.out).mono ?_
      rintro e w2 ⟨rfl, ⟨nd, rfl⟩⟩
      have HO2 := Aside0.mk (Kd.R_drewN HO.out nd)
      have HB2 := Aside0.mk (pw_below_drewN HB.out nd)
      generalize w1.drewN nd = w2 at HO2 HB2 ⊢
      go_wp2_with fail
      go_quiet ((go_at_call 26; exact (paths_abs.calls a0 c _ AC.out).mono (fun e w' ⟨he, m, hm⟩ => ⟨he, _, hm.trans (World.drewN_drewN _ _ _)⟩)))
      go_wp2_with fail
      go_ret2
      exact ⟨_, rfl, Kd.V_drewN (Kd.V_mk (Nat.le_refl _) (Kd.R_F (Kd.R_mono (Kd.R_bound HO2.out) (fun k hk => hk.2.1)))) _, pw_below_drewN HB2.out _⟩
    | true =>
      rw [if_pos rfl] at h
      split at h
      · rename_i hlt
        simp only [Option.some.injEq, Prod.mk.injEq] at h
        obtain ⟨rfl, rfl⟩ := h
        obtain ⟨y, hy⟩ : ∃ y_ : List ByteArray, y_ = (t ++ [(⟨#[46]⟩ : ByteArray)]) := ⟨_, rfl⟩
        have NY := Aside0.mk hy
        have LM := Aside0.mk hlt
        rw [← hy]
        clear hy hlt
        go_enter Tryd.func9, Tryd.ntmps9
        go_wp2_with fail
        refine (paths_names.calls a0 t _ AT.out).mono ?_
        rintro e w1 ⟨v, rfl, ho, hb⟩
        obtain ⟨A, cc, rfl⟩ := Kd.R_slice ho
        have HO := Aside0.mk ho
        have HB := Aside0.mk hb
        clear ho hb
        go_wp2_with fail
        refine (strings_HasSuffix.calls a0 ⟨#[47]⟩ true _ AB.out).mono ?_
        rintro e w2 ⟨rfl, ⟨nd, rfl⟩⟩
        have HO2 := Aside0.mk (Kd.R_drewN HO.out nd)
        have HB2 := Aside0.mk (pw_below_drewN HB.out nd)
        generalize w1.drewN nd = w2 at HO2 HB2 ⊢
        go_wp2_with (at_builtin; refine Kd.R_append Kd.string (w0 := w) w.heap.size rfl (.tmp 14) (.tmp 15) 23 9 (.string ⟨#[]⟩) 16 rfl Tryd.underlying23 info9 rfl (by decide) (by omega) (.slice A t.length cc) t (⟨#[46]⟩ : ByteArray) [.string (⟨#[46]⟩ : ByteArray)] (fun _ => True) (fun _ => False) rfl rfl ?aP (fun _ hk => hk.elim) ?aF ?aO ?aB ?aS ?aL ?_; (case aP => exact rfl); (case aB => exact (by repeat (first | (with_reducible first | exact HB2.out | apply below_alloc | apply pw_below_drewN | apply below_drew1) | exact HB2.out))); (case aF => exact (fun _ _ => trivial)); (case aO => exact (by (with_reducible repeat (first | apply Kd.R_alloc | apply Kd.R_drewN | apply Kd.R_drew)); exact HO2.out)); (case aS => exact (below_size (by repeat (first | (with_reducible first | exact HB2.out | apply below_alloc | apply pw_below_drewN | apply below_drew1) | exact HB2.out)))); (case aL => have := LM.out; omega); intro v3 w3 ho hb hg hat; rw [← NY.out] at ho; have HO3 := Aside0.mk ho; have HB3 := Aside0.mk hb; clear ho hb hg hat)
        obtain ⟨A3, c3, rfl⟩ := Kd.R_slice HO3.out
        have hcc := (Kd.R_reads' HO3.out).2.1
        have hcc2 : (y.length : Int) ≤ (c3 : Int) := by omega
        go_wp2_with fail
        go_quiet ((go_at_call 26; exact (paths_abs.calls a0 c _ AC.out).mono (fun e w' ⟨he, m, hm⟩ => ⟨he, _, hm.trans (World.drewN_drewN _ _ _)⟩)))
        go_wp2_with fail
        go_ret2
        exact ⟨_, rfl, Kd.V_drewN (Kd.V_mk (Nat.le_refl _) (Kd.R_F (Kd.R_mono (Kd.R_bound HO3.out) (fun k hk => hk.2.1)))) _, pw_below_drewN HB3.out _⟩
      · exact absurd h (by simp)

/-! ### gaolerref07_Same: function 11 -/
def gaolerref07_Same.l0 : Nat → List ByteArray → List ByteArray → Int → Option (Bool)
  | 0, _, _, _ => none
  | k + 1, x0, x1, x5 => if x5 < (x0.length : Int) then (if 0 ≤ x5 then (if x5 < (x1.length : Int) then (if (rdOf ByteArray.empty x0 x5).toList = (rdOf ByteArray.empty x1 x5).toList then (gaolerref07_Same.l0 k x0 x1 (wrap64 (x5 + 1))) else (some false)) else (none)) else (none)) else (some true)
def gaolerref07_Same.f (k : Nat) (l0 : List ByteArray) (l1 : List ByteArray) : Option (Bool) := if (l0.length : Int) = (l1.length : Int) then (gaolerref07_Same.l0 k l0 l1 0) else (some false)
theorem gaolerref07_Same.mono_l : ∀ k, (∀ y0 y1 y2, LeO (gaolerref07_Same.l0 k y0 y1 y2) (gaolerref07_Same.l0 (k + 1) y0 y1 y2))
  | 0 => fun _ _ _ r h => by simp [gaolerref07_Same.l0] at h
  | k + 1 => by
    have ih0 := gaolerref07_Same.mono_l k
    · intro y0 y1 y2
      unfold gaolerref07_Same.l0
      repeat' first
      | (with_reducible exact ih0 _ _ _)
      | (with_reducible exact LeO.refl _)
      | (with_reducible exact LeO.none _)
      | (with_reducible refine LeO.ite ?_ ?_)
      | (with_reducible refine LeO.bind ?_ (fun _ => ?_))
      | exact ih0 _ _ _
      | exact LeO.none _
      | refine LeO.ite ?_ ?_
      | refine LeO.bind ?_ (fun _ => ?_)
theorem gaolerref07_Same.mono : ∀ a0 a1 k, LeO (gaolerref07_Same.f k a0 a1) (gaolerref07_Same.f (k + 1) a0 a1) := by
  intro a0 a1 k
  have ih0 := gaolerref07_Same.mono_l k
  unfold gaolerref07_Same.f
  repeat' first
      | (with_reducible exact ih0 _ _ _)
      | (with_reducible exact LeO.refl _)
      | (with_reducible exact LeO.none _)
      | (with_reducible refine LeO.ite ?_ ?_)
      | (with_reducible refine LeO.bind ?_ (fun _ => ?_))
      | exact ih0 _ _ _
      | exact LeO.none _
      | refine LeO.ite ?_ ?_
      | refine LeO.bind ?_ (fun _ => ?_)
set_option maxHeartbeats 8000000 in
set_option maxRecDepth 100000 in
theorem gaolerref07_Same.calls (k : Nat) (A0 : Option Addr) (c0 : Nat) (l0 : List ByteArray) (A1 : Option Addr) (c1 : Nat) (l1 : List ByteArray) (r : Bool) (w : World) (hr0 : Kd.C Kd.string w A0 l0.length l0) (hc0 : l0.length ≤ c0) (hr1 : Kd.C Kd.string w A1 l1.length l1) (hc1 : l1.length ≤ c1) (h : gaolerref07_Same.f k l0 l1 = some r) :
    Calls Tryd.prog 11 #[.slice A0 l0.length c0, .slice A1 l1.length c1] w fun e w' => e = .returned (.bool r) ∧ Drawn0 w w' := by
  have HR0 := Aside0.mk hr0
  have HC0 := Aside0.mk hc0
  clear hr0 hc0
  have HR1 := Aside0.mk hr1
  have HC1 := Aside0.mk hc1
  clear hr1 hc1
  have H : (if (l0.length : Int) = (l1.length : Int) then (gaolerref07_Same.l0 k l0 l1 0) else (some false)) = some r := h
  clear h
  by_cases c3 : (l0.length : Int) = (l1.length : Int)
  · rw [if_pos c3] at H
    have c3b0 : ((l0.length : Int) == (l1.length : Int)) = true := beq_iff_eq.mpr c3
    have c3b1 : ((l0.length : Int) != (l1.length : Int)) = false := bne_eq_false_iff_eq.mpr c3
    have c3b2 : (l0.length == l1.length) = true := by first | simpa using c3 | (simp at c3 ⊢; omega)
    clear c3
    have H' := Aside0.mk H
    clear H
    go_enter Tryd.func11, Tryd.ntmps11
    go_wp2
    repeat (go_quiet (fail); try go_wp2)
    go_loopg [5] k (fun kq v5 w' => ∃ (x5_1 : Int), v5 = .int .i64 x5_1 ∧ Aside0 (gaolerref07_Same.l0 kq l0 l1 x5_1 = some r) ∧ Aside0 (kq ≤ k) ∧ Drawn0 w w')
    case atStart => exact ⟨(0), (by first | rfl | (simp; done) | (simp [*]; done)), H', ⟨Nat.le_refl _⟩, by repeat (first | exact Drawn0.refl _ | apply Drawn0.step)⟩
    case round =>
      clear H'
      try clear c1
      try clear p2
      try clear c3
      try clear c3b0
      try clear c3b1
      try clear c3b2
      obtain ⟨x5_1, rfl, HA, HK1, ⟨m1, rfl⟩⟩ := hrel
      cases gk with
      | zero => exact absurd HA.out (by simp [gaolerref07_Same.l0])
      | succ k1 =>
        have H := HA.out
        clear HA
        simp only [gaolerref07_Same.l0] at H
        by_cases c4 : x5_1 < (l0.length : Int)
        · rw [if_pos c4] at H
          have c4b0 : decide (x5_1 < (l0.length : Int)) = true := decide_eq_true c4
          clear c4
          by_cases c5 : 0 ≤ x5_1
          · rw [if_pos c5] at H
            have c5b0 : decide (0 ≤ x5_1) = true := decide_eq_true c5
            clear c5
            by_cases c6 : x5_1 < (l1.length : Int)
            · rw [if_pos c6] at H
              have c6b0 : decide (x5_1 < (l1.length : Int)) = true := decide_eq_true c6
              clear c6
              by_cases c7 : (rdOf ByteArray.empty l0 x5_1).toList = (rdOf ByteArray.empty l1 x5_1).toList
              · rw [if_pos c7] at H
                have c7b0 : ((rdOf ByteArray.empty l0 x5_1).toList == (rdOf ByteArray.empty l1 x5_1).toList) = true := beq_iff_eq.mpr c7
                have c7b1 : ((rdOf ByteArray.empty l0 x5_1).toList != (rdOf ByteArray.empty l1 x5_1).toList) = false := bne_eq_false_iff_eq.mpr c7
                clear c7
                have H' := Aside0.mk H
                clear H
                have p104 : 0 ≤ (x5_1 : Int) := of_decide_eq_true (by first | (with_reducible assumption) | assumption)
                have q104 : x5_1 < (l0.length : Int) := of_decide_eq_true (by first | (with_reducible assumption) | assumption)
                obtain ⟨ad104, e104, hx104_0⟩ := Kd.at_string HR0.out x5_1 p104 q104
                cases e104
                replace p104 := eq_true p104
                replace q104 := eq_true q104
                have p105 : 0 ≤ (x5_1 : Int) := of_decide_eq_true (by first | (with_reducible assumption) | assumption)
                have q105 : x5_1 < (l1.length : Int) := of_decide_eq_true (by first | (with_reducible assumption) | assumption)
                obtain ⟨ad105, e105, hx105_0⟩ := Kd.at_string HR1.out x5_1 p105 q105
                cases e105
                replace p105 := eq_true p105
                replace q105 := eq_true q105
                go_wp2
                repeat (go_quiet (fail); try go_wp2)
                go_roundg k1
                case measure => have := HK1.out; omega
                case rel => exact ⟨(wrap64 (x5_1 + 1)), (by first | rfl | (simp; done) | (simp [*]; done)), H', ⟨by have := HK1.out; omega⟩, by repeat (first | exact Drawn0.refl _ | apply Drawn0.step)⟩
              · rw [if_neg c7] at H
                have c7b0 : ((rdOf ByteArray.empty l0 x5_1).toList == (rdOf ByteArray.empty l1 x5_1).toList) = false := beq_eq_false_iff_ne.mpr c7
                have c7b1 : ((rdOf ByteArray.empty l0 x5_1).toList != (rdOf ByteArray.empty l1 x5_1).toList) = true := bne_iff_ne.mpr c7
                obtain rfl := Option.some.inj H
                have p104 : 0 ≤ (x5_1 : Int) := of_decide_eq_true (by first | (with_reducible assumption) | assumption)
                have q104 : x5_1 < (l0.length : Int) := of_decide_eq_true (by first | (with_reducible assumption) | assumption)
                obtain ⟨ad104, e104, hx104_0⟩ := Kd.at_string HR0.out x5_1 p104 q104
                cases e104
                replace p104 := eq_true p104
                replace q104 := eq_true q104
                have p105 : 0 ≤ (x5_1 : Int) := of_decide_eq_true (by first | (with_reducible assumption) | assumption)
                have q105 : x5_1 < (l1.length : Int) := of_decide_eq_true (by first | (with_reducible assumption) | assumption)
                obtain ⟨ad105, e105, hx105_0⟩ := Kd.at_string HR1.out x5_1 p105 q105
                cases e105
                replace p105 := eq_true p105
                replace q105 := eq_true q105
                go_wp2
                repeat (go_quiet (fail); try go_wp2)
                go_ret
                exact ⟨by first | rfl | (simp; done) | (simp [*]; done), by repeat (first | exact Drawn0.refl _ | apply Drawn0.step)⟩
            · rw [if_neg c6] at H
              exact absurd H (by simp)
          · rw [if_neg c5] at H
            exact absurd H (by simp)
        · rw [if_neg c4] at H
          have c4b0 : decide (x5_1 < (l0.length : Int)) = false := decide_eq_false c4
          clear c4
          obtain rfl := Option.some.inj H
          go_wp2
          repeat (go_quiet (fail); try go_wp2)
          go_ret
          exact ⟨by first | rfl | (simp; done) | (simp [*]; done), by repeat (first | exact Drawn0.refl _ | apply Drawn0.step)⟩
  · rw [if_neg c3] at H
    have c3b0 : ((l0.length : Int) == (l1.length : Int)) = false := beq_eq_false_iff_ne.mpr c3
    have c3b1 : ((l0.length : Int) != (l1.length : Int)) = true := bne_iff_ne.mpr c3
    have c3b2 : (l0.length == l1.length) = false := by first | simpa using c3 | (simp at c3 ⊢; omega)
    obtain rfl := Option.some.inj H
    go_enter Tryd.func11, Tryd.ntmps11
    go_wp2
    repeat (go_quiet (fail); try go_wp2)
    go_ret
    exact ⟨by first | rfl | (simp; done) | (simp [*]; done), by repeat (first | exact Drawn0.refl _ | apply Drawn0.step)⟩

-- NOT PRINTED: function 48 (bytealg_IndexByteString)

-- NOT PRINTED: function 39 (stringslite_IndexByte)

/-! ### strings_IndexByte: function 29 -/
def strings_IndexByte.f (a0 : ByteArray) (a1 : Int) : Option Int := some (Lib.indexByte a0.data.toList a1.toNat.toUInt8)
theorem strings_IndexByte.calls (a0 : ByteArray) (a1 : Int) (r : Int) (w : World) (h : strings_IndexByte.f a0 a1 = some r) :
    Calls Tryd.prog 29 #[.string a0, .int .u8 a1] w fun e w' => e = .returned (.int .i64 r) ∧ Drawn0 w w' := by
  simp only [strings_IndexByte.f, Option.some.injEq] at h
  subst h
  exact (Tryd.strings_IndexByte a0 a1 w).mono fun e w' ⟨he, hw⟩ => ⟨he, hw ▸ Drawn0.refl _⟩

/-! ### paths_Fits: function 12 -/
def paths_Fits.f (a0 : ByteArray) : Option (Bool) := if a0.toList = ([] : List UInt8) then (some false) else (if (a0.size : Int) ≤ 64 then ((strings_IndexByte.f a0 0).bind fun t106 => (some (decide (t106 < 0)))) else (some false))
set_option maxHeartbeats 8000000 in
set_option maxRecDepth 100000 in
theorem paths_Fits.calls (a0 : ByteArray) (r : Bool) (w : World) (h : paths_Fits.f a0 = some r) :
    Calls Tryd.prog 12 #[.string a0] w fun e w' => e = .returned (.bool r) ∧ Drawn0 w w' := by
  have H : (if a0.toList = ([] : List UInt8) then (some false) else (if (a0.size : Int) ≤ 64 then ((strings_IndexByte.f a0 0).bind fun t106 => (some (decide (t106 < 0)))) else (some false))) = some r := h
  clear h
  by_cases c2 : a0.toList = ([] : List UInt8)
  · rw [if_pos c2] at H
    have c2b0 : (a0.toList == ([] : List UInt8)) = true := beq_iff_eq.mpr c2
    have c2b1 : (a0.toList != ([] : List UInt8)) = false := bne_eq_false_iff_eq.mpr c2
    clear c2
    obtain rfl := Option.some.inj H
    go_enter Tryd.func12, Tryd.ntmps12
    go_wp2
    go_ret
    exact ⟨by first | rfl | (simp; done) | (simp [*]; done), by repeat (first | exact Drawn0.refl _ | apply Drawn0.step)⟩
  · rw [if_neg c2] at H
    have c2b0 : (a0.toList == ([] : List UInt8)) = false := beq_eq_false_iff_ne.mpr c2
    have c2b1 : (a0.toList != ([] : List UInt8)) = true := bne_iff_ne.mpr c2
    by_cases c3 : (a0.size : Int) ≤ 64
    · rw [if_pos c3] at H
      have c3b0 : decide ((a0.size : Int) ≤ 64) = true := decide_eq_true c3
      have c3b1 : decide (a0.size ≤ 64) = true := decide_eq_true (by omega)
      clear c3
      replace H := Option.bind_eq_some_iff.mp H
      obtain ⟨t106, A40, H⟩ := H
      replace H : (some (decide (t106 < 0))) = some r := H
      have A4 := Aside0.mk A40
      clear A40
      obtain rfl := Option.some.inj H
      go_enter Tryd.func12, Tryd.ntmps12
      go_wp2_with (first | (go_at_call 29; (with_reducible refine (strings_IndexByte.calls a0 0 t106 _ A4.out).mono ?_); rintro e w' ⟨rfl, ⟨nd, rfl⟩⟩))
      go_ret
      exact ⟨by first | rfl | (simp; done) | (simp [*]; done), by repeat (first | exact Drawn0.refl _ | apply Drawn0.step)⟩
    · rw [if_neg c3] at H
      have c3b0 : decide ((a0.size : Int) ≤ 64) = false := decide_eq_false c3
      have c3b1 : decide (a0.size ≤ 64) = false := decide_eq_false (by omega)
      clear c3
      obtain rfl := Option.some.inj H
      go_enter Tryd.func12, Tryd.ntmps12
      go_wp2
      go_ret
      exact ⟨by first | rfl | (simp; done) | (simp [*]; done), by repeat (first | exact Drawn0.refl _ | apply Drawn0.step)⟩

-- NOT PRINTED: function 42 (strings_makeASCIISet)

/-! ### utf8_ValidRune: function 55 -/
def utf8_ValidRune.j0 : Nat → Int → Bool → Option (Bool)
  | 0, _, _ => none
  | k + 1, x0, x3 => if x3 = true then (some true) else (if 57343 < x0 then (if x0 ≤ 1114111 then (some true) else (some false)) else (some false))
def utf8_ValidRune.f (k : Nat) (a0 : Int) : Option (Bool) := if 0 ≤ a0 then (utf8_ValidRune.j0 k a0 (decide (a0 < 55296))) else (utf8_ValidRune.j0 k a0 false)
theorem utf8_ValidRune.mono_l : ∀ k, (∀ y0 y1, LeO (utf8_ValidRune.j0 k y0 y1) (utf8_ValidRune.j0 (k + 1) y0 y1))
  | 0 => fun _ _ r h => by simp [utf8_ValidRune.j0] at h
  | k + 1 => by
    have ih0 := utf8_ValidRune.mono_l k
    · intro y0 y1
      unfold utf8_ValidRune.j0
      repeat' first
      | (with_reducible exact ih0 _ _)
      | (with_reducible exact LeO.refl _)
      | (with_reducible exact LeO.none _)
      | (with_reducible refine LeO.ite ?_ ?_)
      | (with_reducible refine LeO.bind ?_ (fun _ => ?_))
      | exact ih0 _ _
      | exact LeO.none _
      | refine LeO.ite ?_ ?_
      | refine LeO.bind ?_ (fun _ => ?_)
theorem utf8_ValidRune.mono : ∀ a0 k, LeO (utf8_ValidRune.f k a0) (utf8_ValidRune.f (k + 1) a0) := by
  intro a0 k
  have ih0 := utf8_ValidRune.mono_l k
  unfold utf8_ValidRune.f
  repeat' first
      | (with_reducible exact ih0 _ _)
      | (with_reducible exact LeO.refl _)
      | (with_reducible exact LeO.none _)
      | (with_reducible refine LeO.ite ?_ ?_)
      | (with_reducible refine LeO.bind ?_ (fun _ => ?_))
      | exact ih0 _ _
      | exact LeO.none _
      | refine LeO.ite ?_ ?_
      | refine LeO.bind ?_ (fun _ => ?_)
set_option maxHeartbeats 8000000 in
set_option maxRecDepth 100000 in
theorem utf8_ValidRune.calls (k : Nat) (a0 : Int) (r : Bool) (w : World) (h : utf8_ValidRune.f k a0 = some r) :
    Calls Tryd.prog 55 #[.int .i32 a0] w fun e w' => e = .returned (.bool r) ∧ Drawn0 w w' := by
  have H : (if 0 ≤ a0 then (utf8_ValidRune.j0 k a0 (decide (a0 < 55296))) else (utf8_ValidRune.j0 k a0 false)) = some r := h
  clear h
  have HC2 := Aside0.mk H
  clear H
  go_enter Tryd.func55, Tryd.ntmps55
  go_upto_region 1 with (fail)
  go_cut [3] (fun v3 wc => ∃ (kq : Nat) (x3_1 : Bool), v3 = .bool x3_1 ∧ Aside0 (utf8_ValidRune.j0 kq a0 x3_1 = some r) ∧ Aside0 (kq ≤ k) ∧ Drawn0 w wc)
  case first =>
    have H := HC2.out
    clear HC2
    by_cases c3 : 0 ≤ a0
    · rw [if_pos c3] at H
      have c3b0 : decide (0 ≤ a0) = true := decide_eq_true c3
      clear c3
      (first | rw [c3b0] | (simp only [i64_w, i32_w]; rw [c3b0]) | skip)
      have H' := Aside0.mk H
      clear H
      go_wp2
      go_meet
      case rel => exact ⟨_, (decide (a0 < 55296)), (by first | rfl | (simp; done) | (simp [*]; done)), H', ⟨by first | omega | exact Nat.le_refl _⟩, by repeat (first | exact Drawn0.refl _ | apply Drawn0.step)⟩
    · rw [if_neg c3] at H
      have c3b0 : decide (0 ≤ a0) = false := decide_eq_false c3
      clear c3
      (first | rw [c3b0] | (simp only [i64_w, i32_w]; rw [c3b0]) | skip)
      have H' := Aside0.mk H
      clear H
      go_wp2
      go_meet
      case rel => exact ⟨_, (false), (by first | rfl | (simp; done) | (simp [*]; done)), H', ⟨by first | omega | exact Nat.le_refl _⟩, by repeat (first | exact Drawn0.refl _ | apply Drawn0.step)⟩
  case rest =>
    clear HC2
    try clear p2
    try clear c3
    try clear c3b0
    obtain ⟨kq, x3_1, rfl, HA, HJ1, ⟨mc1, rfl⟩⟩ := hcut
    cases kq with
    | zero => exact absurd HA.out (by simp [utf8_ValidRune.j0])
    | succ kj1 =>
      have H := HA.out
      clear HA
      simp only [utf8_ValidRune.j0] at H
      by_cases c4 : x3_1 = true
      · subst c4
        have H1 : (some true) = some r := by rw [if_pos rfl] at H; exact H
        clear H
        have H := H1
        clear H1
        obtain rfl := Option.some.inj H
        go_wp2
        go_ret
        exact ⟨by first | rfl | (simp; done) | (simp [*]; done), by repeat (first | exact Drawn0.refl _ | apply Drawn0.step)⟩
      · replace c4 := Bool.eq_false_iff.mpr c4
        subst c4
        have H1 : (if 57343 < a0 then (if a0 ≤ 1114111 then (some true) else (some false)) else (some false)) = some r := by rw [if_neg (show ¬ (false = true) by decide)] at H; exact H
        clear H
        have H := H1
        clear H1
        by_cases c5 : 57343 < a0
        · rw [if_pos c5] at H
          have c5b0 : decide (57343 < a0) = true := decide_eq_true c5
          clear c5
          by_cases c6 : a0 ≤ 1114111
          · rw [if_pos c6] at H
            have c6b0 : decide (a0 ≤ 1114111) = true := decide_eq_true c6
            clear c6
            obtain rfl := Option.some.inj H
            go_wp2
            go_ret
            exact ⟨by first | rfl | (simp; done) | (simp [*]; done), by repeat (first | exact Drawn0.refl _ | apply Drawn0.step)⟩
          · rw [if_neg c6] at H
            have c6b0 : decide (a0 ≤ 1114111) = false := decide_eq_false c6
            clear c6
            obtain rfl := Option.some.inj H
            go_wp2
            go_ret
            exact ⟨by first | rfl | (simp; done) | (simp [*]; done), by repeat (first | exact Drawn0.refl _ | apply Drawn0.step)⟩
        · rw [if_neg c5] at H
          have c5b0 : decide (57343 < a0) = false := decide_eq_false c5
          clear c5
          obtain rfl := Option.some.inj H
          go_wp2
          go_ret
          exact ⟨by first | rfl | (simp; done) | (simp [*]; done), by repeat (first | exact Drawn0.refl _ | apply Drawn0.step)⟩

/-! ### bytealg_Cutover: function 56 -/
def bytealg_Cutover.f (a0 : Int) : Option (Int) := some (wrap64 (Int.tdiv (wrap64 (a0 + 16)) 8))
set_option maxHeartbeats 8000000 in
set_option maxRecDepth 100000 in
theorem bytealg_Cutover.calls (a0 : Int) (r : Int) (w : World) (h : bytealg_Cutover.f a0 = some r) :
    Calls Tryd.prog 56 #[.int .i64 a0] w fun e w' => e = .returned (.int .i64 r) ∧ Drawn0 w w' := by
  have H : (some (wrap64 (Int.tdiv (wrap64 (a0 + 16)) 8))) = some r := h
  clear h
  obtain rfl := Option.some.inj H
  go_enter Tryd.func56, Tryd.ntmps56
  go_wp2
  go_ret
  exact ⟨by first | rfl | (simp; done) | (simp [*]; done), by repeat (first | exact Drawn0.refl _ | apply Drawn0.step)⟩

-- NOT PRINTED: function 57 (bytealg_IndexString)

/-! ### strings_IndexRune: function 49 -/
/-- The index of a rune in a text of ASCII bytes. -/
def idxRune (s : ByteArray) (r : Int) : Int := if r < 128 then Lib.indexByte s.data.toList r.toNat.toUInt8 else -1
def isAscii (s : ByteArray) : Bool := s.data.toList.all (fun b => decide (b.toNat < 128))
theorem ascii_at {s : ByteArray} (h : isAscii s = true) (i : Nat) (hi : i < s.size) : (s[i]'hi).toNat < 128 := by
  have h1 := List.all_eq_true.1 h (s[i]'hi) (Array.mem_toList_iff.2 (Array.getElem_mem (by simpa using hi)))
  simpa using h1
theorem indexByte_none (l : List UInt8) (c : UInt8) (h : c ∉ l) : Lib.indexByte l c = -1 := by
  induction l with
  | nil => rfl
  | cons b l ih =>
    have h1 : (b == c) = false := by
      rw [beq_eq_false_iff_ne]; rintro rfl; exact h (by simp)
    have h2 := ih (fun hc => h (List.mem_cons_of_mem _ hc))
    simp [Lib.indexByte, h1, h2]
def LastHigh (B : ByteArray) : Prop := 2 ≤ B.size ∧ B.size ≤ 4 ∧ ∀ h : B.size - 1 < B.size, 128 ≤ (B[B.size - 1]'h).toNat
theorem lastHigh2 (x y : UInt8) (h : 128 ≤ y.toNat) : LastHigh ⟨#[x, y]⟩ := ⟨Nat.le_refl 2, by show 2 ≤ 4; decide, fun _ => h⟩
theorem lastHigh3 (x y z : UInt8) (h : 128 ≤ z.toNat) : LastHigh ⟨#[x, y, z]⟩ := ⟨by show 2 ≤ 3; decide, by show 3 ≤ 4; decide, fun _ => h⟩
theorem lastHigh4 (x y z u : UInt8) (h : 128 ≤ u.toNat) : LastHigh ⟨#[x, y, z, u]⟩ := ⟨by show 2 ≤ 4; decide, Nat.le_refl 4, fun _ => h⟩
theorem high_byte (c : Nat) : 128 ≤ (UInt8.ofNat (128 + c % 64)).toNat := by
  have : c % 64 < 64 := Nat.mod_lt _ (by decide)
  simp [UInt8.toNat_ofNat']
  omega
theorem enc_high (c : Nat) (h : 128 ≤ c) : LastHigh (if c < 128 then { data := #[UInt8.ofNat c] }
  else
    if c < 2048 then { data := #[UInt8.ofNat (192 + c / 64), UInt8.ofNat (128 + c % 64)] }
    else
      if c < 65536 then { data := #[UInt8.ofNat (224 + c / 4096), UInt8.ofNat (128 + c / 64 % 64), UInt8.ofNat (128 + c % 64)] }
      else { data := #[UInt8.ofNat (240 + c / 262144), UInt8.ofNat (128 + c / 4096 % 64), UInt8.ofNat (128 + c / 64 % 64), UInt8.ofNat (128 + c % 64)] }) := by
  rw [if_neg (by omega)]
  split
  · exact lastHigh2 _ _ (high_byte c)
  · split
    · exact lastHigh3 _ _ _ (high_byte c)
    · exact lastHigh4 _ _ _ _ (high_byte c)
theorem enc_facts (r : Int) (h0 : 128 ≤ r) (h1 : r ≤ 1114111) : LastHigh (Utf8.encode r) := by
  have hc : 128 ≤ (if Utf8.valid r = true then r.toNat else Utf8.runeError) := by
    split
    · omega
    · decide
  exact enc_high _ hc
theorem ascii_drop (s : ByteArray) (c : UInt8) (hA : isAscii s = true) (hc : 128 ≤ c.toNat) (a b : Nat) : Lib.indexByte (s.extract a b).data.toList c = -1 := by
  apply indexByte_none
  intro hm
  have h2 : c ∈ s.data.toList := by
    have h3 : (s.extract a b).data.toList = (s.data.toList.drop a).take (b - a) := by simp
    rw [h3] at hm
    exact List.mem_of_mem_drop (List.mem_of_mem_take hm)
  have := List.all_eq_true.1 hA c h2
  simp at this
  omega
def strings_IndexRune.f (a0 : ByteArray) (a1 : Int) : Option Int := if isAscii a0 = true ∧ 0 ≤ a1 ∧ a1 ≤ 1114111 ∧ a0.size ≤ 4611686018427387904 then some (idxRune a0 a1) else none
set_option maxHeartbeats 3200000 in
set_option maxRecDepth 100000 in
theorem strings_IndexRune.err (s : ByteArray) (w : World) (hA : isAscii s = true) (hs : s.size ≤ 4611686018427387904) :
    Calls Tryd.prog 49 #[.string s, .int .i32 65533] w fun e w' => e = .returned (.int .i64 (-1)) ∧ Below w.heap.size w w' := by
  have HA := Aside0.mk hA
  clear hA
  go_enter Tryd.func49, Tryd.ntmps49
  go_wp2
  go_loopw [5, 6] (fun _ _ w' => ∃ pos : Nat, pos ≤ s.size ∧ w' = w.iter s pos) (fun _ _ w' => s.size - w'.iterPos w.heap.size)
  case atStart => exact ⟨0, Nat.zero_le _, rfl⟩
  case round =>
    obtain ⟨pos, hpos, rfl⟩ := hrel
    by_cases hp : pos < s.size
    · have ha := ascii_at HA.out pos hp
      have hnx : ∀ ty, (Instr.next (.pointer (some ⟨w.heap.size, 0, none⟩)) true ty).run Tryd.prog (w.iter s pos) = _ := fun ty => run_next_ascii w s pos ty hp ha
      have g1 : (((s[pos]'hp).toNat : Int) == 65533) = false := beq_eq_false_iff_ne.2 (by omega)
      go_wp2
      go_roundw
      case rel => exact ⟨pos + 1, hp, rfl⟩
      case measure => simp; omega
    · obtain rfl : pos = s.size := by omega
      have hnx := run_next_end (P := Tryd.prog) w s s.size
      go_wp2
      go_ret
      exact ⟨rfl, iter_below _ _ _⟩
set_option maxHeartbeats 3200000 in
set_option maxRecDepth 100000 in
theorem strings_IndexRune.high (s : ByteArray) (r : Int) (w : World) (hA : isAscii s = true) (h128 : 128 ≤ r) (hmax : r ≤ 1114111) (hne : r ≠ 65533) (hs : s.size ≤ 4611686018427387904) :
    Calls Tryd.prog 49 #[.string s, .int .i32 r] w fun e w' => e = .returned (.int .i64 (-1)) ∧ Below w.heap.size w w' := by
  have HA := Aside0.mk hA
  clear hA
  obtain ⟨e1, e2, e3⟩ := enc_facts r h128 hmax
  have g0 : decide (0 ≤ r) = true := decide_eq_true (by omega)
  have g1 : decide (r < 128) = false := decide_eq_false (by omega)
  have g2 : (r == 65533) = false := beq_eq_false_iff_ne.2 hne
  cases hv : Lib.validRune r with
  | false =>
    go_enter Tryd.func49, Tryd.ntmps49
    go_wp2_with fail
    refine (Tryd.utf8_ValidRune _ _).mono ?_; rintro e w' ⟨rfl, hw⟩; rw [hw, hv]
    go_wp2_with fail
    go_ret
    exact ⟨rfl, Below.refl _ _⟩
  | true =>
    go_enter Tryd.func49, Tryd.ntmps49
    go_wp2_with fail
    refine (Tryd.utf8_ValidRune _ _).mono ?_; rintro e w' ⟨rfl, hw⟩; rw [hw, hv]
    go_wp2_with fail
    (try go_step3)
    obtain ⟨E, hE⟩ : ∃ E, Utf8.encode r = E := ⟨_, rfl⟩
    rw [hE] at e1 e2 e3
    obtain ⟨q, hq⟩ : ∃ q, E.size - 1 = q := ⟨_, rfl⟩
    have hqE : q < E.size := by omega
    have e4 : 128 ≤ (E[q]'hqE).toNat := by have := e3 (by omega); simp only [hq] at this; exact this
    clear e3
    have hw1 : (IntKind.i64.wrap ((E.size : Int) - 1)) = (q : Int) := by
      rw [i64_w]; unfold wrap64; omega
    go_wp2_with fail
    go_loopw [9, 10] (fun v9 v10 w' => v9 = .int .i64 (q : Int) ∧ v10 = .int .i64 0 ∧ w' = w) (fun _ _ _ => 0)
    case atStart => exact ⟨rfl, rfl, rfl⟩
    case round =>
      obtain ⟨rfl, rfl, rfl⟩ := hrel
      by_cases hl : q < s.size
      · have hd := ascii_at HA.out q hl
        have hne2 : ((s[q]'hl).toNat : Int) ≠ ((E[q]'hqE).toNat : Int) := by omega
        have g3 : decide ((q : Int) < (s.size : Int)) = true := decide_eq_true (by omega)
        have hw2 : (IntKind.i64.wrap ((q : Int) + 1)) = (q : Int) + 1 := by rw [i64_w]; unfold wrap64; omega
        have g5 : (0 : Int) ≤ (q : Int) + 1 := by omega
        have g6 : (q : Int) + 1 ≤ (s.size : Int) := by omega
        have g7 : ((q : Int) + 1).toNat = q + 1 := by omega
        have g8 : ¬ (s.size : Int) < (q : Int) + 1 := by omega
        have g9 : ¬ (q : Int) + 1 < 0 := by omega
        have hx : ∀ b, Lib.indexByte (s.extract (q + 1) b).data.toList (((E[q]'hqE).toNat : Int)).toNat.toUInt8 = -1 := fun b => ascii_drop s _ HA.out (by simpa using e4) _ _
        have g4 : (((s[q]'hl).toNat : Int) != ((E[q]'hqE).toNat : Int)) = true := bne_iff_ne.2 hne2
        go_wp2_with fail
        go_step3
        go_wp2_with fail
        go_quiet (fail)
        go_wp2_with fail
        have HBW : Aside0 (Below wr.heap.size wr (wr.drewN nq)) := ⟨pw_below_drewN (Below.refl _ _) nq⟩
        generalize wr.drewN nq = w2 at HBW ⊢
        go_quiet ((go_at_call 29; exact Calls.quiet_of_same (Tryd.strings_IndexByte _ _ _)))
        rw [hx]
        go_wp2_with fail
        rw [Exit.noGoto_ret]
        simp (config := {zetaDelta := true}) only [Exit.inBlock, Exit.noGoto_ret, Exit.then]
        go_ret
        exact ⟨rfl, pw_below_drewN HBW.out _⟩
      · have g3 : decide ((q : Int) < (s.size : Int)) = false := decide_eq_false (by omega)
        go_wp2_with fail
        rw [Exit.noGoto_ret]
        go_ret
        exact ⟨rfl, Below.refl _ _⟩
theorem strings_IndexRune.calls (a0 : ByteArray) (a1 : Int) (r : Int) (w : World) (h : strings_IndexRune.f a0 a1 = some r) :
    Calls Tryd.prog 49 #[.string a0, .int .i32 a1] w fun e w' => e = .returned (.int .i64 r) ∧ Below w.heap.size w w' := by
  unfold strings_IndexRune.f at h
  split at h
  · rename_i hc
    obtain ⟨hA, h0, h1, hs⟩ := hc
    simp only [Option.some.injEq] at h
    subst h
    unfold idxRune
    by_cases hr : a1 < 128
    · rw [if_pos hr]
      exact (Tryd.strings_IndexRune_ascii a0 a1 w h0 hr).mono fun e w' ⟨he, hw⟩ => ⟨he, hw ▸ Below.refl _ _⟩
    · rw [if_neg hr]
      by_cases he : a1 = 65533
      · subst he; exact strings_IndexRune.err a0 w hA hs
      · exact strings_IndexRune.high a0 a1 w hA (by omega) h1 he hs
  · exact absurd h (by simp)

/-! ### strings_shouldUseASCIISet: function 50 -/
def strings_shouldUseASCIISet.f (a0 : Int) : Option (Bool) := some (decide (a0 > 8))
set_option maxHeartbeats 8000000 in
set_option maxRecDepth 100000 in
theorem strings_shouldUseASCIISet.calls (a0 : Int) (r : Bool) (w : World) (h : strings_shouldUseASCIISet.f a0 = some r) :
    Calls Tryd.prog 50 #[.int .i64 a0] w fun e w' => e = .returned (.bool r) ∧ Drawn0 w w' := by
  have H : (some (decide (a0 > 8))) = some r := h
  clear h
  obtain rfl := Option.some.inj H
  go_enter Tryd.func50, Tryd.ntmps50
  go_wp2
  go_ret
  exact ⟨by first | rfl | (simp; done) | (simp [*]; done), by repeat (first | exact Drawn0.refl _ | apply Drawn0.step)⟩

-- NOT PRINTED: function 51 (strings_asciiSet_contains)

-- NOT PRINTED: function 40 (strings_IndexAny)

end Go.Proofs.YtkibigbjgohdkaaDoor.S
