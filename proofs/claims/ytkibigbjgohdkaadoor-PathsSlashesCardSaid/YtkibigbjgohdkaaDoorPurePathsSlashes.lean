import Derived.Test.YtkibigbjgohdkaaDoorS6
import Derived.Test.YtkibigbjgohdkaaDoorLe
namespace Go.Proofs.YtkibigbjgohdkaaDoor.Pure
open Go.RowKit Go.Proofs.YtkibigbjgohdkaaDoor.S Go.Proofs.YtkibigbjgohdkaaDoorW.PrintWords Go.Proofs.YtkibigbjgohdkaaDoorW.PrintLast Go.Proofs.YtkibigbjgohdkaaDoor.L
set_option linter.unusedVariables false

/-- What holds of the two paths behind i names. -/
structure SI (ns : List (List UInt8)) (ab : Bool) (i : Nat) (a b : List UInt8) : Prop where
  na : namesL [] a = ns.take i
  nb : namesL [] b = ns.take i
  aa : absL a = ab
  bb : absL b = ab
  ea : 0 < i → a ≠ [] ∧ endL a = false
  eb : 0 < i → b ≠ [] ∧ endL b = false
  za : i = 0 → Sl a ∧ Sl b ∧ (ab = true → a ≠ [] ∧ b ≠ [])
  la : a.length ≤ 1 + 13 * i
  lb : b.length ≤ 2 + 15 * i
theorem abs_app (x y : List UInt8) (h : x ≠ []) : absL (x ++ y) = absL x := by
  cases x with
  | nil => exact absurd rfl h
  | cons c x => rfl
theorem abs_nm {m : List UInt8} (h : Nm m) : absL m = false := by
  rcases head_or m with rfl | ⟨c, r, rfl⟩
  · rfl
  · have := h.2 c (by simp)
    simp [absL, this]
/-- One more name behind z slashes. -/
theorem si_next {ns : List (List UInt8)} {ab : Bool} {i : Nat} {a b : List UInt8} (h : SI ns ab i a b) (hi : i < ns.length) (hm : Nm ns[i]) (hl : ns[i].length ≤ 12)
    (za zb : List UInt8) (sa : Sl za) (sb : Sl zb) (h0 : i = 0 → za = [] ∧ zb = []) (hp : 0 < i → za ≠ [] ∧ zb ≠ []) (l1 : za.length ≤ 1) (l2 : zb.length ≤ 3) :
    SI ns ab (i + 1) (a ++ za ++ ns[i]) (b ++ zb ++ ns[i]) := by
  have ht : ns.take (i + 1) = ns.take i ++ [ns[i]] := by rw [List.take_succ_eq_append_getElem hi]
  have lla := h.la
  have llb := h.lb
  by_cases hz : i = 0
  · obtain ⟨e1, e2⟩ := h0 hz
    obtain ⟨s1, s2, s3⟩ := h.za hz
    subst e1; subst e2
    have t0 : ns.take i = [] := by rw [hz]; rfl
    have ma := more_name [] a ns[i] s1 hm (fun h => absurd rfl h) (.inl rfl)
    have mb := more_name [] b ns[i] s2 hm (fun h => absurd rfl h) (.inl rfl)
    simp only [List.nil_append, List.append_nil] at ma mb ⊢
    have hab : ∀ x, Sl x → absL x = ab → (ab = true → x ≠ []) → absL (x ++ ns[i]) = ab := by
      intro x sx hx hx2
      by_cases hn : x = []
      · subst hn
        rw [List.nil_append, abs_nm hm]
        cases ab with
        | true => exact absurd rfl (hx2 rfl)
        | false => rfl
      · rw [abs_app _ _ hn, hx]
    exact ⟨by rw [ma.1, ht, t0]; rfl, by rw [mb.1, ht, t0]; rfl, hab a s1 h.aa (fun q => (s3 q).1), hab b s2 h.bb (fun q => (s3 q).2),
      fun _ => ⟨by simp [hm.1], ma.2.2⟩, fun _ => ⟨by simp [hm.1], mb.2.2⟩, fun q => by omega, by simp; omega, by simp; omega⟩
  · obtain ⟨p1, p2⟩ := hp (by omega)
    obtain ⟨a1, a2⟩ := h.ea (by omega)
    obtain ⟨b1, b2⟩ := h.eb (by omega)
    have ma := more_name a za ns[i] sa hm (fun _ => p1) (.inr a2)
    have mb := more_name b zb ns[i] sb hm (fun _ => p2) (.inr b2)
    exact ⟨by rw [ma.1, ht, h.na], by rw [mb.1, ht, h.nb], by rw [List.append_assoc, abs_app _ _ a1, h.aa], by rw [List.append_assoc, abs_app _ _ b1, h.bb],
      fun _ => ⟨by simp [a1], ma.2.2⟩, fun _ => ⟨by simp [b1], mb.2.2⟩, fun q => by omega, by simp; omega, by simp; omega⟩
theorem rd_map (xs : List (List UInt8)) (i : Nat) (h : i < xs.length) : rdOf ByteArray.empty (xs.map T) (i : Int) = T (xs[i]'h) := by
  simp [rdOf, h]
theorem split_all {ns : List (List UInt8)} {ab : Bool} {a b : List UInt8} (h : SI ns ab ns.length a b) : splitL a = ns ∧ splitL b = ns := by
  have e1 := h.na; have e2 := h.nb
  rw [List.take_length] at e1 e2
  by_cases h0 : ns = []
  · subst h0
    unfold splitL
    rw [if_pos e1, if_pos e2]; exact ⟨rfl, rfl⟩
  · have hp : 0 < ns.length := List.length_pos_iff.2 h0
    rw [split_noend a (h.ea hp).2, split_noend b (h.eb hp).2]
    exact ⟨e1, e2⟩
theorem base_all {ns : List (List UInt8)} {ab : Bool} {a b : List UInt8} (h : SI ns ab ns.length a b) : baseL a = baseL b := by
  unfold baseL
  rw [h.na, h.nb, h.aa, h.bb]
/-- Behind the loop. -/
theorem slashes_j4 (ns : List (List UInt8)) (hn : ns.length ≤ 8) (ab : Bool) (a b : List UInt8) (h : SI ns ab ns.length a b) (k : Nat) (hk : 1000 < k) :
    gaolerlaw07_PathsSlashes.j4 (k + 1) (ns.map T) ab (T a) (T b) (absL a) ((splitL a).map T) (absL b) ((splitL b).map T) false = some true := by
  obtain ⟨s1, s2⟩ := split_all h
  have lla := h.la; have llb := h.lb
  simp only [gaolerlaw07_PathsSlashes.j4]
  rw [s1, s2, h.aa, h.bb, same_eq _ (by rw [List.length_map]; omega) k (by rw [List.length_map]; omega), base_eq a (by omega), base_eq b (by omega), base_all h]
  simp
theorem slashes_end (ns : List (List UInt8)) (hn : ns.length ≤ 8) (sl : List Int) (ab : Bool) (a b : List UInt8) (h : SI ns ab ns.length a b) (k : Nat) (hk : 1000 < k) :
    gaolerlaw07_PathsSlashes.l0 (k + 1 + 1) (ns.map T) sl ab (T a) (T b) (ns.length : Int) = some true := by
  have lla := h.la; have llb := h.lb
  obtain ⟨s1, s2⟩ := split_all h
  have hch := (chain_all b).2
  have hnb := h.nb
  rw [List.take_length] at hnb
  have hj := slashes_j4 ns hn ab a b h k hk
  simp only [gaolerlaw07_PathsSlashes.l0]
  have g0 : ¬ (ns.length : Int) < ((ns.map T).length : Int) := by rw [List.length_map]; omega
  have hst : (stp [] b).length = ns.length := by rw [← hch, hnb]
  rw [if_neg g0, split_eq a (by omega), Option.bind_some, split_eq b (by omega), Option.bind_some, steps_eq b (by omega) (k + 1) (by omega), Option.bind_some]
  dsimp only
  have g1 : (((stp [] b).map T).length : Int) = ((ns.map T).length : Int) := by rw [List.length_map, List.length_map, hst]
  rw [if_pos g1]
  by_cases h0 : ns = []
  · have g2 : ¬ (((stp [] b).map T).length : Int) > 0 := by rw [List.length_map, hst, h0]; decide
    rw [if_neg g2]
    exact hj
  · have hp : 0 < ns.length := List.length_pos_iff.2 h0
    have g2 : (((stp [] b).map T).length : Int) > 0 := by rw [List.length_map, hst]; omega
    have e : wrap64 ((((stp [] b).map T).length : Int) - 1) = ((ns.length - 1 : Nat) : Int) := by rw [List.length_map, hst, wpred _ (by omega) hp]
    have g3 : (0 : Int) ≤ ((ns.length - 1 : Nat) : Int) := by omega
    have g4 : ((ns.length - 1 : Nat) : Int) < (((stp [] b).map T).length : Int) := by rw [List.length_map, hst]; omega
    rw [if_pos g2, e, if_pos g3, if_pos g4, rd_map _ _ (by omega)]
    have hl := stp_last b [] (h.eb hp).1 (h.eb hp).2
    rw [List.nil_append] at hl
    have hx : (stp [] b)[ns.length - 1]'(by omega) = b := by
      rw [List.getLast?_eq_getElem?, hst, List.getElem?_eq_getElem (by omega)] at hl
      exact Option.some.inj hl
    rw [hx]
    have hb : ((T b).toList != (T b).toList) = false := by simp
    rw [hb]
    exact hj
/-- The slashes between two names. -/
theorem slashes_l1 (ns : List (List UInt8)) (sl : List Int) (ab : Bool) (a : List UInt8) (i : Nat) (hi : i < ns.length) (hn8 : ns.length ≤ 8) (hs0 : 0 < sl.length) (hs1 : sl.length ≤ 20) (hsv : ∀ x ∈ sl, 0 ≤ x ∧ x ≤ 255)
    (hnl : ns[i].length ≤ 12) (hal : a.length ≤ 1000) :
    ∃ q : Nat, q ≤ 2 ∧ ∀ (d c k : Nat) (b : List UInt8), q + 1 - c = d → c ≤ q + 1 → d < k → b.length + d ≤ 1000 →
      (∀ k', k ≤ k' + d + 1 → gaolerlaw07_PathsSlashes.l0 k' (ns.map T) sl ab (T (a ++ ns[i])) (T (b ++ List.replicate d 47 ++ ns[i])) ((i + 1 : Nat) : Int) = some true) →
      gaolerlaw07_PathsSlashes.l1 k (ns.map T) sl ab (T a) (T b) (i : Int) (c : Int) = some true := by
  have hj : i % sl.length < sl.length := Nat.mod_lt _ hs0
  have ht : Int.tmod (i : Int) (sl.length : Int) = ((i % sl.length : Nat) : Int) := by
    rw [Int.tmod_eq_emod_of_nonneg (by omega)]; rfl
  have hrd : rd sl ((i % sl.length : Nat) : Int) = sl[i % sl.length] := by
    show sl.getD (((i % sl.length : Nat) : Int)).toNat 0 = _
    rw [Int.toNat_natCast]
    simp [hj]
  obtain ⟨v1, v2⟩ := hsv _ (List.getElem_mem hj)
  generalize sl[i % sl.length] = v at hrd v1 v2
  obtain ⟨n, rfl⟩ := Int.eq_ofNat_of_zero_le v1
  refine ⟨n % 3, by omega, ?_⟩
  have hq : wrap64 (Int.tmod ((n : Nat) : Int) 3) = ((n % 3 : Nat) : Int) := by
    rw [Int.tmod_eq_emod_of_nonneg (by omega), w64 _ (by omega) (by omega)]; rfl
  have hq2 : n % 3 ≤ 2 := by omega
  generalize n % 3 = q at hq hq2
  have c0 : ¬ (sl.length : Int) = 0 := by omega
  have c1 : (0 : Int) ≤ ((i % sl.length : Nat) : Int) := by omega
  have c2 : ((i % sl.length : Nat) : Int) < (sl.length : Int) := by omega
  intro d
  induction d with
  | zero =>
    intro c k b hd hc hk hb hl
    obtain ⟨k, rfl⟩ : ∃ m, k = m + 1 := ⟨k - 1, by omega⟩
    have h := hl k (by omega)
    rw [List.replicate_zero, List.append_nil] at h
    simp only [gaolerlaw07_PathsSlashes.l1]
    rw [if_neg c0, ht, if_pos c1, if_pos c2, hrd, hq]
    have c3 : ¬ (c : Int) ≤ (q : Int) := by omega
    have c4 : (0 : Int) ≤ (i : Int) := by omega
    have c5 : (i : Int) < ((ns.map T).length : Int) := by rw [List.length_map]; omega
    rw [if_neg c3, if_pos c4, if_pos c5, rd_map ns i hi]
    have c6 : (T a).size + (T ns[i]).size ≤ 9223372036854775807 := by rw [T_size, T_size]; omega
    have c7 : (T b).size + (T ns[i]).size ≤ 9223372036854775807 := by rw [T_size, T_size]; omega
    rw [if_pos c6, if_pos c7, T_app, T_app, wsucc i (by omega)]
    exact h
  | succ d ih =>
    intro c k b hd hc hk hb hl
    obtain ⟨k, rfl⟩ : ∃ m, k = m + 1 := ⟨k - 1, by omega⟩
    have h := ih (c + 1) k (b ++ [47]) (by omega) (by omega) (by omega) (by simp; omega) (fun k' hk' => by
      have h2 := hl k' (by omega)
      rw [List.replicate_succ] at h2
      simp only [List.append_assoc, List.cons_append] at h2 ⊢
      exact h2)
    simp only [gaolerlaw07_PathsSlashes.l1]
    rw [if_neg c0, ht, if_pos c1, if_pos c2, hrd, hq]
    have c3 : (c : Int) ≤ (q : Int) := by omega
    have c4 : (T b).size + 1 ≤ 9223372036854775807 := by rw [T_size]; omega
    rw [if_pos c3, if_pos c4, T_slash, T_app, wsucc c (by omega)]
    exact h
theorem slashes_l0 (ns : List (List UInt8)) (hn : ns.length ≤ 8) (sl : List Int) (hs0 : 0 < sl.length) (hs1 : sl.length ≤ 20) (hsv : ∀ x ∈ sl, 0 ≤ x ∧ x ≤ 255) (ab : Bool) (d : Nat) :
    ∀ (k i : Nat) (a b : List UInt8), i ≤ ns.length → ns.length - i = d → 1010 + 10 * d < k → SI ns ab i a b →
      gaolerlaw07_PathsSlashes.l0 k (ns.map T) sl ab (T a) (T b) (i : Int) = some true := by
  induction d with
  | zero =>
    intro k i a b h1 hd hk h
    obtain ⟨k, rfl⟩ : ∃ m, k = m + 1 + 1 := ⟨k - 2, by omega⟩
    obtain rfl : i = ns.length := by omega
    exact slashes_end ns hn sl ab a b h k (by omega)
  | succ d ih =>
    intro k i a b h1 hd hk h
    obtain ⟨k, rfl⟩ : ∃ m, k = m + 1 := ⟨k - 1, by omega⟩
    have hi : i < ns.length := by omega
    have lla := h.la; have llb := h.lb
    simp only [gaolerlaw07_PathsSlashes.l0]
    have c1 : (i : Int) < ((ns.map T).length : Int) := by rw [List.length_map]; omega
    have c2 : (0 : Int) ≤ (i : Int) := by omega
    rw [if_pos c1, if_pos c2, rd_map ns i hi, name_eq, Option.bind_some]
    cases hnm : nameL ns[i] with
    | false => rw [if_neg (by decide)]
    | true =>
      rw [if_pos rfl]
      obtain ⟨hm, hl⟩ := nm_of hnm
      by_cases hz : i = 0
      · have c3 : ¬ (i : Int) > 0 := by omega
        have c6 : (T a).size + (T ns[i]).size ≤ 9223372036854775807 := by rw [T_size, T_size]; omega
        have c7 : (T b).size + (T ns[i]).size ≤ 9223372036854775807 := by rw [T_size, T_size]; omega
        rw [if_neg c3, if_pos c6, if_pos c7, T_app, T_app, wsucc i (by omega)]
        have hs := si_next h hi hm hl [] [] (fun _ hx => by simp at hx) (fun _ hx => by simp at hx) (fun _ => ⟨rfl, rfl⟩) (fun q => by omega) (by simp) (by simp)
        rw [List.append_nil, List.append_nil] at hs
        exact ih k (i + 1) _ _ (by omega) (by omega) (by omega) hs
      · have c3 : (i : Int) > 0 := by omega
        have c6 : (T a).size + 1 ≤ 9223372036854775807 := by rw [T_size]; omega
        rw [if_pos c3, if_pos c6, T_slash, T_app]
        obtain ⟨q, hq, hrun⟩ := slashes_l1 ns sl ab (a ++ [47]) i hi hn hs0 hs1 hsv hl (by simp; omega)
        have := hrun (q + 1) 0 k b (by omega) (by omega) (by omega) (by omega) (fun k' hk' => by
          have hs := si_next h hi hm hl [47] (List.replicate (q + 1) 47) (fun c hc => by simpa using hc) (fun c hc => (List.mem_replicate.1 hc).2) (fun q => absurd q hz) (fun _ => ⟨by simp, by simp⟩) (by simp) (by simp; omega)
          exact ih k' (i + 1) _ _ (by omega) (by omega) (by omega) hs)
        rw [show ((0 : Nat) : Int) = 0 from rfl] at this
        exact this
theorem PathsSlashes (l0 : List ByteArray) (l1 : List Int) (a2 : Bool) (hsv : ∀ x ∈ l1, 0 ≤ x ∧ x ≤ 255) : ∃ k, gaolerlaw07_PathsSlashes.f k l0 l1 a2 = some true := by
  refine ⟨400000, ?_⟩
  obtain ⟨ns, rfl⟩ : ∃ ns : List (List UInt8), l0 = ns.map T := ⟨l0.map (fun s => s.data.toList), by rw [List.map_map]; exact (List.map_id'' (fun s => T_of s) l0).symm⟩
  unfold gaolerlaw07_PathsSlashes.f
  rw [awake_eq _ (by decide), Option.bind_some, if_pos rfl]
  have hT : ∀ x y z, gaolerlaw07_PathsSlashes.j0 400000 x y z true = some true := fun x y z => by simp only [gaolerlaw07_PathsSlashes.j0, if_true]
  rw [hT]
  by_cases h1 : (((ns.map T).length : Nat) : Int) > 8
  · rw [if_pos h1]
  · rw [if_neg h1]
    by_cases h2 : (l1.length : Int) = 0
    · rw [if_pos h2]
    · rw [if_neg h2]
      by_cases h3 : (l1.length : Int) > 20
      · rw [decide_eq_true h3, hT]
      · rw [decide_eq_false h3]
        rw [List.length_map] at h1
        have key : ∀ (k : Nat) (pa pb : List UInt8), SI ns a2 0 pa pb → 5000 < k → gaolerlaw07_PathsSlashes.j1 k (ns.map T) l1 a2 (T pa) (T pb) = some true := by
          intro k pa pb h hk
          obtain ⟨k, rfl⟩ : ∃ m, k = m + 1 := ⟨k - 1, by omega⟩
          simp only [gaolerlaw07_PathsSlashes.j1]
          have := slashes_l0 ns (by omega) l1 (by omega) (by omega) hsv a2 ns.length k 0 pa pb (by omega) (by omega) (by omega) h
          rw [show ((0 : Nat) : Int) = 0 from rfl] at this
          exact this
        have hj : ∀ k, 6000 < k → gaolerlaw07_PathsSlashes.j0 k (ns.map T) l1 a2 false = some true := by
          intro k hk
          obtain ⟨k, rfl⟩ : ∃ m, k = m + 1 := ⟨k - 1, by omega⟩
          simp only [gaolerlaw07_PathsSlashes.j0]
          rw [if_neg (by decide)]
          cases a2 with
          | true =>
            rw [if_pos rfl]
            refine key k [47] [47, 47] ⟨rfl, rfl, rfl, rfl, fun q => by omega, fun q => by omega, fun _ => ⟨fun c hc => by simpa using hc, fun c hc => by simpa using hc, fun _ => ⟨by simp, by simp⟩⟩, by simp, by simp⟩ (by omega)
          | false =>
            rw [if_neg (by decide)]
            refine key k [] [] ⟨rfl, rfl, rfl, rfl, fun q => by omega, fun q => by omega, fun _ => ⟨fun c hc => by simp at hc, fun c hc => by simp at hc, fun q => by cases q⟩, by simp, by simp⟩ (by omega)
        exact hj 400000 (by decide)
end Go.Proofs.YtkibigbjgohdkaaDoor.Pure
