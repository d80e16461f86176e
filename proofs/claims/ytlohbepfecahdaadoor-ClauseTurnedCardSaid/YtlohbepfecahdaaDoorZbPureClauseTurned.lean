/- ClauseTurned: letters of whom, and of what, may come in another order, and more than once: the clause is the same; for up to 20 of each. Pure part: numbers and lists alone. -/
import Derived.Test.YtlohbepfecahdaaDoorZbLf
import Derived.Test.YtlohbepfecahdaaDoorZbS15
namespace Go.Proofs.YtlohbepfecahdaaDoor.Pure
open Go.RowKit Go.Proofs.YtlohbepfecahdaaDoor.S Go.Proofs.YtlohbepfecahdaaDoor.L Go.Proofs.YtlohbepfecahdaaDoorW.PrintWords Go.Proofs.YtlohbepfecahdaaDoorW.PrintLast
set_option linter.unusedVariables false
def wl (x : Int) : UInt8 := if x % 4 = 0 then 117 else if x % 4 = 1 then 103 else if x % 4 = 2 then 111 else 97
def pl (x : Int) : UInt8 := if x % 6 = 0 then 114 else if x % 6 = 1 then 119 else if x % 6 = 2 then 120 else if x % 6 = 3 then 88 else if x % 6 = 4 then 115 else 116
def ol (x : Int) : UInt8 := if x % 3 = 0 then 43 else if x % 3 = 1 then 45 else 61
theorem tm (x n : Int) (h0 : 0 ≤ x) (h1 : 0 < n) (h2 : n ≤ 100) : wrap64 (Int.tmod x n) = x % n ∧ 0 ≤ x % n ∧ x % n < n := by
  have a := Int.emod_nonneg x (show n ≠ 0 by omega)
  have b := Int.emod_lt_of_pos x h1
  rw [Int.tmod_eq_emod_of_nonneg h0, w64 _ (by omega) (by omega)]
  exact ⟨rfl, a, b⟩
theorem wl_ext (x : Int) (h0 : 0 ≤ x) : (⟨#[117, 103, 111, 97]⟩ : ByteArray).extract (x % 4).toNat (x % 4 + 1).toNat = T [wl x] := by
  unfold wl
  rcases (show x % 4 = 0 ∨ x % 4 = 1 ∨ x % 4 = 2 ∨ x % 4 = 3 by omega) with h | h | h | h <;> rw [h] <;> decide +kernel
theorem pl_ext (x : Int) (h0 : 0 ≤ x) : (⟨#[114, 119, 120, 88, 115, 116]⟩ : ByteArray).extract (x % 6).toNat (x % 6 + 1).toNat = T [pl x] := by
  unfold pl
  rcases (show x % 6 = 0 ∨ x % 6 = 1 ∨ x % 6 = 2 ∨ x % 6 = 3 ∨ x % 6 = 4 ∨ x % 6 = 5 by omega) with h | h | h | h | h | h <;> rw [h] <;> decide +kernel
theorem ol_ext (x : Int) (h0 : 0 ≤ x) : (⟨#[43, 45, 61]⟩ : ByteArray).extract (x % 3).toNat (x % 3 + 1).toNat = T [ol x] := by
  unfold ol
  rcases (show x % 3 = 0 ∨ x % 3 = 1 ∨ x % 3 = 2 by omega) with h | h | h <;> rw [h] <;> decide +kernel
theorem rd_at (l : List Int) (i : Nat) (h : i < l.length) : rd l (i : Int) = l[i] := by
  unfold rd; rw [Int.toNat_natCast, List.getD_eq_getElem?_getD, List.getElem?_eq_getElem h]; rfl
/-- A list from an index on, turned. -/
def turned (l : List Int) (t : Nat) (i : Nat) : List Int := (List.range' i (l.length - i)).map (fun j => l.getD ((j + t) % l.length) 0)
theorem turned_nil (l : List Int) (t : Nat) : turned l t l.length = [] := by simp [turned]
theorem turned_cons (l : List Int) (t i : Nat) (h : i < l.length) : turned l t i = l.getD ((i + t) % l.length) 0 :: turned l t (i + 1) := by
  unfold turned
  rw [show l.length - i = (l.length - (i + 1)) + 1 by omega, List.range'_succ]; rfl
theorem turned_mem (l : List Int) (t : Nat) (x : Int) : x ∈ turned l t 0 ↔ x ∈ l := by
  unfold turned
  rw [List.mem_map]
  constructor
  · rintro ⟨j, hj, rfl⟩
    have hj2 := List.mem_range'_1.1 hj
    have hlt : (j + t) % l.length < l.length := Nat.mod_lt _ (by omega)
    rw [List.getD_eq_getElem?_getD, List.getElem?_eq_getElem hlt]
    exact List.getElem_mem hlt
  · intro hx
    obtain ⟨i, hi, rfl⟩ := List.mem_iff_getElem.1 hx
    have ht : t % l.length < l.length := Nat.mod_lt _ (by omega)
    refine ⟨(i + (l.length - t % l.length)) % l.length, List.mem_range'_1.2 ⟨by omega, by have := Nat.mod_lt (i + (l.length - t % l.length)) (show 0 < l.length by omega); omega⟩, ?_⟩
    have e : ((i + (l.length - t % l.length)) % l.length + t) % l.length = i := by
      rw [Nat.mod_add_mod]
      have h1 : t = l.length * (t / l.length) + t % l.length := (Nat.div_add_mod t l.length).symm
      have h2 : i + (l.length - t % l.length) + t = i + l.length * (t / l.length + 1) := by
        rw [Nat.mul_add, Nat.mul_one]; omega
      rw [h2, Nat.add_mul_mod_self_left, Nat.mod_eq_of_lt hi]
    rw [e, List.getD_eq_getElem?_getD, List.getElem?_eq_getElem hi]; rfl
def dbl (l : List Int) : List UInt8 := (l.map (fun x => [pl x, pl x])).flatten
theorem dbl_cons (x : Int) (l : List Int) : dbl (x :: l) = [pl x, pl x] ++ dbl l := rfl
theorem isU_wl (x : Int) : isU (wl x) = true := by unfold wl; split <;> (try split) <;> (try split) <;> decide
theorem isP_pl (x : Int) : isP (pl x) = true := by unfold pl; split <;> (try split) <;> (try split) <;> (try split) <;> (try split) <;> decide
theorem sign_ol (x : Int) : signK (ol x) = true ∧ isU (ol x) = false ∧ (((ol x).toNat : Int) ≠ 0) ∧ ol x ≠ 44 := by unfold ol; split <;> (try split) <;> decide
theorem takeAll (p : UInt8 → Bool) : ∀ (l : List UInt8) (r : List UInt8), (∀ c ∈ l, p c = true) → (∀ c m, r = c :: m → p c = false) → (l ++ r).takeWhile p = l ∧ (l ++ r).dropWhile p = r
  | [], r, _, h => by
    cases r with
    | nil => exact ⟨rfl, rfl⟩
    | cons c m => rw [List.nil_append, List.takeWhile_cons_of_neg (by rw [h c m rfl]; decide), List.dropWhile_cons_of_neg (by rw [h c m rfl]; decide)]; exact ⟨rfl, rfl⟩
  | d :: l, r, hl, h => by
    obtain ⟨h1, h2⟩ := takeAll p l r (fun c hc => hl c (by simp [hc])) h
    rw [List.cons_append, List.takeWhile_cons_of_pos (hl d (by simp)), List.dropWhile_cons_of_pos (hl d (by simp)), h1, h2]
    exact ⟨rfl, rfl⟩
theorem class_P (c : UInt8) (h : isP c = true) : classK c = -1 := by
  simp [isP] at h
  rcases h with ((((rfl | rfl) | rfl) | rfl) | rfl) | rfl <;> decide
theorem one_turned (W P : List UInt8) (s : UInt8) (hW : ∀ c ∈ W, isU c = true) (hs : signK s = true) (hsu : isU s = false) (hs0 : (s.toNat : Int) ≠ 0) (hP : ∀ c ∈ P, isP c = true) :
    oneS (W ++ s :: P) = (if has 97 W = true then 7 else sumF W [117, 103, 111] 0 0, [⟨(s.toNat : Int), sumF P [120, 119, 114, 88, 115, 116] 0 0, 0⟩], true) := by
  obtain ⟨t1, t2⟩ := takeAll isU W (s :: P) hW (fun c m h => by injection h with h _; rw [← h]; exact hsu)
  have hw := who_sum (W ++ s :: P)
  rw [t1, t2] at hw
  obtain ⟨u1, u2⟩ := takeAll isP P [] hP (fun c m h => by cases h)
  rw [List.append_nil] at u1 u2
  have hx : actS (s :: P) = ((((s.toNat : Int), sumF P [120, 119, 114, 88, 115, 116] 0 0, 0) : Int × Int × Int), []) := by
    cases P with
    | nil =>
      show (if signK s = false then _ else _) = _
      rw [if_neg (by rw [hs]; decide)]; rfl
    | cons d m =>
      show (if signK s = false then _ else if 0 ≤ classK d then _ else _) = _
      rw [if_neg (by rw [hs]; decide), if_neg (by rw [class_P d (hP d (by simp))]; decide), perm_sum, u1, u2]
  have hlen : (W ++ s :: P).length = (W.length + P.length) + 1 := by simp; omega
  have ha : ∀ n, actsN n [] = ([], []) := fun n => by cases n <;> simp [actsN, actS]
  have e : actsN (W ++ s :: P).length (s :: P) = ([⟨(s.toNat : Int), sumF P [120, 119, 114, 88, 115, 116] 0 0, 0⟩], []) := by
    rw [hlen]
    simp only [actsN, hx, hs0, if_false, ha]
  unfold oneS
  rw [hw, e]
  simp
theorem has_ext (c : UInt8) (a b : List UInt8) (h : ∀ c, c ∈ a ↔ c ∈ b) : has c a = has c b := by
  rw [Bool.eq_iff_iff, has_mem, has_mem]; exact h c
theorem l1_loop (ps : List Int) (t : Nat) (x3 : Int) (h3 : x3 = (t : Int)) (ht : t ≤ 255) (hl : ps.length ≤ 20) (hb : ∀ x ∈ ps, 0 ≤ x ∧ x ≤ 255) (R : Bool) (K : Nat) (n : Nat) : ∀ (k i : Nat) (a b : List UInt8), i ≤ ps.length → ps.length - i = n → n + K < k → a.length ≤ 1000 + i → b.length ≤ 1000 + 2 * i →
    (∀ k', K ≤ k' → ((clause_Parse.f k' (T (a ++ (ps.drop i).map pl))).bind fun bt303 => ((clause_Parse.f k' (T (b ++ dbl (turned ps t i)))).bind fun bt307 => (if bt303.2 = 0 then (if bt307.2 = 0 then ((gaolerlaw02_model.f k' bt307.1).bind fun t311 => ((gaolerlaw02_same.f k' bt303.1 t311).bind fun t314 => (if t314 = true then (some ((bt303.1.length : Int) == 1)) else (some false)))) else (some false)) else (some false)))) = some R) →
    gaolerlaw02_ClauseTurned.l1 k ps x3 (T a) (T b) (i : Int) = some R := by
  induction n with
  | zero =>
    intro k i a b h1 hd hk ha hbl hR
    obtain ⟨k, rfl⟩ : ∃ m, k = m + 1 := ⟨k - 1, by omega⟩
    have hi : i = ps.length := by omega
    have := hR k (by omega)
    rw [hi, turned_nil, List.drop_length] at this
    simp only [List.map_nil, List.append_nil, dbl, List.flatten_nil] at this
    simp only [gaolerlaw02_ClauseTurned.l1]
    rw [if_neg (by omega)]
    exact this
  | succ n ih =>
    intro k i a b h1 hd hk ha hbl hR
    obtain ⟨k, rfl⟩ : ∃ m, k = m + 1 := ⟨k - 1, by omega⟩
    have hlt : i < ps.length := by omega
    have hdrop : ps.drop i = ps[i] :: ps.drop (i + 1) := (List.getElem_cons_drop hlt).symm
    have hlt2 : (i + t) % ps.length < ps.length := Nat.mod_lt _ (by omega)
    obtain ⟨x0, _⟩ := hb _ (List.getElem_mem hlt)
    obtain ⟨y0, _⟩ := hb _ (List.getElem_mem hlt2)
    have ew : wrap64 ((i : Int) + wrap64 x3) = ((i + t : Nat) : Int) := by rw [h3, w64 (t : Int) (by omega) (by omega), w64 _ (by omega) (by omega)]; rfl
    have em : Int.tmod ((i + t : Nat) : Int) (ps.length : Int) = (((i + t) % ps.length : Nat) : Int) := by rw [Int.tmod_eq_emod_of_nonneg (by omega)]; rfl
    have eg : ps.getD ((i + t) % ps.length) 0 = ps[(i + t) % ps.length] := by rw [List.getD_eq_getElem?_getD, List.getElem?_eq_getElem hlt2]; rfl
    obtain ⟨u1, u2, u3⟩ := tm ps[i] 6 x0 (by decide) (by decide)
    obtain ⟨v1, v2, v3⟩ := tm ps[(i + t) % ps.length] 6 y0 (by decide) (by decide)
    have wu : wrap64 (ps[i] % 6 + 1) = ps[i] % 6 + 1 := w64 _ (by omega) (by omega)
    have wv : wrap64 (ps[(i + t) % ps.length] % 6 + 1) = ps[(i + t) % ps.length] % 6 + 1 := w64 _ (by omega) (by omega)
    rw [hdrop, turned_cons ps t i hlt, eg, dbl_cons, List.map_cons] at hR
    simp only [gaolerlaw02_ClauseTurned.l1, rd_at ps i hlt, ew, em, rd_at ps _ hlt2, u1, v1, wu, wv, pl_ext _ x0, pl_ext _ y0, T_app, T_size]
    rw [if_pos (by omega), if_pos (by omega), if_pos (by omega), if_pos (by omega), if_pos (by omega), if_pos (by simp; omega), if_neg (by omega), if_pos (by omega), if_pos (by omega), if_pos (by omega), if_pos (by omega), if_pos (by omega), if_pos (by simp), if_pos (by simp; omega), wsucc i (by omega)]
    refine ih k (i + 1) _ _ (by omega) (by omega) (by omega) (by simp; omega) (by simp; omega) fun k' hk' => ?_
    have := hR k' hk'
    simp only [List.append_assoc, List.cons_append, List.nil_append] at this ⊢
    exact this
/-- The two texts. -/
def txA (ws ps : List Int) (o : Int) : List UInt8 := ws.map wl ++ ol o :: ps.map pl
def txB (ws ps : List Int) (o : Int) (t : Nat) : List UInt8 := ((turned ws t 0).map wl ++ (turned ws t 0).map wl) ++ ol o :: dbl (turned ps t 0)
theorem dbl_mem (c : UInt8) : ∀ l : List Int, c ∈ dbl l ↔ c ∈ l.map pl
  | [] => by simp [dbl]
  | x :: l => by
    rw [dbl_cons, List.mem_append, dbl_mem c l, List.map_cons]
    simp
theorem turned_len (l : List Int) (t : Nat) : (turned l t 0).length = l.length := by simp [turned]
theorem dbl_len (l : List Int) : (dbl l).length = 2 * l.length := by
  induction l with
  | nil => rfl
  | cons x l ih => rw [dbl_cons, List.length_append, ih, List.length_cons, List.length_cons, List.length_cons, List.length_nil]; omega
theorem one_A (ws ps : List Int) (o : Int) : oneS (txA ws ps o) = (if has 97 (ws.map wl) = true then 7 else sumF (ws.map wl) [117, 103, 111] 0 0, [⟨((ol o).toNat : Int), sumF (ps.map pl) [120, 119, 114, 88, 115, 116] 0 0, 0⟩], true) := by
  obtain ⟨s1, s2, s3, _⟩ := sign_ol o
  exact one_turned _ _ _ (fun c hc => by obtain ⟨x, _, rfl⟩ := List.mem_map.1 hc; exact isU_wl x) s1 s2 s3 (fun c hc => by obtain ⟨x, _, rfl⟩ := List.mem_map.1 hc; exact isP_pl x)
theorem one_B (ws ps : List Int) (o : Int) (t : Nat) : oneS (txB ws ps o t) = oneS (txA ws ps o) := by
  obtain ⟨s1, s2, s3, _⟩ := sign_ol o
  have mw : ∀ c, c ∈ (turned ws t 0).map wl ++ (turned ws t 0).map wl ↔ c ∈ ws.map wl := fun c => by
    rw [List.mem_append, or_self, List.mem_map, List.mem_map]
    constructor
    · rintro ⟨x, hx, rfl⟩; exact ⟨x, (turned_mem ws t x).1 hx, rfl⟩
    · rintro ⟨x, hx, rfl⟩; exact ⟨x, (turned_mem ws t x).2 hx, rfl⟩
  have mp : ∀ c, c ∈ dbl (turned ps t 0) ↔ c ∈ ps.map pl := fun c => by
    rw [dbl_mem, List.mem_map, List.mem_map]
    constructor
    · rintro ⟨x, hx, rfl⟩; exact ⟨x, (turned_mem ps t x).1 hx, rfl⟩
    · rintro ⟨x, hx, rfl⟩; exact ⟨x, (turned_mem ps t x).2 hx, rfl⟩
  rw [one_A]
  unfold txB
  rw [one_turned _ _ _ (fun c hc => by obtain ⟨x, _, rfl⟩ := List.mem_map.1 ((mw c).1 hc); exact isU_wl x) s1 s2 s3 (fun c hc => by obtain ⟨x, _, rfl⟩ := List.mem_map.1 ((mp c).1 hc); exact isP_pl x),
    has_ext 97 _ _ mw, sum3, sum3, sum6, sum6, has_ext 117 _ _ mw, has_ext 103 _ _ mw, has_ext 111 _ _ mw, has_ext 120 _ _ mp, has_ext 119 _ _ mp, has_ext 114 _ _ mp, has_ext 88 _ _ mp, has_ext 115 _ _ mp, has_ext 116 _ _ mp]
theorem noComma (W P : List UInt8) (s : UInt8) (hW : ∀ c ∈ W, isU c = true) (hs : s ≠ 44) (hP : ∀ c ∈ P, isP c = true) : 44 ∉ W ++ s :: P := by
  intro h
  rcases List.mem_append.1 h with h | h
  · exact absurd (hW _ h) (by decide)
  · rcases List.mem_cons.1 h with h | h
    · exact hs h.symm
    · exact absurd (hP _ h) (by decide)
theorem parse_A (ws ps : List Int) (o : Int) : parseS (txA ws ps o) = ([⟨(oneS (txA ws ps o)).1, (oneS (txA ws ps o)).2.1⟩], 0) := by
  obtain ⟨_, _, _, s4⟩ := sign_ol o
  unfold parseS
  rw [pcs_none _ [] (by unfold txA; exact noComma _ _ _ (fun c hc => by obtain ⟨x, _, rfl⟩ := List.mem_map.1 hc; exact isU_wl x) s4 (fun c hc => by obtain ⟨x, _, rfl⟩ := List.mem_map.1 hc; exact isP_pl x)), List.nil_append]
  simp only [parseL]
  rw [if_pos (by rw [one_A])]; rfl
theorem parse_B (ws ps : List Int) (o : Int) (t : Nat) : parseS (txB ws ps o t) = parseS (txA ws ps o) := by
  obtain ⟨_, _, _, s4⟩ := sign_ol o
  rw [parse_A]
  unfold parseS
  rw [pcs_none _ [] (by unfold txB; exact noComma _ _ _ (fun c hc => by rcases List.mem_append.1 hc with hc | hc <;> (obtain ⟨x, _, rfl⟩ := List.mem_map.1 hc; exact isU_wl x)) s4 (fun c hc => by obtain ⟨x, _, rfl⟩ := List.mem_map.1 ((dbl_mem _ _).1 hc); exact isP_pl x)), List.nil_append]
  simp only [parseL]
  rw [one_B, if_pos (by rw [one_A])]; rfl
theorem turned_end (ws ps : List Int) (o : Int) (t : Nat) (hw : ws.length ≤ 20) (hp : ps.length ≤ 20) (k : Nat) (hk : 1100000 < k) :
    ((clause_Parse.f k (T (txA ws ps o))).bind fun bt303 => ((clause_Parse.f k (T (txB ws ps o t))).bind fun bt307 => (if bt303.2 = 0 then (if bt307.2 = 0 then ((gaolerlaw02_model.f k bt307.1).bind fun t311 => ((gaolerlaw02_same.f k bt303.1 t311).bind fun t314 => (if t314 = true then (some ((bt303.1.length : Int) == 1)) else (some false)))) else (some false)) else (some false)))) = some true := by
  have la : (txA ws ps o).length ≤ 100 := by simp [txA]; omega
  have lb : (txB ws ps o t).length ≤ 200 := by simp [txB, turned_len, dbl_len]; omega
  rw [parse_eq _ (by omega) k (by omega), Option.bind_some, parse_eq _ (by omega) k (by omega), Option.bind_some, parse_B, parse_A]
  have hs : ∀ c ∈ ([⟨(oneS (txA ws ps o)).1, (oneS (txA ws ps o)).2.1⟩] : List S34), c.f1.length ≤ 1000 := fun c hc => by
    rw [List.mem_singleton.1 hc, one_A]; exact (by simp : [_].length ≤ 1000)
  dsimp only
  rw [if_pos rfl, if_pos rfl, model_eq _ (by simp) hs k (by omega), Option.bind_some, same_eq _ (by simp) hs k (by omega)]
  rfl
theorem l0_loop (ws ps : List Int) (o : Int) (ho : 0 ≤ o ∧ o ≤ 255) (t : Nat) (x3 : Int) (h3 : x3 = (t : Int)) (ht : t ≤ 255) (hl : ws.length ≤ 20) (hpl : ps.length ≤ 20) (hb : ∀ x ∈ ws, 0 ≤ x ∧ x ≤ 255) (hpb : ∀ x ∈ ps, 0 ≤ x ∧ x ≤ 255) (K : Nat) (hK : 1200000 < K) (n : Nat) : ∀ (k i : Nat) (a b : List UInt8), i ≤ ws.length → ws.length - i = n → n + K < k → a.length ≤ i → b.length ≤ i →
    a ++ (ws.drop i).map wl = ws.map wl → b ++ (turned ws t i).map wl = (turned ws t 0).map wl →
    gaolerlaw02_ClauseTurned.l0 k ws ps o x3 (T a) (T b) (i : Int) = some true := by
  induction n with
  | zero =>
    intro k i a b h1 hd hk ha hbl hA hB
    obtain ⟨k, rfl⟩ : ∃ m, k = m + 1 := ⟨k - 1, by omega⟩
    have hi : i = ws.length := by omega
    rw [hi, turned_nil, List.map_nil, List.append_nil] at hB
    rw [hi, List.drop_length, List.map_nil, List.append_nil] at hA
    obtain ⟨u1, u2, u3⟩ := tm o 3 ho.1 (by decide) (by decide)
    have wu : wrap64 (o % 3 + 1) = o % 3 + 1 := w64 _ (by omega) (by omega)
    simp only [gaolerlaw02_ClauseTurned.l0, u1, wu, ol_ext o ho.1, T_app, T_size]
    rw [if_neg (by omega), if_pos (by omega), if_pos (by omega), if_pos (by omega), if_pos (by simp; omega), if_pos (by simp; omega), if_pos (by simp; omega)]
    have := l1_loop ps t x3 h3 ht hpl hpb true 1150000 ps.length k 0 (a ++ [ol o]) (b ++ (b ++ [ol o])) (by omega) (by omega) (by omega) (by simp; omega) (by simp; omega) (fun k' hk' => by
      have e1 : a ++ [ol o] ++ (ps.drop 0).map pl = txA ws ps o := by rw [List.drop_zero, hA, List.append_assoc]; rfl
      have e2 : b ++ (b ++ [ol o]) ++ dbl (turned ps t 0) = txB ws ps o t := by rw [hB]; unfold txB; simp
      rw [e1, e2]
      exact turned_end ws ps o t hl hpl k' (by omega))
    exact this
  | succ n ih =>
    intro k i a b h1 hd hk ha hbl hA hB
    obtain ⟨k, rfl⟩ : ∃ m, k = m + 1 := ⟨k - 1, by omega⟩
    have hlt : i < ws.length := by omega
    have hdrop : ws.drop i = ws[i] :: ws.drop (i + 1) := (List.getElem_cons_drop hlt).symm
    have hlt2 : (i + t) % ws.length < ws.length := Nat.mod_lt _ (by omega)
    obtain ⟨x0, _⟩ := hb _ (List.getElem_mem hlt)
    obtain ⟨y0, _⟩ := hb _ (List.getElem_mem hlt2)
    have ew : wrap64 ((i : Int) + wrap64 x3) = ((i + t : Nat) : Int) := by rw [h3, w64 (t : Int) (by omega) (by omega), w64 _ (by omega) (by omega)]; rfl
    have em : Int.tmod ((i + t : Nat) : Int) (ws.length : Int) = (((i + t) % ws.length : Nat) : Int) := by rw [Int.tmod_eq_emod_of_nonneg (by omega)]; rfl
    have eg : ws.getD ((i + t) % ws.length) 0 = ws[(i + t) % ws.length] := by rw [List.getD_eq_getElem?_getD, List.getElem?_eq_getElem hlt2]; rfl
    obtain ⟨u1, u2, u3⟩ := tm ws[i] 4 x0 (by decide) (by decide)
    obtain ⟨v1, v2, v3⟩ := tm ws[(i + t) % ws.length] 4 y0 (by decide) (by decide)
    have wu : wrap64 (ws[i] % 4 + 1) = ws[i] % 4 + 1 := w64 _ (by omega) (by omega)
    have wv : wrap64 (ws[(i + t) % ws.length] % 4 + 1) = ws[(i + t) % ws.length] % 4 + 1 := w64 _ (by omega) (by omega)
    rw [hdrop, List.map_cons] at hA
    rw [turned_cons ws t i hlt, eg, List.map_cons] at hB
    simp only [gaolerlaw02_ClauseTurned.l0, rd_at ws i hlt, ew, em, rd_at ws _ hlt2, u1, v1, wu, wv, wl_ext _ x0, wl_ext _ y0, T_app, T_size]
    rw [if_pos (by omega), if_pos (by omega), if_pos (by omega), if_pos (by omega), if_pos (by omega), if_pos (by simp; omega), if_neg (by omega), if_pos (by omega), if_pos (by omega), if_pos (by omega), if_pos (by omega), if_pos (by omega), if_pos (by simp; omega), wsucc i (by omega)]
    exact ih k (i + 1) _ _ (by omega) (by omega) (by omega) (by simp; omega) (by simp; omega) (by rw [List.append_assoc]; exact hA) (by rw [List.append_assoc]; exact hB)
theorem u8_rng {x : Int} (h : (Lit.int .u8 x).wf = true) : 0 ≤ x ∧ x ≤ 255 := by simpa [Lit.wf, IntKind.min, IntKind.max, IntKind.signed, IntKind.bits] using h
theorem ClauseTurned : gaolerlaw02_ClauseTurned.Pure := by
  intro ws ps o x3 _ _ hw _ _ hp ho h3
  refine ⟨big, ?_⟩
  have hb := big_eq
  obtain ⟨k, hk⟩ : ∃ k, k = big := ⟨_, rfl⟩
  rw [← hk] at hb ⊢
  clear hk
  unfold gaolerlaw02_ClauseTurned.f
  rw [awake2 k (by omega), Option.bind_some, if_pos rfl]
  obtain ⟨k, rfl⟩ : ∃ m, k = m + 1 := ⟨k - 1, by omega⟩
  simp only [gaolerlaw02_ClauseTurned.j0]
  by_cases h1 : (ws.length : Int) > 20
  · rw [if_pos h1, if_pos trivial]
  · rw [if_neg h1]
    by_cases h2 : (ps.length : Int) > 20
    · rw [if_pos (by exact decide_eq_true h2)]
    · rw [if_neg (by rw [decide_eq_true_eq]; exact h2)]
      obtain ⟨t, rfl⟩ := Int.eq_ofNat_of_zero_le (u8_rng h3).1
      have ht := (u8_rng h3).2
      exact l0_loop ws ps o (u8_rng ho) t _ rfl (by omega) (by omega) (by omega) (fun x hx => u8_rng (hw x hx)) (fun x hx => u8_rng (hp x hx)) 1300000 (by omega) ws.length k 0 [] [] (by omega) (by omega) (by omega) (by simp) (by simp) (by simp) (by simp)
end Go.Proofs.YtlohbepfecahdaaDoor.Pure
