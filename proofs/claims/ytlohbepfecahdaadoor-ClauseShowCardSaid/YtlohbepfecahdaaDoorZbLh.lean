/- Plain facts: the reference's Show tells what the program's Show tells. No machine in sight. -/
import Derived.Test.YtlohbepfecahdaaDoorZbLg
namespace Go.Proofs.YtlohbepfecahdaaDoor.L
open Go.RowKit Go.Proofs.YtlohbepfecahdaaDoor.S Go.Proofs.YtlohbepfecahdaaDoorW.PrintWords Go.Proofs.YtlohbepfecahdaaDoorW.PrintLast
set_option linter.unusedVariables false
set_option linter.unusedSimpArgs false
theorem str_one (o : Int) : strOfNums [o] = T [o.toNat.toUInt8] := rfl
theorem class_ext : ∀ c : Int, 1 ≤ c → c ≤ 3 → (⟨#[117, 103, 111]⟩ : ByteArray).extract (c - 1).toNat c.toNat = T [classT c] := by
  intro c h1 h3
  rcases (show c = 1 ∨ c = 2 ∨ c = 3 by omega) with rfl | rfl | rfl <;> decide +kernel
theorem rshow_l1 (l : List S34) (i : Nat) (hi : i < l.length) (hl : l[i].f1.length ≤ 1000) (hr : l[i].f1.all rightA = true) (x3 : Bool) (R : ByteArray) (K : Nat) (hK : 300 ≤ K) (n : Nat) : ∀ (k j : Nat) (acc : List UInt8), acc.length ≤ 100000000 + 8 * j → j ≤ l[i].f1.length → l[i].f1.length - j = n → n + K < k →
    (∀ k', K ≤ k' → gaolerref02_Show.l0 k' (l.map cvC) x3 (T (acc ++ actsT (l[i].f1.drop j))) (wrap64 ((i : Int) + 1)) = some R) → gaolerref02_Show.l1 k (l.map cvC) x3 (T acc) (i : Int) (j : Int) = some R := by
  have e72 := rd72 l i hi
  obtain ⟨C, hC⟩ : ∃ C, l[i] = C := ⟨_, rfl⟩
  rw [hC] at hl hr e72 ⊢
  induction n with
  | zero =>
    intro k j acc ha h1 hd hk hR
    obtain ⟨k, rfl⟩ : ∃ m, k = m + 1 := ⟨k - 1, by omega⟩
    have := hR k (by omega)
    rw [List.drop_eq_nil_of_le (by omega), show actsT [] = [] from rfl, List.append_nil] at this
    simp only [gaolerref02_Show.l1, e72]
    rw [if_pos (by omega), if_pos (by rw [List.length_map]; omega), if_neg (by show ¬ ((j : Int) < ((C.f1.map cv).length : Int)); rw [List.length_map]; omega)]
    exact this
  | succ n ih =>
    intro k j acc ha h1 hd hk hR
    obtain ⟨k, rfl⟩ : ∃ m, k = m + 1 := ⟨k - 1, by omega⟩
    have hlt : j < C.f1.length := by omega
    have hdrop : C.f1.drop j = C.f1[j] :: C.f1.drop (j + 1) := (List.getElem_cons_drop hlt).symm
    have e75 : rd_T75 (cvC C).f1 (j : Int) = cv C.f1[j] := rd75 C.f1 j hlt
    have hra := List.all_eq_true.1 hr _ (List.getElem_mem hlt)
    rw [hdrop] at hR
    simp only [gaolerref02_Show.l1, e72, e75]
    rw [if_pos (by omega), if_pos (by rw [List.length_map]; omega), if_pos (by show ((j : Int) < ((C.f1.map cv).length : Int)); rw [List.length_map]; omega), if_pos (by omega), Option.bind_some]
    generalize C.f1[j] = a at hra hR ⊢
    rw [show (cv a).f0 = a.f0 from rfl, show (cv a).f1 = a.f1 from rfl, show (cv a).f2 = a.f2 from rfl, str_one, T_app, T_size, T_size, if_pos (by simp; omega)]
    simp [rightA] at hra
    have hact : ∀ r : List UInt8, textS a.f0 a.f1 a.f2 = a.f0.toNat.toUInt8 :: r → r.length ≤ 6 → (T (acc ++ [a.f0.toNat.toUInt8]) ++ T r = T (acc ++ textS a.f0 a.f1 a.f2)) := fun r h _ => by
      rw [T_app, h, List.append_assoc]; rfl
    have hgo : gaolerref02_Show.l1 k (l.map cvC) x3 (T (acc ++ textS a.f0 a.f1 a.f2)) (i : Int) ((j + 1 : Nat) : Int) = some R := by
      have hlen := textS_len a.f0 a.f1 a.f2
      refine ih k (j + 1) _ (by rw [List.length_append]; omega) (by omega) (by omega) (by omega) fun k' hk' => ?_
      have := hR k' hk'
      rw [List.append_assoc]
      exact this
    by_cases hc : a.f2 > 0
    · rw [if_pos hc, w64 _ (by omega) (by omega), if_pos (by omega), if_pos (by omega), if_pos (by omega), class_ext a.f2 (by omega) (by omega), if_pos (by rw [T_size, T_size]; simp; omega), wsucc j (by omega)]
      rw [hact [classT a.f2] (by unfold textS; rw [if_pos (by omega)]) (by simp)]
      exact hgo
    · rw [if_neg hc, perm_letters a.f1 (by omega) (by omega) k (by omega), Option.bind_some]
      have hpl := permT_len a.f1 permL
      have h6 : permL.length = 6 := rfl
      rw [if_pos (by rw [T_size, T_size]; simp; omega), wsucc j (by omega), hact (permT a.f1 permL) (by unfold textS; rw [if_neg (by omega)]) (by omega)]
      exact hgo
theorem join_succ (l : List (List UInt8)) (i : Nat) (h : i < l.length) : Lib.join (l.take (i + 1)) [44] = Lib.join (l.take i) [44] ++ ((if 0 < i then [44] else []) ++ l[i]) := by
  cases l with
  | nil => simp at h
  | cons x r =>
    rw [List.take_succ_cons, Lib.join_cons]
    cases i with
    | zero => simp [Lib.joinTail, Lib.join_nil]
    | succ i =>
      have hi : i < r.length := by simpa using h
      rw [List.take_succ_cons, Lib.join_cons, Lib.joinTail_take_succ [44] r i r[i] (List.getElem?_eq_getElem hi)]
      simp
set_option maxRecDepth 100000 in
theorem rshow_l0 (l : List S34) (hs : sized l) (hr : rightS l = true) (n : Nat) : ∀ (k i : Nat), i ≤ l.length → l.length - i = n → n * 1020 + 400 < k →
    gaolerref02_Show.l0 k (l.map cvC) true (T (Lib.join ((l.take i).map showOne) [44])) (i : Int) = some (T (showS l)) := by
  induction n with
  | zero =>
    intro k i h1 hd hk
    obtain ⟨k, rfl⟩ : ∃ m, k = m + 1 := ⟨k - 1, by omega⟩
    obtain ⟨k, rfl⟩ : ∃ m, k = m + 1 := ⟨k - 1, by omega⟩
    simp only [gaolerref02_Show.l0, gaolerref02_Show.j1]
    rw [if_neg (by rw [List.length_map]; omega), if_neg (by decide), List.take_of_length_le (by omega)]
    rfl
  | succ n ih =>
    intro k i h1 hd hk
    obtain ⟨k, rfl⟩ : ∃ m, k = m + 1 := ⟨k - 1, by omega⟩
    obtain ⟨k, rfl⟩ : ∃ m, k = m + 1 := ⟨k - 1, by omega⟩
    obtain ⟨k, rfl⟩ : ∃ m, k = m + 1 := ⟨k - 1, by omega⟩
    obtain ⟨k, rfl⟩ : ∃ m, k = m + 1 := ⟨k - 1, by omega⟩
    have hlt : i < l.length := by omega
    obtain ⟨g0, g1⟩ := hs.2 _ (List.getElem_mem hlt)
    have hrC : rightC l[i] = true := by
      unfold rightS at hr
      rw [Bool.and_eq_true, List.all_eq_true] at hr
      exact hr.1 _ (List.getElem_mem hlt)
    simp [rightC] at hrC
    have hall : l[i].f1.all rightA = true := List.all_eq_true.2 hrC.2.2.2
    have hacc : (Lib.join ((l.take i).map showOne) [44]).length ≤ 50000000 := by
      have := join_len 32768 ((l.take i).map showOne) [44] (fun x hx => by
        obtain ⟨c, hc, rfl⟩ := List.mem_map.1 hx
        have hcl := List.mem_of_mem_take hc
        have hok := rightS_ok l hs hr
        unfold okL at hok
        rw [Bool.and_eq_true, List.all_eq_true] at hok
        exact showOne_len c (hok.2 c hcl))
      rw [List.length_map, List.length_take] at this
      have h2 : min i l.length * (32768 + [44].length) ≤ 1000 * 32769 := Nat.mul_le_mul_right _ (by have := hs.1; omega)
      omega
    have hsucc := join_succ (l.map showOne) i (by simpa using hlt)
    rw [← List.map_take, ← List.map_take, List.getElem_map] at hsucc
    generalize Lib.join ((l.take i).map showOne) [44] = acc at hacc hsucc ⊢
    obtain ⟨K, hK⟩ : ∃ K, n * 1020 + 401 = K := ⟨_, rfl⟩
    have fin : ∀ (b : List UInt8), b.length ≤ 100000000 → b ++ actsT l[i].f1 = acc ++ ((if 0 < i then [44] else []) ++ showOne l[i]) → gaolerref02_Show.l1 k (l.map cvC) true (T b) (i : Int) 0 = some (T (showS l)) := by
      intro b hb1 hb2
      have := rshow_l1 l i hlt g0 hall true (T (showS l)) K (by omega) l[i].f1.length k 0 b (by omega) (by omega) (by omega) (by omega) (fun k' hk' => by
        rw [List.drop_zero, hb2, ← hsucc, wsucc i (by have := hs.1; omega)]
        exact ih k' (i + 1) (by omega) (by omega) (by omega))
      exact this
    have mid : ∀ (b : List UInt8), b.length ≤ 60000000 → b = acc ++ (if 0 < i then [44] else []) → gaolerref02_Show.j2 (k + 2) (l.map cvC) true (T b) (i : Int) = some (T (showS l)) := by
      intro b hb1 hb2
      simp only [gaolerref02_Show.j2, gaolerref02_Show.j3]
      rw [if_pos (by omega), if_pos (by rw [List.length_map]; omega), rd72 l i hlt, show (cvC l[i]).f0 = l[i].f0 from rfl]
      by_cases h7 : l[i].f0 = 7
      · rw [if_pos h7, if_pos (by rw [T_size]; omega), show (⟨#[97]⟩ : ByteArray) = T [97] from rfl, T_app]
        refine fin _ (by simp; omega) ?_
        unfold showOne whoT
        rw [if_pos h7, hb2]; simp
      · have hwl := permT_len l[i].f0 whoL
        have h3 : whoL.length = 3 := rfl
        rw [if_neg h7, who_letters _ hrC.1 (by omega) _ (by omega), Option.bind_some, if_pos (by rw [T_size, T_size]; omega), T_app]
        refine fin _ (by rw [List.length_append]; omega) ?_
        unfold showOne whoT
        rw [if_neg h7, hb2]; simp
    simp only [gaolerref02_Show.l0, gaolerref02_Show.j1]
    rw [if_pos (by rw [List.length_map]; omega), if_pos trivial]
    by_cases h0 : 0 < i
    · rw [if_pos (by omega), if_pos (by rw [T_size]; omega), show (⟨#[44]⟩ : ByteArray) = T [44] from rfl, T_app]
      exact mid _ (by simp; omega) (by rw [if_pos h0])
    · rw [if_neg (by omega)]
      exact mid _ (by omega) (by rw [if_neg h0, List.append_nil])
theorem rshow_eq (l : List S34) (hs : sized l) (k : Nat) (hk : 1100000 < k) : gaolerref02_Show.f k (l.map cvC) = some (T (if rightS l = true then showS l else [])) := by
  unfold gaolerref02_Show.f
  rw [rright_eq l hs k (by omega), Option.bind_some]
  have hsz := hs.1
  by_cases h : rightS l = true
  · rw [if_pos h, h]
    have := rshow_l0 l hs h l.length k 0 (by omega) (by omega) (by omega)
    exact this
  · have h' : rightS l = false := by simpa using h
    rw [if_neg h, h']
    obtain ⟨k, rfl⟩ : ∃ m, k = m + 1 := ⟨k - 1, by omega⟩
    obtain ⟨k, rfl⟩ : ∃ m, k = m + 1 := ⟨k - 1, by omega⟩
    simp only [gaolerref02_Show.l0, gaolerref02_Show.j1]
    split <;> rfl
end Go.Proofs.YtlohbepfecahdaaDoor.L
