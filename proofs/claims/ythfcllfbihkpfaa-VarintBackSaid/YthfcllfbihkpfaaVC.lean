/- Plain facts on encodings of numbers and lists: round trips, canonical forms, prefixes. No condition beyond those in the statements. -/
import Derived.Test.YthfcllfbihkpfaaVR
namespace Go.Proofs.Ythfcllfbihkpfaa.VB
open Go Go.RowKit Go.Proofs.Ythfcllfbihkpfaa.P Go.Proofs.Ythfcllfbihkpfaa.Hand Go.Proofs.YthfcllfbihkpfaaW.PrintWords Go.Proofs.YthfcllfbihkpfaaW.PrintLast Go.Proofs.YthfcllfbihkpfaaW.PrintMore

/-! ## Strings as lists of bytes -/
theorem bytesOf_inj {a b : ByteArray} (h : bytesOf a = bytesOf b) : a = b := by
  unfold bytesOf at h
  have h2 : a.data.toList = b.data.toList := by
    apply List.map_inj_right (f := fun x : UInt8 => (x.toNat : Int)) (fun x y hxy => by
      have : x.toNat = y.toNat := by exact_mod_cast hxy
      exact UInt8.toNat_inj.1 this) |>.1 h
  exact ByteArray.ext (Array.toList_inj.1 h2)
theorem bytesOf_append (a b : ByteArray) : bytesOf (a ++ b) = bytesOf a ++ bytesOf b := by simp [bytesOf, ByteArray.data_append]
theorem bytesOf_extract (s : ByteArray) (a b : Nat) : bytesOf (s.extract a b) = ((bytesOf s).drop a).take (b - a) := by
  simp [bytesOf, ByteArray.data_extract, List.map_drop, List.map_take]
theorem bytesOf_from (s : ByteArray) (a : Nat) : bytesOf (s.extract a s.size) = (bytesOf s).drop a := by
  rw [bytesOf_extract, List.take_of_length_le (by rw [List.length_drop, bytesOf_length]; omega)]
theorem bytesOf_nums {l : List Int} (h : ∀ b ∈ l, 0 ≤ b ∧ b ≤ 255) : bytesOf (strOfNums l) = l := by
  unfold bytesOf
  rw [strOfNums_data, List.map_map]
  conv => rhs; rw [← List.map_id l]
  apply List.map_congr_left
  intro b hb
  have := h b hb
  simp only [Function.comp_apply, id_eq]
  rw [UInt8.toNat_ofNat']
  omega
theorem bytesOf_empty : bytesOf (⟨#[]⟩ : ByteArray) = [] := rfl
theorem strOfNums_append (a b : List Int) : strOfNums (a ++ b) = strOfNums a ++ strOfNums b := by
  apply ByteArray.ext
  simp [strOfNums, ByteArray.data_append]
theorem empty_append (s : ByteArray) : (⟨#[]⟩ : ByteArray) ++ s = s := by apply bytesOf_inj; rw [bytesOf_append, bytesOf_empty, List.nil_append]

/-! ## One number -/
theorem RL_round : ∀ (m i : Nat) (n : Int) (rest : List Int), i ≤ 8 → m < 128 ^ (9 - i) → (0 < i → 0 < m) → RL i n (G m ++ rest) = (n + m * 128 ^ i, (i : Int) + (G m).length, 0) := by
  intro m
  induction m using Nat.strongRecOn with
  | _ m ih =>
    intro i n rest hi hm hp
    by_cases h : m < 128
    · rw [G_small h]
      simp only [List.cons_append, List.nil_append, RL, if_neg (show ¬ 9 ≤ i by omega), if_neg (show ¬ ((128 ≤ (m : Int) ∧ i = 8) ∨ ((m : Int) = 0 ∧ 0 < i)) by omega), if_pos (show (m : Int) < 128 by omega)]
      rfl
    · rw [G_big (n := m) (by omega)]
      have h8 : i ≠ 8 := by intro e; subst e; simp at hm; omega
      have e1 : (((m % 128 + 128 : Nat) : Int) - 128) = ((m % 128 : Nat) : Int) := by omega
      simp only [List.cons_append, RL, if_neg (show ¬ 9 ≤ i by omega), if_neg (show ¬ ((128 ≤ ((m % 128 + 128 : Nat) : Int) ∧ i = 8) ∨ (((m % 128 + 128 : Nat) : Int) = 0 ∧ 0 < i)) by omega), if_neg (show ¬ ((m % 128 + 128 : Nat) : Int) < 128 by omega), e1]
      have e2 : 9 - i = (9 - (i + 1)) + 1 := by omega
      rw [e2, Nat.pow_succ] at hm
      rw [ih (m / 128) (by omega) (i + 1) _ rest (by omega) (by omega) (by omega)]
      have e3 : (m : Int) = ((m % 128 : Nat) : Int) + 128 * ((m / 128 : Nat) : Int) := by omega
      have e4 : n + ((m % 128 : Nat) : Int) * 128 ^ i + ((m / 128 : Nat) : Int) * 128 ^ (i + 1) = n + (m : Int) * 128 ^ i := by
        conv => rhs; rw [e3]
        rw [Int.pow_succ, Int.add_mul, Int.mul_comm (128 ^ i) 128, ← Int.mul_assoc, Int.mul_comm ((m / 128 : Nat) : Int) 128, Int.add_assoc]
      rw [e4]
      simp only [List.length_cons, Prod.mk.injEq, true_and, and_true]
      omega
theorem RL_cut : ∀ (m i : Nat) (n : Int) (j : Nat), i ≤ 8 → m < 128 ^ (9 - i) → j < (G m).length → RL i n ((G m).take j) = (0, 0, 11) := by
  intro m
  induction m using Nat.strongRecOn with
  | _ m ih =>
    intro i n j hi hm hj
    cases j with
    | zero => rw [List.take_zero]; cases i <;> rfl
    | succ j =>
      by_cases h : m < 128
      · rw [G_small h] at hj; simp at hj
      · rw [G_big (n := m) (by omega)] at hj ⊢
        have h8 : i ≠ 8 := by intro e; subst e; simp at hm; omega
        simp only [List.take_succ_cons, RL, if_neg (show ¬ 9 ≤ i by omega), if_neg (show ¬ ((128 ≤ ((m % 128 + 128 : Nat) : Int) ∧ i = 8) ∨ (((m % 128 + 128 : Nat) : Int) = 0 ∧ 0 < i)) by omega), if_neg (show ¬ ((m % 128 + 128 : Nat) : Int) < 128 by omega)]
        have e2 : 9 - i = (9 - (i + 1)) + 1 := by omega
        rw [e2, Nat.pow_succ] at hm
        simp only [List.length_cons] at hj
        exact ih (m / 128) (by omega) (i + 1) _ j (by omega) (by omega) (by omega)
theorem mulfact (p n b m : Int) : n + (b - 128) * p + m * (p * 128) = n + (128 * m + (b - 128)) * p := by
  rw [Int.add_mul, Int.mul_comm p 128, ← Int.mul_assoc m, Int.mul_comm m 128]
  omega
theorem RL_canon : ∀ (l : List Int) (i : Nat) (n v c : Int), (∀ b ∈ l, 0 ≤ b ∧ b ≤ 255) → RL i n l = (v, c, 0) →
    ∃ (m : Nat) (rest : List Int), l = G m ++ rest ∧ v = n + m * 128 ^ i ∧ c = (i : Int) + (G m).length ∧ (0 < i → 0 < m) := by
  intro l
  induction l with
  | nil => intro i n v c _ h; simp [RL] at h
  | cons b t ih =>
    intro i n v c hb h
    have hb0 := hb b (by simp)
    simp only [RL] at h
    split at h
    · simp at h
    · split at h
      · simp at h
      · rename_i hc
        split at h
        · rename_i hl
          simp only [Prod.mk.injEq, and_true] at h
          refine ⟨b.toNat, t, ?_, ?_, ?_, by omega⟩
          · rw [G_small (by omega), show ((b.toNat : Nat) : Int) = b by omega]; rfl
          · rw [show ((b.toNat : Nat) : Int) = b by omega]; exact h.1.symm
          · rw [G_small (by omega), ← h.2]; rfl
        · rename_i hl
          obtain ⟨m, rest, rfl, hv, hk, hm⟩ := ih (i + 1) _ v c (fun x hx => hb x (by simp [hx])) h
          have hm0 := hm (by omega)
          obtain ⟨q, hq⟩ : ∃ q, q = 128 * m + (b.toNat - 128) := ⟨_, rfl⟩
          have e1 : q % 128 = b.toNat - 128 := by omega
          have e2 : q / 128 = m := by omega
          have e3 : (q : Int) = 128 * (m : Int) + (b - 128) := by omega
          have e4 : G q = b :: G m := by
            rw [G_big (n := q) (by omega), e1, e2]
            congr 1
            omega
          refine ⟨q, rest, by rw [e4]; rfl, ?_, ?_, by omega⟩
          · rw [hv, Int.pow_succ, e3]
            exact mulfact _ _ _ _
          · rw [hk, e4]
            simp only [List.length_cons]
            omega
theorem zig_unzig {u : Int} (h : 0 ≤ u) : (zig (unzig u) : Int) = u := by unfold zig unzig; split <;> split <;> omega
theorem unzig_zig {n : Int} : unzig (zig n) = n := by unfold zig unzig; split <;> split <;> omega
theorem RS_round (n : Int) (rest : List Int) (h1 : -1152921504606846976 ≤ n) (h2 : n ≤ 1152921504606846976) : RS (G (zig n) ++ rest) = (n, ((G (zig n)).length : Int), 0) := by
  have hz := zig_lt h1 h2
  have := RL_round (zig n) 0 0 rest (by omega) (by omega) (by omega)
  unfold RS
  rw [this]
  simp only [Int.pow_zero, Int.mul_one, Int.zero_add, if_true]
  rw [if_neg (by omega), unzig_zig]
  simp
theorem RD_round (n : Nat) (rest : List Int) (h2 : n ≤ 1152921504606846976) : RD (G n ++ rest) = ((n : Int), ((G n).length : Int), 0) := by
  have := RL_round n 0 0 rest (by omega) (by omega) (by omega)
  unfold RD
  rw [this]
  simp only [Int.pow_zero, Int.mul_one, Int.zero_add, true_and]
  rw [if_neg (by omega)]
  simp
theorem RS_canon {l : List Int} {v c : Int} (hb : ∀ b ∈ l, 0 ≤ b ∧ b ≤ 255) (h : RS l = (v, c, 0)) : ∃ rest, l = G (zig v) ++ rest ∧ c = (G (zig v)).length ∧ -1152921504606846976 ≤ v ∧ v ≤ 1152921504606846976 := by
  obtain ⟨u, d, e, hr⟩ : ∃ u d e, RL 0 0 l = (u, d, e) := ⟨_, _, _, rfl⟩
  unfold RS at h
  rw [hr] at h
  dsimp only at h
  by_cases he : e = 0
  · subst he
    rw [if_pos rfl] at h
    split at h
    · simp at h
    · simp only [Prod.mk.injEq, and_true] at h
      obtain ⟨rfl, rfl⟩ := h
      obtain ⟨m, rest, rfl, hv, hk, _⟩ := RL_canon l 0 0 u d hb hr
      simp only [Int.pow_zero, Int.mul_one, Int.zero_add] at hv
      have hz : zig (unzig u) = m := by have := zig_unzig (u := u) (by omega); omega
      have hin := (unzig_in (u := u) (by omega)).2 (by omega)
      exact ⟨rest, by rw [hz], by rw [hz]; omega, hin.1, hin.2⟩
  · rw [if_neg he] at h
    simp only [Prod.mk.injEq] at h
    exact absurd h.2.2 he
theorem RD_canon {l : List Int} {v c : Int} (hb : ∀ b ∈ l, 0 ≤ b ∧ b ≤ 255) (h : RD l = (v, c, 0)) : ∃ rest, l = G v.toNat ++ rest ∧ c = (G v.toNat).length ∧ 0 ≤ v ∧ v ≤ 1152921504606846976 := by
  obtain ⟨u, d, e, hr⟩ : ∃ u d e, RL 0 0 l = (u, d, e) := ⟨_, _, _, rfl⟩
  unfold RD at h
  rw [hr] at h
  dsimp only at h
  split at h
  · simp at h
  · rename_i hn
    simp only [Prod.mk.injEq] at h
    obtain ⟨rfl, rfl, rfl⟩ := h
    obtain ⟨m, rest, rfl, hv, hk, _⟩ := RL_canon l 0 0 u d hb hr
    simp only [Int.pow_zero, Int.mul_one, Int.zero_add] at hv
    have hm : u.toNat = m := by omega
    exact ⟨rest, by rw [hm], by rw [hm]; omega, by omega, by omega⟩
theorem RS_cut (n : Int) (j : Nat) (h1 : -1152921504606846976 ≤ n) (h2 : n ≤ 1152921504606846976) (hj : j < (G (zig n)).length) : RS ((G (zig n)).take j) = (0, 0, 11) := by
  have hz := zig_lt h1 h2
  unfold RS
  rw [RL_cut (zig n) 0 0 j (by omega) (by omega) hj]
  rfl
theorem RD_cut (n j : Nat) (h2 : n ≤ 1152921504606846976) (hj : j < (G n).length) : RD ((G n).take j) = (0, 0, 11) := by
  unfold RD
  rw [RL_cut n 0 0 j (by omega) (by omega) hj]
  rfl
theorem RS_err {l : List Int} (h : (RS l).2.2 ≠ 0) : RS l = (0, 0, (RS l).2.2) := by
  obtain ⟨u, d, e, hr⟩ : ∃ u d e, RL 0 0 l = (u, d, e) := ⟨_, _, _, rfl⟩
  unfold RS at h ⊢
  rw [hr] at h ⊢
  dsimp only at h ⊢
  by_cases he : e = 0
  · subst he
    rw [if_pos rfl] at h ⊢
    split
    · rfl
    · rename_i hn; rw [if_neg hn] at h; exact absurd rfl h
  · obtain ⟨rfl, rfl⟩ := RL_err0 _ hr he
    rw [if_neg he]
theorem RD_err {l : List Int} (h : (RD l).2.2 ≠ 0) : RD l = (0, 0, (RD l).2.2) := by
  obtain ⟨u, d, e, hr⟩ : ∃ u d e, RL 0 0 l = (u, d, e) := ⟨_, _, _, rfl⟩
  unfold RD at h ⊢
  rw [hr] at h ⊢
  dsimp only at h ⊢
  split
  · rfl
  · rename_i hn
    rw [if_neg hn] at h
    obtain ⟨rfl, rfl⟩ := RL_err0 _ hr h
    rfl
end Go.Proofs.Ythfcllfbihkpfaa.VB
