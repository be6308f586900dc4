/- Plain facts on lists of numbers: what Merge of the postings chapter answers. No condition beyond those in the statements. -/
import Derived.Test.YtdmdhpnlalekfaaPx
import Derived.Test.YtdmdhpnlalekfaaWNEv
import Derived.Test.YtdmdhpnlalekfaaHMrg
namespace Go.Proofs.Ytdmdhpnlalekfaa.VB
open Go.RowKit Go.Proofs.Ytdmdhpnlalekfaa.P Go.Proofs.Ytdmdhpnlalekfaa.A Go.Proofs.Ytdmdhpnlalekfaa.Hand Go.Proofs.YtdmdhpnlalekfaaW.PrintWords Go.Proofs.YtdmdhpnlalekfaaW.PrintLast Go.Proofs.YtdmdhpnlalekfaaW.PrintMore
set_option linter.unusedVariables false
set_option linter.unusedVariables false
set_option linter.unusedVariables false

/-! ## The bytes of a number -/
/-- The groups of seven bits of a number, the least significant first. -/
def G (n : Nat) : List Int := if n < 128 then [(n : Int)] else ((n % 128 + 128 : Nat) : Int) :: G (n / 128)
termination_by n
decreasing_by omega
theorem G_small {n : Nat} (h : n < 128) : G n = [(n : Int)] := by rw [G, if_pos h]
theorem G_big {n : Nat} (h : 128 ≤ n) : G n = ((n % 128 + 128 : Nat) : Int) :: G (n / 128) := by rw [G, if_neg (by omega)]
theorem G_len : ∀ (k n : Nat), n < 128 ^ (k + 1) → (G n).length ≤ k + 1 := by
  intro k
  induction k with
  | zero => intro n h; rw [G_small (by omega)]; simp
  | succ k ih =>
    intro n h
    by_cases h1 : n < 128
    · rw [G_small h1]; simp
    · rw [G_big (by omega)]
      have := ih (n / 128) (by rw [Nat.pow_succ] at h; omega)
      simp; omega
theorem G_pos (n : Nat) : 1 ≤ (G n).length := by
  by_cases h : n < 128
  · rw [G_small h]; simp
  · rw [G_big (by omega)]; simp
theorem G_byte : ∀ (n : Nat), ∀ b ∈ G n, 0 ≤ b ∧ b ≤ 255 := by
  intro n
  induction n using Nat.strongRecOn with
  | _ n ih =>
    by_cases h : n < 128
    · rw [G_small h]; intro b hb; simp at hb; omega
    · rw [G_big (by omega)]
      intro b hb
      simp only [List.mem_cons] at hb
      rcases hb with rfl | hb
      · omega
      · exact ih (n / 128) (by omega) b hb

theorem and127 (n : Nat) (h : n < 18446744073709551616) : bits .and .u64 (n : Int) 127 = ((n % 128 : Nat) : Int) := by
  have := u64_and_nat n 127 h (by omega)
  rw [nat_mask7] at this
  exact this
theorem ag_l0 : ∀ (k : Nat) (l : List Int) (n : Nat), n < 128 ^ (k + 1) → n < 18446744073709551616 → l.length + k < 140737488355328 → varint_appendGroups.l0 (k + 1) l n = some (l ++ G n) := by
  intro k
  induction k with
  | zero =>
    intro l n h1 h2 h3
    simp only [varint_appendGroups.l0]
    rw [if_neg (by omega), if_pos (by omega), G_small (by omega), show (n : Int) % 256 = n by omega]
  | succ k ih =>
    intro l n h1 h2 h3
    rw [varint_appendGroups.l0]
    by_cases h : n < 128
    · rw [if_neg (by omega), if_pos (by omega), G_small h, show (n : Int) % 256 = n by omega]
    · rw [if_pos (by omega), if_pos (by omega), and127 n h2, show (((n % 128 : Nat) : Int) % 256) = ((n % 128 : Nat) : Int) by omega, u8_or128_right _ (by omega) (by omega),
        show (n : Int) / 128 = ((n / 128 : Nat) : Int) by omega]
      have := ih (l ++ [((n % 128 : Nat) : Int) + 128]) (n / 128) (by rw [Nat.pow_succ] at h1; omega) (by omega) (by simp; omega)
      rw [this, G_big (n := n) (by omega)]
      simp
theorem ag_ev (l : List Int) (n : Nat) (hn : n < 18446744073709551616) (hl : l.length ≤ 140737488350000) : Ev (fun k => varint_appendGroups.f k l n) (l ++ G n) :=
  Ev.of (k := 10) (fun k => varint_appendGroups.mono l n k) (ag_l0 9 l n (by omega) hn (by omega))
/-- The number that stands for a signed one. -/
def zig (n : Int) : Nat := if 0 ≤ n then (2 * n).toNat else (-2 * n - 1).toNat
theorem zig_lt {n : Int} (h1 : -1152921504606846976 ≤ n) (h2 : n ≤ 1152921504606846976) : zig n ≤ 2305843009213693952 := by unfold zig; split <;> omega
def AP (s : ByteArray) (n : Int) : ByteArray × Int := if n < 0 ∨ 1152921504606846976 < n then (⟨#[]⟩, 2) else (s ++ strOfNums (G n.toNat), 0)
def AS (s : ByteArray) (n : Int) : ByteArray × Int := if -1152921504606846976 ≤ n ∧ n ≤ 1152921504606846976 then (s ++ strOfNums (G (zig n)), 0) else (⟨#[]⟩, 2)
theorem G_len9 {n : Nat} (h : n < 9223372036854775808) : (G n).length ≤ 9 := G_len 8 n (by omega)
theorem append_ev (s : ByteArray) (n : Int) (hs : s.size ≤ 4611686018427387904) : Ev (fun k => varint_Append.f k s n) (AP s n) := by
  unfold AP
  by_cases h1 : n < 0
  · rw [if_pos (.inl h1)]
    simp only [varint_Append.f, if_pos h1]; exact Ev.now _
  · by_cases h2 : 1152921504606846976 < n
    · rw [if_pos (.inr h2)]
      simp only [varint_Append.f, if_neg h1, gt_iff_lt, if_pos h2]; exact Ev.now _
    · rw [if_neg (by omega)]
      have e : IntKind.u64.wrap n = ((n.toNat : Nat) : Int) := by rw [IntKind.wrap_u64]; omega
      simp only [varint_Append.f, if_neg h1, gt_iff_lt, if_neg h2, e]; refine Ev.bind (ag_ev [] n.toNat (by omega) (by simp)) ?_
      have := G_len9 (n := n.toNat) (by omega)
      rw [List.nil_append]; simp only [if_pos (show s.size + (strOfNums (G n.toNat)).size ≤ 9223372036854775807 from by rw [strOfNums_size]; omega)]; exact Ev.now _
theorem G_one (n : Nat) : (G n).length = 1 ↔ n < 128 := by
  by_cases h : n < 128
  · rw [G_small h]; simp [h]
  · rw [G_big (n := n) (by omega)]
    have := G_pos (n / 128)
    simp only [List.length_cons]
    omega
theorem G_mono' : ∀ (n m : Nat), m ≤ n → (G m).length ≤ (G n).length := by
  intro n
  induction n using Nat.strongRecOn with
  | _ n ih =>
    intro m h
    by_cases h1 : m < 128
    · rw [G_small h1]; have := G_pos n; simpa using this
    · rw [G_big (n := m) (by omega), G_big (n := n) (by omega)]
      have := ih (n / 128) (by omega) (m / 128) (by omega)
      simpa using this
theorem G_mono {m n : Nat} (h : m ≤ n) : (G m).length ≤ (G n).length := G_mono' n m h
def SZ (n : Int) : Int := if n < 0 ∨ 1152921504606846976 < n then 0 else ((G n.toNat).length : Int)
theorem p128_le {i j : Nat} (h : i ≤ j) : (128 : Int) ^ i ≤ 128 ^ j := by
  have := Nat.pow_le_pow_right (n := 128) (by omega) h
  exact_mod_cast this
/-- What is read at the head of a list of bytes, from place i on, with the number n so far. -/
def RL : Nat → Int → List Int → Int × Int × Int
  | _, _, [] => (0, 0, 11)
  | i, n, b :: t =>
    if 9 ≤ i then (0, 0, 11)
    else if (128 ≤ b ∧ i = 8) ∨ (b = 0 ∧ 0 < i) then (0, 0, 12)
    else if b < 128 then (n + b * 128 ^ i, (i : Int) + 1, 0)
    else RL (i + 1) (n + (b - 128) * 128 ^ i) t
theorem bytes_drop (s : ByteArray) {i : Nat} (h : i < s.size) : (bytesOf s).drop i = bt s i :: (bytesOf s).drop (i + 1) := by
  have hl : i < (bytesOf s).length := by rw [bytesOf_length]; exact h
  rw [List.drop_eq_getElem_cons hl]
  congr 1
  have := rd_bytesOf s i
  unfold rd at this
  rw [← this, Int.toNat_natCast, List.getD_eq_getElem?_getD, List.getElem?_eq_getElem hl]
  rfl
theorem bytes_end (s : ByteArray) {i : Nat} (h : s.size ≤ i) : (bytesOf s).drop i = [] := by
  apply List.drop_eq_nil_of_le; rw [bytesOf_length]; exact h
theorem bytes_in (s : ByteArray) : ∀ b ∈ bytesOf s, 0 ≤ b ∧ b ≤ 255 := by
  intro b hb
  simp only [bytesOf, List.mem_map] at hb
  obtain ⟨x, _, rfl⟩ := hb
  have := x.toNat_lt
  omega
theorem readFrom_is (s : ByteArray) : ∀ (d i : Nat) (n : Int), i + d = 9 → readFrom s d i n = RL i n ((bytesOf s).drop i) := by
  intro d
  induction d with
  | zero =>
    intro i n h
    obtain rfl : i = 9 := by omega
    cases hd : (bytesOf s).drop 9 with
    | nil => rfl
    | cons b t => simp [readFrom, RL]
  | succ d ih =>
    intro i n h
    simp only [readFrom]
    by_cases hs : i < s.size
    · rw [if_pos hs, bytes_drop s hs]
      simp only [RL]
      rw [if_neg (by omega : ¬ 9 ≤ i)]
      split
      · rfl
      · split
        · rfl
        · exact ih (i + 1) _ (by omega)
    · rw [if_neg hs, bytes_end s (by omega)]
      rfl
/-- What is known of a number that is read. -/
theorem RL_ok : ∀ (l : List Int) (i : Nat) (n : Int), (∀ b ∈ l, 0 ≤ b ∧ b ≤ 255) → 0 ≤ n → n < 128 ^ i → i ≤ 9 →
    (RL i n l).2.2 = 0 → 0 ≤ (RL i n l).1 ∧ (RL i n l).1 < 128 ^ 9 ∧ (i : Int) < (RL i n l).2.1 ∧ (RL i n l).2.1 ≤ i + l.length := by
  intro l
  induction l with
  | nil => intro i n _ _ _ _ h; simp [RL] at h
  | cons b t ih =>
    intro i n hb h0 h1 h9
    have hb0 := hb b (by simp)
    simp only [RL]
    split
    · intro h; simp at h
    · rename_i hi
      split
      · intro h; simp at h
      · rename_i hc
        have hp : (0 : Int) < 128 ^ i := Int.pow_pos (by omega)
        have e1 : (128 : Int) ^ (i + 1) = 128 ^ i + 127 * 128 ^ i := by rw [Int.pow_succ]; omega
        have hle : (128 : Int) ^ (i + 1) ≤ 128 ^ 9 := p128_le (by omega)
        split
        · rename_i hl
          intro _
          have h2 : 0 ≤ b * 128 ^ i := Int.mul_nonneg hb0.1 (by omega)
          have h3 : b * 128 ^ i ≤ 127 * 128 ^ i := Int.mul_le_mul_of_nonneg_right (by omega) (by omega)
          refine ⟨by simp only; omega, by simp only; omega, by simp only; omega, by simp only [List.length_cons]; omega⟩
        · rename_i hl
          intro h
          have h2 : 0 ≤ (b - 128) * 128 ^ i := Int.mul_nonneg (by omega) (by omega)
          have h3 : (b - 128) * 128 ^ i ≤ 127 * 128 ^ i := Int.mul_le_mul_of_nonneg_right (by omega) (by omega)
          have := ih (i + 1) (n + (b - 128) * 128 ^ i) (fun x hx => hb x (by simp [hx])) (by omega) (by omega) (by omega) h
          simp only [List.length_cons]
          omega
theorem RL_err : ∀ (l : List Int) (i : Nat) (n : Int), (RL i n l).2.2 ≠ 0 → RL i n l = (0, 0, (RL i n l).2.2) := by
  intro l
  induction l with
  | nil => intro i n _; rfl
  | cons b t ih =>
    intro i n
    simp only [RL]
    split
    · intro _; rfl
    · split
      · intro _; rfl
      · split
        · intro h; simp at h
        · exact ih _ _
theorem shl_is {c : Int} {i : Nat} (h0 : 0 ≤ c) (h1 : c < 128) (hi : i ≤ 8) : shl .i64 c (7 * (i : Int)) = c * 128 ^ i := by
  unfold shl
  have e : min (7 * (i : Int)).toNat IntKind.i64.bits = 7 * i := by simp [IntKind.bits]; omega
  rw [e, Int.pow_mul]
  have h8 : (128 : Int) ^ i ≤ 128 ^ 8 := p128_le (by omega)
  have hp : (0 : Int) < 128 ^ i := Int.pow_pos (by omega)
  have h2 : c * 128 ^ i ≤ 127 * 128 ^ i := Int.mul_le_mul_of_nonneg_right (by omega) (by omega)
  have h3 : 0 ≤ c * 128 ^ i := Int.mul_nonneg h0 (by omega)
  show IntKind.i64.wrap (c * 128 ^ i) = _
  exact IntWalk.i64_in _ (by omega)
def RD (l : List Int) : Int × Int × Int := if (RL 0 0 l).2.2 = 0 ∧ 1152921504606846976 < (RL 0 0 l).1 then (0, 0, 12) else RL 0 0 l
/-- The signed number for which a number stands. -/
def unzig (u : Int) : Int := if u % 2 = 0 then u / 2 else -(u / 2) - 1
def RS (l : List Int) : Int × Int × Int :=
  if (RL 0 0 l).2.2 = 0 then (if 2305843009213693952 < (RL 0 0 l).1 then (0, 0, 12) else (unzig (RL 0 0 l).1, (RL 0 0 l).2.1, 0)) else RL 0 0 l
theorem RL_ok0 (l : List Int) (hb : ∀ b ∈ l, 0 ≤ b ∧ b ≤ 255) (h : (RL 0 0 l).2.2 = 0) : 0 ≤ (RL 0 0 l).1 ∧ (RL 0 0 l).1 < 9223372036854775808 ∧ 0 < (RL 0 0 l).2.1 ∧ (RL 0 0 l).2.1 ≤ l.length := by
  have := RL_ok l 0 0 hb (by omega) (by omega) (by omega) h
  simpa using this
theorem RL_err0 (l : List Int) {v c e : Int} (h : RL 0 0 l = (v, c, e)) (he : e ≠ 0) : v = 0 ∧ c = 0 := by
  have := RL_err l 0 0 (by rw [h]; exact he)
  rw [h] at this
  simp only [Prod.mk.injEq] at this
  omega
theorem RL_ok1 (l : List Int) (hb : ∀ b ∈ l, 0 ≤ b ∧ b ≤ 255) {v c : Int} (h : RL 0 0 l = (v, c, 0)) : 0 ≤ v ∧ v < 9223372036854775808 ∧ 0 < c ∧ c ≤ l.length := by
  have := RL_ok0 l hb (by rw [h])
  rw [h] at this
  exact this
theorem read_is (s : ByteArray) : varint_Read.f s = some (RD (bytesOf s)) := by
  unfold varint_Read.f varint_read.f RD
  rw [readFrom_is s 9 0 0 rfl, List.drop_zero, Option.bind_some]
  obtain ⟨v, c, e, hr⟩ : ∃ v c e, RL 0 0 (bytesOf s) = (v, c, e) := ⟨_, _, _, rfl⟩
  rw [hr]
  dsimp only
  by_cases h : e = 0
  · subst h
    have := RL_ok1 _ (bytes_in s) hr
    rw [if_pos rfl]
    by_cases hg : 1152921504606846976 < v
    · rw [if_pos hg, if_pos ⟨rfl, hg⟩]
    · rw [if_neg hg, if_neg (fun h => hg h.2), show wrap64 v = v by unfold wrap64; omega]
  · obtain ⟨rfl, rfl⟩ := RL_err0 _ hr h
    rw [if_neg h, if_neg (fun h' => h h'.1)]
theorem unzig_in {u : Int} (h0 : 0 ≤ u) : (-1152921504606846976 ≤ unzig u ∧ unzig u ≤ 1152921504606846976) ↔ u ≤ 2305843009213693952 := by
  unfold unzig; split <;> omega

/-! ## Strings as lists of bytes -/
theorem bytesOf_inj {a b : ByteArray} (h : bytesOf a = bytesOf b) : a = b := by
  unfold bytesOf at h
  have h2 : a.data.toList = b.data.toList := by
    apply List.map_inj_right (f := fun x : UInt8 => (x.toNat : Int)) (fun x y hxy => by
      have : x.toNat = y.toNat := by exact_mod_cast hxy
      exact UInt8.toNat_inj.1 this) |>.1 h
  exact ByteArray.ext (Array.toList_inj.1 h2)
theorem bytesOf_append (a b : ByteArray) : bytesOf (a ++ b) = bytesOf a ++ bytesOf b := by simp [bytesOf, ByteArray.data_append]
theorem bytesOf_extract (s : ByteArray) (a b : Nat) : bytesOf (s.extract a b) = ((bytesOf s).drop a).take (b - a) := by
  simp [bytesOf, ByteArray.data_extract, List.map_drop, List.map_take]
theorem bytesOf_from (s : ByteArray) (a : Nat) : bytesOf (s.extract a s.size) = (bytesOf s).drop a := by
  rw [bytesOf_extract, List.take_of_length_le (by rw [List.length_drop, bytesOf_length]; omega)]
theorem bytesOf_nums {l : List Int} (h : ∀ b ∈ l, 0 ≤ b ∧ b ≤ 255) : bytesOf (strOfNums l) = l := by
  unfold bytesOf
  rw [strOfNums_data, List.map_map]
  conv => rhs; rw [← List.map_id l]
  apply List.map_congr_left
  intro b hb
  have := h b hb
  simp only [Function.comp_apply, id_eq]
  rw [UInt8.toNat_ofNat']
  omega
theorem bytesOf_empty : bytesOf (⟨#[]⟩ : ByteArray) = [] := rfl
theorem strOfNums_append (a b : List Int) : strOfNums (a ++ b) = strOfNums a ++ strOfNums b := by
  apply ByteArray.ext
  simp [strOfNums, ByteArray.data_append]
theorem empty_append (s : ByteArray) : (⟨#[]⟩ : ByteArray) ++ s = s := by apply bytesOf_inj; rw [bytesOf_append, bytesOf_empty, List.nil_append]

/-! ## One number -/
theorem RL_round : ∀ (m i : Nat) (n : Int) (rest : List Int), i ≤ 8 → m < 128 ^ (9 - i) → (0 < i → 0 < m) → RL i n (G m ++ rest) = (n + m * 128 ^ i, (i : Int) + (G m).length, 0) := by
  intro m
  induction m using Nat.strongRecOn with
  | _ m ih =>
    intro i n rest hi hm hp
    by_cases h : m < 128
    · rw [G_small h]
      simp only [List.cons_append, List.nil_append, RL, if_neg (show ¬ 9 ≤ i by omega), if_neg (show ¬ ((128 ≤ (m : Int) ∧ i = 8) ∨ ((m : Int) = 0 ∧ 0 < i)) by omega), if_pos (show (m : Int) < 128 by omega)]
      rfl
    · rw [G_big (n := m) (by omega)]
      have h8 : i ≠ 8 := by intro e; subst e; simp at hm; omega
      have e1 : (((m % 128 + 128 : Nat) : Int) - 128) = ((m % 128 : Nat) : Int) := by omega
      simp only [List.cons_append, RL, if_neg (show ¬ 9 ≤ i by omega), if_neg (show ¬ ((128 ≤ ((m % 128 + 128 : Nat) : Int) ∧ i = 8) ∨ (((m % 128 + 128 : Nat) : Int) = 0 ∧ 0 < i)) by omega), if_neg (show ¬ ((m % 128 + 128 : Nat) : Int) < 128 by omega), e1]
      have e2 : 9 - i = (9 - (i + 1)) + 1 := by omega
      rw [e2, Nat.pow_succ] at hm
      rw [ih (m / 128) (by omega) (i + 1) _ rest (by omega) (by omega) (by omega)]
      have e3 : (m : Int) = ((m % 128 : Nat) : Int) + 128 * ((m / 128 : Nat) : Int) := by omega
      have e4 : n + ((m % 128 : Nat) : Int) * 128 ^ i + ((m / 128 : Nat) : Int) * 128 ^ (i + 1) = n + (m : Int) * 128 ^ i := by
        conv => rhs; rw [e3]
        rw [Int.pow_succ, Int.add_mul, Int.mul_comm (128 ^ i) 128, ← Int.mul_assoc, Int.mul_comm ((m / 128 : Nat) : Int) 128, Int.add_assoc]
      rw [e4]
      simp only [List.length_cons, Prod.mk.injEq, true_and, and_true]
      omega
theorem RL_cut : ∀ (m i : Nat) (n : Int) (j : Nat), i ≤ 8 → m < 128 ^ (9 - i) → j < (G m).length → RL i n ((G m).take j) = (0, 0, 11) := by
  intro m
  induction m using Nat.strongRecOn with
  | _ m ih =>
    intro i n j hi hm hj
    cases j with
    | zero => rw [List.take_zero]; cases i <;> rfl
    | succ j =>
      by_cases h : m < 128
      · rw [G_small h] at hj; simp at hj
      · rw [G_big (n := m) (by omega)] at hj ⊢
        have h8 : i ≠ 8 := by intro e; subst e; simp at hm; omega
        simp only [List.take_succ_cons, RL, if_neg (show ¬ 9 ≤ i by omega), if_neg (show ¬ ((128 ≤ ((m % 128 + 128 : Nat) : Int) ∧ i = 8) ∨ (((m % 128 + 128 : Nat) : Int) = 0 ∧ 0 < i)) by omega), if_neg (show ¬ ((m % 128 + 128 : Nat) : Int) < 128 by omega)]
        have e2 : 9 - i = (9 - (i + 1)) + 1 := by omega
        rw [e2, Nat.pow_succ] at hm
        simp only [List.length_cons] at hj
        exact ih (m / 128) (by omega) (i + 1) _ j (by omega) (by omega) (by omega)
theorem mulfact (p n b m : Int) : n + (b - 128) * p + m * (p * 128) = n + (128 * m + (b - 128)) * p := by
  rw [Int.add_mul, Int.mul_comm p 128, ← Int.mul_assoc m, Int.mul_comm m 128]
  omega
theorem RL_canon : ∀ (l : List Int) (i : Nat) (n v c : Int), (∀ b ∈ l, 0 ≤ b ∧ b ≤ 255) → RL i n l = (v, c, 0) →
    ∃ (m : Nat) (rest : List Int), l = G m ++ rest ∧ v = n + m * 128 ^ i ∧ c = (i : Int) + (G m).length ∧ (0 < i → 0 < m) := by
  intro l
  induction l with
  | nil => intro i n v c _ h; simp [RL] at h
  | cons b t ih =>
    intro i n v c hb h
    have hb0 := hb b (by simp)
    simp only [RL] at h
    split at h
    · simp at h
    · split at h
      · simp at h
      · rename_i hc
        split at h
        · rename_i hl
          simp only [Prod.mk.injEq, and_true] at h
          refine ⟨b.toNat, t, ?_, ?_, ?_, by omega⟩
          · rw [G_small (by omega), show ((b.toNat : Nat) : Int) = b by omega]; rfl
          · rw [show ((b.toNat : Nat) : Int) = b by omega]; exact h.1.symm
          · rw [G_small (by omega), ← h.2]; rfl
        · rename_i hl
          obtain ⟨m, rest, rfl, hv, hk, hm⟩ := ih (i + 1) _ v c (fun x hx => hb x (by simp [hx])) h
          have hm0 := hm (by omega)
          obtain ⟨q, hq⟩ : ∃ q, q = 128 * m + (b.toNat - 128) := ⟨_, rfl⟩
          have e1 : q % 128 = b.toNat - 128 := by omega
          have e2 : q / 128 = m := by omega
          have e3 : (q : Int) = 128 * (m : Int) + (b - 128) := by omega
          have e4 : G q = b :: G m := by
            rw [G_big (n := q) (by omega), e1, e2]
            congr 1
            omega
          refine ⟨q, rest, by rw [e4]; rfl, ?_, ?_, by omega⟩
          · rw [hv, Int.pow_succ, e3]
            exact mulfact _ _ _ _
          · rw [hk, e4]
            simp only [List.length_cons]
            omega
theorem zig_unzig {u : Int} (h : 0 ≤ u) : (zig (unzig u) : Int) = u := by unfold zig unzig; split <;> split <;> omega
theorem unzig_zig {n : Int} : unzig (zig n) = n := by unfold zig unzig; split <;> split <;> omega
theorem RS_round (n : Int) (rest : List Int) (h1 : -1152921504606846976 ≤ n) (h2 : n ≤ 1152921504606846976) : RS (G (zig n) ++ rest) = (n, ((G (zig n)).length : Int), 0) := by
  have hz := zig_lt h1 h2
  have := RL_round (zig n) 0 0 rest (by omega) (by omega) (by omega)
  unfold RS
  rw [this]
  simp only [Int.pow_zero, Int.mul_one, Int.zero_add, if_true]
  rw [if_neg (by omega), unzig_zig]
  simp
theorem RD_round (n : Nat) (rest : List Int) (h2 : n ≤ 1152921504606846976) : RD (G n ++ rest) = ((n : Int), ((G n).length : Int), 0) := by
  have := RL_round n 0 0 rest (by omega) (by omega) (by omega)
  unfold RD
  rw [this]
  simp only [Int.pow_zero, Int.mul_one, Int.zero_add, true_and]
  rw [if_neg (by omega)]
  simp
theorem RS_canon {l : List Int} {v c : Int} (hb : ∀ b ∈ l, 0 ≤ b ∧ b ≤ 255) (h : RS l = (v, c, 0)) : ∃ rest, l = G (zig v) ++ rest ∧ c = (G (zig v)).length ∧ -1152921504606846976 ≤ v ∧ v ≤ 1152921504606846976 := by
  obtain ⟨u, d, e, hr⟩ : ∃ u d e, RL 0 0 l = (u, d, e) := ⟨_, _, _, rfl⟩
  unfold RS at h
  rw [hr] at h
  dsimp only at h
  by_cases he : e = 0
  · subst he
    rw [if_pos rfl] at h
    split at h
    · simp at h
    · simp only [Prod.mk.injEq, and_true] at h
      obtain ⟨rfl, rfl⟩ := h
      obtain ⟨m, rest, rfl, hv, hk, _⟩ := RL_canon l 0 0 u d hb hr
      simp only [Int.pow_zero, Int.mul_one, Int.zero_add] at hv
      have hz : zig (unzig u) = m := by have := zig_unzig (u := u) (by omega); omega
      have hin := (unzig_in (u := u) (by omega)).2 (by omega)
      exact ⟨rest, by rw [hz], by rw [hz]; omega, hin.1, hin.2⟩
  · rw [if_neg he] at h
    simp only [Prod.mk.injEq] at h
    exact absurd h.2.2 he
theorem RD_canon {l : List Int} {v c : Int} (hb : ∀ b ∈ l, 0 ≤ b ∧ b ≤ 255) (h : RD l = (v, c, 0)) : ∃ rest, l = G v.toNat ++ rest ∧ c = (G v.toNat).length ∧ 0 ≤ v ∧ v ≤ 1152921504606846976 := by
  obtain ⟨u, d, e, hr⟩ : ∃ u d e, RL 0 0 l = (u, d, e) := ⟨_, _, _, rfl⟩
  unfold RD at h
  rw [hr] at h
  dsimp only at h
  split at h
  · simp at h
  · rename_i hn
    simp only [Prod.mk.injEq] at h
    obtain ⟨rfl, rfl, rfl⟩ := h
    obtain ⟨m, rest, rfl, hv, hk, _⟩ := RL_canon l 0 0 u d hb hr
    simp only [Int.pow_zero, Int.mul_one, Int.zero_add] at hv
    have hm : u.toNat = m := by omega
    exact ⟨rest, by rw [hm], by rw [hm]; omega, by omega, by omega⟩
theorem RS_cut (n : Int) (j : Nat) (h1 : -1152921504606846976 ≤ n) (h2 : n ≤ 1152921504606846976) (hj : j < (G (zig n)).length) : RS ((G (zig n)).take j) = (0, 0, 11) := by
  have hz := zig_lt h1 h2
  unfold RS
  rw [RL_cut (zig n) 0 0 j (by omega) (by omega) hj]
  rfl
theorem RD_cut (n j : Nat) (h2 : n ≤ 1152921504606846976) (hj : j < (G n).length) : RD ((G n).take j) = (0, 0, 11) := by
  unfold RD
  rw [RL_cut n 0 0 j (by omega) (by omega) hj]
  rfl
theorem RS_err {l : List Int} (h : (RS l).2.2 ≠ 0) : RS l = (0, 0, (RS l).2.2) := by
  obtain ⟨u, d, e, hr⟩ : ∃ u d e, RL 0 0 l = (u, d, e) := ⟨_, _, _, rfl⟩
  unfold RS at h ⊢
  rw [hr] at h ⊢
  dsimp only at h ⊢
  by_cases he : e = 0
  · subst he
    rw [if_pos rfl] at h ⊢
    split
    · rfl
    · rename_i hn; rw [if_neg hn] at h; exact absurd rfl h
  · obtain ⟨rfl, rfl⟩ := RL_err0 _ hr he
    rw [if_neg he]
theorem RD_err {l : List Int} (h : (RD l).2.2 ≠ 0) : RD l = (0, 0, (RD l).2.2) := by
  obtain ⟨u, d, e, hr⟩ : ∃ u d e, RL 0 0 l = (u, d, e) := ⟨_, _, _, rfl⟩
  unfold RD at h ⊢
  rw [hr] at h ⊢
  dsimp only at h ⊢
  split
  · rfl
  · rename_i hn
    rw [if_neg hn] at h
    obtain ⟨rfl, rfl⟩ := RL_err0 _ hr h
    rfl
def inR (n : Int) : Prop := -1152921504606846976 ≤ n ∧ n ≤ 1152921504606846976
instance (n : Int) : Decidable (inR n) := inferInstanceAs (Decidable (_ ∧ _))
/-- The bytes of the numbers of a list. -/
def ZL (l : List Int) : List Int := l.flatMap fun n => G (zig n)
theorem ZL_cons (n : Int) (l : List Int) : ZL (n :: l) = G (zig n) ++ ZL l := rfl
theorem ZL_nil : ZL [] = [] := rfl
theorem ZL_append (a b : List Int) : ZL (a ++ b) = ZL a ++ ZL b := by simp [ZL]
theorem ZL_byte (l : List Int) : ∀ b ∈ ZL l, 0 ≤ b ∧ b ≤ 255 := by
  intro b hb
  simp only [ZL, List.mem_flatMap] at hb
  obtain ⟨n, _, hb⟩ := hb
  exact G_byte _ b hb
def EN (l : List Int) : ByteArray × Int :=
  if 20000 < l.length then (⟨#[]⟩, 4) else if ∀ n ∈ l, inR n then (strOfNums (G l.length ++ ZL l), 0) else (⟨#[]⟩, 2)
theorem drop_cons {l : List Int} {i : Nat} (h : i < l.length) : l.drop i = rd l i :: l.drop (i + 1) := by
  rw [List.drop_eq_getElem_cons h]
  congr 1
  unfold rd
  rw [Int.toNat_natCast, List.getD_eq_getElem?_getD, List.getElem?_eq_getElem h]
  rfl
def DL : Nat → List Int → List Int → List Int × Int
  | 0, l, acc => if l = [] then (acc, 0) else ([], 12)
  | c + 1, l, acc => if (RS l).2.2 = 0 then DL c (l.drop (RS l).2.1.toNat) (acc ++ [(RS l).1]) else ([], (RS l).2.2)
def DE (l : List Int) : List Int × Int :=
  if (RD l).2.2 = 0 then (if 20000 < (RD l).1 then ([], 4) else DL (RD l).1.toNat (l.drop (RD l).2.1.toNat) []) else ([], (RD l).2.2)
theorem RS_size {l : List Int} (hb : ∀ b ∈ l, 0 ≤ b ∧ b ≤ 255) (h : (RS l).2.2 = 0) : 0 < (RS l).2.1 ∧ (RS l).2.1 ≤ l.length := by
  obtain ⟨rest, hl, hc, _⟩ := RS_canon (v := (RS l).1) (c := (RS l).2.1) hb (by rw [← h])
  have := G_pos (zig (RS l).1)
  have h2 := congrArg List.length hl
  rw [List.length_append] at h2
  omega
theorem RD_size {l : List Int} (hb : ∀ b ∈ l, 0 ≤ b ∧ b ≤ 255) (h : (RD l).2.2 = 0) : 0 < (RD l).2.1 ∧ (RD l).2.1 ≤ l.length ∧ 0 ≤ (RD l).1 ∧ (RD l).1 ≤ 1152921504606846976 := by
  obtain ⟨rest, hl, hc, h0, h1⟩ := RD_canon (v := (RD l).1) (c := (RD l).2.1) hb (by rw [← h])
  have := G_pos (RD l).1.toNat
  have h2 := congrArg List.length hl
  rw [List.length_append] at h2
  omega
theorem drop_byte {l : List Int} (hb : ∀ b ∈ l, 0 ≤ b ∧ b ≤ 255) (n : Nat) : ∀ b ∈ l.drop n, 0 ≤ b ∧ b ≤ 255 := fun b h => hb b (List.mem_of_mem_drop h)
theorem DL_len : ∀ (c : Nat) (l acc : List Int), (DL c l acc).1.length ≤ c + acc.length := by
  intro c
  induction c with
  | zero => intro l acc; unfold DL; split <;> simp
  | succ c ih =>
    intro l acc
    unfold DL
    split
    · have := ih (l.drop (RS l).2.1.toNat) (acc ++ [(RS l).1])
      simp at this
      omega
    · simp
theorem DE_len (l : List Int) : (DE l).1.length ≤ 20000 := by
  unfold DE
  split
  · split
    · simp
    · have := DL_len (RD l).1.toNat (l.drop (RD l).2.1.toNat) []
      simp at this
      omega
  · simp
/-- What can be decoded is an encoding. -/
theorem DL_canon : ∀ (c : Nat) (l acc L : List Int), (∀ b ∈ l, 0 ≤ b ∧ b ≤ 255) → DL c l acc = (L, 0) → ∃ xs, L = acc ++ xs ∧ xs.length = c ∧ l = ZL xs ∧ ∀ n ∈ xs, inR n := by
  intro c
  induction c with
  | zero =>
    intro l acc L hb h
    unfold DL at h
    split at h
    · rename_i hl
      simp only [Prod.mk.injEq, and_true] at h
      exact ⟨[], by simp [h], rfl, hl, by simp⟩
    · simp at h
  | succ c ih =>
    intro l acc L hb h
    unfold DL at h
    split at h
    · rename_i he
      obtain ⟨rest, hl, hc, h1, h2⟩ := RS_canon (v := (RS l).1) (c := (RS l).2.1) hb (by rw [← he])
      have hd : l.drop (RS l).2.1.toNat = rest := by
        rw [hc, Int.toNat_natCast]
        exact (congrArg (List.drop _) hl).trans (List.drop_left' rfl)
      obtain ⟨xs, hL, hx, hr, hin⟩ := ih _ _ _ (drop_byte hb _) h
      rw [hd] at hr
      exact ⟨(RS l).1 :: xs, by rw [hL, List.append_assoc]; rfl, by simp [hx], by rw [ZL_cons, ← hr]; exact hl, fun n hn => by
        rcases List.mem_cons.1 hn with rfl | hn
        · exact ⟨h1, h2⟩
        · exact hin n hn⟩
    · rename_i he
      simp only [Prod.mk.injEq] at h
      exact absurd h.2 he
theorem DE_canon {s : ByteArray} {L : List Int} (h : DE (bytesOf s) = (L, 0)) : EN L = (s, 0) ∧ L.length ≤ 20000 := by
  have hlen := DE_len (bytesOf s)
  rw [h] at hlen
  refine ⟨?_, hlen⟩
  unfold DE at h
  split at h
  · rename_i he
    split at h
    · simp at h
    · rename_i hg
      obtain ⟨rest, hl, hc, h0, h1⟩ := RD_canon (v := (RD (bytesOf s)).1) (c := (RD (bytesOf s)).2.1) (bytes_in s) (by rw [← he])
      have hd : (bytesOf s).drop (RD (bytesOf s)).2.1.toNat = rest := by
        rw [hc, Int.toNat_natCast]
        exact (congrArg (List.drop _) hl).trans (List.drop_left' rfl)
      obtain ⟨xs, hL, hx, hr, hin⟩ := DL_canon _ _ _ _ (drop_byte (bytes_in s) _) h
      rw [List.nil_append] at hL
      subst hL
      unfold EN
      rw [if_neg (by simp only at hlen; omega), if_pos hin, hx]
      rw [hd] at hr
      rw [← hr, ← hl]
      congr 1
      apply bytesOf_inj
      rw [bytesOf_nums (bytes_in s)]
  · rename_i he
    simp only [Prod.mk.injEq] at h
    exact absurd h.2 he
/-- Decoding an encoding. -/
theorem DL_round : ∀ (xs acc : List Int), (∀ n ∈ xs, inR n) → DL xs.length (ZL xs) acc = (acc ++ xs, 0) := by
  intro xs
  induction xs with
  | nil => intro acc _; simp [DL, ZL_nil]
  | cons x t ih =>
    intro acc h
    have hx := h x (by simp)
    have hr := RS_round x (ZL t) hx.1 hx.2
    rw [List.length_cons, ZL_cons]
    unfold DL
    rw [hr]
    simp only [if_true, Int.toNat_natCast]
    rw [List.drop_left' rfl, ih _ (fun n hn => h n (by simp [hn])), List.append_assoc]
    rfl
theorem DE_round {xs : List Int} (hl : xs.length ≤ 20000) (h : ∀ n ∈ xs, inR n) : DE (G xs.length ++ ZL xs) = (xs, 0) := by
  have hr := RD_round xs.length (ZL xs) (by omega)
  unfold DE
  rw [hr]
  simp only [if_true, Int.toNat_natCast]
  rw [if_neg (by omega), List.drop_left' rfl, DL_round xs [] h, List.nil_append]
/-- Why a list is not valid, from a number before it on. -/
def ckFrom : Int → List Int → Int
  | _, [] => 0
  | q, x :: r => if x < 0 ∨ 1152921504606846976 < x then 2 else if x ≤ q then 9 else ckFrom x r
def CK (l : List Int) : Int := ckFrom (-1) l
def prevOf (l : List Int) (i : Nat) : Int := if i = 0 then -1 else rd l ((i : Int) - 1)
theorem prevOf_succ (l : List Int) (i : Nat) : prevOf l (i + 1) = rd l i := by unfold prevOf; rw [if_neg (by omega)]; congr 1; omega
theorem ck_l0 (l : List Int) (hl : l.length ≤ 17592186043904) : ∀ (d i : Nat), i + d = l.length → Ev (fun k => postings_Check.l0 k l l (l.length : Int) (i : Int)) (ckFrom (prevOf l i) (l.drop i)) := by
  intro d
  induction d with
  | zero => intro i h; rw [List.drop_eq_nil_of_le (by omega), ckFrom]; exact Ev.step (fun k => by rw [postings_Check.l0, if_neg (by omega)]) (Ev.now _)
  | succ d ih =>
    intro i h
    have hi : i < l.length := by omega
    have hw : wrap64 ((i : Int) + 1) = ((i + 1 : Nat) : Int) := by unfold wrap64; omega
    rw [drop_rd' hi, ckFrom]
    have hj : ∀ c, c = decide (rd l i < 0 ∨ 1152921504606846976 < rd l i) → Ev (fun k => postings_Check.j1 k l i (rd l i) l l.length i c) (if rd l i < 0 ∨ 1152921504606846976 < rd l i then 2 else if rd l i ≤ prevOf l i then 9 else ckFrom (rd l i) (l.drop (i + 1))) := by
      rintro c rfl
      by_cases hc : rd l i < 0 ∨ 1152921504606846976 < rd l i
      · rw [if_pos hc]
        exact Ev.step (fun k => by rw [postings_Check.j1, if_pos (decide_eq_true hc)]) (Ev.now _)
      · rw [if_neg hc]
        by_cases h0 : i = 0
        · subst h0
          have hp : prevOf l 0 = -1 := rfl
          rw [if_neg (by rw [hp]; omega)]
          have hs := ih (0 + 1) (by omega)
          rw [prevOf_succ] at hs
          exact Ev.step (fun k => by rw [postings_Check.j1, if_neg (by simpa using hc), if_neg (by omega), hw]) hs
        · have hv : wrap64 ((i : Int) - 1) = (i : Int) - 1 := by unfold wrap64; omega
          have hp : prevOf l i = rd l ((i : Int) - 1) := if_neg h0
          by_cases hle : rd l i ≤ rd l ((i : Int) - 1)
          · rw [hp, if_pos hle]
            exact Ev.step (fun k => by rw [postings_Check.j1, if_neg (by simpa using hc), if_pos (by omega), hv, if_pos (by omega), if_pos (by omega), if_pos hle]) (Ev.now _)
          · rw [hp, if_neg hle]
            have hs := ih (i + 1) (by omega)
            rw [prevOf_succ] at hs
            exact Ev.step (fun k => by rw [postings_Check.j1, if_neg (by simpa using hc), if_pos (by omega), hv, if_pos (by omega), if_pos (by omega), if_neg hle, hw]) hs
    by_cases h1 : rd l i < 0
    · exact Ev.step (fun k => by rw [postings_Check.l0, if_pos (by omega), if_pos (by omega), if_pos (by omega), if_pos h1]) (hj true (by simp [h1]))
    · exact Ev.step (fun k => by rw [postings_Check.l0, if_pos (by omega), if_pos (by omega), if_pos (by omega), if_neg h1]) (hj _ (by simp [h1]))
theorem check_ev (l : List Int) (hl : l.length ≤ 17592186043904) : Ev (fun k => postings_Check.f k l) (CK l) := ck_l0 l hl l.length 0 (by omega)
/-- Valid lists. -/
def VL (l : List Int) : Prop := (∀ x ∈ l, 0 ≤ x ∧ x ≤ 1152921504606846976) ∧ l.Pairwise (· < ·)
theorem ckFrom_zero : ∀ (l : List Int) (q : Int), ckFrom q l = 0 ↔ (∀ x ∈ l, 0 ≤ x ∧ x ≤ 1152921504606846976) ∧ (∀ x ∈ l, q < x) ∧ l.Pairwise (· < ·)
  | [], q => by simp [ckFrom]
  | x :: r, q => by
    rw [ckFrom, List.pairwise_cons]
    by_cases h1 : x < 0 ∨ 1152921504606846976 < x
    · rw [if_pos h1]
      constructor
      · intro h; omega
      · rintro ⟨h, _⟩; have := h x (by simp); omega
    · rw [if_neg h1]
      by_cases h2 : x ≤ q
      · rw [if_pos h2]
        constructor
        · intro h; omega
        · rintro ⟨_, h, _⟩; have := h x (by simp); omega
      · rw [if_neg h2, ckFrom_zero r x]
        constructor
        · rintro ⟨a, b, c⟩
          refine ⟨fun y hy => ?_, fun y hy => ?_, b, c⟩
          · rcases List.mem_cons.1 hy with rfl | hy
            · omega
            · exact a y hy
          · rcases List.mem_cons.1 hy with rfl | hy
            · omega
            · have := b y hy; omega
        · rintro ⟨a, b, c, d⟩
          exact ⟨fun y hy => a y (by simp [hy]), c, d⟩
theorem CK_zero (l : List Int) : CK l = 0 ↔ VL l := by
  unfold CK VL
  rw [ckFrom_zero]
  constructor
  · rintro ⟨a, _, c⟩; exact ⟨a, c⟩
  · rintro ⟨a, c⟩; exact ⟨a, fun x hx => by have := a x hx; omega, c⟩
theorem ckFrom_in : ∀ (l : List Int) (q : Int), ckFrom q l = 0 ∨ ckFrom q l = 2 ∨ ckFrom q l = 9
  | [], _ => .inl rfl
  | x :: r, q => by
    rw [ckFrom]
    split
    · exact .inr (.inl rfl)
    · split
      · exact .inr (.inr rfl)
      · exact ckFrom_in r x
instance (l : List Int) : Decidable (VL l) := decidable_of_iff _ (CK_zero l)
theorem rdL_one (l : List Int) : rd_L2 [l] 0 = l := rfl
theorem valid1_ev (l : List Int) (hl : l.length ≤ 17592186043904) : Ev (fun k => postings_valid.f k [l]) (decide (CK l = 0)) := by
  simp only [postings_valid.f]
  refine Ev.step (f := fun k => (postings_Check.f k l).bind fun t => if t = 0 then postings_valid.l0 k [l] 1 1 else some false) (fun k => by
    rw [postings_valid.l0, if_pos (by simp), if_pos (by decide), if_pos (by simp), show wrap64 (0 + 1) = 1 from by unfold wrap64; omega, show rd_L2 [l] 0 = l from rfl]
    rfl) (Ev.bind (check_ev l hl) ?_)
  by_cases h : CK l = 0
  · simp only [if_pos h]
    rw [decide_eq_true h]
    exact Ev.step (fun k => by rw [postings_valid.l0, if_neg (by decide)]) (Ev.now _)
  · simp only [if_neg h]
    rw [decide_eq_false h]
    exact Ev.now _
theorem valid2_ev (l m : List Int) (hl : l.length ≤ 17592186043904) (hm : m.length ≤ 17592186043904) : Ev (fun k => postings_valid.f k [l, m]) (decide (CK l = 0 ∧ CK m = 0)) := by
  simp only [postings_valid.f]
  refine Ev.step (f := fun k => (postings_Check.f k l).bind fun t => if t = 0 then postings_valid.l0 k [l, m] 2 1 else some false) (fun k => by
    rw [postings_valid.l0, if_pos (by simp), if_pos (by decide), if_pos (by simp), show wrap64 (0 + 1) = 1 from by unfold wrap64; omega, show rd_L2 [l, m] 0 = l from rfl]
    rfl) (Ev.bind (check_ev l hl) ?_)
  by_cases h : CK l = 0
  · simp only [if_pos h]
    refine Ev.step (f := fun k => (postings_Check.f k m).bind fun t => if t = 0 then postings_valid.l0 k [l, m] 2 2 else some false) (fun k => by
      rw [postings_valid.l0, if_pos (by decide), if_pos (by decide), if_pos (by simp), show wrap64 (1 + 1) = 2 from by unfold wrap64; omega, show rd_L2 [l, m] 1 = m from rfl]) (Ev.bind (check_ev m hm) ?_)
    by_cases h2 : CK m = 0
    · simp only [if_pos h2]
      rw [decide_eq_true ⟨h, h2⟩]
      exact Ev.step (fun k => by rw [postings_valid.l0, if_neg (by decide)]) (Ev.now _)
    · simp only [if_neg h2]
      rw [decide_eq_false (fun h' => h2 h'.2)]
      exact Ev.now _
  · simp only [if_neg h]
    rw [decide_eq_false (fun h' => h h'.1)]
    exact Ev.now _
theorem same8_l0 (l : List Int) (hl : l.length ≤ 17592186043904) : ∀ (d i : Nat), i + d = l.length → Ev (fun k => lookoutref08_Same.l0 k l l i) true := by
  intro d
  induction d with
  | zero => intro i h; exact Ev.step (fun k => by rw [lookoutref08_Same.l0, if_neg (by omega)]) (Ev.now _)
  | succ d ih =>
    intro i h
    have hw : wrap64 ((i : Int) + 1) = ((i + 1 : Nat) : Int) := by unfold wrap64; omega
    exact Ev.step (fun k => by rw [lookoutref08_Same.l0, if_pos (by omega), if_pos (by omega), if_pos (by omega), if_pos rfl, hw]) (ih (i + 1) (by omega))
theorem same8_ev (l : List Int) (hl : l.length ≤ 17592186043904) : Ev (fun k => lookoutref08_Same.f k l l) true := by
  simp only [lookoutref08_Same.f, if_true]
  exact same8_l0 l hl l.length 0 (by omega)
theorem awake8_ev : Ev (fun k => lookoutlaw08_awake.f k) true := Ev.of (fun k => lookoutlaw08_awake.mono k) (k := 40) (by decide +kernel)
theorem awake8b_ev : Ev (fun k => (lookoutlaw08_awake.f k).bind fun t => some t) true := Ev.bind awake8_ev (Ev.now true)
theorem great1 (l : List Int) : lookoutlaw08_great.f [l] = some (decide (40 < l.length)) := by
  simp only [lookoutlaw08_great.f, contains_great.f]
  rw [if_neg (by simp)]
  simp [contains_great.pred]
theorem great2 (l m : List Int) : lookoutlaw08_great.f [l, m] = some (decide (40 < l.length) || decide (40 < m.length)) := by
  simp only [lookoutlaw08_great.f, contains_great.f]
  rw [if_neg (by simp)]
  simp [contains_great.pred]
theorem great3 (l m n : List Int) : lookoutlaw08_great.f [l, m, n] = some (decide (40 < l.length) || (decide (40 < m.length) || decide (40 < n.length))) := by
  simp only [lookoutlaw08_great.f, contains_great.f]
  rw [if_neg (by simp)]
  simp [contains_great.pred]
/-! ## Seek -/
def SK (l : List Int) (x : Int) : Nat := (l.takeWhile (fun y => decide (y < x))).length
theorem SK_le (l : List Int) (x : Int) : SK l x ≤ l.length := by
  unfold SK
  have := congrArg List.length (List.takeWhile_append_dropWhile (p := fun y => decide (y < x)) (l := l))
  rw [List.length_append] at this
  omega
theorem rd_nat (l : List Int) (i : Nat) : rd l (i : Int) = l.getD i 0 := by simp [rd]
theorem SK_eq : ∀ (l : List Int) (x : Int) (i : Nat), i ≤ l.length → (∀ t : Nat, t < i → rd l t < x) → (∀ t : Nat, i ≤ t → t < l.length → x ≤ rd l t) → SK l x = i
  | [], x, i, h, _, _ => by simp at h; subst h; rfl
  | y :: r, x, i, h, h1, h2 => by
    unfold SK
    by_cases hy : y < x
    · rw [List.takeWhile_cons_of_pos (by simpa using hy)]
      have hi : 0 < i := by
        rcases Nat.eq_zero_or_pos i with h0 | h0
        · have := h2 0 (by omega) (by simp)
          rw [rd_nat] at this
          simp at this
          omega
        · exact h0
      have := SK_eq r x (i - 1) (by simp at h; omega) (fun t ht => by
        have := h1 (t + 1) (by omega)
        rw [rd_nat] at this ⊢
        simpa using this) (fun t ht hl => by
        have := h2 (t + 1) (by omega) (by simpa using hl)
        rw [rd_nat] at this ⊢
        simpa using this)
      unfold SK at this
      rw [List.length_cons, this]
      omega
    · rw [List.takeWhile_cons_of_neg (by simpa using hy)]
      rcases Nat.eq_zero_or_pos i with h0 | h0
      · simp [h0]
      · have := h1 0 h0
        rw [rd_nat] at this
        simp at this
        omega
theorem SK_lt : ∀ (l : List Int) (x : Int) (t : Nat), t < SK l x → rd l t < x
  | [], x, t, h => by simp [SK] at h
  | y :: r, x, t, h => by
    unfold SK at h
    by_cases hy : y < x
    · rw [List.takeWhile_cons_of_pos (by simpa using hy), List.length_cons] at h
      cases t with
      | zero => rw [rd_nat]; simpa using hy
      | succ t =>
        have := SK_lt r x t (by unfold SK; omega)
        rw [rd_nat] at this ⊢
        simpa using this
    · rw [List.takeWhile_cons_of_neg (by simpa using hy)] at h
      simp at h
theorem SK_ge : ∀ (l : List Int) (x : Int), SK l x < l.length → x ≤ rd l (SK l x)
  | [], x, h => by simp at h
  | y :: r, x, h => by
    by_cases hy : y < x
    · have e : SK (y :: r) x = SK r x + 1 := by unfold SK; rw [List.takeWhile_cons_of_pos (by simpa using hy), List.length_cons]
      rw [e] at h ⊢
      have := SK_ge r x (by simpa using h)
      rw [rd_nat] at this ⊢
      simpa using this
    · have e : SK (y :: r) x = 0 := by unfold SK; rw [List.takeWhile_cons_of_neg (by simpa using hy)]; rfl
      rw [e, rd_nat]
      simp
      omega
theorem VL_lt {l : List Int} (h : VL l) {i j : Nat} (hij : i < j) (hj : j < l.length) : rd l i < rd l j := by
  have := List.pairwise_iff_getElem.1 h.2 i j (by omega) hj hij
  rw [rd_nat, rd_nat]
  simpa [List.getD, List.getElem?_eq_getElem, hj, show i < l.length by omega] using this
theorem less_is (a b : Int) : cmp_Less_int.f a b = some (decide (a < b)) := by
  simp [cmp_Less_int.f, cmp_isNaN_int.f]
theorem binary_l0 (l : List Int) (x : Int) (hl : l.length ≤ 17592186043904) (hv : VL l) : ∀ (d i j : Nat), j - i ≤ d → i ≤ j → j ≤ l.length → (∀ t : Nat, t < i → rd l t < x) → (∀ t : Nat, j ≤ t → t < l.length → x ≤ rd l t) →
    ∃ b, Ev (fun k => slices_BinarySearch_int_int.l0 k l x (l.length : Int) (i : Int) (j : Int)) ((SK l x : Int), b) := by
  have fin : ∀ i : Nat, i ≤ l.length → (∀ t : Nat, t < i → rd l t < x) → (∀ t : Nat, i ≤ t → t < l.length → x ≤ rd l t) → ∃ b, Ev (fun k => slices_BinarySearch_int_int.l0 k l x (l.length : Int) (i : Int) (i : Int)) ((SK l x : Int), b) := by
    intro i hi h1 h2
    have e := SK_eq l x i hi h1 h2
    rw [e]
    by_cases hlt : i < l.length
    · by_cases hx : rd l i = x
      · exact ⟨true, Ev.step (fun k => by rw [slices_BinarySearch_int_int.l0, if_neg (by omega), if_pos (by omega), if_pos (by omega), if_pos (by omega), if_pos hx]) (Ev.now _)⟩
      · exact ⟨false, Ev.step (fun k => by
          rw [slices_BinarySearch_int_int.l0, if_neg (by omega), if_pos (by omega), if_pos (by omega), if_pos (by omega), if_neg hx]
          simp [slices_isNaN_int.f]) (Ev.now _)⟩
    · exact ⟨false, Ev.step (fun k => by rw [slices_BinarySearch_int_int.l0, if_neg (by omega), if_neg (by omega)]) (Ev.now _)⟩
  intro d
  induction d with
  | zero =>
    intro i j h1 h2 h3 h4 h5
    obtain rfl : i = j := by omega
    exact fin i h3 h4 h5
  | succ d ih =>
    intro i j h1 h2 h3 h4 h5
    by_cases hij : i < j
    · have hh : wrap64 ((IntKind.u64.wrap (wrap64 ((i : Int) + (j : Int)))) / 2) = (((i + j) / 2 : Nat) : Int) := by
        rw [IntKind.wrap_u64]
        unfold wrap64
        omega
      have hw : wrap64 ((((i + j) / 2 : Nat) : Int) + 1) = (((i + j) / 2 + 1 : Nat) : Int) := by unfold wrap64; omega
      by_cases hx : rd l (((i + j) / 2 : Nat) : Int) < x
      · obtain ⟨b, hb⟩ := ih ((i + j) / 2 + 1) j (by omega) (by omega) h3 (fun t ht => by
          rcases Nat.lt_or_ge t ((i + j) / 2) with h | h
          · have := VL_lt hv h (by omega); omega
          · obtain rfl : t = (i + j) / 2 := by omega
            exact hx) h5
        refine ⟨b, Ev.step (fun k => ?_) hb⟩
        rw [slices_BinarySearch_int_int.l0, if_pos (by omega), hh, if_pos (by omega), if_pos (by omega), less_is]
        simp only [Option.bind_some, decide_eq_true hx, if_true, hw]
      · obtain ⟨b, hb⟩ := ih i ((i + j) / 2) (by omega) (by omega) (by omega) h4 (fun t ht htl => by
          rcases Nat.lt_or_ge ((i + j) / 2) t with h | h
          · have := VL_lt hv h htl; omega
          · obtain rfl : t = (i + j) / 2 := by omega
            omega)
        refine ⟨b, Ev.step (fun k => ?_) hb⟩
        rw [slices_BinarySearch_int_int.l0, if_pos (by omega), hh, if_pos (by omega), if_pos (by omega), less_is]
        simp only [Option.bind_some, decide_eq_false hx, if_neg (show ¬ (false = true) by decide)]
    · obtain rfl : i = j := by omega
      exact fin i h3 h4 h5
def DP : Nat → Int → List Int → List Int → List Int × Int
  | 0, _, bs, acc => if bs = [] then (acc, 0) else ([], 12)
  | c + 1, q, bs, acc => if (RD bs).2.2 = 0 then (if 1152921504606846976 < q + 1 + (RD bs).1 then ([], 12) else DP c (q + 1 + (RD bs).1) (bs.drop (RD bs).2.1.toNat) (acc ++ [q + 1 + (RD bs).1])) else ([], 12)
def PD (bs : List Int) : List Int × Int :=
  if (RD bs).2.2 = 0 then (if (bs.length : Int) - (RD bs).2.1 < (RD bs).1 then ([], 12) else DP (RD bs).1.toNat (-1) (bs.drop (RD bs).2.1.toNat) []) else ([], 12)
theorem DP_short : ∀ (c : Nat) (q : Int) (bs acc : List Int), (∀ b ∈ bs, 0 ≤ b ∧ b ≤ 255) → bs.length < c → DP c q bs acc = ([], 12)
  | c + 1, q, bs, acc, hb, h => by
    rw [DP]
    by_cases h0 : (RD bs).2.2 = 0
    · have := RD_size hb h0
      rw [if_pos h0]
      split
      · rfl
      · exact DP_short c _ _ _ (drop_byte hb _) (by rw [List.length_drop]; omega)
    · rw [if_neg h0]
theorem extract_from (s : ByteArray) (a : Int) : bytesOf (s.extract a.toNat s.size) = (bytesOf s).drop a.toNat := bytesOf_from s a.toNat
theorem bytesOf_size (s : ByteArray) : (bytesOf s).length = s.size := by simp [bytesOf]
theorem decode8_l0 (s : ByteArray) (hs : s.size ≤ 1000000) (c : Nat) : ∀ (d i a : Nat) (q : Int) (acc : List Int), i + d = c → c ≤ 1000000 → a ≤ s.size → acc.length = i → -1 ≤ q → q ≤ 1152921504606846976 →
    Ev (fun k => postings_Decode.l0 k s (a : Int) acc q (c : Int) (i : Int)) (DP d q ((bytesOf s).drop a) acc) := by
  intro d
  induction d with
  | zero =>
    intro i a q acc h hc ha hacc hq0 hq1
    rw [DP]
    by_cases he : a = s.size
    · rw [if_pos (List.drop_eq_nil_of_le (by rw [bytesOf_size]; omega))]
      exact Ev.step (fun k => by rw [postings_Decode.l0, if_neg (by omega), if_pos (by omega)]) (Ev.now _)
    · rw [if_neg (fun hn => by
        have := congrArg List.length hn
        rw [List.length_drop, bytesOf_size] at this
        simp at this
        omega)]
      exact Ev.step (fun k => by rw [postings_Decode.l0, if_neg (by omega), if_neg (by omega)]) (Ev.now _)
  | succ d ih =>
    intro i a q acc h hc ha hacc hq0 hq1
    rw [DP]
    have hr : varint_Read.f (s.extract (a : Int).toNat s.size) = some (RD ((bytesOf s).drop a)) := by rw [read_is, extract_from s]; rfl
    have hbd := drop_byte (bytes_in s) a
    have hw : wrap64 ((i : Int) + 1) = ((i + 1 : Nat) : Int) := by unfold wrap64; omega
    by_cases h0 : (RD ((bytesOf s).drop a)).2.2 = 0
    · obtain ⟨z0, z1, z2, z3⟩ := RD_size hbd h0
      rw [List.length_drop, bytesOf_size] at z1
      have e1 : wrap64 (wrap64 (q + 1) + (RD ((bytesOf s).drop a)).1) = q + 1 + (RD ((bytesOf s).drop a)).1 := by unfold wrap64; omega
      have e2 : wrap64 ((a : Int) + (RD ((bytesOf s).drop a)).2.1) = ((a + (RD ((bytesOf s).drop a)).2.1.toNat : Nat) : Int) := by unfold wrap64; omega
      rw [if_pos h0]
      by_cases hx : 1152921504606846976 < q + 1 + (RD ((bytesOf s).drop a)).1
      · rw [if_pos hx]
        refine Ev.step (fun k => ?_) (Ev.now _)
        rw [postings_Decode.l0, if_pos (by omega), if_pos (by omega), if_pos (by omega), hr]
        simp only [Option.bind_some, if_pos h0, e1, gt_iff_lt, if_pos hx]
      · rw [if_neg hx, List.drop_drop]
        refine Ev.step (fun k => ?_) (ih (i + 1) (a + (RD ((bytesOf s).drop a)).2.1.toNat) _ _ (by omega) hc (by omega) (by rw [List.length_append, hacc]; rfl) (by omega) (by omega))
        rw [postings_Decode.l0, if_pos (by omega), if_pos (by omega), if_pos (by omega), hr]
        simp only [Option.bind_some, if_pos h0, e1, e2, gt_iff_lt, if_neg hx, hw, if_pos (show acc.length < 17592186044416 by omega)]
    · rw [if_neg h0]
      refine Ev.step (fun k => ?_) (Ev.now _)
      rw [postings_Decode.l0, if_pos (by omega), if_pos (by omega), if_pos (by omega), hr]
      simp only [Option.bind_some, if_neg h0]
theorem decode8_ev (s : ByteArray) (hs : s.size ≤ 1000000) : Ev (fun k => postings_Decode.f k s) (PD (bytesOf s)) := by
  simp only [postings_Decode.f, read_is, Option.bind_some]
  unfold PD
  by_cases h0 : (RD (bytesOf s)).2.2 = 0
  · obtain ⟨z0, z1, z2, z3⟩ := RD_size (bytes_in s) h0
    rw [bytesOf_size] at z1
    have e1 : wrap64 ((s.size : Int) - (RD (bytesOf s)).2.1) = (s.size : Int) - (RD (bytesOf s)).2.1 := by unfold wrap64; omega
    simp only [if_pos h0, e1, bytesOf_size, gt_iff_lt]
    by_cases hc : (s.size : Int) - (RD (bytesOf s)).2.1 < (RD (bytesOf s)).1
    · rw [if_pos hc]
      exact Ev.step (fun k => by rw [postings_Decode.j0, if_pos (decide_eq_true hc)]) (Ev.now _)
    · rw [if_neg hc]
      obtain ⟨c, hcc⟩ := Int.eq_ofNat_of_zero_le z2
      obtain ⟨a, haa⟩ := Int.eq_ofNat_of_zero_le (show 0 ≤ (RD (bytesOf s)).2.1 by omega)
      have := decode8_l0 s hs c c 0 a (-1) [] (by omega) (by omega) (by omega) rfl (by omega) (by omega)
      simp only [hcc, haa, Int.toNat_natCast] at hc ⊢
      exact Ev.step (fun k => by rw [postings_Decode.j0, if_neg (by simpa using hc), if_pos (by omega), Int.toNat_natCast, if_pos (by omega)]; rfl) this
  · simp only [if_neg h0]
    exact Ev.step (fun k => by rw [postings_Decode.j0, if_pos rfl]) (Ev.now _)
theorem tl_data (s : ByteArray) : s.toList = s.data.toList := by
  rw [Go.ByteArray.toList_eq]
theorem RD_le (l : List Int) (hb : ∀ b ∈ l, 0 ≤ b ∧ b ≤ 255) : 0 ≤ (RD l).2.1 ∧ (RD l).2.1 ≤ l.length ∧ 0 ≤ (RD l).1 ∧ (RD l).1 ≤ 1152921504606846976 := by
  by_cases h : (RD l).2.2 = 0
  · have := RD_size hb h; omega
  · rw [RD_err h]; simp
/-- Two strictly ascending lists with the same numbers are the same. -/
theorem sorted_ext : ∀ (a b : List Int), a.Pairwise (· < ·) → b.Pairwise (· < ·) → (∀ x, x ∈ a ↔ x ∈ b) → a = b
  | [], [], _, _, _ => rfl
  | [], y :: b, _, _, h => by have := (h y).2 (by simp); simp at this
  | x :: a, [], _, _, h => by have := (h x).1 (by simp); simp at this
  | x :: a, y :: b, ha, hb, h => by
    rw [List.pairwise_cons] at ha hb
    have hxy : x = y := by
      have h1 := (h x).1 (by simp)
      have h2 := (h y).2 (by simp)
      rcases List.mem_cons.1 h1 with h1 | h1
      · exact h1
      · rcases List.mem_cons.1 h2 with h2 | h2
        · exact h2.symm
        · have := hb.1 x h1; have := ha.1 y h2; omega
    subst hxy
    rw [sorted_ext a b ha.2 hb.2 (fun z => by
      constructor
      · intro hz
        have := ha.1 z hz
        rcases List.mem_cons.1 ((h z).1 (by simp [hz])) with rfl | h'
        · omega
        · exact h'
      · intro hz
        have := hb.1 z hz
        rcases List.mem_cons.1 ((h z).2 (by simp [hz])) with rfl | h'
        · omega
        · exact h')]
structure WalkOK (a b : List Int) (L : List (Int × Bool × Bool)) : Prop where
  sorted : (L.map (·.1)).Pairwise (· < ·)
  each : ∀ e ∈ L, e.2.1 = decide (e.1 ∈ a) ∧ e.2.2 = decide (e.1 ∈ b) ∧ (e.1 ∈ a ∨ e.1 ∈ b)
  all : ∀ x, x ∈ a ∨ x ∈ b → ∃ e ∈ L, e.1 = x
theorem WalkOK.cons {a b a' b' : List Int} {L : List (Int × Bool × Bool)} {x : Int} {p q : Bool} (h : WalkOK a' b' L)
    (ha : ∀ y, y ∈ a ↔ (y = x ∧ p = true) ∨ y ∈ a') (hb : ∀ y, y ∈ b ↔ (y = x ∧ q = true) ∨ y ∈ b') (la : ∀ y ∈ a', x < y) (lb : ∀ y ∈ b', x < y) (hpq : p = true ∨ q = true) : WalkOK a b ((x, p, q) :: L) := by
  have xa : decide (x ∈ a) = p := by
    cases p with
    | true => exact decide_eq_true ((ha x).2 (.inl ⟨rfl, rfl⟩))
    | false => exact decide_eq_false (fun h' => by rcases (ha x).1 h' with ⟨_, h'⟩ | h'; · cases h'
                                                   · have := la x h'; omega)
  have xb : decide (x ∈ b) = q := by
    cases q with
    | true => exact decide_eq_true ((hb x).2 (.inl ⟨rfl, rfl⟩))
    | false => exact decide_eq_false (fun h' => by rcases (hb x).1 h' with ⟨_, h'⟩ | h'; · cases h'
                                                   · have := lb x h'; omega)
  refine ⟨?_, ?_, ?_⟩
  · rw [List.map_cons, List.pairwise_cons]
    refine ⟨fun y hy => ?_, h.sorted⟩
    obtain ⟨e, he, rfl⟩ := List.mem_map.1 hy
    rcases (h.each e he).2.2 with h' | h'
    · exact la _ h'
    · exact lb _ h'
  · intro e he
    rcases List.mem_cons.1 he with rfl | he
    · refine ⟨xa.symm, xb.symm, ?_⟩
      rcases hpq with hp | hq
      · exact .inl ((ha x).2 (.inl ⟨rfl, hp⟩))
      · exact .inr ((hb x).2 (.inl ⟨rfl, hq⟩))
    · obtain ⟨h1, h2, h3⟩ := h.each e he
      have hne : e.1 ≠ x := by
        rcases h3 with h' | h'
        · have := la _ h'; omega
        · have := lb _ h'; omega
      have ea : e.1 ∈ a ↔ e.1 ∈ a' := by rw [ha]; simp [hne]
      have eb : e.1 ∈ b ↔ e.1 ∈ b' := by rw [hb]; simp [hne]
      exact ⟨by rw [h1]; simp [ea], by rw [h2]; simp [eb], by rw [ea, eb]; exact h3⟩
  · intro y hy
    by_cases hyx : y = x
    · exact ⟨_, List.mem_cons_self, hyx.symm⟩
    · have : y ∈ a' ∨ y ∈ b' := by
        rcases hy with hy | hy
        · rcases (ha y).1 hy with ⟨h', _⟩ | h'
          · exact absurd h' hyx
          · exact .inl h'
        · rcases (hb y).1 hy with ⟨h', _⟩ | h'
          · exact absurd h' hyx
          · exact .inr h'
      obtain ⟨e, he, h'⟩ := h.all y this
      exact ⟨e, List.mem_cons_of_mem _ he, h'⟩
theorem walk_ok : ∀ (n : Nat) (a b : List Int), a.length + b.length ≤ n → a.Pairwise (· < ·) → b.Pairwise (· < ·) → WalkOK a b (walkL a b) := by
  intro n
  induction n with
  | zero =>
    intro a b h _ _
    obtain rfl : a = [] := List.eq_nil_of_length_eq_zero (by omega)
    obtain rfl : b = [] := List.eq_nil_of_length_eq_zero (by omega)
    exact ⟨by simp [walkL_nil], by simp [walkL_nil], by simp⟩
  | succ n ih =>
    intro a b h ha hb
    match a, b, h, ha, hb with
    | [], [], _, _, _ => exact ⟨by simp [walkL_nil], by simp [walkL_nil], by simp⟩
    | [], y :: b, h, ha, hb =>
      rw [walkL_r]
      rw [List.pairwise_cons] at hb
      exact (ih [] b (by simp at h ⊢; omega) ha hb.2).cons (by simp) (by simp) (by simp) hb.1 (.inr rfl)
    | x :: a, [], h, ha, hb =>
      rw [walkL_l]
      rw [List.pairwise_cons] at ha
      exact (ih a [] (by simp at h ⊢; omega) ha.2 hb).cons (by simp) (by simp) ha.1 (by simp) (.inl rfl)
    | x :: a, y :: b, h, ha, hb =>
      have ha' := List.pairwise_cons.1 ha
      have hb' := List.pairwise_cons.1 hb
      rcases Int.lt_trichotomy x y with hlt | heq | hlt
      · rw [walkL_lt a b hlt]
        refine (ih a (y :: b) (by simp at h ⊢; omega) ha'.2 hb).cons (by simp) (by simp) ha'.1 (fun z hz => ?_) (.inl rfl)
        rcases List.mem_cons.1 hz with rfl | hz
        · exact hlt
        · have := hb'.1 z hz; omega
      · subst heq
        rw [walkL_eq x a b]
        exact (ih a b (by simp at h ⊢; omega) ha'.2 hb'.2).cons (by simp) (by simp) ha'.1 hb'.1 (.inl rfl)
      · rw [walkL_gt a b hlt]
        refine (ih (x :: a) b (by simp at h ⊢; omega) ha hb'.2).cons (by simp) (by simp) (fun z hz => ?_) hb'.1 (.inr rfl)
        rcases List.mem_cons.1 hz with rfl | hz
        · exact hlt
        · have := ha'.1 z hz; omega
theorem comb_sorted (g : Bool → Bool → Bool) {a b : List Int} (ha : a.Pairwise (· < ·)) (hb : b.Pairwise (· < ·)) : (combG g (walkL a b)).Pairwise (· < ·) := by
  have h := (walk_ok _ a b (Nat.le_refl _) ha hb).sorted
  unfold combG
  exact h.sublist (List.Sublist.map _ (List.filter_sublist))
theorem comb_mem (g : Bool → Bool → Bool) {a b : List Int} (ha : a.Pairwise (· < ·)) (hb : b.Pairwise (· < ·)) (x : Int) : x ∈ combG g (walkL a b) ↔ (x ∈ a ∨ x ∈ b) ∧ g (decide (x ∈ a)) (decide (x ∈ b)) = true := by
  have h := walk_ok _ a b (Nat.le_refl _) ha hb
  unfold combG
  rw [List.mem_map]
  constructor
  · rintro ⟨e, he, rfl⟩
    rw [List.mem_filter] at he
    obtain ⟨h1, h2, h3⟩ := h.each e he.1
    exact ⟨h3, by rw [← h1, ← h2]; exact he.2⟩
  · rintro ⟨h1, h2⟩
    obtain ⟨e, he, rfl⟩ := h.all x h1
    obtain ⟨h3, h4, _⟩ := h.each e he
    exact ⟨e, List.mem_filter.2 ⟨he, by rw [h3, h4]; exact h2⟩, rfl⟩
theorem comb_len (g : Bool → Bool → Bool) (a b : List Int) : (combG g (walkL a b)).length ≤ a.length + b.length := by
  have h1 := walkL_len a b
  have h2 := combG_len g (walkL a b) (walkL a b).length
  rw [List.take_length] at h2
  omega
/-- The three functions' answers. -/
def AN (a b : List Int) : List Int := if CK a = 0 ∧ CK b = 0 then combG gAnd (walkL a b) else []
def OR (a b : List Int) : List Int := if CK a = 0 ∧ CK b = 0 then combG gOr (walkL a b) else []
def WO (a b : List Int) : List Int := if CK a = 0 ∧ CK b = 0 then combG gWithout (walkL a b) else []
theorem and_ev (a b : List Int) (ha : a.length ≤ 1000000) (hb : b.length ≤ 1000000) : Ev (fun k => postings_And.f k a b) (AN a b) := by
  simp only [postings_And.f]
  refine Ev.bind (valid2_ev a b (by omega) (by omega)) ?_
  unfold AN
  by_cases h : CK a = 0 ∧ CK b = 0
  · simp only [h, and_self, decide_true, if_true, combined_and.f, combF, if_pos (show a.length + b.length < 17592186044416 by omega), Option.bind_some]
    exact Ev.now _
  · simp only [h, decide_false, if_neg (show ¬ (false = true) by decide), if_false]
    exact Ev.now _
theorem or_ev (a b : List Int) (ha : a.length ≤ 1000000) (hb : b.length ≤ 1000000) : Ev (fun k => postings_Or.f k a b) (OR a b) := by
  simp only [postings_Or.f]
  refine Ev.bind (valid2_ev a b (by omega) (by omega)) ?_
  unfold OR
  by_cases h : CK a = 0 ∧ CK b = 0
  · simp only [h, and_self, decide_true, if_true, combined_or.f, combF, if_pos (show a.length + b.length < 17592186044416 by omega), Option.bind_some]
    exact Ev.now _
  · simp only [h, decide_false, if_neg (show ¬ (false = true) by decide), if_false]
    exact Ev.now _
theorem without_ev (a b : List Int) (ha : a.length ≤ 1000000) (hb : b.length ≤ 1000000) : Ev (fun k => postings_Without.f k a b) (WO a b) := by
  simp only [postings_Without.f]
  refine Ev.bind (valid2_ev a b (by omega) (by omega)) ?_
  unfold WO
  by_cases h : CK a = 0 ∧ CK b = 0
  · simp only [h, and_self, decide_true, if_true, combined_without.f, combF, if_pos (show a.length + b.length < 17592186044416 by omega), Option.bind_some]
    exact Ev.now _
  · simp only [h, decide_false, if_neg (show ¬ (false = true) by decide), if_false]
    exact Ev.now _
/-! ## The reference -/
theorem and_filter {a b : List Int} (ha : VL a) (hb : VL b) : combG gAnd (walkL a b) = a.filter (fun y => decide (y ∈ b)) :=
  sorted_ext _ _ (comb_sorted _ ha.2 hb.2) (ha.2.sublist List.filter_sublist) (fun x => by
    rw [comb_mem _ ha.2 hb.2, List.mem_filter]
    simp only [gAnd, Bool.and_eq_true, decide_eq_true_eq]
    constructor
    · rintro ⟨_, h⟩; exact h
    · intro h; exact ⟨.inl h.1, h⟩)
theorem without_filter {a b : List Int} (ha : VL a) (hb : VL b) : combG gWithout (walkL a b) = a.filter (fun y => !decide (y ∈ b)) :=
  sorted_ext _ _ (comb_sorted _ ha.2 hb.2) (ha.2.sublist List.filter_sublist) (fun x => by
    rw [comb_mem _ ha.2 hb.2, List.mem_filter]
    simp only [gWithout, Bool.and_eq_true, decide_eq_true_eq]
    constructor
    · rintro ⟨_, h⟩; exact h
    · intro h; exact ⟨.inl h.1, h⟩)
def INS (l : List Int) (x : Int) : List Int := if SK l x < l.length ∧ rd l (SK l x) = x then l else l.take (SK l x) ++ x :: l.drop (SK l x)
theorem SK_nil (x : Int) : SK [] x = 0 := rfl
theorem SK_cons_lt {y x : Int} (r : List Int) (h : y < x) : SK (y :: r) x = SK r x + 1 := by unfold SK; rw [List.takeWhile_cons_of_pos (by simpa using h), List.length_cons]
theorem SK_cons_ge {y x : Int} (r : List Int) (h : ¬ y < x) : SK (y :: r) x = 0 := by unfold SK; rw [List.takeWhile_cons_of_neg (by simpa using h)]; rfl
theorem rd_succ (y : Int) (r : List Int) (i : Nat) : rd (y :: r) ((i + 1 : Nat) : Int) = rd r (i : Int) := by rw [rd_nat, rd_nat]; simp
theorem INS_nil (x : Int) : INS [] x = [x] := by simp [INS, SK_nil]
theorem INS_cons (y x : Int) (r : List Int) : INS (y :: r) x = if y < x then y :: INS r x else if y = x then y :: r else x :: y :: r := by
  by_cases h : y < x
  · rw [if_pos h]
    unfold INS
    rw [SK_cons_lt r h, rd_succ, List.length_cons]
    by_cases hc : SK r x < r.length ∧ rd r (SK r x) = x
    · rw [if_pos hc, if_pos ⟨by omega, hc.2⟩]
    · rw [if_neg hc, if_neg (fun h' => hc ⟨by omega, h'.2⟩)]; simp
  · rw [if_neg h]
    unfold INS
    rw [SK_cons_ge r h]
    have e : rd (y :: r) ((0 : Nat) : Int) = y := by rw [rd_nat]; rfl
    rw [e]
    by_cases hc : y = x
    · rw [if_pos hc, if_pos ⟨by simp, hc⟩]
    · rw [if_neg hc, if_neg (fun h' => hc h'.2)]; simp
theorem INS_mem : ∀ (l : List Int) (x z : Int), z ∈ INS l x ↔ z = x ∨ z ∈ l
  | [], x, z => by rw [INS_nil]; simp
  | y :: r, x, z => by
    rw [INS_cons]
    split
    · rw [List.mem_cons, INS_mem r x z, List.mem_cons]
      constructor
      · rintro (h | h | h) <;> simp [h]
      · rintro (h | h | h) <;> simp [h]
    · split
      · rename_i h; subst h; simp
      · simp
theorem INS_sorted : ∀ (l : List Int) (x : Int), l.Pairwise (· < ·) → (INS l x).Pairwise (· < ·)
  | [], x, _ => by rw [INS_nil]; simp
  | y :: r, x, h => by
    have h' := List.pairwise_cons.1 h
    rw [INS_cons]
    split
    · rename_i hlt
      rw [List.pairwise_cons]
      refine ⟨fun z hz => ?_, INS_sorted r x h'.2⟩
      rcases (INS_mem r x z).1 hz with rfl | hz
      · exact hlt
      · exact h'.1 z hz
    · split
      · exact h
      · rw [List.pairwise_cons]
        refine ⟨fun z hz => ?_, h⟩
        rcases List.mem_cons.1 hz with rfl | hz
        · omega
        · have := h'.1 z hz; omega
theorem INS_valid {l : List Int} {x : Int} (h : VL l) (h0 : 0 ≤ x) (h1 : x ≤ 1152921504606846976) : VL (INS l x) :=
  ⟨fun z hz => by
    rcases (INS_mem l x z).1 hz with rfl | hz
    · exact ⟨h0, h1⟩
    · exact h.1 z hz, INS_sorted l x h.2⟩
theorem INS_len (l : List Int) (x : Int) : (INS l x).length ≤ l.length + 1 := by
  have := SK_le l x
  unfold INS
  split
  · omega
  · rw [List.length_append, List.length_cons, List.length_take, List.length_drop]; omega
def INSs (l xs : List Int) : List Int := xs.foldl INS l
theorem INSs_mem : ∀ (xs l : List Int) (z : Int), z ∈ INSs l xs ↔ z ∈ l ∨ z ∈ xs
  | [], l, z => by simp [INSs]
  | x :: r, l, z => by
    show z ∈ INSs (INS l x) r ↔ _
    rw [INSs_mem r (INS l x) z, INS_mem, List.mem_cons]
    constructor
    · rintro ((h | h) | h) <;> simp [h]
    · rintro (h | h | h) <;> simp [h]
theorem INSs_valid : ∀ (xs l : List Int), VL l → (∀ x ∈ xs, 0 ≤ x ∧ x ≤ 1152921504606846976) → VL (INSs l xs)
  | [], l, h, _ => h
  | x :: r, l, h, hx => INSs_valid r (INS l x) (INS_valid h (hx x (by simp)).1 (hx x (by simp)).2) (fun y hy => hx y (by simp [hy]))
theorem INSs_len : ∀ (xs l : List Int), (INSs l xs).length ≤ l.length + xs.length
  | [], l => by simp [INSs]
  | x :: r, l => by
    have h1 := INSs_len r (INS l x)
    have h2 := INS_len l x
    show (INSs (INS l x) r).length ≤ _
    rw [List.length_cons]
    omega
def FO (acc : List Int) (ll : List (List Int)) : List Int := ll.foldl INSs acc
def total (ll : List (List Int)) : Nat := (ll.map List.length).sum
theorem total_cons (l : List Int) (r : List (List Int)) : total (l :: r) = l.length + total r := by simp [total]
theorem FO_valid : ∀ (ll : List (List Int)) (acc : List Int), VL acc → (∀ l ∈ ll, VL l) → VL (FO acc ll)
  | [], acc, h, _ => h
  | l :: r, acc, h, hl => FO_valid r (INSs acc l) (INSs_valid l acc h (hl l (by simp)).1) (fun m hm => hl m (by simp [hm]))
theorem FO_mem : ∀ (ll : List (List Int)) (acc : List Int) (z : Int), z ∈ FO acc ll ↔ z ∈ acc ∨ ∃ l ∈ ll, z ∈ l
  | [], acc, z => by simp [FO]
  | l :: r, acc, z => by
    show z ∈ FO (INSs acc l) r ↔ _
    rw [FO_mem r (INSs acc l) z, INSs_mem]
    constructor
    · rintro ((h | h) | ⟨m, hm, h⟩)
      · exact .inl h
      · exact .inr ⟨l, by simp, h⟩
      · exact .inr ⟨m, by simp [hm], h⟩
    · rintro (h | ⟨m, hm, h⟩)
      · exact .inl (.inl h)
      · rcases List.mem_cons.1 hm with rfl | hm
        · exact .inl (.inr h)
        · exact .inr ⟨m, hm, h⟩
theorem FO_len : ∀ (ll : List (List Int)) (acc : List Int), (FO acc ll).length ≤ acc.length + total ll
  | [], acc => by simp [FO, total]
  | l :: r, acc => by
    have h1 := FO_len r (INSs acc l)
    have h2 := INSs_len l acc
    show (FO (INSs acc l) r).length ≤ _
    rw [total_cons]
    omega
def MG (ll : List (List Int)) : List Int := if ∀ l ∈ ll, CK l = 0 then FO [] ll else []
theorem dropL {ll : List (List Int)} {i : Nat} (h : i < ll.length) : ll.drop i = ll.getD i [] :: ll.drop (i + 1) := by
  rw [List.drop_eq_getElem_cons h]
  congr 1
  simp [List.getD, List.getElem?_eq_getElem h]
theorem or_merge {a b : List Int} (ha : VL a) (hb : VL b) : combG gOr (walkL a b) = FO [] [a, b] := by
  have hn : VL [] := ⟨by simp, by simp⟩
  refine sorted_ext _ _ (comb_sorted _ ha.2 hb.2) (FO_valid [a, b] [] hn (by simp [ha, hb])).2 (fun x => ?_)
  rw [comb_mem _ ha.2 hb.2, FO_mem]
  simp only [gOr, Bool.or_eq_true, decide_eq_true_eq]
  constructor
  · rintro ⟨h, _⟩
    rcases h with h | h
    · exact .inr ⟨a, by simp, h⟩
    · exact .inr ⟨b, by simp, h⟩
  · rintro (h | ⟨l, hl, h⟩)
    · simp at h
    · rcases List.mem_cons.1 hl with rfl | hl
      · exact ⟨.inl h, .inl h⟩
      · simp at hl
        subst hl
        exact ⟨.inr h, .inr h⟩
end Go.Proofs.Ytdmdhpnlalekfaa.VB
