/- Several texts of this session in one. No condition beyond those in the statements. -/
import Derived.Test.YtbihedcjcmcjaaaAA
import Derived.Test.YtbihedcjcmcjaaaWNEv
import Derived.Laws.BitsAllLaws
import Derived.Laws.Bits128
import Derived.Test.YtbihedcjcmcjaaaHD1
section
namespace Go.Proofs.Ytbihedcjcmcjaaa.VB
open Go.RowKit Go.Proofs.Ytbihedcjcmcjaaa.A Go.Proofs.Ytbihedcjcmcjaaa.Hand Go.Proofs.YtbihedcjcmcjaaaW.PrintWords Go.Proofs.YtbihedcjcmcjaaaW.PrintLast Go.Proofs.YtbihedcjcmcjaaaW.PrintMore
set_option linter.unusedVariables false

/-! ## The bytes of a number -/
/-- The groups of seven bits of a number, the least significant first. -/
def G (n : Nat) : List Int := if n < 128 then [(n : Int)] else ((n % 128 + 128 : Nat) : Int) :: G (n / 128)
termination_by n
decreasing_by omega
theorem G_small {n : Nat} (h : n < 128) : G n = [(n : Int)] := by rw [G, if_pos h]
theorem G_big {n : Nat} (h : 128 ≤ n) : G n = ((n % 128 + 128 : Nat) : Int) :: G (n / 128) := by rw [G, if_neg (by omega)]
theorem G_len : ∀ (k n : Nat), n < 128 ^ (k + 1) → (G n).length ≤ k + 1 := by
  intro k
  induction k with
  | zero => intro n h; rw [G_small (by omega)]; simp
  | succ k ih =>
    intro n h
    by_cases h1 : n < 128
    · rw [G_small h1]; simp
    · rw [G_big (by omega)]
      have := ih (n / 128) (by rw [Nat.pow_succ] at h; omega)
      simp; omega
theorem G_pos (n : Nat) : 1 ≤ (G n).length := by
  by_cases h : n < 128
  · rw [G_small h]; simp
  · rw [G_big (by omega)]; simp
theorem G_byte : ∀ (n : Nat), ∀ b ∈ G n, 0 ≤ b ∧ b ≤ 255 := by
  intro n
  induction n using Nat.strongRecOn with
  | _ n ih =>
    by_cases h : n < 128
    · rw [G_small h]; intro b hb; simp at hb; omega
    · rw [G_big (by omega)]
      intro b hb
      simp only [List.mem_cons] at hb
      rcases hb with rfl | hb
      · omega
      · exact ih (n / 128) (by omega) b hb

theorem and127 (n : Nat) (h : n < 18446744073709551616) : bits .and .u64 (n : Int) 127 = ((n % 128 : Nat) : Int) := by
  have := u64_and_nat n 127 h (by omega)
  rw [nat_mask7] at this
  exact this
theorem ag_l0 : ∀ (k : Nat) (l : List Int) (n : Nat), n < 128 ^ (k + 1) → n < 18446744073709551616 → l.length + k < 140737488355328 → varint_appendGroups.l0 (k + 1) l n = some (l ++ G n) := by
  intro k
  induction k with
  | zero =>
    intro l n h1 h2 h3
    simp only [varint_appendGroups.l0]
    rw [if_neg (by omega), if_pos (by omega), G_small (by omega), show (n : Int) % 256 = n by omega]
  | succ k ih =>
    intro l n h1 h2 h3
    rw [varint_appendGroups.l0]
    by_cases h : n < 128
    · rw [if_neg (by omega), if_pos (by omega), G_small h, show (n : Int) % 256 = n by omega]
    · rw [if_pos (by omega), if_pos (by omega), and127 n h2, show (((n % 128 : Nat) : Int) % 256) = ((n % 128 : Nat) : Int) by omega, u8_or128_right _ (by omega) (by omega),
        show (n : Int) / 128 = ((n / 128 : Nat) : Int) by omega]
      have := ih (l ++ [((n % 128 : Nat) : Int) + 128]) (n / 128) (by rw [Nat.pow_succ] at h1; omega) (by omega) (by simp; omega)
      rw [this, G_big (n := n) (by omega)]
      simp
theorem ag_ev (l : List Int) (n : Nat) (hn : n < 18446744073709551616) (hl : l.length ≤ 140737488350000) : Ev (fun k => varint_appendGroups.f k l n) (l ++ G n) :=
  Ev.of (k := 10) (fun k => varint_appendGroups.mono l n k) (ag_l0 9 l n (by omega) hn (by omega))
/-- The number that stands for a signed one. -/
def zig (n : Int) : Nat := if 0 ≤ n then (2 * n).toNat else (-2 * n - 1).toNat
theorem zig_lt {n : Int} (h1 : -1152921504606846976 ≤ n) (h2 : n ≤ 1152921504606846976) : zig n ≤ 2305843009213693952 := by unfold zig; split <;> omega
theorem folded_is {n : Int} (h1 : -1152921504606846976 ≤ n) (h2 : n ≤ 1152921504606846976) : varint_folded.f n = some (zig n : Int) := by
  unfold varint_folded.f zig
  simp only [IntKind.wrap_u64]
  by_cases h : 0 ≤ n
  · rw [if_pos h, if_pos h]
    congr 1
    omega
  · rw [if_neg h, if_neg h]
    congr 1
    rw [show wrap64 (-n) = -n by unfold wrap64; omega]
    omega
theorem inRange_is (n : Int) : varint_inRange.f n = some (decide (-1152921504606846976 ≤ n ∧ n ≤ 1152921504606846976)) := by
  unfold varint_inRange.f
  by_cases h : -1152921504606846976 ≤ n
  · rw [if_pos h]; simp [h]
  · rw [if_neg h]; simp [h]
def AP (s : ByteArray) (n : Int) : ByteArray × Int := if n < 0 ∨ 1152921504606846976 < n then (⟨#[]⟩, 2) else (s ++ strOfNums (G n.toNat), 0)
def AS (s : ByteArray) (n : Int) : ByteArray × Int := if -1152921504606846976 ≤ n ∧ n ≤ 1152921504606846976 then (s ++ strOfNums (G (zig n)), 0) else (⟨#[]⟩, 2)
theorem G_len9 {n : Nat} (h : n < 9223372036854775808) : (G n).length ≤ 9 := G_len 8 n (by omega)
theorem append_ev (s : ByteArray) (n : Int) (hs : s.size ≤ 4611686018427387904) : Ev (fun k => varint_Append.f k s n) (AP s n) := by
  unfold AP
  by_cases h1 : n < 0
  · rw [if_pos (.inl h1)]
    simp only [varint_Append.f, if_pos h1]; exact Ev.now _
  · by_cases h2 : 1152921504606846976 < n
    · rw [if_pos (.inr h2)]
      simp only [varint_Append.f, if_neg h1, gt_iff_lt, if_pos h2]; exact Ev.now _
    · rw [if_neg (by omega)]
      have e : IntKind.u64.wrap n = ((n.toNat : Nat) : Int) := by rw [IntKind.wrap_u64]; omega
      simp only [varint_Append.f, if_neg h1, gt_iff_lt, if_neg h2, e]; refine Ev.bind (ag_ev [] n.toNat (by omega) (by simp)) ?_
      have := G_len9 (n := n.toNat) (by omega)
      rw [List.nil_append]; simp only [if_pos (show s.size + (strOfNums (G n.toNat)).size ≤ 9223372036854775807 from by rw [strOfNums_size]; omega)]; exact Ev.now _
theorem appendSigned_ev (s : ByteArray) (n : Int) (hs : s.size ≤ 4611686018427387904) : Ev (fun k => varint_AppendSigned.f k s n) (AS s n) := by
  unfold AS
  by_cases h : -1152921504606846976 ≤ n ∧ n ≤ 1152921504606846976
  · rw [if_pos h]
    have hz := zig_lt h.1 h.2
    have := G_len9 (n := zig n) (by omega)
    simp only [varint_AppendSigned.f, inRange_is, Option.bind_some, if_pos (decide_eq_true h), folded_is h.1 h.2]; refine (Ev.bind (ag_ev [] (zig n) (by omega) (by simp)) ?_)
    rw [List.nil_append]; simp only [if_pos (show s.size + (strOfNums (G (zig n))).size ≤ 9223372036854775807 from by rw [strOfNums_size]; omega)]; exact Ev.now _
  · rw [if_neg h]
    simp only [varint_AppendSigned.f, inRange_is, Option.bind_some, decide_eq_true_eq, if_neg h]; exact Ev.now _
theorem G_one (n : Nat) : (G n).length = 1 ↔ n < 128 := by
  by_cases h : n < 128
  · rw [G_small h]; simp [h]
  · rw [G_big (n := n) (by omega)]
    have := G_pos (n / 128)
    simp only [List.length_cons]
    omega
theorem G_mono' : ∀ (n m : Nat), m ≤ n → (G m).length ≤ (G n).length := by
  intro n
  induction n using Nat.strongRecOn with
  | _ n ih =>
    intro m h
    by_cases h1 : m < 128
    · rw [G_small h1]; have := G_pos n; simpa using this
    · rw [G_big (n := m) (by omega), G_big (n := n) (by omega)]
      have := ih (n / 128) (by omega) (m / 128) (by omega)
      simpa using this
theorem G_mono {m n : Nat} (h : m ≤ n) : (G m).length ≤ (G n).length := G_mono' n m h
theorem p128_le {i j : Nat} (h : i ≤ j) : (128 : Int) ^ i ≤ 128 ^ j := by
  have := Nat.pow_le_pow_right (n := 128) (by omega) h
  exact_mod_cast this
/-- What is read at the head of a list of bytes, from place i on, with the number n so far. -/
def RL : Nat → Int → List Int → Int × Int × Int
  | _, _, [] => (0, 0, 11)
  | i, n, b :: t =>
    if 9 ≤ i then (0, 0, 11)
    else if (128 ≤ b ∧ i = 8) ∨ (b = 0 ∧ 0 < i) then (0, 0, 12)
    else if b < 128 then (n + b * 128 ^ i, (i : Int) + 1, 0)
    else RL (i + 1) (n + (b - 128) * 128 ^ i) t
theorem bytes_drop (s : ByteArray) {i : Nat} (h : i < s.size) : (bytesOf s).drop i = bt s i :: (bytesOf s).drop (i + 1) := by
  have hl : i < (bytesOf s).length := by rw [bytesOf_length]; exact h
  rw [List.drop_eq_getElem_cons hl]
  congr 1
  have := rd_bytesOf s i
  unfold rd at this
  rw [← this, Int.toNat_natCast, List.getD_eq_getElem?_getD, List.getElem?_eq_getElem hl]
  rfl
theorem bytes_end (s : ByteArray) {i : Nat} (h : s.size ≤ i) : (bytesOf s).drop i = [] := by
  apply List.drop_eq_nil_of_le; rw [bytesOf_length]; exact h
theorem bytes_in (s : ByteArray) : ∀ b ∈ bytesOf s, 0 ≤ b ∧ b ≤ 255 := by
  intro b hb
  simp only [bytesOf, List.mem_map] at hb
  obtain ⟨x, _, rfl⟩ := hb
  have := x.toNat_lt
  omega
theorem readFrom_is (s : ByteArray) : ∀ (d i : Nat) (n : Int), i + d = 9 → readFrom s d i n = RL i n ((bytesOf s).drop i) := by
  intro d
  induction d with
  | zero =>
    intro i n h
    obtain rfl : i = 9 := by omega
    cases hd : (bytesOf s).drop 9 with
    | nil => rfl
    | cons b t => simp [readFrom, RL]
  | succ d ih =>
    intro i n h
    simp only [readFrom]
    by_cases hs : i < s.size
    · rw [if_pos hs, bytes_drop s hs]
      simp only [RL]
      rw [if_neg (by omega : ¬ 9 ≤ i)]
      split
      · rfl
      · split
        · rfl
        · exact ih (i + 1) _ (by omega)
    · rw [if_neg hs, bytes_end s (by omega)]
      rfl
/-- What is known of a number that is read. -/
theorem RL_ok : ∀ (l : List Int) (i : Nat) (n : Int), (∀ b ∈ l, 0 ≤ b ∧ b ≤ 255) → 0 ≤ n → n < 128 ^ i → i ≤ 9 →
    (RL i n l).2.2 = 0 → 0 ≤ (RL i n l).1 ∧ (RL i n l).1 < 128 ^ 9 ∧ (i : Int) < (RL i n l).2.1 ∧ (RL i n l).2.1 ≤ i + l.length := by
  intro l
  induction l with
  | nil => intro i n _ _ _ _ h; simp [RL] at h
  | cons b t ih =>
    intro i n hb h0 h1 h9
    have hb0 := hb b (by simp)
    simp only [RL]
    split
    · intro h; simp at h
    · rename_i hi
      split
      · intro h; simp at h
      · rename_i hc
        have hp : (0 : Int) < 128 ^ i := Int.pow_pos (by omega)
        have e1 : (128 : Int) ^ (i + 1) = 128 ^ i + 127 * 128 ^ i := by rw [Int.pow_succ]; omega
        have hle : (128 : Int) ^ (i + 1) ≤ 128 ^ 9 := p128_le (by omega)
        split
        · rename_i hl
          intro _
          have h2 : 0 ≤ b * 128 ^ i := Int.mul_nonneg hb0.1 (by omega)
          have h3 : b * 128 ^ i ≤ 127 * 128 ^ i := Int.mul_le_mul_of_nonneg_right (by omega) (by omega)
          refine ⟨by simp only; omega, by simp only; omega, by simp only; omega, by simp only [List.length_cons]; omega⟩
        · rename_i hl
          intro h
          have h2 : 0 ≤ (b - 128) * 128 ^ i := Int.mul_nonneg (by omega) (by omega)
          have h3 : (b - 128) * 128 ^ i ≤ 127 * 128 ^ i := Int.mul_le_mul_of_nonneg_right (by omega) (by omega)
          have := ih (i + 1) (n + (b - 128) * 128 ^ i) (fun x hx => hb x (by simp [hx])) (by omega) (by omega) (by omega) h
          simp only [List.length_cons]
          omega
theorem RL_err : ∀ (l : List Int) (i : Nat) (n : Int), (RL i n l).2.2 ≠ 0 → RL i n l = (0, 0, (RL i n l).2.2) := by
  intro l
  induction l with
  | nil => intro i n _; rfl
  | cons b t ih =>
    intro i n
    simp only [RL]
    split
    · intro _; rfl
    · split
      · intro _; rfl
      · split
        · intro h; simp at h
        · exact ih _ _
def RD (l : List Int) : Int × Int × Int := if (RL 0 0 l).2.2 = 0 ∧ 1152921504606846976 < (RL 0 0 l).1 then (0, 0, 12) else RL 0 0 l
/-- The signed number for which a number stands. -/
def unzig (u : Int) : Int := if u % 2 = 0 then u / 2 else -(u / 2) - 1
def RS (l : List Int) : Int × Int × Int :=
  if (RL 0 0 l).2.2 = 0 then (if 2305843009213693952 < (RL 0 0 l).1 then (0, 0, 12) else (unzig (RL 0 0 l).1, (RL 0 0 l).2.1, 0)) else RL 0 0 l
theorem RL_ok0 (l : List Int) (hb : ∀ b ∈ l, 0 ≤ b ∧ b ≤ 255) (h : (RL 0 0 l).2.2 = 0) : 0 ≤ (RL 0 0 l).1 ∧ (RL 0 0 l).1 < 9223372036854775808 ∧ 0 < (RL 0 0 l).2.1 ∧ (RL 0 0 l).2.1 ≤ l.length := by
  have := RL_ok l 0 0 hb (by omega) (by omega) (by omega) h
  simpa using this
theorem RL_err0 (l : List Int) {v c e : Int} (h : RL 0 0 l = (v, c, e)) (he : e ≠ 0) : v = 0 ∧ c = 0 := by
  have := RL_err l 0 0 (by rw [h]; exact he)
  rw [h] at this
  simp only [Prod.mk.injEq] at this
  omega
theorem RL_ok1 (l : List Int) (hb : ∀ b ∈ l, 0 ≤ b ∧ b ≤ 255) {v c : Int} (h : RL 0 0 l = (v, c, 0)) : 0 ≤ v ∧ v < 9223372036854775808 ∧ 0 < c ∧ c ≤ l.length := by
  have := RL_ok0 l hb (by rw [h])
  rw [h] at this
  exact this
theorem read_is (s : ByteArray) : varint_Read.f s = some (RD (bytesOf s)) := by
  unfold varint_Read.f varint_read.f RD
  rw [readFrom_is s 9 0 0 rfl, List.drop_zero, Option.bind_some]
  obtain ⟨v, c, e, hr⟩ : ∃ v c e, RL 0 0 (bytesOf s) = (v, c, e) := ⟨_, _, _, rfl⟩
  rw [hr]
  dsimp only
  by_cases h : e = 0
  · subst h
    have := RL_ok1 _ (bytes_in s) hr
    rw [if_pos rfl]
    by_cases hg : 1152921504606846976 < v
    · rw [if_pos hg, if_pos ⟨rfl, hg⟩]
    · rw [if_neg hg, if_neg (fun h => hg h.2), show wrap64 v = v by unfold wrap64; omega]
  · obtain ⟨rfl, rfl⟩ := RL_err0 _ hr h
    rw [if_neg h, if_neg (fun h' => h h'.1)]
theorem unzig_in {u : Int} (h0 : 0 ≤ u) : (-1152921504606846976 ≤ unzig u ∧ unzig u ≤ 1152921504606846976) ↔ u ≤ 2305843009213693952 := by
  unfold unzig; split <;> omega
theorem readSigned_is (s : ByteArray) : varint_ReadSigned.f s = some (RS (bytesOf s)) := by
  unfold varint_ReadSigned.f varint_read.f RS
  rw [readFrom_is s 9 0 0 rfl, List.drop_zero, Option.bind_some]
  obtain ⟨v, c, e, hr⟩ : ∃ v c e, RL 0 0 (bytesOf s) = (v, c, e) := ⟨_, _, _, rfl⟩
  rw [hr]
  dsimp only
  by_cases h : e = 0
  · subst h
    have hv := RL_ok1 _ (bytes_in s) hr
    have e1 : varint_unfolded.f v = some (unzig v) := by
      unfold varint_unfolded.f unzig
      rw [Int.tmod_eq_emod_of_nonneg (by omega), Int.tdiv_eq_ediv_of_nonneg (by omega)]
      simp only [IntKind.wrap_u64]
      split <;> (congr 1; unfold wrap64; omega)
    rw [if_pos rfl, if_pos rfl, e1, Option.bind_some, inRange_is, Option.bind_some]
    have hz := unzig_in hv.1
    by_cases hg : 2305843009213693952 < v
    · rw [if_neg (by rw [decide_eq_true_eq, hz]; omega), if_pos hg]
    · rw [if_pos (by rw [decide_eq_true_eq, hz]; omega), if_neg hg]
  · obtain ⟨rfl, rfl⟩ := RL_err0 _ hr h
    rw [if_neg h, if_neg h]

/-! ## Strings as lists of bytes -/
theorem bytesOf_inj {a b : ByteArray} (h : bytesOf a = bytesOf b) : a = b := by
  unfold bytesOf at h
  have h2 : a.data.toList = b.data.toList := by
    apply List.map_inj_right (f := fun x : UInt8 => (x.toNat : Int)) (fun x y hxy => by
      have : x.toNat = y.toNat := by exact_mod_cast hxy
      exact UInt8.toNat_inj.1 this) |>.1 h
  exact ByteArray.ext (Array.toList_inj.1 h2)
theorem bytesOf_append (a b : ByteArray) : bytesOf (a ++ b) = bytesOf a ++ bytesOf b := by simp [bytesOf, ByteArray.data_append]
theorem bytesOf_extract (s : ByteArray) (a b : Nat) : bytesOf (s.extract a b) = ((bytesOf s).drop a).take (b - a) := by
  simp [bytesOf, ByteArray.data_extract, List.map_drop, List.map_take]
theorem bytesOf_from (s : ByteArray) (a : Nat) : bytesOf (s.extract a s.size) = (bytesOf s).drop a := by
  rw [bytesOf_extract, List.take_of_length_le (by rw [List.length_drop, bytesOf_length]; omega)]
theorem bytesOf_nums {l : List Int} (h : ∀ b ∈ l, 0 ≤ b ∧ b ≤ 255) : bytesOf (strOfNums l) = l := by
  unfold bytesOf
  rw [strOfNums_data, List.map_map]
  conv => rhs; rw [← List.map_id l]
  apply List.map_congr_left
  intro b hb
  have := h b hb
  simp only [Function.comp_apply, id_eq]
  rw [UInt8.toNat_ofNat']
  omega
theorem bytesOf_empty : bytesOf (⟨#[]⟩ : ByteArray) = [] := rfl
theorem strOfNums_append (a b : List Int) : strOfNums (a ++ b) = strOfNums a ++ strOfNums b := by
  apply ByteArray.ext
  simp [strOfNums, ByteArray.data_append]
theorem empty_append (s : ByteArray) : (⟨#[]⟩ : ByteArray) ++ s = s := by apply bytesOf_inj; rw [bytesOf_append, bytesOf_empty, List.nil_append]

/-! ## One number -/
theorem RL_round : ∀ (m i : Nat) (n : Int) (rest : List Int), i ≤ 8 → m < 128 ^ (9 - i) → (0 < i → 0 < m) → RL i n (G m ++ rest) = (n + m * 128 ^ i, (i : Int) + (G m).length, 0) := by
  intro m
  induction m using Nat.strongRecOn with
  | _ m ih =>
    intro i n rest hi hm hp
    by_cases h : m < 128
    · rw [G_small h]
      simp only [List.cons_append, List.nil_append, RL, if_neg (show ¬ 9 ≤ i by omega), if_neg (show ¬ ((128 ≤ (m : Int) ∧ i = 8) ∨ ((m : Int) = 0 ∧ 0 < i)) by omega), if_pos (show (m : Int) < 128 by omega)]
      rfl
    · rw [G_big (n := m) (by omega)]
      have h8 : i ≠ 8 := by intro e; subst e; simp at hm; omega
      have e1 : (((m % 128 + 128 : Nat) : Int) - 128) = ((m % 128 : Nat) : Int) := by omega
      simp only [List.cons_append, RL, if_neg (show ¬ 9 ≤ i by omega), if_neg (show ¬ ((128 ≤ ((m % 128 + 128 : Nat) : Int) ∧ i = 8) ∨ (((m % 128 + 128 : Nat) : Int) = 0 ∧ 0 < i)) by omega), if_neg (show ¬ ((m % 128 + 128 : Nat) : Int) < 128 by omega), e1]
      have e2 : 9 - i = (9 - (i + 1)) + 1 := by omega
      rw [e2, Nat.pow_succ] at hm
      rw [ih (m / 128) (by omega) (i + 1) _ rest (by omega) (by omega) (by omega)]
      have e3 : (m : Int) = ((m % 128 : Nat) : Int) + 128 * ((m / 128 : Nat) : Int) := by omega
      have e4 : n + ((m % 128 : Nat) : Int) * 128 ^ i + ((m / 128 : Nat) : Int) * 128 ^ (i + 1) = n + (m : Int) * 128 ^ i := by
        conv => rhs; rw [e3]
        rw [Int.pow_succ, Int.add_mul, Int.mul_comm (128 ^ i) 128, ← Int.mul_assoc, Int.mul_comm ((m / 128 : Nat) : Int) 128, Int.add_assoc]
      rw [e4]
      simp only [List.length_cons, Prod.mk.injEq, true_and, and_true]
      omega
theorem RL_cut : ∀ (m i : Nat) (n : Int) (j : Nat), i ≤ 8 → m < 128 ^ (9 - i) → j < (G m).length → RL i n ((G m).take j) = (0, 0, 11) := by
  intro m
  induction m using Nat.strongRecOn with
  | _ m ih =>
    intro i n j hi hm hj
    cases j with
    | zero => rw [List.take_zero]; cases i <;> rfl
    | succ j =>
      by_cases h : m < 128
      · rw [G_small h] at hj; simp at hj
      · rw [G_big (n := m) (by omega)] at hj ⊢
        have h8 : i ≠ 8 := by intro e; subst e; simp at hm; omega
        simp only [List.take_succ_cons, RL, if_neg (show ¬ 9 ≤ i by omega), if_neg (show ¬ ((128 ≤ ((m % 128 + 128 : Nat) : Int) ∧ i = 8) ∨ (((m % 128 + 128 : Nat) : Int) = 0 ∧ 0 < i)) by omega), if_neg (show ¬ ((m % 128 + 128 : Nat) : Int) < 128 by omega)]
        have e2 : 9 - i = (9 - (i + 1)) + 1 := by omega
        rw [e2, Nat.pow_succ] at hm
        simp only [List.length_cons] at hj
        exact ih (m / 128) (by omega) (i + 1) _ j (by omega) (by omega) (by omega)
theorem mulfact (p n b m : Int) : n + (b - 128) * p + m * (p * 128) = n + (128 * m + (b - 128)) * p := by
  rw [Int.add_mul, Int.mul_comm p 128, ← Int.mul_assoc m, Int.mul_comm m 128]
  omega
theorem RL_canon : ∀ (l : List Int) (i : Nat) (n v c : Int), (∀ b ∈ l, 0 ≤ b ∧ b ≤ 255) → RL i n l = (v, c, 0) →
    ∃ (m : Nat) (rest : List Int), l = G m ++ rest ∧ v = n + m * 128 ^ i ∧ c = (i : Int) + (G m).length ∧ (0 < i → 0 < m) := by
  intro l
  induction l with
  | nil => intro i n v c _ h; simp [RL] at h
  | cons b t ih =>
    intro i n v c hb h
    have hb0 := hb b (by simp)
    simp only [RL] at h
    split at h
    · simp at h
    · split at h
      · simp at h
      · rename_i hc
        split at h
        · rename_i hl
          simp only [Prod.mk.injEq, and_true] at h
          refine ⟨b.toNat, t, ?_, ?_, ?_, by omega⟩
          · rw [G_small (by omega), show ((b.toNat : Nat) : Int) = b by omega]; rfl
          · rw [show ((b.toNat : Nat) : Int) = b by omega]; exact h.1.symm
          · rw [G_small (by omega), ← h.2]; rfl
        · rename_i hl
          obtain ⟨m, rest, rfl, hv, hk, hm⟩ := ih (i + 1) _ v c (fun x hx => hb x (by simp [hx])) h
          have hm0 := hm (by omega)
          obtain ⟨q, hq⟩ : ∃ q, q = 128 * m + (b.toNat - 128) := ⟨_, rfl⟩
          have e1 : q % 128 = b.toNat - 128 := by omega
          have e2 : q / 128 = m := by omega
          have e3 : (q : Int) = 128 * (m : Int) + (b - 128) := by omega
          have e4 : G q = b :: G m := by
            rw [G_big (n := q) (by omega), e1, e2]
            congr 1
            omega
          refine ⟨q, rest, by rw [e4]; rfl, ?_, ?_, by omega⟩
          · rw [hv, Int.pow_succ, e3]
            exact mulfact _ _ _ _
          · rw [hk, e4]
            simp only [List.length_cons]
            omega
theorem zig_unzig {u : Int} (h : 0 ≤ u) : (zig (unzig u) : Int) = u := by unfold zig unzig; split <;> split <;> omega
theorem unzig_zig {n : Int} : unzig (zig n) = n := by unfold zig unzig; split <;> split <;> omega
theorem RS_round (n : Int) (rest : List Int) (h1 : -1152921504606846976 ≤ n) (h2 : n ≤ 1152921504606846976) : RS (G (zig n) ++ rest) = (n, ((G (zig n)).length : Int), 0) := by
  have hz := zig_lt h1 h2
  have := RL_round (zig n) 0 0 rest (by omega) (by omega) (by omega)
  unfold RS
  rw [this]
  simp only [Int.pow_zero, Int.mul_one, Int.zero_add, if_true]
  rw [if_neg (by omega), unzig_zig]
  simp
theorem RD_round (n : Nat) (rest : List Int) (h2 : n ≤ 1152921504606846976) : RD (G n ++ rest) = ((n : Int), ((G n).length : Int), 0) := by
  have := RL_round n 0 0 rest (by omega) (by omega) (by omega)
  unfold RD
  rw [this]
  simp only [Int.pow_zero, Int.mul_one, Int.zero_add, true_and]
  rw [if_neg (by omega)]
  simp
theorem RS_canon {l : List Int} {v c : Int} (hb : ∀ b ∈ l, 0 ≤ b ∧ b ≤ 255) (h : RS l = (v, c, 0)) : ∃ rest, l = G (zig v) ++ rest ∧ c = (G (zig v)).length ∧ -1152921504606846976 ≤ v ∧ v ≤ 1152921504606846976 := by
  obtain ⟨u, d, e, hr⟩ : ∃ u d e, RL 0 0 l = (u, d, e) := ⟨_, _, _, rfl⟩
  unfold RS at h
  rw [hr] at h
  dsimp only at h
  by_cases he : e = 0
  · subst he
    rw [if_pos rfl] at h
    split at h
    · simp at h
    · simp only [Prod.mk.injEq, and_true] at h
      obtain ⟨rfl, rfl⟩ := h
      obtain ⟨m, rest, rfl, hv, hk, _⟩ := RL_canon l 0 0 u d hb hr
      simp only [Int.pow_zero, Int.mul_one, Int.zero_add] at hv
      have hz : zig (unzig u) = m := by have := zig_unzig (u := u) (by omega); omega
      have hin := (unzig_in (u := u) (by omega)).2 (by omega)
      exact ⟨rest, by rw [hz], by rw [hz]; omega, hin.1, hin.2⟩
  · rw [if_neg he] at h
    simp only [Prod.mk.injEq] at h
    exact absurd h.2.2 he
theorem RD_canon {l : List Int} {v c : Int} (hb : ∀ b ∈ l, 0 ≤ b ∧ b ≤ 255) (h : RD l = (v, c, 0)) : ∃ rest, l = G v.toNat ++ rest ∧ c = (G v.toNat).length ∧ 0 ≤ v ∧ v ≤ 1152921504606846976 := by
  obtain ⟨u, d, e, hr⟩ : ∃ u d e, RL 0 0 l = (u, d, e) := ⟨_, _, _, rfl⟩
  unfold RD at h
  rw [hr] at h
  dsimp only at h
  split at h
  · simp at h
  · rename_i hn
    simp only [Prod.mk.injEq] at h
    obtain ⟨rfl, rfl, rfl⟩ := h
    obtain ⟨m, rest, rfl, hv, hk, _⟩ := RL_canon l 0 0 u d hb hr
    simp only [Int.pow_zero, Int.mul_one, Int.zero_add] at hv
    have hm : u.toNat = m := by omega
    exact ⟨rest, by rw [hm], by rw [hm]; omega, by omega, by omega⟩
theorem RS_cut (n : Int) (j : Nat) (h1 : -1152921504606846976 ≤ n) (h2 : n ≤ 1152921504606846976) (hj : j < (G (zig n)).length) : RS ((G (zig n)).take j) = (0, 0, 11) := by
  have hz := zig_lt h1 h2
  unfold RS
  rw [RL_cut (zig n) 0 0 j (by omega) (by omega) hj]
  rfl
theorem RD_cut (n j : Nat) (h2 : n ≤ 1152921504606846976) (hj : j < (G n).length) : RD ((G n).take j) = (0, 0, 11) := by
  unfold RD
  rw [RL_cut n 0 0 j (by omega) (by omega) hj]
  rfl
theorem RS_err {l : List Int} (h : (RS l).2.2 ≠ 0) : RS l = (0, 0, (RS l).2.2) := by
  obtain ⟨u, d, e, hr⟩ : ∃ u d e, RL 0 0 l = (u, d, e) := ⟨_, _, _, rfl⟩
  unfold RS at h ⊢
  rw [hr] at h ⊢
  dsimp only at h ⊢
  by_cases he : e = 0
  · subst he
    rw [if_pos rfl] at h ⊢
    split
    · rfl
    · rename_i hn; rw [if_neg hn] at h; exact absurd rfl h
  · obtain ⟨rfl, rfl⟩ := RL_err0 _ hr he
    rw [if_neg he]
theorem RD_err {l : List Int} (h : (RD l).2.2 ≠ 0) : RD l = (0, 0, (RD l).2.2) := by
  obtain ⟨u, d, e, hr⟩ : ∃ u d e, RL 0 0 l = (u, d, e) := ⟨_, _, _, rfl⟩
  unfold RD at h ⊢
  rw [hr] at h ⊢
  dsimp only at h ⊢
  split
  · rfl
  · rename_i hn
    rw [if_neg hn] at h
    obtain ⟨rfl, rfl⟩ := RL_err0 _ hr h
    rfl
def inR (n : Int) : Prop := -1152921504606846976 ≤ n ∧ n ≤ 1152921504606846976
instance (n : Int) : Decidable (inR n) := inferInstanceAs (Decidable (_ ∧ _))
/-- The bytes of the numbers of a list. -/
def ZL (l : List Int) : List Int := l.flatMap fun n => G (zig n)
theorem ZL_cons (n : Int) (l : List Int) : ZL (n :: l) = G (zig n) ++ ZL l := rfl
theorem ZL_nil : ZL [] = [] := rfl
theorem ZL_append (a b : List Int) : ZL (a ++ b) = ZL a ++ ZL b := by simp [ZL]
theorem ZL_byte (l : List Int) : ∀ b ∈ ZL l, 0 ≤ b ∧ b ≤ 255 := by
  intro b hb
  simp only [ZL, List.mem_flatMap] at hb
  obtain ⟨n, _, hb⟩ := hb
  exact G_byte _ b hb
theorem drop_cons {l : List Int} {i : Nat} (h : i < l.length) : l.drop i = rd l i :: l.drop (i + 1) := by
  rw [List.drop_eq_getElem_cons h]
  congr 1
  unfold rd
  rw [Int.toNat_natCast, List.getD_eq_getElem?_getD, List.getElem?_eq_getElem h]
  rfl
theorem RS_size {l : List Int} (hb : ∀ b ∈ l, 0 ≤ b ∧ b ≤ 255) (h : (RS l).2.2 = 0) : 0 < (RS l).2.1 ∧ (RS l).2.1 ≤ l.length := by
  obtain ⟨rest, hl, hc, _⟩ := RS_canon (v := (RS l).1) (c := (RS l).2.1) hb (by rw [← h])
  have := G_pos (zig (RS l).1)
  have h2 := congrArg List.length hl
  rw [List.length_append] at h2
  omega
theorem RD_size {l : List Int} (hb : ∀ b ∈ l, 0 ≤ b ∧ b ≤ 255) (h : (RD l).2.2 = 0) : 0 < (RD l).2.1 ∧ (RD l).2.1 ≤ l.length ∧ 0 ≤ (RD l).1 ∧ (RD l).1 ≤ 1152921504606846976 := by
  obtain ⟨rest, hl, hc, h0, h1⟩ := RD_canon (v := (RD l).1) (c := (RD l).2.1) hb (by rw [← h])
  have := G_pos (RD l).1.toNat
  have h2 := congrArg List.length hl
  rw [List.length_append] at h2
  omega
theorem drop_byte {l : List Int} (hb : ∀ b ∈ l, 0 ≤ b ∧ b ≤ 255) (n : Nat) : ∀ b ∈ l.drop n, 0 ≤ b ∧ b ≤ 255 := fun b h => hb b (List.mem_of_mem_drop h)
end Go.Proofs.Ytbihedcjcmcjaaa.VB
end
section
namespace Go.Proofs.Ytbihedcjcmcjaaa.DB
open Go.RowKit Go.Proofs.Ytbihedcjcmcjaaa.VB Go.Proofs.Ytbihedcjcmcjaaa.A Go.Proofs.Ytbihedcjcmcjaaa.C Go.Proofs.Ytbihedcjcmcjaaa.Hand Go.Proofs.YtbihedcjcmcjaaaW.PrintWords Go.Proofs.YtbihedcjcmcjaaaW.PrintLast Go.Proofs.YtbihedcjcmcjaaaW.PrintMore
set_option linter.unusedVariables false
set_option linter.unusedSimpArgs false
theorem w1 {i : Nat} (h : i < 140737488355328) : wrap64 ((i : Int) + 1) = ((i + 1 : Nat) : Int) := by unfold wrap64; omega
theorem rdI {l : List Int} {i : Nat} (h : i < l.length) : rd l (i : Int) = l[i] := by simp [rd, List.getD, List.getElem?_eq_getElem h]
theorem dropI {l : List Int} {i : Nat} (h : i < l.length) : l.drop i = l[i] :: l.drop (i + 1) := List.drop_eq_getElem_cons h
theorem str_size (l : List Int) : (strOfNums l).size = l.length := by
  have : (bytesOf (strOfNums l)).length = l.length := by simp [bytesOf, strOfNums]
  rw [← this]; simp [bytesOf]
def IN60 (x : Int) : Prop := -1152921504606846976 ≤ x ∧ x ≤ 1152921504606846976
theorem zig_len {x : Int} (h : IN60 x) : (G (zig x)).length ≤ 9 := by have := zig_lt h.1 h.2; exact G_len9 (by omega)
theorem signed_ev (x : Int) (h : IN60 x) : Ev (fun k => deltacol_signed.f k x) (strOfNums (G (zig x))) := by
  have a := appendSigned_ev ⟨#[]⟩ x (by show 0 ≤ 4611686018427387904; omega)
  have e : AS ⟨#[]⟩ x = (strOfNums (G (zig x)), 0) := by unfold AS; rw [if_pos (show -1152921504606846976 ≤ x ∧ x ≤ 1152921504606846976 from h), empty_append]
  rw [e] at a
  exact Ev.bind a (Ev.now _)
theorem unsigned_ev (x : Int) (h0 : 0 ≤ x) (h1 : x ≤ 1152921504606846976) : Ev (fun k => deltacol_unsigned.f k x) (strOfNums (G x.toNat)) := by
  have a := append_ev ⟨#[]⟩ x (by show 0 ≤ 4611686018427387904; omega)
  have e : AP ⟨#[]⟩ x = (strOfNums (G x.toNat), 0) := by unfold AP; rw [if_neg (by omega), empty_append]
  rw [e] at a
  exact Ev.bind a (Ev.now _)
theorem put_is (b : List Int) (acc : ByteArray) (h : acc.size + b.length ≤ 140737488355328) : putG (strOfNums b) acc = some (acc ++ strOfNums b) := if_pos (by rw [str_size]; exact h)
def runB (L : List (Int × Int)) : List Int := L.flatMap fun p => G (zig p.1) ++ G p.2.toNat
theorem runB_cons (p : Int × Int) (L : List (Int × Int)) : runB (p :: L) = G (zig p.1) ++ (G p.2.toNat ++ runB L) := by simp [runB]
theorem runB_byte (L : List (Int × Int)) : ∀ b ∈ runB L, 0 ≤ b ∧ b ≤ 255 := by
  intro b hb
  obtain ⟨p, _, h⟩ := List.mem_flatMap.1 hb
  rcases List.mem_append.1 h with h | h <;> exact G_byte _ b h
theorem app_assoc (a b : List Int) (s : ByteArray) : s ++ strOfNums a ++ strOfNums b = s ++ strOfNums (a ++ b) := by rw [strOfNums_append, ByteArray.append_assoc]
theorem str_nil (s : ByteArray) : s ++ strOfNums [] = s := by
  apply bytesOf_inj
  rw [bytesOf_append, bytesOf_nums (by simp), List.append_nil]
theorem first_ev : ∀ (l : List Int) (acc : ByteArray), (∀ x ∈ l, IN60 x) → acc.size + 9 * l.length ≤ 1000000000 → Ev (fun k => firstG k l acc) (acc ++ strOfNums (ZL l))
  | [], acc, _, _ => by rw [ZL_nil, str_nil]; exact Ev.now _
  | x :: r, acc, h, hs => by
    have hx := h x (by simp)
    have hz := zig_len hx
    rw [List.length_cons] at hs
    have ih := first_ev r (acc ++ strOfNums (G (zig x))) (fun y hy => h y (by simp [hy])) (by rw [ByteArray.size_append, str_size]; omega)
    rw [app_assoc] at ih
    rw [ZL_cons]
    refine Ev.bind (signed_ev x hx) ?_
    exact Ev.congr (fun k => by rw [put_is _ _ (by omega), Option.bind_some]) ih
theorem runs_ev : ∀ (L : List (Int × Int)) (acc : ByteArray), (∀ p ∈ L, IN60 p.1 ∧ 1 ≤ p.2 ∧ p.2 ≤ 20000) → acc.size + 18 * L.length ≤ 1000000000 → Ev (fun k => runsG k L acc) (acc ++ strOfNums (runB L))
  | [], acc, _, _ => by rw [show runB [] = [] from rfl, str_nil]; exact Ev.now _
  | p :: r, acc, h, hs => by
    obtain ⟨hx, h1, h2⟩ := h p (by simp)
    have hz := zig_len hx
    have hg := G_len9 (n := p.2.toNat) (by omega)
    rw [List.length_cons] at hs
    have ih := runs_ev r (acc ++ strOfNums (G (zig p.1)) ++ strOfNums (G p.2.toNat)) (fun y hy => h y (by simp [hy])) (by rw [ByteArray.size_append, ByteArray.size_append, str_size, str_size]; omega)
    have e : acc ++ strOfNums (G (zig p.1)) ++ strOfNums (G p.2.toNat) ++ strOfNums (runB r) = acc ++ strOfNums (runB (p :: r)) := by
      rw [runB_cons, app_assoc, app_assoc]
      try simp [List.append_assoc]
    rw [e] at ih
    refine Ev.bind (signed_ev p.1 hx) ?_
    refine Ev.congr (fun k => by rw [put_is _ _ (by omega), Option.bind_some]) ?_
    refine Ev.bind (unsigned_ev p.2 (by omega) (by omega)) ?_
    exact Ev.congr (fun k => by rw [put_is _ _ (by rw [ByteArray.size_append, str_size]; omega), Option.bind_some]) ih
/-- The bytes of a column. -/
def encB (n : Int) (first others : List Int) : List Int := G n.toNat ++ (ZL first ++ runB (runL others))
theorem encB_byte (n : Int) (first others : List Int) : ∀ b ∈ encB n first others, 0 ≤ b ∧ b ≤ 255 := by
  intro b hb
  unfold encB at hb
  rcases List.mem_append.1 hb with h | h
  · exact G_byte _ b h
  · rcases List.mem_append.1 h with h | h
    · exact ZL_byte _ b h
    · exact runB_byte _ b h
theorem encoding_ev (n : Int) (first others : List Int) (h0 : 0 ≤ n) (h1 : n ≤ 20000) (hf : ∀ x ∈ first, IN60 x) (ho : ∀ x ∈ others, IN60 x) (lf : first.length ≤ 2) (lo : others.length ≤ 20000) : Ev (fun k => deltacol_encoding.f k n first others) (strOfNums (encB n first others)) := by
  simp only [deltacol_encoding.f]
  have hg := G_len9 (n := n.toNat) (by omega)
  have hrl := runL_len others
  refine Ev.bind (unsigned_ev n h0 (by omega)) ?_
  refine Ev.congr (fun k => by rw [put_is _ _ (by show 0 + _ ≤ _; omega), Option.bind_some, empty_append]) ?_
  refine Ev.bind (first_ev first _ hf (by rw [str_size]; omega)) ?_
  have hz : (ZL first).length ≤ 18 := by
    match first, hf, lf with
    | [], _, _ => simp [ZL]
    | [x], hf, _ => have := zig_len (hf x (by simp)); simp [ZL]; omega
    | [x, y], hf, _ => have := zig_len (hf x (by simp)); have := zig_len (hf y (by simp)); simp [ZL]; omega
    | _ :: _ :: _ :: _, _, lf => simp at lf
  have hr := runs_ev (runL others) (strOfNums (G n.toNat) ++ strOfNums (ZL first)) (fun p hp => by
    obtain ⟨a, b, c⟩ := runF_pos _ _ p hp
    exact ⟨ho _ a, b, by omega⟩) (by rw [ByteArray.size_append, str_size, str_size]; omega)
  have e : strOfNums (G n.toNat) ++ strOfNums (ZL first) ++ strOfNums (runB (runL others)) = strOfNums (encB n first others) := by
    unfold encB
    rw [strOfNums_append, strOfNums_append, ByteArray.append_assoc]
  rw [e] at hr
  exact hr
/-! ## Differences -/
def diffL : List Int → List Int
  | x :: y :: r => (y - x) :: diffL (y :: r)
  | _ => []
theorem diffL_len : ∀ l : List Int, (diffL l).length = l.length - 1
  | [] => rfl
  | [_] => rfl
  | x :: y :: r => by have := diffL_len (y :: r); simp only [diffL, List.length_cons] at *; omega
theorem diffL_in {a b : Int} : ∀ (l : List Int), (∀ x ∈ l, a ≤ x ∧ x ≤ b) → ∀ d ∈ diffL l, a - b ≤ d ∧ d ≤ b - a
  | [], _, d, h => by simp [diffL] at h
  | [_], _, d, h => by simp [diffL] at h
  | x :: y :: r, hl, d, h => by
    have h1 := hl x (by simp)
    have h2 := hl y (by simp)
    rcases List.mem_cons.1 h with rfl | h
    · omega
    · exact diffL_in (y :: r) (fun z hz => hl z (by simp [hz])) d h
theorem diff_l0 (l : List Int) (hb : ∀ x ∈ l, IN60 x) (hl : l.length ≤ 1000000) : ∀ (d i : Nat) (acc : List Int), 1 ≤ i → i + d = l.length → acc.length ≤ i → Ev (fun k => deltacol_differences.l0 k l acc (i : Int)) (acc ++ diffL (l.drop (i - 1))) := by
  intro d
  induction d with
  | zero =>
    intro i acc h1 h ha
    rw [dropI (show i - 1 < l.length by omega), show i - 1 + 1 = i by omega, List.drop_eq_nil_of_le (by omega), show diffL [l[i - 1]] = [] from rfl, List.append_nil]
    exact Ev.step (fun k => by rw [deltacol_differences.l0, if_neg (by omega)]) (Ev.now _)
  | succ d ih =>
    intro i acc h1 h ha
    have hi : i < l.length := by omega
    have hi' : i - 1 < l.length := by omega
    have b1 := hb l[i] (List.getElem_mem hi)
    have b2 := hb l[i - 1] (List.getElem_mem hi')
    unfold IN60 at b1 b2
    have hv : wrap64 ((i : Int) - 1) = ((i - 1 : Nat) : Int) := by unfold wrap64; omega
    have hw : wrap64 (l[i] - l[i - 1]) = l[i] - l[i - 1] := by unfold wrap64; omega
    have hs := ih (i + 1) (acc ++ [l[i] - l[i - 1]]) (by omega) (by omega) (by rw [List.length_append]; simp; omega)
    have e : diffL (l.drop (i - 1)) = (l[i] - l[i - 1]) :: diffL (l.drop i) := by
      rw [dropI hi', show i - 1 + 1 = i by omega, dropI hi, diffL]
    rw [e, show acc ++ (l[i] - l[i - 1]) :: diffL (l.drop i) = acc ++ [l[i] - l[i - 1]] ++ diffL (l.drop i) by rw [List.append_assoc]; rfl]
    rw [show i + 1 - 1 = i by omega] at hs
    exact Ev.step (fun k => by rw [deltacol_differences.l0, if_pos (by omega), if_pos (by omega), hv, if_pos (by omega), if_pos (by omega), if_pos (by omega), rdI hi, rdI hi', hw, w1 (by omega)]) hs
theorem differences_ev (l : List Int) (hb : ∀ x ∈ l, IN60 x) (hl : l.length ≤ 1000000) : Ev (fun k => deltacol_differences.f k l) (diffL l) := by
  cases l with
  | nil => exact Ev.step (fun k => by simp only [deltacol_differences.f]; rw [deltacol_differences.l0, if_neg (by simp)]; rfl) (Ev.now _)
  | cons x r =>
    have h := diff_l0 (x :: r) hb hl r.length 1 [] (by omega) (by simp; omega) (by simp)
    exact h
/-! ## EncodeTimes -/
def tc : Int → List Int → Int
  | _, [] => 0
  | q, x :: r => if x < 1 ∨ 1099511627776 < x then 2 else if x ≤ q then 9 else tc x r
theorem tc_iff : ∀ (l : List Int) (q : Int), 0 ≤ q → (tc q l = 0 ↔ (∀ x ∈ l, 1 ≤ x ∧ x ≤ 1099511627776) ∧ (∀ x ∈ l, q < x) ∧ l.Pairwise (· < ·))
  | [], q, _ => by simp [tc]
  | x :: r, q, hq => by
    rw [tc, List.pairwise_cons]
    by_cases h1 : x < 1 ∨ 1099511627776 < x
    · rw [if_pos h1]
      constructor
      · intro h; omega
      · rintro ⟨h, _⟩; have := h x (by simp); omega
    · rw [if_neg h1]
      by_cases h2 : x ≤ q
      · rw [if_pos h2]
        constructor
        · intro h; omega
        · rintro ⟨_, h, _⟩; have := h x (by simp); omega
      · rw [if_neg h2, tc_iff r x (by omega)]
        constructor
        · rintro ⟨a, b, c⟩
          refine ⟨fun y hy => ?_, fun y hy => ?_, b, c⟩
          · rcases List.mem_cons.1 hy with rfl | hy
            · omega
            · exact a y hy
          · rcases List.mem_cons.1 hy with rfl | hy
            · omega
            · have := b y hy; omega
        · rintro ⟨a, _, b, c⟩
          exact ⟨fun y hy => a y (by simp [hy]), b, c⟩
def timesB (l : List Int) : List Int := if l.length < 2 then encB (l.length : Int) l [] else encB (l.length : Int) [rd l 0, rd (diffL l) 0] (diffL (diffL l))
def prevT (l : List Int) (i : Nat) : Int := if i = 0 then 0 else rd l ((i : Int) - 1)
theorem prevT_succ {l : List Int} {i : Nat} (h : i < l.length) : prevT l (i + 1) = l[i] := by unfold prevT; rw [if_neg (by omega), show ((i + 1 : Nat) : Int) - 1 = (i : Int) by omega, rdI h]
theorem times_l0 (l : List Int) (hl : l.length ≤ 20000) (hv : ∀ x ∈ l, tc 0 l = 0 → 1 ≤ x ∧ x ≤ 1099511627776) : ∀ (d i : Nat), i + d = l.length → (tc (prevT l i) (l.drop i) = 0 → tc 0 l = 0) →
    Ev (fun k => deltacol_EncodeTimes.l0 k l l (l.length : Int) (i : Int)) (if tc (prevT l i) (l.drop i) = 0 then (strOfNums (timesB l), 0) else (⟨#[]⟩, tc (prevT l i) (l.drop i))) := by
  intro d
  induction d with
  | zero =>
    intro i h ht
    rw [List.drop_eq_nil_of_le (by omega), tc, if_pos rfl]
    rw [List.drop_eq_nil_of_le (by omega)] at ht
    have h0 := ht rfl
    have hr : ∀ x ∈ l, 1 ≤ x ∧ x ≤ 1099511627776 := fun x hx => hv x hx h0
    have hb : ∀ x ∈ l, IN60 x := fun x hx => by have := hr x hx; exact ⟨by omega, by omega⟩
    unfold timesB
    by_cases h2 : l.length < 2
    · rw [if_pos h2]
      have he := encoding_ev (l.length : Int) l [] (by omega) (by omega) hb (by simp) (by omega) (by simp)
      exact Ev.step (fun k => by rw [deltacol_EncodeTimes.l0, if_neg (by omega), if_pos (by omega)]) (Ev.bind he (Ev.now _))
    · rw [if_neg h2]
      have hd := diffL_in l hr
      have hdb : ∀ x ∈ diffL l, IN60 x := fun x hx => by have := hd x hx; exact ⟨by omega, by omega⟩
      have hdl := diffL_len l
      have hdd := diffL_in (diffL l) (fun x hx => hd x hx)
      have hddl := diffL_len (diffL l)
      have he := encoding_ev (l.length : Int) [rd l 0, rd (diffL l) 0] (diffL (diffL l)) (by omega) (by omega) (fun x hx => by
        rcases List.mem_cons.1 hx with rfl | hx
        · have := rdI (l := l) (i := 0) (by omega); simp only [Int.ofNat_zero] at this; rw [show (0 : Int) = ((0 : Nat) : Int) from rfl, rdI (show 0 < l.length by omega)]; exact hb _ (List.getElem_mem _)
        · obtain rfl := List.mem_singleton.1 hx
          rw [show (0 : Int) = ((0 : Nat) : Int) from rfl, rdI (show 0 < (diffL l).length by omega)]; exact hdb _ (List.getElem_mem _)) (fun x hx => by have := hdd x hx; exact ⟨by omega, by omega⟩) (by simp) (by omega)
      refine Ev.step (fun k => by rw [deltacol_EncodeTimes.l0, if_neg (by omega), if_neg (by omega)]) ?_
      refine Ev.bind (differences_ev l hb (by omega)) ?_
      refine Ev.congr (fun k => by rw [if_pos (by omega), if_pos (by omega)]) ?_
      refine Ev.bind (differences_ev (diffL l) hdb (by omega)) ?_
      exact Ev.bind he (Ev.now _)
  | succ d ih =>
    intro i h ht
    have hi : i < l.length := by omega
    have hs := ih (i + 1) (by omega)
    rw [prevT_succ hi] at hs
    have j1t : Ev (fun k => deltacol_EncodeTimes.j1 k l (i : Int) l[i] l (l.length : Int) (i : Int) true) (⟨#[]⟩, 2) := Ev.step (fun k => by rw [deltacol_EncodeTimes.j1, if_pos rfl]) (Ev.now _)
    by_cases h1 : l[i] < 1
    · have e : tc (prevT l i) (l.drop i) = 2 := by rw [dropI hi, tc, if_pos (.inl h1)]
      rw [e, if_neg (by decide)]
      exact Ev.step (fun k => by rw [deltacol_EncodeTimes.l0, if_pos (by omega), if_pos (by omega), if_pos (by omega), rdI hi, if_pos h1]) j1t
    · by_cases h2 : 1099511627776 < l[i]
      · have e : tc (prevT l i) (l.drop i) = 2 := by rw [dropI hi, tc, if_pos (.inr h2)]
        rw [e, if_neg (by decide)]
        exact Ev.step (fun k => by rw [deltacol_EncodeTimes.l0, if_pos (by omega), if_pos (by omega), if_pos (by omega), rdI hi, if_neg h1, decide_eq_true h2]) j1t
      · have hn : ¬ (l[i] < 1 ∨ 1099511627776 < l[i]) := by omega
        refine Ev.step (fun k => by rw [deltacol_EncodeTimes.l0, if_pos (by omega), if_pos (by omega), if_pos (by omega), rdI hi, if_neg h1, decide_eq_false h2]) ?_
        by_cases h0 : i = 0
        · subst h0
          have e : tc (prevT l 0) (l.drop 0) = tc l[0] (l.drop (0 + 1)) := by
            rw [dropI hi, tc, if_neg hn, if_neg (show ¬ l[0] ≤ prevT l 0 from by show ¬ l[0] ≤ 0; omega)]
          rw [e] at ht ⊢
          exact Ev.step (fun k => by rw [deltacol_EncodeTimes.j1, if_neg (by decide), if_neg (by omega), w1 (by omega)]) (hs ht)
        · have hv2 : wrap64 ((i : Int) - 1) = ((i - 1 : Nat) : Int) := by unfold wrap64; omega
          have hp : prevT l i = l[i - 1] := by unfold prevT; rw [if_neg h0, show (i : Int) - 1 = ((i - 1 : Nat) : Int) by omega, rdI (by omega)]
          by_cases h3 : l[i] ≤ l[i - 1]
          · have e : tc (prevT l i) (l.drop i) = 9 := by rw [dropI hi, tc, if_neg hn, hp, if_pos h3]
            rw [e, if_neg (by decide)]
            exact Ev.step (fun k => by rw [deltacol_EncodeTimes.j1, if_neg (by decide), if_pos (by omega), hv2, if_pos (by omega), if_pos (by omega), rdI (show i - 1 < l.length by omega), if_pos h3]) (Ev.now _)
          · have e : tc (prevT l i) (l.drop i) = tc l[i] (l.drop (i + 1)) := by rw [dropI hi, tc, if_neg hn, hp, if_neg h3]
            rw [e] at ht ⊢
            exact Ev.step (fun k => by rw [deltacol_EncodeTimes.j1, if_neg (by decide), if_pos (by omega), hv2, if_pos (by omega), if_pos (by omega), rdI (show i - 1 < l.length by omega), if_neg h3, w1 (by omega)]) (hs ht)
/-- Columns of times. -/
def TV (l : List Int) : Prop := l.length ≤ 20000 ∧ (∀ x ∈ l, 1 ≤ x ∧ x ≤ 1099511627776) ∧ l.Pairwise (· < ·)
theorem tv_tc {l : List Int} (hl : l.length ≤ 20000) : tc 0 l = 0 ↔ TV l := by
  rw [tc_iff l 0 (by omega)]
  exact ⟨fun ⟨a, _, c⟩ => ⟨hl, a, c⟩, fun ⟨_, a, c⟩ => ⟨a, fun x hx => by have := a x hx; omega, c⟩⟩
theorem encodeTimes_ok {l : List Int} (h : TV l) : Ev (fun k => deltacol_EncodeTimes.f k l) (strOfNums (timesB l), 0) := by
  have h0 := (tv_tc h.1).2 h
  have hs := times_l0 l h.1 (fun x hx _ => h.2.1 x hx) l.length 0 (by omega) (fun _ => h0)
  rw [List.drop_zero, show prevT l 0 = 0 from rfl, if_pos h0] at hs
  exact Ev.congr (fun k => by rw [deltacol_EncodeTimes.f, if_neg (by have := h.1; omega)]; rfl) hs
theorem encodeTimes_ex (l : List Int) (hl : l.length ≤ 20000) : TV l ∨ ∃ e : Int, e ≠ 0 ∧ Ev (fun k => deltacol_EncodeTimes.f k l) (⟨#[]⟩, e) := by
  by_cases h0 : tc 0 l = 0
  · exact .inl ((tv_tc hl).1 h0)
  · right
    have hs := times_l0 l hl (fun x hx h => absurd h h0) l.length 0 (by omega) (fun h => h)
    rw [List.drop_zero, show prevT l 0 = 0 from rfl, if_neg h0] at hs
    exact ⟨_, h0, Ev.congr (fun k => by rw [deltacol_EncodeTimes.f, if_neg (by omega)]; rfl) hs⟩
/-! ## EncodeValues -/
def VV (l : List Int) : Prop := ∀ x ∈ l, -576460752303423488 ≤ x ∧ x ≤ 576460752303423488
def valuesB (l : List Int) : List Int := encB (l.length : Int) (l.take 1) (diffL l)
theorem values_end {l : List Int} (hl : l.length ≤ 20000) (h : VV l) : Ev (fun k => deltacol_EncodeValues.l0 k l l (l.length : Int) (l.length : Int)) (strOfNums (valuesB l), 0) := by
  have hb : ∀ x ∈ l, IN60 x := fun x hx => by have := h x hx; exact ⟨by omega, by omega⟩
  have hd := diffL_in l h
  have hdl := diffL_len l
  have he := encoding_ev (l.length : Int) (l.take 1) (diffL l) (by omega) (by omega) (fun x hx => hb x (List.mem_of_mem_take hx)) (fun x hx => by have := hd x hx; exact ⟨by omega, by omega⟩) (by rw [List.length_take]; omega) (by omega)
  have hm : l.take (mn (l.length : Int) 1).toNat = l.take 1 := by
    unfold mn
    split
    · rfl
    · rw [List.take_of_length_le (by omega), List.take_of_length_le (by omega)]
  have hm0 : 0 ≤ mn (l.length : Int) 1 := by unfold mn; split <;> omega
  have hm1 : mn (l.length : Int) 1 ≤ (l.length : Int) := by unfold mn; split <;> omega
  refine Ev.step (fun k => by rw [deltacol_EncodeValues.l0, if_neg (by omega), if_pos hm0, if_pos hm1, hm]) ?_
  refine Ev.bind (differences_ev l hb (by omega)) ?_
  exact Ev.bind he (Ev.now _)
theorem values_l0 (l : List Int) (hl : l.length ≤ 20000) : ∀ (d i : Nat), i + d = l.length → ((∀ x ∈ l.take i, -576460752303423488 ≤ x ∧ x ≤ 576460752303423488)) →
    (VV l ∧ Ev (fun k => deltacol_EncodeValues.l0 k l l (l.length : Int) (i : Int)) (strOfNums (valuesB l), 0)) ∨ (¬ VV l ∧ Ev (fun k => deltacol_EncodeValues.l0 k l l (l.length : Int) (i : Int)) (⟨#[]⟩, 2)) := by
  intro d
  induction d with
  | zero =>
    intro i h ht
    obtain rfl : i = l.length := by omega
    rw [List.take_length] at ht
    exact .inl ⟨ht, values_end hl ht⟩
  | succ d ih =>
    intro i h ht
    have hi : i < l.length := by omega
    by_cases h1 : l[i] < -576460752303423488
    · exact .inr ⟨fun hv => by have := hv l[i] (List.getElem_mem hi); omega, Ev.step (fun k => by rw [deltacol_EncodeValues.l0, if_pos (by omega), if_pos (by omega), if_pos (by omega), rdI hi, if_pos h1]) (Ev.now _)⟩
    · by_cases h2 : l[i] > 576460752303423488
      · exact .inr ⟨fun hv => by have := hv l[i] (List.getElem_mem hi); omega, Ev.step (fun k => by rw [deltacol_EncodeValues.l0, if_pos (by omega), if_pos (by omega), if_pos (by omega), rdI hi, if_neg h1, if_pos h2]) (Ev.now _)⟩
      · have st : ∀ k, deltacol_EncodeValues.l0 (k + 1) l l (l.length : Int) (i : Int) = deltacol_EncodeValues.l0 k l l (l.length : Int) ((i + 1 : Nat) : Int) := fun k => by
          rw [deltacol_EncodeValues.l0, if_pos (by omega), if_pos (by omega), if_pos (by omega), rdI hi, if_neg h1, if_neg h2, w1 (by omega)]
        rcases ih (i + 1) (by omega) (fun x hx => by
          rw [List.take_succ_eq_append_getElem hi] at hx
          rcases List.mem_append.1 hx with hx | hx
          · exact ht x hx
          · obtain rfl := List.mem_singleton.1 hx; omega) with ⟨a, b⟩ | ⟨a, b⟩
        · exact .inl ⟨a, Ev.step st b⟩
        · exact .inr ⟨a, Ev.step st b⟩
theorem encodeValues_ex (l : List Int) (hl : l.length ≤ 20000) : (VV l ∧ Ev (fun k => deltacol_EncodeValues.f k l) (strOfNums (valuesB l), 0)) ∨ (¬ VV l ∧ Ev (fun k => deltacol_EncodeValues.f k l) (⟨#[]⟩, 2)) := by
  have st : ∀ k, deltacol_EncodeValues.f k l = deltacol_EncodeValues.l0 k l l (l.length : Int) ((0 : Nat) : Int) := fun k => by rw [deltacol_EncodeValues.f, if_neg (by omega)]; rfl
  rcases values_l0 l hl l.length 0 (by omega) (by simp) with ⟨a, b⟩ | ⟨a, b⟩
  · exact .inl ⟨a, Ev.congr st b⟩
  · exact .inr ⟨a, Ev.congr st b⟩
end Go.Proofs.Ytbihedcjcmcjaaa.DB
end
