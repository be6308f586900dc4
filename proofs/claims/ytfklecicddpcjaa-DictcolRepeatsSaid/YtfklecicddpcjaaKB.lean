/- What the varint functions compute, in plain terms. No condition beyond those in the statements. -/
import Derived.Test.YtfklecicddpcjaaAA
import Derived.Test.YtfklecicddpcjaaWNEv
import Derived.Laws.BitsAllLaws
import Derived.Laws.Bits128
namespace Go.Proofs.Ytfklecicddpcjaa.VB
open Go.RowKit Go.Proofs.Ytfklecicddpcjaa.A Go.Proofs.Ytfklecicddpcjaa.Hand Go.Proofs.YtfklecicddpcjaaW.PrintWords Go.Proofs.YtfklecicddpcjaaW.PrintLast Go.Proofs.YtfklecicddpcjaaW.PrintMore
set_option linter.unusedVariables false
set_option linter.unusedVariables false

/-! ## The bytes of a number -/
/-- The groups of seven bits of a number, the least significant first. -/
def G (n : Nat) : List Int := if n < 128 then [(n : Int)] else ((n % 128 + 128 : Nat) : Int) :: G (n / 128)
termination_by n
decreasing_by omega
theorem G_small {n : Nat} (h : n < 128) : G n = [(n : Int)] := by rw [G, if_pos h]
theorem G_big {n : Nat} (h : 128 ≤ n) : G n = ((n % 128 + 128 : Nat) : Int) :: G (n / 128) := by rw [G, if_neg (by omega)]
theorem G_len : ∀ (k n : Nat), n < 128 ^ (k + 1) → (G n).length ≤ k + 1 := by
  intro k
  induction k with
  | zero => intro n h; rw [G_small (by omega)]; simp
  | succ k ih =>
    intro n h
    by_cases h1 : n < 128
    · rw [G_small h1]; simp
    · rw [G_big (by omega)]
      have := ih (n / 128) (by rw [Nat.pow_succ] at h; omega)
      simp; omega
theorem G_pos (n : Nat) : 1 ≤ (G n).length := by
  by_cases h : n < 128
  · rw [G_small h]; simp
  · rw [G_big (by omega)]; simp
theorem G_byte : ∀ (n : Nat), ∀ b ∈ G n, 0 ≤ b ∧ b ≤ 255 := by
  intro n
  induction n using Nat.strongRecOn with
  | _ n ih =>
    by_cases h : n < 128
    · rw [G_small h]; intro b hb; simp at hb; omega
    · rw [G_big (by omega)]
      intro b hb
      simp only [List.mem_cons] at hb
      rcases hb with rfl | hb
      · omega
      · exact ih (n / 128) (by omega) b hb

theorem and127 (n : Nat) (h : n < 18446744073709551616) : bits .and .u64 (n : Int) 127 = ((n % 128 : Nat) : Int) := by
  have := u64_and_nat n 127 h (by omega)
  rw [nat_mask7] at this
  exact this
theorem ag_l0 : ∀ (k : Nat) (l : List Int) (n : Nat), n < 128 ^ (k + 1) → n < 18446744073709551616 → l.length + k < 140737488355328 → varint_appendGroups.l0 (k + 1) l n = some (l ++ G n) := by
  intro k
  induction k with
  | zero =>
    intro l n h1 h2 h3
    simp only [varint_appendGroups.l0]
    rw [if_neg (by omega), if_pos (by omega), G_small (by omega), show (n : Int) % 256 = n by omega]
  | succ k ih =>
    intro l n h1 h2 h3
    rw [varint_appendGroups.l0]
    by_cases h : n < 128
    · rw [if_neg (by omega), if_pos (by omega), G_small h, show (n : Int) % 256 = n by omega]
    · rw [if_pos (by omega), if_pos (by omega), and127 n h2, show (((n % 128 : Nat) : Int) % 256) = ((n % 128 : Nat) : Int) by omega, u8_or128_right _ (by omega) (by omega),
        show (n : Int) / 128 = ((n / 128 : Nat) : Int) by omega]
      have := ih (l ++ [((n % 128 : Nat) : Int) + 128]) (n / 128) (by rw [Nat.pow_succ] at h1; omega) (by omega) (by simp; omega)
      rw [this, G_big (n := n) (by omega)]
      simp
theorem ag_ev (l : List Int) (n : Nat) (hn : n < 18446744073709551616) (hl : l.length ≤ 140737488350000) : Ev (fun k => varint_appendGroups.f k l n) (l ++ G n) :=
  Ev.of (k := 10) (fun k => varint_appendGroups.mono l n k) (ag_l0 9 l n (by omega) hn (by omega))
theorem put_l0 : ∀ (k : Nat) (n : Nat) (l : List Int), n < 128 ^ (k + 1) → n < 9223372036854775808 → l.length + k < 140737488355328 → lookoutref01_put.l0 (k + 1) n l = some (strOfNums (l ++ G n)) := by
  intro k
  induction k with
  | zero =>
    intro n l h1 h2 h3
    simp only [lookoutref01_put.l0]
    rw [if_neg (by omega), if_pos (by omega), G_small (by omega), show (n : Int) % 256 = n by omega]
  | succ k ih =>
    intro n l h1 h2 h3
    rw [lookoutref01_put.l0]
    by_cases h : n < 128
    · rw [if_neg (by omega), if_pos (by omega), G_small h, show (n : Int) % 256 = n by omega]
    · have e1 : Int.tdiv (n : Int) 128 = ((n / 128 : Nat) : Int) := by rw [Int.tdiv_eq_ediv_of_nonneg (by omega)]; omega
      have e2 : Int.tmod (n : Int) 128 = ((n % 128 : Nat) : Int) := by rw [Int.tmod_eq_emod_of_nonneg (by omega)]; omega
      have e3 : wrap64 ((n / 128 : Nat) : Int) = ((n / 128 : Nat) : Int) := by unfold wrap64; omega
      have e4 : (wrap64 (((n % 128 : Nat) : Int) + 128)) % 256 = ((n % 128 : Nat) : Int) + 128 := by unfold wrap64; omega
      rw [if_pos (by omega), if_pos (by omega), e1, e2, e3, e4]
      have := ih (n / 128) (l ++ [((n % 128 : Nat) : Int) + 128]) (by rw [Nat.pow_succ] at h1; omega) (by omega) (by simp; omega)
      rw [this, G_big (n := n) (by omega)]
      simp
theorem put_ev (n : Nat) (hn : n < 9223372036854775808) : Ev (fun k => lookoutref01_put.f k n) (strOfNums (G n)) :=
  Ev.of (k := 10) (fun k => lookoutref01_put.mono n k) (by have := put_l0 9 n [] (by omega) hn (by simp); rw [List.nil_append] at this; exact this)

/-! ## Appending -/
/-- The number that stands for a signed one. -/
def zig (n : Int) : Nat := if 0 ≤ n then (2 * n).toNat else (-2 * n - 1).toNat
theorem zig_lt {n : Int} (h1 : -1152921504606846976 ≤ n) (h2 : n ≤ 1152921504606846976) : zig n ≤ 2305843009213693952 := by unfold zig; split <;> omega
def AP (s : ByteArray) (n : Int) : ByteArray × Int := if n < 0 ∨ 1152921504606846976 < n then (⟨#[]⟩, 2) else (s ++ strOfNums (G n.toNat), 0)
theorem G_len9 {n : Nat} (h : n < 9223372036854775808) : (G n).length ≤ 9 := G_len 8 n (by omega)
theorem append_ev (s : ByteArray) (n : Int) (hs : s.size ≤ 4611686018427387904) : Ev (fun k => varint_Append.f k s n) (AP s n) := by
  unfold AP
  by_cases h1 : n < 0
  · rw [if_pos (.inl h1)]
    simp only [varint_Append.f, if_pos h1]; exact Ev.now _
  · by_cases h2 : 1152921504606846976 < n
    · rw [if_pos (.inr h2)]
      simp only [varint_Append.f, if_neg h1, gt_iff_lt, if_pos h2]; exact Ev.now _
    · rw [if_neg (by omega)]
      have e : IntKind.u64.wrap n = ((n.toNat : Nat) : Int) := by rw [IntKind.wrap_u64]; omega
      simp only [varint_Append.f, if_neg h1, gt_iff_lt, if_neg h2, e]; refine Ev.bind (ag_ev [] n.toNat (by omega) (by simp)) ?_
      have := G_len9 (n := n.toNat) (by omega)
      rw [List.nil_append]; simp only [if_pos (show s.size + (strOfNums (G n.toNat)).size ≤ 9223372036854775807 from by rw [strOfNums_size]; omega)]; exact Ev.now _
theorem appendRef_ev (s : ByteArray) (n : Int) (hs : s.size ≤ 4611686018427387904) : Ev (fun k => lookoutref01_Append.f k s n) (AP s n) := by
  unfold AP
  by_cases h1 : n < 0
  · rw [if_pos (.inl h1)]
    simp only [lookoutref01_Append.f, if_pos h1]; exact Ev.now _
  · by_cases h2 : 1152921504606846976 < n
    · rw [if_pos (.inr h2)]
      simp only [lookoutref01_Append.f, if_neg h1, gt_iff_lt, if_pos h2]; exact Ev.now _
    · rw [if_neg (by omega)]
      have e : n = ((n.toNat : Nat) : Int) := by omega
      have := G_len9 (n := n.toNat) (by omega)
      simp only [lookoutref01_Append.f, if_neg h1, gt_iff_lt, if_neg h2]; refine (Ev.bind (a := strOfNums (G n.toNat)) (by have := put_ev n.toNat (by omega); rwa [← e] at this) ?_)
      simp only [if_pos (show s.size + (strOfNums (G n.toNat)).size ≤ 9223372036854775807 from by rw [strOfNums_size]; omega)]; exact Ev.now _
theorem G_one (n : Nat) : (G n).length = 1 ↔ n < 128 := by
  by_cases h : n < 128
  · rw [G_small h]; simp [h]
  · rw [G_big (n := n) (by omega)]
    have := G_pos (n / 128)
    simp only [List.length_cons]
    omega
theorem G_mono' : ∀ (n m : Nat), m ≤ n → (G m).length ≤ (G n).length := by
  intro n
  induction n using Nat.strongRecOn with
  | _ n ih =>
    intro m h
    by_cases h1 : m < 128
    · rw [G_small h1]; have := G_pos n; simpa using this
    · rw [G_big (n := m) (by omega), G_big (n := n) (by omega)]
      have := ih (n / 128) (by omega) (m / 128) (by omega)
      simpa using this
theorem G_mono {m n : Nat} (h : m ≤ n) : (G m).length ≤ (G n).length := G_mono' n m h
theorem p128_le {i j : Nat} (h : i ≤ j) : (128 : Int) ^ i ≤ 128 ^ j := by
  have := Nat.pow_le_pow_right (n := 128) (by omega) h
  exact_mod_cast this
/-- What is read at the head of a list of bytes, from place i on, with the number n so far. -/
def RL : Nat → Int → List Int → Int × Int × Int
  | _, _, [] => (0, 0, 11)
  | i, n, b :: t =>
    if 9 ≤ i then (0, 0, 11)
    else if (128 ≤ b ∧ i = 8) ∨ (b = 0 ∧ 0 < i) then (0, 0, 12)
    else if b < 128 then (n + b * 128 ^ i, (i : Int) + 1, 0)
    else RL (i + 1) (n + (b - 128) * 128 ^ i) t
theorem bytes_drop (s : ByteArray) {i : Nat} (h : i < s.size) : (bytesOf s).drop i = bt s i :: (bytesOf s).drop (i + 1) := by
  have hl : i < (bytesOf s).length := by rw [bytesOf_length]; exact h
  rw [List.drop_eq_getElem_cons hl]
  congr 1
  have := rd_bytesOf s i
  unfold rd at this
  rw [← this, Int.toNat_natCast, List.getD_eq_getElem?_getD, List.getElem?_eq_getElem hl]
  rfl
theorem bytes_end (s : ByteArray) {i : Nat} (h : s.size ≤ i) : (bytesOf s).drop i = [] := by
  apply List.drop_eq_nil_of_le; rw [bytesOf_length]; exact h
theorem bytes_in (s : ByteArray) : ∀ b ∈ bytesOf s, 0 ≤ b ∧ b ≤ 255 := by
  intro b hb
  simp only [bytesOf, List.mem_map] at hb
  obtain ⟨x, _, rfl⟩ := hb
  have := x.toNat_lt
  omega
theorem readFrom_is (s : ByteArray) : ∀ (d i : Nat) (n : Int), i + d = 9 → readFrom s d i n = RL i n ((bytesOf s).drop i) := by
  intro d
  induction d with
  | zero =>
    intro i n h
    obtain rfl : i = 9 := by omega
    cases hd : (bytesOf s).drop 9 with
    | nil => rfl
    | cons b t => simp [readFrom, RL]
  | succ d ih =>
    intro i n h
    simp only [readFrom]
    by_cases hs : i < s.size
    · rw [if_pos hs, bytes_drop s hs]
      simp only [RL]
      rw [if_neg (by omega : ¬ 9 ≤ i)]
      split
      · rfl
      · split
        · rfl
        · exact ih (i + 1) _ (by omega)
    · rw [if_neg hs, bytes_end s (by omega)]
      rfl
/-- What is known of a number that is read. -/
theorem RL_ok : ∀ (l : List Int) (i : Nat) (n : Int), (∀ b ∈ l, 0 ≤ b ∧ b ≤ 255) → 0 ≤ n → n < 128 ^ i → i ≤ 9 →
    (RL i n l).2.2 = 0 → 0 ≤ (RL i n l).1 ∧ (RL i n l).1 < 128 ^ 9 ∧ (i : Int) < (RL i n l).2.1 ∧ (RL i n l).2.1 ≤ i + l.length := by
  intro l
  induction l with
  | nil => intro i n _ _ _ _ h; simp [RL] at h
  | cons b t ih =>
    intro i n hb h0 h1 h9
    have hb0 := hb b (by simp)
    simp only [RL]
    split
    · intro h; simp at h
    · rename_i hi
      split
      · intro h; simp at h
      · rename_i hc
        have hp : (0 : Int) < 128 ^ i := Int.pow_pos (by omega)
        have e1 : (128 : Int) ^ (i + 1) = 128 ^ i + 127 * 128 ^ i := by rw [Int.pow_succ]; omega
        have hle : (128 : Int) ^ (i + 1) ≤ 128 ^ 9 := p128_le (by omega)
        split
        · rename_i hl
          intro _
          have h2 : 0 ≤ b * 128 ^ i := Int.mul_nonneg hb0.1 (by omega)
          have h3 : b * 128 ^ i ≤ 127 * 128 ^ i := Int.mul_le_mul_of_nonneg_right (by omega) (by omega)
          refine ⟨by simp only; omega, by simp only; omega, by simp only; omega, by simp only [List.length_cons]; omega⟩
        · rename_i hl
          intro h
          have h2 : 0 ≤ (b - 128) * 128 ^ i := Int.mul_nonneg (by omega) (by omega)
          have h3 : (b - 128) * 128 ^ i ≤ 127 * 128 ^ i := Int.mul_le_mul_of_nonneg_right (by omega) (by omega)
          have := ih (i + 1) (n + (b - 128) * 128 ^ i) (fun x hx => hb x (by simp [hx])) (by omega) (by omega) (by omega) h
          simp only [List.length_cons]
          omega
theorem RL_err : ∀ (l : List Int) (i : Nat) (n : Int), (RL i n l).2.2 ≠ 0 → RL i n l = (0, 0, (RL i n l).2.2) := by
  intro l
  induction l with
  | nil => intro i n _; rfl
  | cons b t ih =>
    intro i n
    simp only [RL]
    split
    · intro _; rfl
    · split
      · intro _; rfl
      · split
        · intro h; simp at h
        · exact ih _ _
/-- The reference's reading: numbers beyond 2^61 are none. -/
def GT (r : Int × Int × Int) : Int × Int × Int := if r.2.2 = 0 ∧ 2305843009213693952 < r.1 then (0, 0, 12) else r
theorem shl_is {c : Int} {i : Nat} (h0 : 0 ≤ c) (h1 : c < 128) (hi : i ≤ 8) : shl .i64 c (7 * (i : Int)) = c * 128 ^ i := by
  unfold shl
  have e : min (7 * (i : Int)).toNat IntKind.i64.bits = 7 * i := by simp [IntKind.bits]; omega
  rw [e, Int.pow_mul]
  have h8 : (128 : Int) ^ i ≤ 128 ^ 8 := p128_le (by omega)
  have hp : (0 : Int) < 128 ^ i := Int.pow_pos (by omega)
  have h2 : c * 128 ^ i ≤ 127 * 128 ^ i := Int.mul_le_mul_of_nonneg_right (by omega) (by omega)
  have h3 : 0 ≤ c * 128 ^ i := Int.mul_nonneg h0 (by omega)
  show IntKind.i64.wrap (c * 128 ^ i) = _
  exact IntWalk.i64_in _ (by omega)
theorem get_step (s : ByteArray) (_hs : s.size ≤ 140737488351232) (i : Nat) (n : Int) (hi : i ≤ 8) (h0 : 0 ≤ n) (h1 : n < 128 ^ i) (k : Nat) :
    lookoutref01_get.l0 (k + 2) s n i = if i < s.size then
      (if (128 ≤ bt s i ∧ i = 8) ∨ (bt s i = 0 ∧ 0 < i) then some (0, 0, 12)
       else if bt s i < 128 then (if 2305843009213693952 < n + bt s i * 128 ^ i then some (0, 0, 12) else some (n + bt s i * 128 ^ i, (i : Int) + 1, 0))
       else lookoutref01_get.l0 k s (n + (bt s i - 128) * 128 ^ i) ((i + 1 : Nat) : Int)) else some (0, 0, 11) := by
  obtain ⟨b0, b1⟩ := bt_range s i
  have hp : (0 : Int) < 128 ^ i := Int.pow_pos (by omega)
  have e1 : (128 : Int) ^ (i + 1) = 128 ^ i + 127 * 128 ^ i := by rw [Int.pow_succ]; omega
  have hle : (128 : Int) ^ (i + 1) ≤ 128 ^ 9 := p128_le (by omega)
  have w1 : wrap64 (bt s i) = bt s i := by unfold wrap64; omega
  have w2 : wrap64 (7 * (i : Int)) = 7 * (i : Int) := by unfold wrap64; omega
  have w3 : wrap64 ((i : Int) + 1) = (i : Int) + 1 := by unfold wrap64; omega
  have w4 : Int.tmod (bt s i) 128 = bt s i % 128 := Int.tmod_eq_emod_of_nonneg b0
  simp only [lookoutref01_get.l0]
  by_cases hlt : i < s.size
  · rw [if_neg (by omega), if_pos (by omega), if_pos (by omega), if_pos hlt]
    simp only [w1]
    by_cases hb : 128 ≤ bt s i
    · have hm : bt s i % 128 = bt s i - 128 := by omega
      have h2 : 0 ≤ (bt s i - 128) * 128 ^ i := Int.mul_nonneg (by omega) (by omega)
      have h3 : (bt s i - 128) * 128 ^ i ≤ 127 * 128 ^ i := Int.mul_le_mul_of_nonneg_right (by omega) (by omega)
      have w5 : wrap64 (n + (bt s i - 128) * 128 ^ i) = n + (bt s i - 128) * 128 ^ i := by unfold wrap64; omega
      have w6 : shl .i64 (bt s i - 128) (7 * (i : Int)) = (bt s i - 128) * 128 ^ i := shl_is (by omega) (by omega) hi
      by_cases h8 : i = 8
      · subst h8
        rw [if_pos (show ((8 : Nat) : Int) = 8 from rfl), if_pos (.inl ⟨hb, rfl⟩)]
        simp only [lookoutref01_get.j1]
        rw [if_pos (by simp; omega)]
      · rw [if_neg (by omega), if_neg (by omega), if_neg (by omega)]
        simp only [lookoutref01_get.j1, w2, w3, w4, hm, w6, w5]
        rw [if_neg (by simp), if_pos (by omega), if_pos (by omega)]
        rfl
    · have hm : bt s i % 128 = bt s i := by omega
      have h2 : 0 ≤ bt s i * 128 ^ i := Int.mul_nonneg (by omega) (by omega)
      have h3 : bt s i * 128 ^ i ≤ 127 * 128 ^ i := Int.mul_le_mul_of_nonneg_right (by omega) (by omega)
      have w5 : wrap64 (n + bt s i * 128 ^ i) = n + bt s i * 128 ^ i := by unfold wrap64; omega
      have w6 : shl .i64 (bt s i) (7 * (i : Int)) = bt s i * 128 ^ i := shl_is (by omega) (by omega) hi
      have hj : lookoutref01_get.j1 (k + 1) s n i (bt s i) false = (if bt s i = 0 ∧ 0 < i then some (0, 0, 12) else if 2305843009213693952 < n + bt s i * 128 ^ i then some (0, 0, 12) else some (n + bt s i * 128 ^ i, (i : Int) + 1, 0)) := by
        simp only [lookoutref01_get.j1, w2, w3, w4, hm, w6, w5]
        rw [if_neg (by simp), if_pos (by omega), if_neg (by omega)]
        by_cases hi0 : 0 < i
        · rw [if_pos (by omega)]
          by_cases hz : bt s i = 0
          · rw [if_pos hz, if_pos ⟨hz, hi0⟩]
          · rw [if_neg hz, if_neg (show ¬ (bt s i = 0 ∧ 0 < i) from fun h => hz h.1)]
        · rw [if_neg (by omega), if_neg (show ¬ (bt s i = 0 ∧ 0 < i) from fun h => hi0 h.2)]
      have e2 : (if (i : Int) = 8 then lookoutref01_get.j1 (k + 1) s n i (bt s i) (decide (bt s i ≥ 128)) else lookoutref01_get.j1 (k + 1) s n i (bt s i) false) = lookoutref01_get.j1 (k + 1) s n i (bt s i) false := by
        rw [decide_eq_false (by omega), ite_self]
      rw [e2, hj]
      by_cases hc : bt s i = 0 ∧ 0 < i
      · rw [if_pos hc, if_pos (.inr hc)]
      · rw [if_neg hc, if_neg (show ¬ ((128 ≤ bt s i ∧ i = 8) ∨ (bt s i = 0 ∧ 0 < i)) by omega), if_pos (show bt s i < 128 by omega)]
  · rw [if_pos (by omega), if_neg hlt]
theorem get_l0 (s : ByteArray) (hs : s.size ≤ 140737488351232) : ∀ (d i : Nat) (n : Int), i + d = 8 → 0 ≤ n → n < 128 ^ i → ∀ k, 2 * d + 2 ≤ k →
    lookoutref01_get.l0 k s n i = some (GT (RL i n ((bytesOf s).drop i))) := by
  intro d
  induction d with
  | zero =>
    intro i n h h0 h1 k hk
    have hi8 : i = 8 := by omega
    obtain ⟨k, rfl⟩ : ∃ m, k = m + 2 := ⟨k - 2, by omega⟩
    rw [get_step s hs i n (by omega) h0 h1]
    by_cases hlt : i < s.size
    · rw [if_pos hlt, bytes_drop s hlt]
      simp only [RL, if_neg (show ¬ 9 ≤ i by omega)]
      by_cases hc : (128 ≤ bt s i ∧ i = 8) ∨ (bt s i = 0 ∧ 0 < i)
      · simp only [if_pos hc]; rfl
      · have hb : bt s i < 128 := by omega
        simp only [if_neg hc, if_pos hb]
        unfold GT
        by_cases hg : 2305843009213693952 < n + bt s i * 128 ^ i
        · rw [if_pos hg, if_pos ⟨rfl, hg⟩]
        · rw [if_neg hg, if_neg (by intro h; exact hg h.2)]
    · rw [if_neg hlt, bytes_end s (by omega)]; rfl
  | succ d ih =>
    intro i n h h0 h1 k hk
    obtain ⟨k, rfl⟩ : ∃ m, k = m + 2 := ⟨k - 2, by omega⟩
    rw [get_step s hs i n (by omega) h0 h1]
    by_cases hlt : i < s.size
    · rw [if_pos hlt, bytes_drop s hlt]
      simp only [RL, if_neg (show ¬ 9 ≤ i by omega)]
      by_cases hc : (128 ≤ bt s i ∧ i = 8) ∨ (bt s i = 0 ∧ 0 < i)
      · simp only [if_pos hc]; rfl
      · simp only [if_neg hc]
        by_cases hb : bt s i < 128
        · simp only [if_pos hb]
          unfold GT
          by_cases hg : 2305843009213693952 < n + bt s i * 128 ^ i
          · rw [if_pos hg, if_pos ⟨rfl, hg⟩]
          · rw [if_neg hg, if_neg (by intro h; exact hg h.2)]
        · simp only [if_neg hb]
          obtain ⟨b0, b1⟩ := bt_range s i
          have hp : (0 : Int) < 128 ^ i := Int.pow_pos (by omega)
          have e1 : (128 : Int) ^ (i + 1) = 128 ^ i + 127 * 128 ^ i := by rw [Int.pow_succ]; omega
          have h2 : 0 ≤ (bt s i - 128) * 128 ^ i := Int.mul_nonneg (by omega) (by omega)
          have h3 : (bt s i - 128) * 128 ^ i ≤ 127 * 128 ^ i := Int.mul_le_mul_of_nonneg_right (by omega) (by omega)
          exact ih (i + 1) _ (by omega) (by omega) (by omega) k (by omega)
    · rw [if_neg hlt, bytes_end s (by omega)]; rfl
theorem get_is (s : ByteArray) (hs : s.size ≤ 140737488351232) {k : Nat} (hk : 18 ≤ k) : lookoutref01_get.f k s = some (GT (RL 0 0 (bytesOf s))) := by
  have := get_l0 s hs 8 0 0 rfl (by omega) (by omega) k (by omega)
  simpa [lookoutref01_get.f] using this

/-! ## Read and ReadSigned -/
def RD (l : List Int) : Int × Int × Int := if (RL 0 0 l).2.2 = 0 ∧ 1152921504606846976 < (RL 0 0 l).1 then (0, 0, 12) else RL 0 0 l
/-- The signed number for which a number stands. -/
def unzig (u : Int) : Int := if u % 2 = 0 then u / 2 else -(u / 2) - 1
theorem RL_ok0 (l : List Int) (hb : ∀ b ∈ l, 0 ≤ b ∧ b ≤ 255) (h : (RL 0 0 l).2.2 = 0) : 0 ≤ (RL 0 0 l).1 ∧ (RL 0 0 l).1 < 9223372036854775808 ∧ 0 < (RL 0 0 l).2.1 ∧ (RL 0 0 l).2.1 ≤ l.length := by
  have := RL_ok l 0 0 hb (by omega) (by omega) (by omega) h
  simpa using this
theorem RL_err0 (l : List Int) {v c e : Int} (h : RL 0 0 l = (v, c, e)) (he : e ≠ 0) : v = 0 ∧ c = 0 := by
  have := RL_err l 0 0 (by rw [h]; exact he)
  rw [h] at this
  simp only [Prod.mk.injEq] at this
  omega
theorem RL_ok1 (l : List Int) (hb : ∀ b ∈ l, 0 ≤ b ∧ b ≤ 255) {v c : Int} (h : RL 0 0 l = (v, c, 0)) : 0 ≤ v ∧ v < 9223372036854775808 ∧ 0 < c ∧ c ≤ l.length := by
  have := RL_ok0 l hb (by rw [h])
  rw [h] at this
  exact this
theorem read_is (s : ByteArray) : varint_Read.f s = some (RD (bytesOf s)) := by
  unfold varint_Read.f varint_read.f RD
  rw [readFrom_is s 9 0 0 rfl, List.drop_zero, Option.bind_some]
  obtain ⟨v, c, e, hr⟩ : ∃ v c e, RL 0 0 (bytesOf s) = (v, c, e) := ⟨_, _, _, rfl⟩
  rw [hr]
  dsimp only
  by_cases h : e = 0
  · subst h
    have := RL_ok1 _ (bytes_in s) hr
    rw [if_pos rfl]
    by_cases hg : 1152921504606846976 < v
    · rw [if_pos hg, if_pos ⟨rfl, hg⟩]
    · rw [if_neg hg, if_neg (fun h => hg h.2), show wrap64 v = v by unfold wrap64; omega]
  · obtain ⟨rfl, rfl⟩ := RL_err0 _ hr h
    rw [if_neg h, if_neg (fun h' => h h'.1)]
theorem readRef_is (s : ByteArray) (hs : s.size ≤ 140737488351232) {k : Nat} (hk : 18 ≤ k) : lookoutref01_Read.f k s = some (RD (bytesOf s)) := by
  unfold lookoutref01_Read.f RD
  rw [get_is s hs hk, Option.bind_some]
  unfold GT
  obtain ⟨v, c, e, hr⟩ : ∃ v c e, RL 0 0 (bytesOf s) = (v, c, e) := ⟨_, _, _, rfl⟩
  rw [hr]
  dsimp only
  by_cases h : e = 0
  · subst h
    by_cases hg : 2305843009213693952 < v
    · simp only [hg, and_self, if_true]
      rw [if_pos (⟨trivial, by omega⟩ : True ∧ 1152921504606846976 < v)]
      rfl
    · simp only [hg, and_false, if_false, if_true, true_and]
      split <;> rfl
  · simp only [h, false_and, if_false]
theorem unzig_in {u : Int} (h0 : 0 ≤ u) : (-1152921504606846976 ≤ unzig u ∧ unzig u ≤ 1152921504606846976) ↔ u ≤ 2305843009213693952 := by
  unfold unzig; split <;> omega

/-! ## Strings as lists of bytes -/
theorem bytesOf_inj {a b : ByteArray} (h : bytesOf a = bytesOf b) : a = b := by
  unfold bytesOf at h
  have h2 : a.data.toList = b.data.toList := by
    apply List.map_inj_right (f := fun x : UInt8 => (x.toNat : Int)) (fun x y hxy => by
      have : x.toNat = y.toNat := by exact_mod_cast hxy
      exact UInt8.toNat_inj.1 this) |>.1 h
  exact ByteArray.ext (Array.toList_inj.1 h2)
theorem bytesOf_append (a b : ByteArray) : bytesOf (a ++ b) = bytesOf a ++ bytesOf b := by simp [bytesOf, ByteArray.data_append]
theorem bytesOf_extract (s : ByteArray) (a b : Nat) : bytesOf (s.extract a b) = ((bytesOf s).drop a).take (b - a) := by
  simp [bytesOf, ByteArray.data_extract, List.map_drop, List.map_take]
theorem bytesOf_from (s : ByteArray) (a : Nat) : bytesOf (s.extract a s.size) = (bytesOf s).drop a := by
  rw [bytesOf_extract, List.take_of_length_le (by rw [List.length_drop, bytesOf_length]; omega)]
theorem bytesOf_nums {l : List Int} (h : ∀ b ∈ l, 0 ≤ b ∧ b ≤ 255) : bytesOf (strOfNums l) = l := by
  unfold bytesOf
  rw [strOfNums_data, List.map_map]
  conv => rhs; rw [← List.map_id l]
  apply List.map_congr_left
  intro b hb
  have := h b hb
  simp only [Function.comp_apply, id_eq]
  rw [UInt8.toNat_ofNat']
  omega
theorem bytesOf_empty : bytesOf (⟨#[]⟩ : ByteArray) = [] := rfl
theorem strOfNums_append (a b : List Int) : strOfNums (a ++ b) = strOfNums a ++ strOfNums b := by
  apply ByteArray.ext
  simp [strOfNums, ByteArray.data_append]
theorem empty_append (s : ByteArray) : (⟨#[]⟩ : ByteArray) ++ s = s := by apply bytesOf_inj; rw [bytesOf_append, bytesOf_empty, List.nil_append]

/-! ## One number -/
theorem RL_round : ∀ (m i : Nat) (n : Int) (rest : List Int), i ≤ 8 → m < 128 ^ (9 - i) → (0 < i → 0 < m) → RL i n (G m ++ rest) = (n + m * 128 ^ i, (i : Int) + (G m).length, 0) := by
  intro m
  induction m using Nat.strongRecOn with
  | _ m ih =>
    intro i n rest hi hm hp
    by_cases h : m < 128
    · rw [G_small h]
      simp only [List.cons_append, List.nil_append, RL, if_neg (show ¬ 9 ≤ i by omega), if_neg (show ¬ ((128 ≤ (m : Int) ∧ i = 8) ∨ ((m : Int) = 0 ∧ 0 < i)) by omega), if_pos (show (m : Int) < 128 by omega)]
      rfl
    · rw [G_big (n := m) (by omega)]
      have h8 : i ≠ 8 := by intro e; subst e; simp at hm; omega
      have e1 : (((m % 128 + 128 : Nat) : Int) - 128) = ((m % 128 : Nat) : Int) := by omega
      simp only [List.cons_append, RL, if_neg (show ¬ 9 ≤ i by omega), if_neg (show ¬ ((128 ≤ ((m % 128 + 128 : Nat) : Int) ∧ i = 8) ∨ (((m % 128 + 128 : Nat) : Int) = 0 ∧ 0 < i)) by omega), if_neg (show ¬ ((m % 128 + 128 : Nat) : Int) < 128 by omega), e1]
      have e2 : 9 - i = (9 - (i + 1)) + 1 := by omega
      rw [e2, Nat.pow_succ] at hm
      rw [ih (m / 128) (by omega) (i + 1) _ rest (by omega) (by omega) (by omega)]
      have e3 : (m : Int) = ((m % 128 : Nat) : Int) + 128 * ((m / 128 : Nat) : Int) := by omega
      have e4 : n + ((m % 128 : Nat) : Int) * 128 ^ i + ((m / 128 : Nat) : Int) * 128 ^ (i + 1) = n + (m : Int) * 128 ^ i := by
        conv => rhs; rw [e3]
        rw [Int.pow_succ, Int.add_mul, Int.mul_comm (128 ^ i) 128, ← Int.mul_assoc, Int.mul_comm ((m / 128 : Nat) : Int) 128, Int.add_assoc]
      rw [e4]
      simp only [List.length_cons, Prod.mk.injEq, true_and, and_true]
      omega
theorem RL_cut : ∀ (m i : Nat) (n : Int) (j : Nat), i ≤ 8 → m < 128 ^ (9 - i) → j < (G m).length → RL i n ((G m).take j) = (0, 0, 11) := by
  intro m
  induction m using Nat.strongRecOn with
  | _ m ih =>
    intro i n j hi hm hj
    cases j with
    | zero => rw [List.take_zero]; cases i <;> rfl
    | succ j =>
      by_cases h : m < 128
      · rw [G_small h] at hj; simp at hj
      · rw [G_big (n := m) (by omega)] at hj ⊢
        have h8 : i ≠ 8 := by intro e; subst e; simp at hm; omega
        simp only [List.take_succ_cons, RL, if_neg (show ¬ 9 ≤ i by omega), if_neg (show ¬ ((128 ≤ ((m % 128 + 128 : Nat) : Int) ∧ i = 8) ∨ (((m % 128 + 128 : Nat) : Int) = 0 ∧ 0 < i)) by omega), if_neg (show ¬ ((m % 128 + 128 : Nat) : Int) < 128 by omega)]
        have e2 : 9 - i = (9 - (i + 1)) + 1 := by omega
        rw [e2, Nat.pow_succ] at hm
        simp only [List.length_cons] at hj
        exact ih (m / 128) (by omega) (i + 1) _ j (by omega) (by omega) (by omega)
theorem mulfact (p n b m : Int) : n + (b - 128) * p + m * (p * 128) = n + (128 * m + (b - 128)) * p := by
  rw [Int.add_mul, Int.mul_comm p 128, ← Int.mul_assoc m, Int.mul_comm m 128]
  omega
theorem RL_canon : ∀ (l : List Int) (i : Nat) (n v c : Int), (∀ b ∈ l, 0 ≤ b ∧ b ≤ 255) → RL i n l = (v, c, 0) →
    ∃ (m : Nat) (rest : List Int), l = G m ++ rest ∧ v = n + m * 128 ^ i ∧ c = (i : Int) + (G m).length ∧ (0 < i → 0 < m) := by
  intro l
  induction l with
  | nil => intro i n v c _ h; simp [RL] at h
  | cons b t ih =>
    intro i n v c hb h
    have hb0 := hb b (by simp)
    simp only [RL] at h
    split at h
    · simp at h
    · split at h
      · simp at h
      · rename_i hc
        split at h
        · rename_i hl
          simp only [Prod.mk.injEq, and_true] at h
          refine ⟨b.toNat, t, ?_, ?_, ?_, by omega⟩
          · rw [G_small (by omega), show ((b.toNat : Nat) : Int) = b by omega]; rfl
          · rw [show ((b.toNat : Nat) : Int) = b by omega]; exact h.1.symm
          · rw [G_small (by omega), ← h.2]; rfl
        · rename_i hl
          obtain ⟨m, rest, rfl, hv, hk, hm⟩ := ih (i + 1) _ v c (fun x hx => hb x (by simp [hx])) h
          have hm0 := hm (by omega)
          obtain ⟨q, hq⟩ : ∃ q, q = 128 * m + (b.toNat - 128) := ⟨_, rfl⟩
          have e1 : q % 128 = b.toNat - 128 := by omega
          have e2 : q / 128 = m := by omega
          have e3 : (q : Int) = 128 * (m : Int) + (b - 128) := by omega
          have e4 : G q = b :: G m := by
            rw [G_big (n := q) (by omega), e1, e2]
            congr 1
            omega
          refine ⟨q, rest, by rw [e4]; rfl, ?_, ?_, by omega⟩
          · rw [hv, Int.pow_succ, e3]
            exact mulfact _ _ _ _
          · rw [hk, e4]
            simp only [List.length_cons]
            omega
theorem zig_unzig {u : Int} (h : 0 ≤ u) : (zig (unzig u) : Int) = u := by unfold zig unzig; split <;> split <;> omega
theorem unzig_zig {n : Int} : unzig (zig n) = n := by unfold zig unzig; split <;> split <;> omega
theorem RD_round (n : Nat) (rest : List Int) (h2 : n ≤ 1152921504606846976) : RD (G n ++ rest) = ((n : Int), ((G n).length : Int), 0) := by
  have := RL_round n 0 0 rest (by omega) (by omega) (by omega)
  unfold RD
  rw [this]
  simp only [Int.pow_zero, Int.mul_one, Int.zero_add, true_and]
  rw [if_neg (by omega)]
  simp
theorem RD_canon {l : List Int} {v c : Int} (hb : ∀ b ∈ l, 0 ≤ b ∧ b ≤ 255) (h : RD l = (v, c, 0)) : ∃ rest, l = G v.toNat ++ rest ∧ c = (G v.toNat).length ∧ 0 ≤ v ∧ v ≤ 1152921504606846976 := by
  obtain ⟨u, d, e, hr⟩ : ∃ u d e, RL 0 0 l = (u, d, e) := ⟨_, _, _, rfl⟩
  unfold RD at h
  rw [hr] at h
  dsimp only at h
  split at h
  · simp at h
  · rename_i hn
    simp only [Prod.mk.injEq] at h
    obtain ⟨rfl, rfl, rfl⟩ := h
    obtain ⟨m, rest, rfl, hv, hk, _⟩ := RL_canon l 0 0 u d hb hr
    simp only [Int.pow_zero, Int.mul_one, Int.zero_add] at hv
    have hm : u.toNat = m := by omega
    exact ⟨rest, by rw [hm], by rw [hm]; omega, by omega, by omega⟩
theorem RD_cut (n j : Nat) (h2 : n ≤ 1152921504606846976) (hj : j < (G n).length) : RD ((G n).take j) = (0, 0, 11) := by
  unfold RD
  rw [RL_cut n 0 0 j (by omega) (by omega) hj]
  rfl
theorem RD_err {l : List Int} (h : (RD l).2.2 ≠ 0) : RD l = (0, 0, (RD l).2.2) := by
  obtain ⟨u, d, e, hr⟩ : ∃ u d e, RL 0 0 l = (u, d, e) := ⟨_, _, _, rfl⟩
  unfold RD at h ⊢
  rw [hr] at h ⊢
  dsimp only at h ⊢
  split
  · rfl
  · rename_i hn
    rw [if_neg hn] at h
    obtain ⟨rfl, rfl⟩ := RL_err0 _ hr h
    rfl
theorem readRef_ev (s : ByteArray) (hs : s.size ≤ 140737488351232) : Ev (fun k => lookoutref01_Read.f k s) (RD (bytesOf s)) := ⟨18, fun _ hk => readRef_is s hs hk⟩
def inR (n : Int) : Prop := -1152921504606846976 ≤ n ∧ n ≤ 1152921504606846976
instance (n : Int) : Decidable (inR n) := inferInstanceAs (Decidable (_ ∧ _))
theorem drop_cons {l : List Int} {i : Nat} (h : i < l.length) : l.drop i = rd l i :: l.drop (i + 1) := by
  rw [List.drop_eq_getElem_cons h]
  congr 1
  unfold rd
  rw [Int.toNat_natCast, List.getD_eq_getElem?_getD, List.getElem?_eq_getElem h]
  rfl
theorem RD_size {l : List Int} (hb : ∀ b ∈ l, 0 ≤ b ∧ b ≤ 255) (h : (RD l).2.2 = 0) : 0 < (RD l).2.1 ∧ (RD l).2.1 ≤ l.length ∧ 0 ≤ (RD l).1 ∧ (RD l).1 ≤ 1152921504606846976 := by
  obtain ⟨rest, hl, hc, h0, h1⟩ := RD_canon (v := (RD l).1) (c := (RD l).2.1) hb (by rw [← h])
  have := G_pos (RD l).1.toNat
  have h2 := congrArg List.length hl
  rw [List.length_append] at h2
  omega
theorem drop_byte {l : List Int} (hb : ∀ b ∈ l, 0 ≤ b ∧ b ≤ 255) (n : Nat) : ∀ b ∈ l.drop n, 0 ≤ b ∧ b ≤ 255 := fun b h => hb b (List.mem_of_mem_drop h)
end Go.Proofs.Ytfklecicddpcjaa.VB
