/- Several texts of this session in one. No condition beyond those in the statements. -/
import Derived.Test.YtfklecicddpcjaaAA
import Derived.Test.YtfklecicddpcjaaWNEv
import Derived.Laws.BitsAllLaws
import Derived.Laws.Bits128
import Derived.Test.YtfklecicddpcjaaHZ
import Derived.Test.YtfklecicddpcjaaHR
import Derived.Lib.SlicesCompact
import Derived.Test.YtfklecicddpcjaaHRd
import Derived.Test.YtfklecicddpcjaaPB
section
namespace Go.Proofs.Ytfklecicddpcjaa.VB
open Go.RowKit Go.Proofs.Ytfklecicddpcjaa.A Go.Proofs.Ytfklecicddpcjaa.Hand Go.Proofs.YtfklecicddpcjaaW.PrintWords Go.Proofs.YtfklecicddpcjaaW.PrintLast Go.Proofs.YtfklecicddpcjaaW.PrintMore
set_option linter.unusedVariables false
set_option linter.unusedVariables false

/-! ## The bytes of a number -/
/-- The groups of seven bits of a number, the least significant first. -/
def G (n : Nat) : List Int := if n < 128 then [(n : Int)] else ((n % 128 + 128 : Nat) : Int) :: G (n / 128)
termination_by n
decreasing_by omega
theorem G_small {n : Nat} (h : n < 128) : G n = [(n : Int)] := by rw [G, if_pos h]
theorem G_big {n : Nat} (h : 128 ≤ n) : G n = ((n % 128 + 128 : Nat) : Int) :: G (n / 128) := by rw [G, if_neg (by omega)]
theorem G_len : ∀ (k n : Nat), n < 128 ^ (k + 1) → (G n).length ≤ k + 1 := by
  intro k
  induction k with
  | zero => intro n h; rw [G_small (by omega)]; simp
  | succ k ih =>
    intro n h
    by_cases h1 : n < 128
    · rw [G_small h1]; simp
    · rw [G_big (by omega)]
      have := ih (n / 128) (by rw [Nat.pow_succ] at h; omega)
      simp; omega
theorem G_pos (n : Nat) : 1 ≤ (G n).length := by
  by_cases h : n < 128
  · rw [G_small h]; simp
  · rw [G_big (by omega)]; simp
theorem G_byte : ∀ (n : Nat), ∀ b ∈ G n, 0 ≤ b ∧ b ≤ 255 := by
  intro n
  induction n using Nat.strongRecOn with
  | _ n ih =>
    by_cases h : n < 128
    · rw [G_small h]; intro b hb; simp at hb; omega
    · rw [G_big (by omega)]
      intro b hb
      simp only [List.mem_cons] at hb
      rcases hb with rfl | hb
      · omega
      · exact ih (n / 128) (by omega) b hb

theorem and127 (n : Nat) (h : n < 18446744073709551616) : bits .and .u64 (n : Int) 127 = ((n % 128 : Nat) : Int) := by
  have := u64_and_nat n 127 h (by omega)
  rw [nat_mask7] at this
  exact this
theorem ag_l0 : ∀ (k : Nat) (l : List Int) (n : Nat), n < 128 ^ (k + 1) → n < 18446744073709551616 → l.length + k < 140737488355328 → varint_appendGroups.l0 (k + 1) l n = some (l ++ G n) := by
  intro k
  induction k with
  | zero =>
    intro l n h1 h2 h3
    simp only [varint_appendGroups.l0]
    rw [if_neg (by omega), if_pos (by omega), G_small (by omega), show (n : Int) % 256 = n by omega]
  | succ k ih =>
    intro l n h1 h2 h3
    rw [varint_appendGroups.l0]
    by_cases h : n < 128
    · rw [if_neg (by omega), if_pos (by omega), G_small h, show (n : Int) % 256 = n by omega]
    · rw [if_pos (by omega), if_pos (by omega), and127 n h2, show (((n % 128 : Nat) : Int) % 256) = ((n % 128 : Nat) : Int) by omega, u8_or128_right _ (by omega) (by omega),
        show (n : Int) / 128 = ((n / 128 : Nat) : Int) by omega]
      have := ih (l ++ [((n % 128 : Nat) : Int) + 128]) (n / 128) (by rw [Nat.pow_succ] at h1; omega) (by omega) (by simp; omega)
      rw [this, G_big (n := n) (by omega)]
      simp
theorem ag_ev (l : List Int) (n : Nat) (hn : n < 18446744073709551616) (hl : l.length ≤ 140737488350000) : Ev (fun k => varint_appendGroups.f k l n) (l ++ G n) :=
  Ev.of (k := 10) (fun k => varint_appendGroups.mono l n k) (ag_l0 9 l n (by omega) hn (by omega))
theorem put_l0 : ∀ (k : Nat) (n : Nat) (l : List Int), n < 128 ^ (k + 1) → n < 9223372036854775808 → l.length + k < 140737488355328 → lookoutref01_put.l0 (k + 1) n l = some (strOfNums (l ++ G n)) := by
  intro k
  induction k with
  | zero =>
    intro n l h1 h2 h3
    simp only [lookoutref01_put.l0]
    rw [if_neg (by omega), if_pos (by omega), G_small (by omega), show (n : Int) % 256 = n by omega]
  | succ k ih =>
    intro n l h1 h2 h3
    rw [lookoutref01_put.l0]
    by_cases h : n < 128
    · rw [if_neg (by omega), if_pos (by omega), G_small h, show (n : Int) % 256 = n by omega]
    · have e1 : Int.tdiv (n : Int) 128 = ((n / 128 : Nat) : Int) := by rw [Int.tdiv_eq_ediv_of_nonneg (by omega)]; omega
      have e2 : Int.tmod (n : Int) 128 = ((n % 128 : Nat) : Int) := by rw [Int.tmod_eq_emod_of_nonneg (by omega)]; omega
      have e3 : wrap64 ((n / 128 : Nat) : Int) = ((n / 128 : Nat) : Int) := by unfold wrap64; omega
      have e4 : (wrap64 (((n % 128 : Nat) : Int) + 128)) % 256 = ((n % 128 : Nat) : Int) + 128 := by unfold wrap64; omega
      rw [if_pos (by omega), if_pos (by omega), e1, e2, e3, e4]
      have := ih (n / 128) (l ++ [((n % 128 : Nat) : Int) + 128]) (by rw [Nat.pow_succ] at h1; omega) (by omega) (by simp; omega)
      rw [this, G_big (n := n) (by omega)]
      simp
theorem put_ev (n : Nat) (hn : n < 9223372036854775808) : Ev (fun k => lookoutref01_put.f k n) (strOfNums (G n)) :=
  Ev.of (k := 10) (fun k => lookoutref01_put.mono n k) (by have := put_l0 9 n [] (by omega) hn (by simp); rw [List.nil_append] at this; exact this)

/-! ## Appending -/
/-- The number that stands for a signed one. -/
def zig (n : Int) : Nat := if 0 ≤ n then (2 * n).toNat else (-2 * n - 1).toNat
theorem zig_lt {n : Int} (h1 : -1152921504606846976 ≤ n) (h2 : n ≤ 1152921504606846976) : zig n ≤ 2305843009213693952 := by unfold zig; split <;> omega
def AP (s : ByteArray) (n : Int) : ByteArray × Int := if n < 0 ∨ 1152921504606846976 < n then (⟨#[]⟩, 2) else (s ++ strOfNums (G n.toNat), 0)
theorem G_len9 {n : Nat} (h : n < 9223372036854775808) : (G n).length ≤ 9 := G_len 8 n (by omega)
theorem append_ev (s : ByteArray) (n : Int) (hs : s.size ≤ 4611686018427387904) : Ev (fun k => varint_Append.f k s n) (AP s n) := by
  unfold AP
  by_cases h1 : n < 0
  · rw [if_pos (.inl h1)]
    simp only [varint_Append.f, if_pos h1]; exact Ev.now _
  · by_cases h2 : 1152921504606846976 < n
    · rw [if_pos (.inr h2)]
      simp only [varint_Append.f, if_neg h1, gt_iff_lt, if_pos h2]; exact Ev.now _
    · rw [if_neg (by omega)]
      have e : IntKind.u64.wrap n = ((n.toNat : Nat) : Int) := by rw [IntKind.wrap_u64]; omega
      simp only [varint_Append.f, if_neg h1, gt_iff_lt, if_neg h2, e]; refine Ev.bind (ag_ev [] n.toNat (by omega) (by simp)) ?_
      have := G_len9 (n := n.toNat) (by omega)
      rw [List.nil_append]; simp only [if_pos (show s.size + (strOfNums (G n.toNat)).size ≤ 9223372036854775807 from by rw [strOfNums_size]; omega)]; exact Ev.now _
theorem appendRef_ev (s : ByteArray) (n : Int) (hs : s.size ≤ 4611686018427387904) : Ev (fun k => lookoutref01_Append.f k s n) (AP s n) := by
  unfold AP
  by_cases h1 : n < 0
  · rw [if_pos (.inl h1)]
    simp only [lookoutref01_Append.f, if_pos h1]; exact Ev.now _
  · by_cases h2 : 1152921504606846976 < n
    · rw [if_pos (.inr h2)]
      simp only [lookoutref01_Append.f, if_neg h1, gt_iff_lt, if_pos h2]; exact Ev.now _
    · rw [if_neg (by omega)]
      have e : n = ((n.toNat : Nat) : Int) := by omega
      have := G_len9 (n := n.toNat) (by omega)
      simp only [lookoutref01_Append.f, if_neg h1, gt_iff_lt, if_neg h2]; refine (Ev.bind (a := strOfNums (G n.toNat)) (by have := put_ev n.toNat (by omega); rwa [← e] at this) ?_)
      simp only [if_pos (show s.size + (strOfNums (G n.toNat)).size ≤ 9223372036854775807 from by rw [strOfNums_size]; omega)]; exact Ev.now _
theorem G_one (n : Nat) : (G n).length = 1 ↔ n < 128 := by
  by_cases h : n < 128
  · rw [G_small h]; simp [h]
  · rw [G_big (n := n) (by omega)]
    have := G_pos (n / 128)
    simp only [List.length_cons]
    omega
theorem G_mono' : ∀ (n m : Nat), m ≤ n → (G m).length ≤ (G n).length := by
  intro n
  induction n using Nat.strongRecOn with
  | _ n ih =>
    intro m h
    by_cases h1 : m < 128
    · rw [G_small h1]; have := G_pos n; simpa using this
    · rw [G_big (n := m) (by omega), G_big (n := n) (by omega)]
      have := ih (n / 128) (by omega) (m / 128) (by omega)
      simpa using this
theorem G_mono {m n : Nat} (h : m ≤ n) : (G m).length ≤ (G n).length := G_mono' n m h
theorem p128_le {i j : Nat} (h : i ≤ j) : (128 : Int) ^ i ≤ 128 ^ j := by
  have := Nat.pow_le_pow_right (n := 128) (by omega) h
  exact_mod_cast this
/-- What is read at the head of a list of bytes, from place i on, with the number n so far. -/
def RL : Nat → Int → List Int → Int × Int × Int
  | _, _, [] => (0, 0, 11)
  | i, n, b :: t =>
    if 9 ≤ i then (0, 0, 11)
    else if (128 ≤ b ∧ i = 8) ∨ (b = 0 ∧ 0 < i) then (0, 0, 12)
    else if b < 128 then (n + b * 128 ^ i, (i : Int) + 1, 0)
    else RL (i + 1) (n + (b - 128) * 128 ^ i) t
theorem bytes_drop (s : ByteArray) {i : Nat} (h : i < s.size) : (bytesOf s).drop i = bt s i :: (bytesOf s).drop (i + 1) := by
  have hl : i < (bytesOf s).length := by rw [bytesOf_length]; exact h
  rw [List.drop_eq_getElem_cons hl]
  congr 1
  have := rd_bytesOf s i
  unfold rd at this
  rw [← this, Int.toNat_natCast, List.getD_eq_getElem?_getD, List.getElem?_eq_getElem hl]
  rfl
theorem bytes_end (s : ByteArray) {i : Nat} (h : s.size ≤ i) : (bytesOf s).drop i = [] := by
  apply List.drop_eq_nil_of_le; rw [bytesOf_length]; exact h
theorem bytes_in (s : ByteArray) : ∀ b ∈ bytesOf s, 0 ≤ b ∧ b ≤ 255 := by
  intro b hb
  simp only [bytesOf, List.mem_map] at hb
  obtain ⟨x, _, rfl⟩ := hb
  have := x.toNat_lt
  omega
theorem readFrom_is (s : ByteArray) : ∀ (d i : Nat) (n : Int), i + d = 9 → readFrom s d i n = RL i n ((bytesOf s).drop i) := by
  intro d
  induction d with
  | zero =>
    intro i n h
    obtain rfl : i = 9 := by omega
    cases hd : (bytesOf s).drop 9 with
    | nil => rfl
    | cons b t => simp [readFrom, RL]
  | succ d ih =>
    intro i n h
    simp only [readFrom]
    by_cases hs : i < s.size
    · rw [if_pos hs, bytes_drop s hs]
      simp only [RL]
      rw [if_neg (by omega : ¬ 9 ≤ i)]
      split
      · rfl
      · split
        · rfl
        · exact ih (i + 1) _ (by omega)
    · rw [if_neg hs, bytes_end s (by omega)]
      rfl
/-- What is known of a number that is read. -/
theorem RL_ok : ∀ (l : List Int) (i : Nat) (n : Int), (∀ b ∈ l, 0 ≤ b ∧ b ≤ 255) → 0 ≤ n → n < 128 ^ i → i ≤ 9 →
    (RL i n l).2.2 = 0 → 0 ≤ (RL i n l).1 ∧ (RL i n l).1 < 128 ^ 9 ∧ (i : Int) < (RL i n l).2.1 ∧ (RL i n l).2.1 ≤ i + l.length := by
  intro l
  induction l with
  | nil => intro i n _ _ _ _ h; simp [RL] at h
  | cons b t ih =>
    intro i n hb h0 h1 h9
    have hb0 := hb b (by simp)
    simp only [RL]
    split
    · intro h; simp at h
    · rename_i hi
      split
      · intro h; simp at h
      · rename_i hc
        have hp : (0 : Int) < 128 ^ i := Int.pow_pos (by omega)
        have e1 : (128 : Int) ^ (i + 1) = 128 ^ i + 127 * 128 ^ i := by rw [Int.pow_succ]; omega
        have hle : (128 : Int) ^ (i + 1) ≤ 128 ^ 9 := p128_le (by omega)
        split
        · rename_i hl
          intro _
          have h2 : 0 ≤ b * 128 ^ i := Int.mul_nonneg hb0.1 (by omega)
          have h3 : b * 128 ^ i ≤ 127 * 128 ^ i := Int.mul_le_mul_of_nonneg_right (by omega) (by omega)
          refine ⟨by simp only; omega, by simp only; omega, by simp only; omega, by simp only [List.length_cons]; omega⟩
        · rename_i hl
          intro h
          have h2 : 0 ≤ (b - 128) * 128 ^ i := Int.mul_nonneg (by omega) (by omega)
          have h3 : (b - 128) * 128 ^ i ≤ 127 * 128 ^ i := Int.mul_le_mul_of_nonneg_right (by omega) (by omega)
          have := ih (i + 1) (n + (b - 128) * 128 ^ i) (fun x hx => hb x (by simp [hx])) (by omega) (by omega) (by omega) h
          simp only [List.length_cons]
          omega
theorem RL_err : ∀ (l : List Int) (i : Nat) (n : Int), (RL i n l).2.2 ≠ 0 → RL i n l = (0, 0, (RL i n l).2.2) := by
  intro l
  induction l with
  | nil => intro i n _; rfl
  | cons b t ih =>
    intro i n
    simp only [RL]
    split
    · intro _; rfl
    · split
      · intro _; rfl
      · split
        · intro h; simp at h
        · exact ih _ _
/-- The reference's reading: numbers beyond 2^61 are none. -/
def GT (r : Int × Int × Int) : Int × Int × Int := if r.2.2 = 0 ∧ 2305843009213693952 < r.1 then (0, 0, 12) else r
theorem shl_is {c : Int} {i : Nat} (h0 : 0 ≤ c) (h1 : c < 128) (hi : i ≤ 8) : shl .i64 c (7 * (i : Int)) = c * 128 ^ i := by
  unfold shl
  have e : min (7 * (i : Int)).toNat IntKind.i64.bits = 7 * i := by simp [IntKind.bits]; omega
  rw [e, Int.pow_mul]
  have h8 : (128 : Int) ^ i ≤ 128 ^ 8 := p128_le (by omega)
  have hp : (0 : Int) < 128 ^ i := Int.pow_pos (by omega)
  have h2 : c * 128 ^ i ≤ 127 * 128 ^ i := Int.mul_le_mul_of_nonneg_right (by omega) (by omega)
  have h3 : 0 ≤ c * 128 ^ i := Int.mul_nonneg h0 (by omega)
  show IntKind.i64.wrap (c * 128 ^ i) = _
  exact IntWalk.i64_in _ (by omega)
theorem get_step (s : ByteArray) (_hs : s.size ≤ 140737488351232) (i : Nat) (n : Int) (hi : i ≤ 8) (h0 : 0 ≤ n) (h1 : n < 128 ^ i) (k : Nat) :
    lookoutref01_get.l0 (k + 2) s n i = if i < s.size then
      (if (128 ≤ bt s i ∧ i = 8) ∨ (bt s i = 0 ∧ 0 < i) then some (0, 0, 12)
       else if bt s i < 128 then (if 2305843009213693952 < n + bt s i * 128 ^ i then some (0, 0, 12) else some (n + bt s i * 128 ^ i, (i : Int) + 1, 0))
       else lookoutref01_get.l0 k s (n + (bt s i - 128) * 128 ^ i) ((i + 1 : Nat) : Int)) else some (0, 0, 11) := by
  obtain ⟨b0, b1⟩ := bt_range s i
  have hp : (0 : Int) < 128 ^ i := Int.pow_pos (by omega)
  have e1 : (128 : Int) ^ (i + 1) = 128 ^ i + 127 * 128 ^ i := by rw [Int.pow_succ]; omega
  have hle : (128 : Int) ^ (i + 1) ≤ 128 ^ 9 := p128_le (by omega)
  have w1 : wrap64 (bt s i) = bt s i := by unfold wrap64; omega
  have w2 : wrap64 (7 * (i : Int)) = 7 * (i : Int) := by unfold wrap64; omega
  have w3 : wrap64 ((i : Int) + 1) = (i : Int) + 1 := by unfold wrap64; omega
  have w4 : Int.tmod (bt s i) 128 = bt s i % 128 := Int.tmod_eq_emod_of_nonneg b0
  simp only [lookoutref01_get.l0]
  by_cases hlt : i < s.size
  · rw [if_neg (by omega), if_pos (by omega), if_pos (by omega), if_pos hlt]
    simp only [w1]
    by_cases hb : 128 ≤ bt s i
    · have hm : bt s i % 128 = bt s i - 128 := by omega
      have h2 : 0 ≤ (bt s i - 128) * 128 ^ i := Int.mul_nonneg (by omega) (by omega)
      have h3 : (bt s i - 128) * 128 ^ i ≤ 127 * 128 ^ i := Int.mul_le_mul_of_nonneg_right (by omega) (by omega)
      have w5 : wrap64 (n + (bt s i - 128) * 128 ^ i) = n + (bt s i - 128) * 128 ^ i := by unfold wrap64; omega
      have w6 : shl .i64 (bt s i - 128) (7 * (i : Int)) = (bt s i - 128) * 128 ^ i := shl_is (by omega) (by omega) hi
      by_cases h8 : i = 8
      · subst h8
        rw [if_pos (show ((8 : Nat) : Int) = 8 from rfl), if_pos (.inl ⟨hb, rfl⟩)]
        simp only [lookoutref01_get.j1]
        rw [if_pos (by simp; omega)]
      · rw [if_neg (by omega), if_neg (by omega), if_neg (by omega)]
        simp only [lookoutref01_get.j1, w2, w3, w4, hm, w6, w5]
        rw [if_neg (by simp), if_pos (by omega), if_pos (by omega)]
        rfl
    · have hm : bt s i % 128 = bt s i := by omega
      have h2 : 0 ≤ bt s i * 128 ^ i := Int.mul_nonneg (by omega) (by omega)
      have h3 : bt s i * 128 ^ i ≤ 127 * 128 ^ i := Int.mul_le_mul_of_nonneg_right (by omega) (by omega)
      have w5 : wrap64 (n + bt s i * 128 ^ i) = n + bt s i * 128 ^ i := by unfold wrap64; omega
      have w6 : shl .i64 (bt s i) (7 * (i : Int)) = bt s i * 128 ^ i := shl_is (by omega) (by omega) hi
      have hj : lookoutref01_get.j1 (k + 1) s n i (bt s i) false = (if bt s i = 0 ∧ 0 < i then some (0, 0, 12) else if 2305843009213693952 < n + bt s i * 128 ^ i then some (0, 0, 12) else some (n + bt s i * 128 ^ i, (i : Int) + 1, 0)) := by
        simp only [lookoutref01_get.j1, w2, w3, w4, hm, w6, w5]
        rw [if_neg (by simp), if_pos (by omega), if_neg (by omega)]
        by_cases hi0 : 0 < i
        · rw [if_pos (by omega)]
          by_cases hz : bt s i = 0
          · rw [if_pos hz, if_pos ⟨hz, hi0⟩]
          · rw [if_neg hz, if_neg (show ¬ (bt s i = 0 ∧ 0 < i) from fun h => hz h.1)]
        · rw [if_neg (by omega), if_neg (show ¬ (bt s i = 0 ∧ 0 < i) from fun h => hi0 h.2)]
      have e2 : (if (i : Int) = 8 then lookoutref01_get.j1 (k + 1) s n i (bt s i) (decide (bt s i ≥ 128)) else lookoutref01_get.j1 (k + 1) s n i (bt s i) false) = lookoutref01_get.j1 (k + 1) s n i (bt s i) false := by
        rw [decide_eq_false (by omega), ite_self]
      rw [e2, hj]
      by_cases hc : bt s i = 0 ∧ 0 < i
      · rw [if_pos hc, if_pos (.inr hc)]
      · rw [if_neg hc, if_neg (show ¬ ((128 ≤ bt s i ∧ i = 8) ∨ (bt s i = 0 ∧ 0 < i)) by omega), if_pos (show bt s i < 128 by omega)]
  · rw [if_pos (by omega), if_neg hlt]
theorem get_l0 (s : ByteArray) (hs : s.size ≤ 140737488351232) : ∀ (d i : Nat) (n : Int), i + d = 8 → 0 ≤ n → n < 128 ^ i → ∀ k, 2 * d + 2 ≤ k →
    lookoutref01_get.l0 k s n i = some (GT (RL i n ((bytesOf s).drop i))) := by
  intro d
  induction d with
  | zero =>
    intro i n h h0 h1 k hk
    have hi8 : i = 8 := by omega
    obtain ⟨k, rfl⟩ : ∃ m, k = m + 2 := ⟨k - 2, by omega⟩
    rw [get_step s hs i n (by omega) h0 h1]
    by_cases hlt : i < s.size
    · rw [if_pos hlt, bytes_drop s hlt]
      simp only [RL, if_neg (show ¬ 9 ≤ i by omega)]
      by_cases hc : (128 ≤ bt s i ∧ i = 8) ∨ (bt s i = 0 ∧ 0 < i)
      · simp only [if_pos hc]; rfl
      · have hb : bt s i < 128 := by omega
        simp only [if_neg hc, if_pos hb]
        unfold GT
        by_cases hg : 2305843009213693952 < n + bt s i * 128 ^ i
        · rw [if_pos hg, if_pos ⟨rfl, hg⟩]
        · rw [if_neg hg, if_neg (by intro h; exact hg h.2)]
    · rw [if_neg hlt, bytes_end s (by omega)]; rfl
  | succ d ih =>
    intro i n h h0 h1 k hk
    obtain ⟨k, rfl⟩ : ∃ m, k = m + 2 := ⟨k - 2, by omega⟩
    rw [get_step s hs i n (by omega) h0 h1]
    by_cases hlt : i < s.size
    · rw [if_pos hlt, bytes_drop s hlt]
      simp only [RL, if_neg (show ¬ 9 ≤ i by omega)]
      by_cases hc : (128 ≤ bt s i ∧ i = 8) ∨ (bt s i = 0 ∧ 0 < i)
      · simp only [if_pos hc]; rfl
      · simp only [if_neg hc]
        by_cases hb : bt s i < 128
        · simp only [if_pos hb]
          unfold GT
          by_cases hg : 2305843009213693952 < n + bt s i * 128 ^ i
          · rw [if_pos hg, if_pos ⟨rfl, hg⟩]
          · rw [if_neg hg, if_neg (by intro h; exact hg h.2)]
        · simp only [if_neg hb]
          obtain ⟨b0, b1⟩ := bt_range s i
          have hp : (0 : Int) < 128 ^ i := Int.pow_pos (by omega)
          have e1 : (128 : Int) ^ (i + 1) = 128 ^ i + 127 * 128 ^ i := by rw [Int.pow_succ]; omega
          have h2 : 0 ≤ (bt s i - 128) * 128 ^ i := Int.mul_nonneg (by omega) (by omega)
          have h3 : (bt s i - 128) * 128 ^ i ≤ 127 * 128 ^ i := Int.mul_le_mul_of_nonneg_right (by omega) (by omega)
          exact ih (i + 1) _ (by omega) (by omega) (by omega) k (by omega)
    · rw [if_neg hlt, bytes_end s (by omega)]; rfl
theorem get_is (s : ByteArray) (hs : s.size ≤ 140737488351232) {k : Nat} (hk : 18 ≤ k) : lookoutref01_get.f k s = some (GT (RL 0 0 (bytesOf s))) := by
  have := get_l0 s hs 8 0 0 rfl (by omega) (by omega) k (by omega)
  simpa [lookoutref01_get.f] using this

/-! ## Read and ReadSigned -/
def RD (l : List Int) : Int × Int × Int := if (RL 0 0 l).2.2 = 0 ∧ 1152921504606846976 < (RL 0 0 l).1 then (0, 0, 12) else RL 0 0 l
/-- The signed number for which a number stands. -/
def unzig (u : Int) : Int := if u % 2 = 0 then u / 2 else -(u / 2) - 1
theorem RL_ok0 (l : List Int) (hb : ∀ b ∈ l, 0 ≤ b ∧ b ≤ 255) (h : (RL 0 0 l).2.2 = 0) : 0 ≤ (RL 0 0 l).1 ∧ (RL 0 0 l).1 < 9223372036854775808 ∧ 0 < (RL 0 0 l).2.1 ∧ (RL 0 0 l).2.1 ≤ l.length := by
  have := RL_ok l 0 0 hb (by omega) (by omega) (by omega) h
  simpa using this
theorem RL_err0 (l : List Int) {v c e : Int} (h : RL 0 0 l = (v, c, e)) (he : e ≠ 0) : v = 0 ∧ c = 0 := by
  have := RL_err l 0 0 (by rw [h]; exact he)
  rw [h] at this
  simp only [Prod.mk.injEq] at this
  omega
theorem RL_ok1 (l : List Int) (hb : ∀ b ∈ l, 0 ≤ b ∧ b ≤ 255) {v c : Int} (h : RL 0 0 l = (v, c, 0)) : 0 ≤ v ∧ v < 9223372036854775808 ∧ 0 < c ∧ c ≤ l.length := by
  have := RL_ok0 l hb (by rw [h])
  rw [h] at this
  exact this
theorem read_is (s : ByteArray) : varint_Read.f s = some (RD (bytesOf s)) := by
  unfold varint_Read.f varint_read.f RD
  rw [readFrom_is s 9 0 0 rfl, List.drop_zero, Option.bind_some]
  obtain ⟨v, c, e, hr⟩ : ∃ v c e, RL 0 0 (bytesOf s) = (v, c, e) := ⟨_, _, _, rfl⟩
  rw [hr]
  dsimp only
  by_cases h : e = 0
  · subst h
    have := RL_ok1 _ (bytes_in s) hr
    rw [if_pos rfl]
    by_cases hg : 1152921504606846976 < v
    · rw [if_pos hg, if_pos ⟨rfl, hg⟩]
    · rw [if_neg hg, if_neg (fun h => hg h.2), show wrap64 v = v by unfold wrap64; omega]
  · obtain ⟨rfl, rfl⟩ := RL_err0 _ hr h
    rw [if_neg h, if_neg (fun h' => h h'.1)]
theorem readRef_is (s : ByteArray) (hs : s.size ≤ 140737488351232) {k : Nat} (hk : 18 ≤ k) : lookoutref01_Read.f k s = some (RD (bytesOf s)) := by
  unfold lookoutref01_Read.f RD
  rw [get_is s hs hk, Option.bind_some]
  unfold GT
  obtain ⟨v, c, e, hr⟩ : ∃ v c e, RL 0 0 (bytesOf s) = (v, c, e) := ⟨_, _, _, rfl⟩
  rw [hr]
  dsimp only
  by_cases h : e = 0
  · subst h
    by_cases hg : 2305843009213693952 < v
    · simp only [hg, and_self, if_true]
      rw [if_pos (⟨trivial, by omega⟩ : True ∧ 1152921504606846976 < v)]
      rfl
    · simp only [hg, and_false, if_false, if_true, true_and]
      split <;> rfl
  · simp only [h, false_and, if_false]
theorem unzig_in {u : Int} (h0 : 0 ≤ u) : (-1152921504606846976 ≤ unzig u ∧ unzig u ≤ 1152921504606846976) ↔ u ≤ 2305843009213693952 := by
  unfold unzig; split <;> omega

/-! ## Strings as lists of bytes -/
theorem bytesOf_inj {a b : ByteArray} (h : bytesOf a = bytesOf b) : a = b := by
  unfold bytesOf at h
  have h2 : a.data.toList = b.data.toList := by
    apply List.map_inj_right (f := fun x : UInt8 => (x.toNat : Int)) (fun x y hxy => by
      have : x.toNat = y.toNat := by exact_mod_cast hxy
      exact UInt8.toNat_inj.1 this) |>.1 h
  exact ByteArray.ext (Array.toList_inj.1 h2)
theorem bytesOf_append (a b : ByteArray) : bytesOf (a ++ b) = bytesOf a ++ bytesOf b := by simp [bytesOf, ByteArray.data_append]
theorem bytesOf_extract (s : ByteArray) (a b : Nat) : bytesOf (s.extract a b) = ((bytesOf s).drop a).take (b - a) := by
  simp [bytesOf, ByteArray.data_extract, List.map_drop, List.map_take]
theorem bytesOf_from (s : ByteArray) (a : Nat) : bytesOf (s.extract a s.size) = (bytesOf s).drop a := by
  rw [bytesOf_extract, List.take_of_length_le (by rw [List.length_drop, bytesOf_length]; omega)]
theorem bytesOf_nums {l : List Int} (h : ∀ b ∈ l, 0 ≤ b ∧ b ≤ 255) : bytesOf (strOfNums l) = l := by
  unfold bytesOf
  rw [strOfNums_data, List.map_map]
  conv => rhs; rw [← List.map_id l]
  apply List.map_congr_left
  intro b hb
  have := h b hb
  simp only [Function.comp_apply, id_eq]
  rw [UInt8.toNat_ofNat']
  omega
theorem bytesOf_empty : bytesOf (⟨#[]⟩ : ByteArray) = [] := rfl
theorem strOfNums_append (a b : List Int) : strOfNums (a ++ b) = strOfNums a ++ strOfNums b := by
  apply ByteArray.ext
  simp [strOfNums, ByteArray.data_append]
theorem empty_append (s : ByteArray) : (⟨#[]⟩ : ByteArray) ++ s = s := by apply bytesOf_inj; rw [bytesOf_append, bytesOf_empty, List.nil_append]

/-! ## One number -/
theorem RL_round : ∀ (m i : Nat) (n : Int) (rest : List Int), i ≤ 8 → m < 128 ^ (9 - i) → (0 < i → 0 < m) → RL i n (G m ++ rest) = (n + m * 128 ^ i, (i : Int) + (G m).length, 0) := by
  intro m
  induction m using Nat.strongRecOn with
  | _ m ih =>
    intro i n rest hi hm hp
    by_cases h : m < 128
    · rw [G_small h]
      simp only [List.cons_append, List.nil_append, RL, if_neg (show ¬ 9 ≤ i by omega), if_neg (show ¬ ((128 ≤ (m : Int) ∧ i = 8) ∨ ((m : Int) = 0 ∧ 0 < i)) by omega), if_pos (show (m : Int) < 128 by omega)]
      rfl
    · rw [G_big (n := m) (by omega)]
      have h8 : i ≠ 8 := by intro e; subst e; simp at hm; omega
      have e1 : (((m % 128 + 128 : Nat) : Int) - 128) = ((m % 128 : Nat) : Int) := by omega
      simp only [List.cons_append, RL, if_neg (show ¬ 9 ≤ i by omega), if_neg (show ¬ ((128 ≤ ((m % 128 + 128 : Nat) : Int) ∧ i = 8) ∨ (((m % 128 + 128 : Nat) : Int) = 0 ∧ 0 < i)) by omega), if_neg (show ¬ ((m % 128 + 128 : Nat) : Int) < 128 by omega), e1]
      have e2 : 9 - i = (9 - (i + 1)) + 1 := by omega
      rw [e2, Nat.pow_succ] at hm
      rw [ih (m / 128) (by omega) (i + 1) _ rest (by omega) (by omega) (by omega)]
      have e3 : (m : Int) = ((m % 128 : Nat) : Int) + 128 * ((m / 128 : Nat) : Int) := by omega
      have e4 : n + ((m % 128 : Nat) : Int) * 128 ^ i + ((m / 128 : Nat) : Int) * 128 ^ (i + 1) = n + (m : Int) * 128 ^ i := by
        conv => rhs; rw [e3]
        rw [Int.pow_succ, Int.add_mul, Int.mul_comm (128 ^ i) 128, ← Int.mul_assoc, Int.mul_comm ((m / 128 : Nat) : Int) 128, Int.add_assoc]
      rw [e4]
      simp only [List.length_cons, Prod.mk.injEq, true_and, and_true]
      omega
theorem RL_cut : ∀ (m i : Nat) (n : Int) (j : Nat), i ≤ 8 → m < 128 ^ (9 - i) → j < (G m).length → RL i n ((G m).take j) = (0, 0, 11) := by
  intro m
  induction m using Nat.strongRecOn with
  | _ m ih =>
    intro i n j hi hm hj
    cases j with
    | zero => rw [List.take_zero]; cases i <;> rfl
    | succ j =>
      by_cases h : m < 128
      · rw [G_small h] at hj; simp at hj
      · rw [G_big (n := m) (by omega)] at hj ⊢
        have h8 : i ≠ 8 := by intro e; subst e; simp at hm; omega
        simp only [List.take_succ_cons, RL, if_neg (show ¬ 9 ≤ i by omega), if_neg (show ¬ ((128 ≤ ((m % 128 + 128 : Nat) : Int) ∧ i = 8) ∨ (((m % 128 + 128 : Nat) : Int) = 0 ∧ 0 < i)) by omega), if_neg (show ¬ ((m % 128 + 128 : Nat) : Int) < 128 by omega)]
        have e2 : 9 - i = (9 - (i + 1)) + 1 := by omega
        rw [e2, Nat.pow_succ] at hm
        simp only [List.length_cons] at hj
        exact ih (m / 128) (by omega) (i + 1) _ j (by omega) (by omega) (by omega)
theorem mulfact (p n b m : Int) : n + (b - 128) * p + m * (p * 128) = n + (128 * m + (b - 128)) * p := by
  rw [Int.add_mul, Int.mul_comm p 128, ← Int.mul_assoc m, Int.mul_comm m 128]
  omega
theorem RL_canon : ∀ (l : List Int) (i : Nat) (n v c : Int), (∀ b ∈ l, 0 ≤ b ∧ b ≤ 255) → RL i n l = (v, c, 0) →
    ∃ (m : Nat) (rest : List Int), l = G m ++ rest ∧ v = n + m * 128 ^ i ∧ c = (i : Int) + (G m).length ∧ (0 < i → 0 < m) := by
  intro l
  induction l with
  | nil => intro i n v c _ h; simp [RL] at h
  | cons b t ih =>
    intro i n v c hb h
    have hb0 := hb b (by simp)
    simp only [RL] at h
    split at h
    · simp at h
    · split at h
      · simp at h
      · rename_i hc
        split at h
        · rename_i hl
          simp only [Prod.mk.injEq, and_true] at h
          refine ⟨b.toNat, t, ?_, ?_, ?_, by omega⟩
          · rw [G_small (by omega), show ((b.toNat : Nat) : Int) = b by omega]; rfl
          · rw [show ((b.toNat : Nat) : Int) = b by omega]; exact h.1.symm
          · rw [G_small (by omega), ← h.2]; rfl
        · rename_i hl
          obtain ⟨m, rest, rfl, hv, hk, hm⟩ := ih (i + 1) _ v c (fun x hx => hb x (by simp [hx])) h
          have hm0 := hm (by omega)
          obtain ⟨q, hq⟩ : ∃ q, q = 128 * m + (b.toNat - 128) := ⟨_, rfl⟩
          have e1 : q % 128 = b.toNat - 128 := by omega
          have e2 : q / 128 = m := by omega
          have e3 : (q : Int) = 128 * (m : Int) + (b - 128) := by omega
          have e4 : G q = b :: G m := by
            rw [G_big (n := q) (by omega), e1, e2]
            congr 1
            omega
          refine ⟨q, rest, by rw [e4]; rfl, ?_, ?_, by omega⟩
          · rw [hv, Int.pow_succ, e3]
            exact mulfact _ _ _ _
          · rw [hk, e4]
            simp only [List.length_cons]
            omega
theorem zig_unzig {u : Int} (h : 0 ≤ u) : (zig (unzig u) : Int) = u := by unfold zig unzig; split <;> split <;> omega
theorem unzig_zig {n : Int} : unzig (zig n) = n := by unfold zig unzig; split <;> split <;> omega
theorem RD_round (n : Nat) (rest : List Int) (h2 : n ≤ 1152921504606846976) : RD (G n ++ rest) = ((n : Int), ((G n).length : Int), 0) := by
  have := RL_round n 0 0 rest (by omega) (by omega) (by omega)
  unfold RD
  rw [this]
  simp only [Int.pow_zero, Int.mul_one, Int.zero_add, true_and]
  rw [if_neg (by omega)]
  simp
theorem RD_canon {l : List Int} {v c : Int} (hb : ∀ b ∈ l, 0 ≤ b ∧ b ≤ 255) (h : RD l = (v, c, 0)) : ∃ rest, l = G v.toNat ++ rest ∧ c = (G v.toNat).length ∧ 0 ≤ v ∧ v ≤ 1152921504606846976 := by
  obtain ⟨u, d, e, hr⟩ : ∃ u d e, RL 0 0 l = (u, d, e) := ⟨_, _, _, rfl⟩
  unfold RD at h
  rw [hr] at h
  dsimp only at h
  split at h
  · simp at h
  · rename_i hn
    simp only [Prod.mk.injEq] at h
    obtain ⟨rfl, rfl, rfl⟩ := h
    obtain ⟨m, rest, rfl, hv, hk, _⟩ := RL_canon l 0 0 u d hb hr
    simp only [Int.pow_zero, Int.mul_one, Int.zero_add] at hv
    have hm : u.toNat = m := by omega
    exact ⟨rest, by rw [hm], by rw [hm]; omega, by omega, by omega⟩
theorem RD_cut (n j : Nat) (h2 : n ≤ 1152921504606846976) (hj : j < (G n).length) : RD ((G n).take j) = (0, 0, 11) := by
  unfold RD
  rw [RL_cut n 0 0 j (by omega) (by omega) hj]
  rfl
theorem RD_err {l : List Int} (h : (RD l).2.2 ≠ 0) : RD l = (0, 0, (RD l).2.2) := by
  obtain ⟨u, d, e, hr⟩ : ∃ u d e, RL 0 0 l = (u, d, e) := ⟨_, _, _, rfl⟩
  unfold RD at h ⊢
  rw [hr] at h ⊢
  dsimp only at h ⊢
  split
  · rfl
  · rename_i hn
    rw [if_neg hn] at h
    obtain ⟨rfl, rfl⟩ := RL_err0 _ hr h
    rfl
theorem readRef_ev (s : ByteArray) (hs : s.size ≤ 140737488351232) : Ev (fun k => lookoutref01_Read.f k s) (RD (bytesOf s)) := ⟨18, fun _ hk => readRef_is s hs hk⟩
def inR (n : Int) : Prop := -1152921504606846976 ≤ n ∧ n ≤ 1152921504606846976
instance (n : Int) : Decidable (inR n) := inferInstanceAs (Decidable (_ ∧ _))
theorem drop_cons {l : List Int} {i : Nat} (h : i < l.length) : l.drop i = rd l i :: l.drop (i + 1) := by
  rw [List.drop_eq_getElem_cons h]
  congr 1
  unfold rd
  rw [Int.toNat_natCast, List.getD_eq_getElem?_getD, List.getElem?_eq_getElem h]
  rfl
theorem RD_size {l : List Int} (hb : ∀ b ∈ l, 0 ≤ b ∧ b ≤ 255) (h : (RD l).2.2 = 0) : 0 < (RD l).2.1 ∧ (RD l).2.1 ≤ l.length ∧ 0 ≤ (RD l).1 ∧ (RD l).1 ≤ 1152921504606846976 := by
  obtain ⟨rest, hl, hc, h0, h1⟩ := RD_canon (v := (RD l).1) (c := (RD l).2.1) hb (by rw [← h])
  have := G_pos (RD l).1.toNat
  have h2 := congrArg List.length hl
  rw [List.length_append] at h2
  omega
theorem drop_byte {l : List Int} (hb : ∀ b ∈ l, 0 ≤ b ∧ b ≤ 255) (n : Nat) : ∀ b ∈ l.drop n, 0 ≤ b ∧ b ≤ 255 := fun b h => hb b (List.mem_of_mem_drop h)
end Go.Proofs.Ytfklecicddpcjaa.VB
end
section
namespace Go.Proofs.Ytfklecicddpcjaa.DK
open Go.RowKit Go.Proofs.Ytfklecicddpcjaa.A Go.Proofs.Ytfklecicddpcjaa.Hand Go.Proofs.YtfklecicddpcjaaW.PrintWords Go.Proofs.YtfklecicddpcjaaW.PrintLast Go.Proofs.YtfklecicddpcjaaW.PrintMore
set_option linter.unusedVariables false
set_option linter.unusedSimpArgs false
theorem less_eq : ∀ (x y : List UInt8), Op.bytesLess x y = decide (x < y)
  | [], [] => by simp [Op.bytesLess]
  | _ :: _, [] => by simp [Op.bytesLess]
  | [], _ :: _ => by simp [Op.bytesLess]
  | a :: x, b :: y => by
    rw [Op.bytesLess, less_eq x y]
    simp only [List.cons_lt_cons_iff]
    by_cases h1 : a < b <;> by_cases h2 : a = b <;> by_cases h3 : x < y <;> simp [h1, h2, h3]
abbrev bl (s : ByteArray) : List UInt8 := s.data.toList
theorem toL (s : ByteArray) : s.toList = bl s := ByteArray.toList_eq s
theorem bl_inj {a b : ByteArray} (h : bl a = bl b) : a = b := by
  cases a with | mk a => cases b with | mk b => exact congrArg ByteArray.mk (Array.toList_inj.1 h)
theorem tl_inj {a b : ByteArray} (h : a.toList = b.toList) : a = b := bl_inj (by rw [← toL, ← toL]; exact h)
theorem tri (a b : List UInt8) : a < b ∨ a = b ∨ b < a := by
  by_cases h1 : a < b
  · exact .inl h1
  · by_cases h2 : b < a
    · exact .inr (.inr h2)
    · exact .inr (.inl (List.le_antisymm (List.not_lt.1 h2) (List.not_lt.1 h1)))
def hasB (x : ByteArray) (l : List ByteArray) : Bool := l.any fun y => decide (bl y = bl x)
theorem hasB_iff {x : ByteArray} {l : List ByteArray} : hasB x l = true ↔ x ∈ l := by
  unfold hasB
  rw [List.any_eq_true]
  constructor
  · rintro ⟨y, hy, h⟩
    rw [← bl_inj (of_decide_eq_true h)]; exact hy
  · intro h
    exact ⟨x, h, decide_eq_true rfl⟩
/-- Strictly ascending. -/
def Asc (l : List ByteArray) : Prop := l.Pairwise fun a b => bl a < bl b
theorem asc_ext : ∀ {l m : List ByteArray}, Asc l → Asc m → (∀ x, x ∈ l ↔ x ∈ m) → l = m
  | [], [], _, _, _ => rfl
  | [], y :: m, _, _, h => by have := (h y).2 (by simp); simp at this
  | x :: l, [], _, _, h => by have := (h x).1 (by simp); simp at this
  | x :: l, y :: m, hl, hm, h => by
    obtain ⟨hx, hl'⟩ := List.pairwise_cons.1 hl
    obtain ⟨hy, hm'⟩ := List.pairwise_cons.1 hm
    have e : x = y := by
      rcases List.mem_cons.1 ((h x).1 (by simp)) with e | e
      · exact e
      · rcases List.mem_cons.1 ((h y).2 (by simp)) with e' | e'
        · exact e'.symm
        · exact absurd (hx y e') (List.lt_asymm (hy x e))
    subst e
    rw [asc_ext hl' hm' (fun z => ?_)]
    constructor
    · intro hz
      rcases List.mem_cons.1 ((h z).1 (by simp [hz])) with e | e
      · subst e; exact absurd (hx z hz) (List.lt_irrefl _)
      · exact e
    · intro hz
      rcases List.mem_cons.1 ((h z).2 (by simp [hz])) with e | e
      · subst e; exact absurd (hy z hz) (List.lt_irrefl _)
      · exact e
/-! ### the reference's dictionary -/
theorem posB_split (x : ByteArray) : ∀ l : List ByteArray, Asc l → (∀ y ∈ l.take (posB x l), bl y < bl x) ∧ (∀ y ∈ l.drop (posB x l), ¬ bl y < bl x)
  | [], _ => ⟨by simp [posB], by simp [posB]⟩
  | y :: r, h => by
    obtain ⟨hy, hr⟩ := List.pairwise_cons.1 h
    obtain ⟨i1, i2⟩ := posB_split x r hr
    unfold posB
    by_cases c : Op.bytesLess y.toList x.toList = true
    · rw [if_pos c, List.take_succ_cons, List.drop_succ_cons]
      refine ⟨fun z hz => ?_, i2⟩
      rcases List.mem_cons.1 hz with e | e
      · subst e; rw [less_eq, toL, toL] at c; exact of_decide_eq_true c
      · exact i1 z e
    · rw [if_neg c]
      refine ⟨by simp, fun z hz => ?_⟩
      have c2 : ¬ bl y < bl x := by rw [less_eq, toL, toL] at c; simpa using c
      rcases List.mem_cons.1 (by simpa using hz) with e | e
      · subst e; exact c2
      · intro hlt; exact c2 (List.lt_trans (hy z e) hlt)
theorem insS_mem (x : ByteArray) (l : List ByteArray) (z : ByteArray) : z ∈ insS x l ↔ z = x ∨ z ∈ l := by
  unfold insS
  rw [List.mem_append, List.mem_cons]
  constructor
  · rintro (h | h | h)
    · exact .inr (List.mem_of_mem_take h)
    · exact .inl h
    · exact .inr (List.mem_of_mem_drop h)
  · rintro (h | h)
    · exact .inr (.inl h)
    · rw [← List.take_append_drop (posB x l) l, List.mem_append] at h
      exact h.elim .inl (fun h => .inr (.inr h))
theorem insS_asc {x : ByteArray} {l : List ByteArray} (h : Asc l) (hx : x ∉ l) : Asc (insS x l) := by
  obtain ⟨h1, h2⟩ := posB_split x l h
  have hs : Asc (l.take (posB x l) ++ l.drop (posB x l)) := by rw [List.take_append_drop]; exact h
  obtain ⟨p1, p2, p3⟩ := List.pairwise_append.1 hs
  unfold insS Asc
  refine List.pairwise_append.2 ⟨p1, List.pairwise_cons.2 ⟨fun y hy => ?_, p2⟩, fun a ha b hb => ?_⟩
  · rcases tri (bl x) (bl y) with h | h | h
    · exact h
    · exact absurd (bl_inj h ▸ List.mem_of_mem_drop hy) hx
    · exact absurd h (h2 y hy)
  · rcases List.mem_cons.1 hb with e | e
    · subst e; exact h1 a ha
    · exact p3 a ha b e
/-- The different strings of a list, in ascending order, behind those of another one. -/
def dicF : List ByteArray → List ByteArray → List ByteArray
  | [], out => out
  | x :: r, out => dicF r (if hasB x out = true then out else insS x out)
def dic (l : List ByteArray) : List ByteArray := dicF l []
theorem dicF_spec : ∀ (l out : List ByteArray), Asc out → Asc (dicF l out) ∧ ∀ z, z ∈ dicF l out ↔ z ∈ l ∨ z ∈ out
  | [], out, h => ⟨h, fun z => by simp [dicF]⟩
  | x :: r, out, h => by
    unfold dicF
    by_cases c : x ∈ out
    · rw [if_pos (hasB_iff.2 c)]
      obtain ⟨h1, h2⟩ := dicF_spec r out h
      refine ⟨h1, fun z => ?_⟩
      rw [h2, List.mem_cons]
      constructor
      · rintro (h | h)
        · exact .inl (.inr h)
        · exact .inr h
      · rintro ((h | h) | h)
        · exact .inr (h ▸ c)
        · exact .inl h
        · exact .inr h
    · rw [if_neg (fun h => c (hasB_iff.1 h))]
      obtain ⟨h1, h2⟩ := dicF_spec r _ (insS_asc h c)
      refine ⟨h1, fun z => ?_⟩
      rw [h2, insS_mem, List.mem_cons]
      constructor
      · rintro (h | h | h)
        · exact .inl (.inr h)
        · exact .inl (.inl h)
        · exact .inr h
      · rintro ((h | h) | h)
        · exact .inr (.inl h)
        · exact .inl h
        · exact .inr (.inr h)
theorem dic_asc (l : List ByteArray) : Asc (dic l) := (dicF_spec l [] List.Pairwise.nil).1
theorem mem_dic {l : List ByteArray} {z : ByteArray} : z ∈ dic l ↔ z ∈ l := by
  have h := (dicF_spec l [] List.Pairwise.nil).2 z
  unfold dic
  rw [h]; simp
/-! ### the program's dictionary -/
theorem bys_bl (s : ByteArray) : bys (bl s) = s := rfl
theorem bl_bys (l : List UInt8) : bl (bys l) = l := rfl
theorem sorted_le (l : List ByteArray) : ((ubs l).mergeSort fun x y => decide (x ≤ y)).Pairwise (fun x y => x ≤ y) := by
  have h := List.pairwise_mergeSort (le := fun x y : List UInt8 => decide (x ≤ y)) (fun a b c h1 h2 => by simp only [decide_eq_true_eq] at *; exact List.le_trans h1 h2) (fun a b => by simp only [Bool.or_eq_true, decide_eq_true_eq]; exact List.le_total a b) (ubs l)
  exact h.imp (fun h => of_decide_eq_true h)
theorem compact_spec (zs : List (List UInt8)) (h : zs.Pairwise (fun x y => x ≤ y)) : (Lib.compact zs).Pairwise (fun x y => x < y) ∧ ∀ z, z ∈ Lib.compact zs ↔ z ∈ zs := by
  have at_ : ∀ i (hi : i < zs.length), zs.toArray[i]! = zs[i] := fun i hi => by simp [hi]
  constructor
  · unfold Lib.compact Lib.compactUpTo
    rw [List.pairwise_map, List.pairwise_filter]
    refine List.Pairwise.imp_of_mem (R := fun a b => a < b) (fun {a b} ha hb hlt _ hk => ?_) List.pairwise_lt_range
    have hb' := List.mem_range.1 hb
    rw [at_ a (by omega), at_ b hb']
    have hne : zs[b] ≠ zs[b - 1] := by
      simp only [Lib.keeps] at hk
      rw [at_ b hb', at_ (b - 1) (by omega)] at hk
      have : b ≠ 0 := by omega
      simpa [this] using hk
    have h1 : zs[a] ≤ zs[b - 1] := by
      rcases Nat.lt_or_ge a (b - 1) with h' | h'
      · exact List.pairwise_iff_getElem.1 h a (b - 1) (by omega) (by omega) h'
      · have e : a = b - 1 := by omega
        subst e; exact List.le_refl _
    have h2 : zs[b - 1] ≤ zs[b] := List.pairwise_iff_getElem.1 h (b - 1) b (by omega) (by omega) (by omega)
    have h3 : zs[b - 1] < zs[b] := by
      rcases tri zs[b - 1] zs[b] with h' | h' | h'
      · exact h'
      · exact absurd h'.symm hne
      · exact absurd h' (List.not_lt.2 h2)
    exact List.lt_of_le_of_lt h1 h3
  · intro z
    unfold Lib.compact Lib.compactUpTo
    rw [List.mem_map]
    constructor
    · rintro ⟨i, hi, rfl⟩
      have := List.mem_range.1 (List.mem_filter.1 hi).1
      rw [at_ i this]; exact List.getElem_mem _
    · intro hz
      obtain ⟨i, hi, rfl⟩ := List.getElem_of_mem hz
      have key : ∀ n i (hi : i < zs.length), i ≤ n → ∃ j, j < zs.length ∧ Lib.keeps zs.toArray j = true ∧ zs.toArray[j]! = zs[i] := by
        intro n
        induction n with
        | zero =>
          intro i hi h0
          exact ⟨i, hi, by have : i = 0 := by omega
                           subst this; simp [Lib.keeps], at_ i hi⟩
        | succ n ih =>
          intro i hi h0
          by_cases hk : Lib.keeps zs.toArray i = true
          · exact ⟨i, hi, hk, at_ i hi⟩
          · have hpos : 0 < i := by
              rcases Nat.eq_zero_or_pos i with e | e
              · subst e; simp [Lib.keeps] at hk
              · exact e
            have heq : zs[i] = zs[i - 1] := by
              simp only [Lib.keeps] at hk
              rw [at_ i hi, at_ (i - 1) (by omega)] at hk
              have : i ≠ 0 := by omega
              simpa [this] using hk
            obtain ⟨j, h1, h2, h3⟩ := ih (i - 1) (by omega) (by omega)
            exact ⟨j, h1, h2, h3.trans heq.symm⟩
      obtain ⟨j, h1, h2, h3⟩ := key i i hi (Nat.le_refl _)
      exact ⟨j, List.mem_filter.2 ⟨List.mem_range.2 h1, h2⟩, h3⟩
theorem prog_dic (l : List ByteArray) : compB (sortB l) = dic l := by
  have hu : ubs (sortB l) = (ubs l).mergeSort fun x y => decide (x ≤ y) := by
    unfold sortB ubs
    rw [List.map_map]
    conv => rhs; rw [← List.map_id (List.mergeSort _ _)]
    apply List.map_congr_left
    intro x _
    rfl
  obtain ⟨h1, h2⟩ := compact_spec (ubs (sortB l)) (by rw [hu]; exact sorted_le l)
  refine asc_ext ?_ (dic_asc l) (fun z => ?_)
  · unfold Asc compB
    rw [List.pairwise_map]
    exact h1.imp (fun h => h)
  · rw [mem_dic]
    unfold compB
    rw [List.mem_map]
    constructor
    · rintro ⟨y, hy, rfl⟩
      have := (h2 y).1 hy
      rw [hu, List.mem_mergeSort] at this
      obtain ⟨x, hx, rfl⟩ := List.mem_map.1 this
      exact hx
    · intro hz
      exact ⟨bl z, (h2 _).2 (by rw [hu, List.mem_mergeSort]; exact List.mem_map.2 ⟨z, hz, rfl⟩), rfl⟩
end Go.Proofs.Ytfklecicddpcjaa.DK
end
section
namespace Go.Proofs.Ytfklecicddpcjaa.DK
open Go.RowKit Go.Proofs.Ytfklecicddpcjaa.VB Go.Proofs.Ytfklecicddpcjaa.A Go.Proofs.Ytfklecicddpcjaa.Hand Go.Proofs.YtfklecicddpcjaaW.PrintWords Go.Proofs.YtfklecicddpcjaaW.PrintLast Go.Proofs.YtfklecicddpcjaaW.PrintMore
set_option linter.unusedVariables false
set_option linter.unusedSimpArgs false
theorem w1 {i : Nat} (h : i < 140737488355328) : wrap64 ((i : Int) + 1) = ((i + 1 : Nat) : Int) := by unfold wrap64; omega
theorem w_in {n : Int} (h0 : -9223372036854775808 ≤ n) (h1 : n ≤ 9223372036854775807) : wrap64 n = n := by unfold wrap64; omega
theorem str_size (l : List Int) : (strOfNums l).size = l.length := by
  have : (bytesOf (strOfNums l)).length = l.length := by simp [bytesOf, strOfNums]
  rw [← this]; simp [bytesOf]
theorem str_nil (s : ByteArray) : s ++ strOfNums [] = s := by
  apply bytesOf_inj
  rw [bytesOf_append, bytesOf_nums (by simp), List.append_nil]
theorem bytes_len (s : ByteArray) : (bytesOf s).length = s.size := bytesOf_length s
theorem bytesOf_bl {a b : ByteArray} : bl a = bl b ↔ bytesOf a = bytesOf b := ⟨fun h => by rw [bl_inj h], fun h => by rw [bytesOf_inj h]⟩
/-! ### the longest common prefix -/
def cmL : List Int → List Int → Nat
  | x :: a, y :: b => if x = y then cmL a b + 1 else 0
  | _, _ => 0
theorem cmL_nil (b : List Int) : cmL [] b = 0 := by unfold cmL; rfl
theorem cmL_le : ∀ a b : List Int, cmL a b ≤ a.length ∧ cmL a b ≤ b.length
  | [], b => by rw [cmL_nil]; simp
  | x :: a, [] => by simp [cmL]
  | x :: a, y :: b => by
    have := cmL_le a b
    unfold cmL
    split <;> simp <;> omega
theorem common_l0 (a b : ByteArray) (ha : a.size < 140737488355328) : ∀ (d i k : Nat), a.size - i ≤ d → i ≤ a.size → d + 1 ≤ k → dictcol_common.l0 k a b (i : Int) = some (((i + cmL ((bytesOf a).drop i) ((bytesOf b).drop i) : Nat) : Int)) := by
  intro d
  induction d with
  | zero =>
    intro i k hd hi hk
    obtain ⟨k, rfl⟩ : ∃ j, k = j + 1 := ⟨k - 1, by omega⟩
    rw [dictcol_common.l0, if_neg (by omega), bytes_end a (by omega), cmL_nil]
    simp
  | succ d ih =>
    intro i k hd hi hk
    obtain ⟨k, rfl⟩ : ∃ j, k = j + 1 := ⟨k - 1, by omega⟩
    rw [dictcol_common.l0]
    by_cases c1 : i < a.size
    · rw [if_pos (by omega), bytes_drop a c1]
      by_cases c2 : i < b.size
      · rw [if_pos (by omega), if_pos (by omega), bytes_drop b c2, cmL]
        by_cases c3 : bt a (i : Int) = bt b (i : Int)
        · rw [if_pos c3, if_pos c3, w1 (by omega), ih (i + 1) k (by omega) (by omega) (by omega)]
          congr 1; omega
        · rw [if_neg c3, if_neg c3]; simp
      · rw [if_neg (by omega), bytes_end b (by omega)]
        simp [cmL]
    · rw [if_neg (by omega), bytes_end a (by omega), cmL_nil]
      simp
theorem common_same (a b : ByteArray) : ∀ (k : Nat) (i : Int), lookoutref10_common.l0 k a b i = dictcol_common.l0 k a b i := by
  intro k
  induction k with
  | zero => intro i; rfl
  | succ k ih => intro i; rw [lookoutref10_common.l0, dictcol_common.l0, ih]
theorem common_ev (a b : ByteArray) (ha : a.size < 140737488355328) : Ev (fun k => dictcol_common.f k a b) ((cmL (bytesOf a) (bytesOf b) : Nat) : Int) := ⟨a.size + 1, fun k hk => by
  have := common_l0 a b ha a.size 0 k (by omega) (by omega) hk
  simpa [dictcol_common.f] using this⟩
theorem commonRef_ev (a b : ByteArray) (ha : a.size < 140737488355328) : Ev (fun k => lookoutref10_common.f k a b) ((cmL (bytesOf a) (bytesOf b) : Nat) : Int) :=
  Ev.congr (fun k => by unfold lookoutref10_common.f; rw [common_same]; rfl) (common_ev a b ha)
/-! ### numbers -/
theorem num_ev (b : List Int) (n : Nat) (hn : n ≤ 1152921504606846976) (hb : b.length ≤ 100000000) : Ev (fun k => dictcol_appendNumber.f k b n) (b ++ G n) := by
  have a := append_ev ⟨#[]⟩ (n : Int) (by show 0 ≤ 4611686018427387904; omega)
  have e : AP ⟨#[]⟩ (n : Int) = (strOfNums (G n), 0) := by unfold AP; rw [if_neg (by omega), empty_append, Int.toNat_natCast]
  rw [e] at a
  refine Ev.bind a ?_
  have hg := G_len9 (n := n) (by omega)
  refine Ev.congr (fun k => ?_) (Ev.now _)
  rw [if_pos (by rw [str_size]; omega), bytesOf_nums (G_byte n)]
theorem numRef_ev (n : Nat) (hn : n ≤ 1152921504606846976) : Ev (fun k => lookoutref10_number.f k n) (strOfNums (G n)) := by
  have a := appendRef_ev ⟨#[]⟩ (n : Int) (by show 0 ≤ 4611686018427387904; omega)
  have e : AP ⟨#[]⟩ (n : Int) = (strOfNums (G n), 0) := by unfold AP; rw [if_neg (by omega), empty_append, Int.toNat_natCast]
  rw [e] at a
  exact Ev.bind a (Ev.now _)
/-! ### the dictionary's bytes -/
def dictB : List ByteArray → List Int → List Int
  | [], _ => []
  | s :: r, p => G (cmL p (bytesOf s)) ++ (G (s.size - cmL p (bytesOf s)) ++ ((bytesOf s).drop (cmL p (bytesOf s)) ++ dictB r (bytesOf s)))
def Small (d : List ByteArray) : Prop := ∀ s ∈ d, s.size ≤ 1000
theorem dictB_len : ∀ (d : List ByteArray) (p : List Int), Small d → (dictB d p).length ≤ 1018 * d.length
  | [], _, _ => by simp [dictB]
  | s :: r, p, h => by
    have hs := h s (by simp)
    have ih := dictB_len r (bytesOf s) (fun x hx => h x (by simp [hx]))
    have hc := (cmL_le p (bytesOf s)).2
    rw [bytes_len] at hc
    have g1 := G_len9 (n := cmL p (bytesOf s)) (by omega)
    have g2 := G_len9 (n := s.size - cmL p (bytesOf s)) (by omega)
    simp only [dictB, List.length_append, List.length_drop, bytes_len, List.length_cons]
    omega
theorem dict_ev : ∀ (d : List ByteArray) (bef : ByteArray) (b : List Int), Small d → bef.size ≤ 1000 → b.length + 1018 * d.length ≤ 90000000 → Ev (fun k => dictG k d bef b) (b ++ dictB d (bytesOf bef))
  | [], bef, b, _, _, _ => by simp only [dictB, List.append_nil]; exact Ev.now _
  | s :: r, bef, b, h, hb, hl => by
    have hs := h s (by simp)
    rw [List.length_cons] at hl
    have hc := (cmL_le (bytesOf bef) (bytesOf s)).2
    rw [bytes_len] at hc
    have hcm := common_ev bef s (by omega)
    generalize hC : cmL (bytesOf bef) (bytesOf s) = c at hc hcm
    have g1 := G_len9 (n := c) (by omega)
    have g2 := G_len9 (n := s.size - c) (by omega)
    have ih := dict_ev r s (b ++ G c ++ G (s.size - c) ++ (bytesOf s).drop c) (fun x hx => h x (by simp [hx])) hs (by simp only [List.length_append, List.length_drop, bytes_len]; omega)
    have e : b ++ G c ++ G (s.size - c) ++ (bytesOf s).drop c ++ dictB r (bytesOf s) = b ++ dictB (s :: r) (bytesOf bef) := by
      simp only [dictB, hC, List.append_assoc]
    rw [e] at ih
    refine Ev.bind hcm ?_
    refine Ev.bind (num_ev b c (by omega) (by omega)) ?_
    have h2 := num_ev (b ++ G c) (s.size - c) (by omega) (by rw [List.length_append]; omega)
    refine Ev.bind (a := b ++ G c ++ G (s.size - c)) (Ev.congr (fun k => by rw [w_in (by omega) (by omega), show (s.size : Int) - (c : Int) = ((s.size - c : Nat) : Int) by omega]) h2) ?_
    refine Ev.congr (fun k => ?_) ih
    rw [if_pos ⟨by omega, by omega, by simp only [List.length_append]; omega⟩, Int.toNat_natCast, bytesOf_from]
def prevB : Option ByteArray → List Int
  | none => []
  | some q => bytesOf q
theorem comO_ev (p : Option ByteArray) (s : ByteArray) (h : ∀ q, p = some q → q.size ≤ 1000) : Ev (fun k => comO k p s) ((cmL (prevB p) (bytesOf s) : Nat) : Int) := by
  cases p with
  | none => simp only [prevB, cmL_nil]; exact Ev.now _
  | some q => exact commonRef_ev q s (by have := h q rfl; omega)
theorem dictRef_ev : ∀ (d : List ByteArray) (p : Option ByteArray) (b : List Int), Small d → (∀ q, p = some q → q.size ≤ 1000) → b.length + 1018 * d.length ≤ 90000000 → Ev (fun k => rdG k d p b) (b ++ dictB d (prevB p))
  | [], p, b, _, _, _ => by simp only [dictB, List.append_nil]; exact Ev.now _
  | s :: r, p, b, h, hb, hl => by
    have hs := h s (by simp)
    rw [List.length_cons] at hl
    have hc := (cmL_le (prevB p) (bytesOf s)).2
    rw [bytes_len] at hc
    have hcm := comO_ev p s hb
    generalize hC : cmL (prevB p) (bytesOf s) = c at hc hcm
    have g1 := G_len9 (n := c) (by omega)
    have g2 := G_len9 (n := s.size - c) (by omega)
    have eb : bytesOf (strOfNums (G c) ++ strOfNums (G (s.size - c)) ++ s.extract c s.size) = G c ++ (G (s.size - c) ++ (bytesOf s).drop c) := by
      rw [bytesOf_append, bytesOf_append, bytesOf_nums (G_byte _), bytesOf_nums (G_byte _), bytesOf_from, List.append_assoc]
    have ih := dictRef_ev r (some s) (b ++ (G c ++ (G (s.size - c) ++ (bytesOf s).drop c))) (fun x hx => h x (by simp [hx])) (fun q hq => by cases hq; exact hs) (by simp only [List.length_append, List.length_drop, bytes_len]; omega)
    have e : b ++ (G c ++ (G (s.size - c) ++ (bytesOf s).drop c)) ++ dictB r (prevB (some s)) = b ++ dictB (s :: r) (prevB p) := by
      rw [dictB, hC, show prevB (some s) = bytesOf s from rfl]; simp only [List.append_assoc]
    rw [e] at ih
    refine Ev.bind hcm ?_
    refine Ev.congr (fun k => if_pos ⟨by omega, by omega⟩) ?_
    refine Ev.bind (numRef_ev c (by omega)) ?_
    refine Ev.bind (a := strOfNums (G (s.size - c))) (Ev.congr (fun k => by rw [show (s.size : Int) - (c : Int) = ((s.size - c : Nat) : Int) by omega]) (numRef_ev (s.size - c) (by omega))) ?_
    refine Ev.congr (fun k => ?_) ih
    rw [if_pos (by rw [str_size, str_size]; omega), Int.toNat_natCast, eb]
/-! ### the places -/
def idxN : List ByteArray → ByteArray → Nat
  | [], _ => 0
  | y :: r, s => if bl y = bl s then 0 else idxN r s + 1
theorem idxN_le : ∀ (d : List ByteArray) (s : ByteArray), idxN d s ≤ d.length
  | [], _ => Nat.le_refl _
  | y :: r, s => by have := idxN_le r s; unfold idxN; split <;> simp; omega
theorem idxN_lt : ∀ {d : List ByteArray} {s : ByteArray}, s ∈ d → idxN d s < d.length
  | y :: r, s, h => by
    unfold idxN
    split
    · simp
    · rename_i hne
      rcases List.mem_cons.1 h with e | e
      · exact absurd (by rw [e]) hne
      · have := idxN_lt e; simp; omega
theorem idxN_get : ∀ {d : List ByteArray} {s : ByteArray}, s ∈ d → d[idxN d s]? = some s
  | y :: r, s, h => by
    unfold idxN
    split
    · rename_i he; simp [bl_inj he]
    · rename_i hne
      rcases List.mem_cons.1 h with e | e
      · exact absurd (by rw [e]) hne
      · simpa using idxN_get e
theorem plcF_not : ∀ (d : List ByteArray) (i : Nat) (s : ByteArray) (c : Int), s ∉ d → plcF d i s c = c
  | [], _, _, _, _ => rfl
  | y :: r, i, s, c, h => by
    rw [List.mem_cons, not_or] at h
    rw [plcF, if_neg (fun e => h.1 (bl_inj e).symm)]
    exact plcF_not r (i + 1) s c h.2
theorem plcF_in : ∀ (d : List ByteArray) (i : Nat) (s : ByteArray) (c : Int), Asc d → s ∈ d → plcF d i s c = ((i + idxN d s : Nat) : Int)
  | y :: r, i, s, c, ha, h => by
    obtain ⟨h1, h2⟩ := List.pairwise_cons.1 ha
    rw [plcF, idxN]
    by_cases e : bl y = bl s
    · rw [if_pos e, if_pos e, plcF_not r (i + 1) s _ (fun hm => absurd (h1 s hm) (by rw [e]; exact List.lt_irrefl _))]
      simp
    · rw [if_neg e, if_neg e]
      rcases List.mem_cons.1 h with e' | e'
      · exact absurd (by rw [e']) e
      · rw [plcF_in r (i + 1) s c h2 e']
        congr 1; omega
theorem plc_in {d : List ByteArray} {s : ByteArray} (ha : Asc d) (h : s ∈ d) : plc d s = (idxN d s : Int) := by
  unfold plc
  rw [plcF_in d 0 s 0 ha h]; simp
theorem index_l0 (d : List ByteArray) (s : ByteArray) (hd : d.length < 140737488355328) : ∀ (n i k : Nat), d.length - i ≤ n → i ≤ d.length → n + 1 ≤ k → lookoutref10_index.l0 k d s (i : Int) = some (if hasB s (d.drop i) = true then ((i + idxN (d.drop i) s : Nat) : Int) else -1) := by
  intro n
  induction n with
  | zero =>
    intro i k hn hi hk
    obtain ⟨k, rfl⟩ : ∃ j, k = j + 1 := ⟨k - 1, by omega⟩
    rw [lookoutref10_index.l0, if_neg (by omega), List.drop_eq_nil_of_le (by omega)]
    simp [hasB]
  | succ n ih =>
    intro i k hn hi hk
    obtain ⟨k, rfl⟩ : ∃ j, k = j + 1 := ⟨k - 1, by omega⟩
    rw [lookoutref10_index.l0]
    by_cases c1 : i < d.length
    · rw [if_pos (by omega), if_pos (by omega), drop_rd c1]
      by_cases c2 : (rdOf ByteArray.empty d (i : Int)).toList = s.toList
      · have e := tl_inj c2
        rw [if_pos c2, if_pos (hasB_iff.2 (by rw [show rdS d (i : Int) = s from e]; simp)), idxN, if_pos (by rw [show rdS d (i : Int) = s from e])]
        simp
      · rw [if_neg c2, w1 (by omega), ih (i + 1) k (by omega) (by omega) (by omega), show idxN (rdS d (i : Int) :: d.drop (i + 1)) s = idxN (d.drop (i + 1)) s + 1 from by rw [idxN, if_neg (fun e => c2 (by rw [toL, toL]; exact e))]]
        by_cases c3 : s ∈ d.drop (i + 1)
        · rw [if_pos (hasB_iff.2 c3), if_pos (hasB_iff.2 (List.mem_cons_of_mem _ c3))]
          congr 2; omega
        · have hneg : ¬ hasB s (rdS d (i : Int) :: d.drop (i + 1)) = true := fun h => by
            rcases List.mem_cons.1 (hasB_iff.1 h) with e | e
            · exact c2 (by rw [e])
            · exact c3 e
          have hneg2 : ¬ hasB s (d.drop (i + 1)) = true := fun h => c3 (hasB_iff.1 h)
          rw [if_neg hneg2, if_neg hneg]
    · rw [if_neg (by omega), List.drop_eq_nil_of_le (by omega)]
      simp [hasB]
theorem index_ev (d : List ByteArray) (s : ByteArray) (hd : d.length < 140737488355328) : Ev (fun k => lookoutref10_index.f k d s) (if hasB s d = true then (idxN d s : Int) else -1) := ⟨d.length + 1, fun k hk => by
  have := index_l0 d s hd d.length 0 k (by omega) (by omega) hk
  simpa [lookoutref10_index.f] using this⟩
theorem refD_ev : ∀ (l out : List ByteArray), out.length + l.length ≤ 100000000 → Ev (fun k => refD k l out) (dicF l out)
  | [], out, _ => Ev.now _
  | x :: r, out, h => by
    rw [List.length_cons] at h
    unfold dicF
    refine Ev.bind (index_ev out x (by omega)) ?_
    by_cases c : x ∈ out
    · rw [show (if hasB x out = true then out else insS x out) = out from if_pos (hasB_iff.2 c)]
      refine Ev.congr (fun k => ?_) (refD_ev r out (by omega))
      rw [show (if hasB x out = true then (idxN out x : Int) else -1) = (idxN out x : Int) from if_pos (hasB_iff.2 c), if_pos (by omega)]
    · rw [show (if hasB x out = true then out else insS x out) = insS x out from if_neg (fun h => c (hasB_iff.1 h))]
      refine Ev.congr (fun k => ?_) (refD_ev r (insS x out) (by have := posB_le x out; unfold insS; simp; omega))
      rw [show (if hasB x out = true then (idxN out x : Int) else -1) = -1 from if_neg (fun h => c (hasB_iff.1 h)), if_neg (by omega), if_pos (by omega)]
theorem dicRef_ev (l : List ByteArray) (h : l.length ≤ 100000000) : Ev (fun k => lookoutref10_dictionary.f k l) (dic l) := refD_ev l [] (by simpa using h)
/-! ### the runs' bytes -/
def runB (d : List ByteArray) : List (ByteArray × Int) → List Int
  | [] => []
  | p :: r => G (idxN d p.1) ++ (G (p.2 - 1).toNat ++ runB d r)
theorem runs_ev (d : List ByteArray) (ha : Asc d) (hd : d.length ≤ 100000) : ∀ (L : List (ByteArray × Int)) (b : List Int), (∀ p ∈ L, p.1 ∈ d ∧ p.1.size ≤ 1000 ∧ 1 ≤ p.2 ∧ p.2 ≤ 2000) → b.length + 18 * L.length ≤ 90000000 → Ev (fun k => runsG k d L b) (b ++ runB d L)
  | [], b, _, _ => by simp only [runB, List.append_nil]; exact Ev.now _
  | p :: r, b, h, hl => by
    obtain ⟨h1, h2, h3, h4⟩ := h p (by simp)
    rw [List.length_cons] at hl
    have hi := idxN_lt h1
    have g1 := G_len9 (n := idxN d p.1) (by omega)
    have g2 := G_len9 (n := (p.2 - 1).toNat) (by omega)
    have ih := runs_ev d ha hd r (b ++ G (idxN d p.1) ++ G (p.2 - 1).toNat) (fun x hx => h x (by simp [hx])) (by simp only [List.length_append]; omega)
    have e : b ++ G (idxN d p.1) ++ G (p.2 - 1).toNat ++ runB d r = b ++ runB d (p :: r) := by simp only [runB, List.append_assoc]
    rw [e] at ih
    unfold runsG
    refine Ev.congr (fun k => if_pos (by omega)) ?_
    refine Ev.bind (a := b ++ G (idxN d p.1)) (Ev.congr (fun k => by rw [plc_in ha h1]) (num_ev b (idxN d p.1) (by omega) (by omega))) ?_
    refine Ev.bind (a := b ++ G (idxN d p.1) ++ G (p.2 - 1).toNat) (Ev.congr (fun k => by rw [w_in (by omega) (by omega), show p.2 - 1 = (((p.2 - 1).toNat : Nat) : Int) by omega]; simp only [Int.toNat_natCast]) (num_ev (b ++ G (idxN d p.1)) (p.2 - 1).toNat (by omega) (by rw [List.length_append]; omega))) ih
theorem runsRef_ev (d : List ByteArray) (hd : d.length ≤ 100000) : ∀ (L : List (ByteArray × Int)) (b : List Int), (∀ p ∈ L, p.1 ∈ d ∧ p.1.size ≤ 1000 ∧ 1 ≤ p.2 ∧ p.2 ≤ 2000) → b.length + 18 * L.length ≤ 90000000 → Ev (fun k => rrG k d L b) (b ++ runB d L)
  | [], b, _, _ => by simp only [runB, List.append_nil]; exact Ev.now _
  | p :: r, b, h, hl => by
    obtain ⟨h1, h2, h3, h4⟩ := h p (by simp)
    rw [List.length_cons] at hl
    have hi := idxN_lt h1
    have g1 := G_len9 (n := idxN d p.1) (by omega)
    have g2 := G_len9 (n := (p.2 - 1).toNat) (by omega)
    have eb : bytesOf (strOfNums (G (idxN d p.1)) ++ strOfNums (G (p.2 - 1).toNat)) = G (idxN d p.1) ++ G (p.2 - 1).toNat := by rw [bytesOf_append, bytesOf_nums (G_byte _), bytesOf_nums (G_byte _)]
    have ih := runsRef_ev d hd r (b ++ (G (idxN d p.1) ++ G (p.2 - 1).toNat)) (fun x hx => h x (by simp [hx])) (by simp only [List.length_append]; omega)
    have e : b ++ (G (idxN d p.1) ++ G (p.2 - 1).toNat) ++ runB d r = b ++ runB d (p :: r) := by simp only [runB, List.append_assoc]
    rw [e] at ih
    unfold rrG
    refine Ev.bind (index_ev d p.1 (by omega)) ?_
    refine Ev.bind (a := strOfNums (G (idxN d p.1))) (Ev.congr (fun k => by rw [if_pos (hasB_iff.2 h1)]) (numRef_ev (idxN d p.1) (by omega))) ?_
    refine Ev.bind (a := strOfNums (G (p.2 - 1).toNat)) (Ev.congr (fun k => by rw [show p.2 - 1 = (((p.2 - 1).toNat : Nat) : Int) by omega]; simp only [Int.toNat_natCast]) (numRef_ev (p.2 - 1).toNat (by omega))) ?_
    refine Ev.congr (fun k => ?_) ih
    rw [if_pos (by rw [str_size, str_size]; omega), eb]
end Go.Proofs.Ytfklecicddpcjaa.DK
end
section
namespace Go.Proofs.Ytfklecicddpcjaa.DK
open Go.RowKit Go.Proofs.Ytfklecicddpcjaa.VB Go.Proofs.Ytfklecicddpcjaa.A Go.Proofs.Ytfklecicddpcjaa.Hand Go.Proofs.YtfklecicddpcjaaW.PrintWords Go.Proofs.YtfklecicddpcjaaW.PrintLast Go.Proofs.YtfklecicddpcjaaW.PrintMore
set_option linter.unusedVariables false
set_option linter.unusedSimpArgs false
theorem insS_len (x : ByteArray) (l : List ByteArray) : (insS x l).length = l.length + 1 := by
  have := posB_le x l
  unfold insS; simp; omega
theorem dicF_len : ∀ (l out : List ByteArray), (dicF l out).length ≤ l.length + out.length
  | [], out => by simp [dicF]
  | x :: r, out => by
    unfold dicF
    split
    · have := dicF_len r out; simp; omega
    · have := dicF_len r (insS x out); rw [insS_len] at this; simp; omega
theorem dic_len (l : List ByteArray) : (dic l).length ≤ l.length := by
  have := dicF_len l []
  unfold dic
  simpa using this
def encBytes (l : List ByteArray) : List Int := G l.length ++ (G (dic l).length ++ (dictB (dic l) [] ++ runB (dic l) (runL l)))
def COL (l : List ByteArray) : Prop := l.length ≤ 2000 ∧ longAny l = false
instance (l : List ByteArray) : Decidable (COL l) := by unfold COL; infer_instance
def ENC (l : List ByteArray) : ByteArray × Int := if COL l then (if (encBytes l).length > 1048576 then (⟨#[]⟩, 4) else (strOfNums (encBytes l), 0)) else (⟨#[]⟩, 4)
theorem small_of {l : List ByteArray} (h : longAny l = false) : Small l := by
  intro s hs
  unfold longAny at h
  have := List.any_eq_false.1 h s hs
  simp at this; omega
theorem long_of {l : List ByteArray} (h : Small l) : longAny l = false := by
  unfold longAny
  rw [List.any_eq_false]
  intro s hs
  have := h s hs
  simp; omega
theorem small_dic {l : List ByteArray} (h : Small l) : Small (dic l) := fun s hs => h s (mem_dic.1 hs)
theorem runs_ok {l : List ByteArray} (h : COL l) : ∀ p ∈ runL l, p.1 ∈ dic l ∧ p.1.size ≤ 1000 ∧ 1 ≤ p.2 ∧ p.2 ≤ 2000 := by
  intro p hp
  obtain ⟨h1, h2, h3⟩ := runF_pos l.length l p hp
  exact ⟨mem_dic.2 h1, small_of h.2 _ h1, h2, by have := h.1; omega⟩
theorem enc_eq (l : List ByteArray) : [] ++ G l.length ++ G (dic l).length ++ dictB (dic l) (bytesOf (⟨#[]⟩ : ByteArray)) ++ runB (dic l) (runL l) = encBytes l := by
  rw [bytesOf_empty]
  unfold encBytes
  simp only [List.nil_append, List.append_assoc]
theorem encG_ev {l : List ByteArray} (h : COL l) : Ev (fun k => encG k l (dic l)) (encBytes l) := by
  have hd := dic_len l
  have hl := h.1
  have hs := small_of h.2
  have g1 := G_len9 (n := l.length) (by omega)
  have g2 := G_len9 (n := (dic l).length) (by omega)
  have hdb := dictB_len (dic l) (bytesOf (⟨#[]⟩ : ByteArray)) (small_dic hs)
  have hr := runL_len l
  rw [← enc_eq l]
  unfold encG
  refine Ev.bind (num_ev [] l.length (by omega) (by simp)) ?_
  refine Ev.bind (num_ev _ (dic l).length (by omega) (by simp; omega)) ?_
  refine Ev.bind (dict_ev (dic l) ⟨#[]⟩ _ (small_dic hs) (Nat.zero_le _) (by simp only [List.length_append, List.length_nil]; omega)) ?_
  exact runs_ev (dic l) (dic_asc l) (by omega) (runL l) _ (runs_ok h) (by simp only [List.length_append, List.length_nil]; omega)
theorem isCol (l : List ByteArray) : dictcol_isColumn.f l = some (decide (COL l)) := by
  unfold dictcol_isColumn.f
  by_cases h1 : l.length ≤ 2000
  · rw [if_pos (by omega)]
    have e : contains_col.f l = some (longAny l) := rfl
    rw [e, Option.bind_some]
    congr 1
    by_cases hb : longAny l = true
    · rw [hb, decide_eq_false (fun h : COL l => by have := h.2; rw [hb] at this; cases this)]; rfl
    · have hb : longAny l = false := by simpa using hb
      rw [hb, decide_eq_true (show COL l from ⟨h1, hb⟩)]; rfl
  · rw [if_neg (by omega)]
    congr 1
    symm
    rw [decide_eq_false_iff_not]
    exact fun h => h1 h.1
theorem enc_ev (l : List ByteArray) : Ev (fun k => dictcol_Encode.f k l) (ENC l) := by
  unfold dictcol_Encode.f ENC
  simp only [isCol, Option.bind_some]
  by_cases h : COL l
  · simp only [if_pos h, decide_eq_true h, if_true]
    have := h.1
    refine Ev.congr (fun k => if_pos (by omega)) ?_
    rw [prog_dic]
    refine Ev.bind (encG_ev h) ?_
    by_cases c : (encBytes l).length > 1048576
    · rw [if_pos c]; exact Ev.congr (fun k => if_pos (by omega)) (Ev.now _)
    · rw [if_neg c]; exact Ev.congr (fun k => if_neg (by omega)) (Ev.now _)
  · simp only [if_neg h, decide_eq_false h]
    exact Ev.congr (fun k => by simp) (Ev.now _)
theorem refEncG_ev {l : List ByteArray} (h : COL l) : Ev (fun k => refEncG k l (dic l)) (encBytes l) := by
  have hd := dic_len l
  have hl := h.1
  have hs := small_of h.2
  have g1 := G_len9 (n := l.length) (by omega)
  have g2 := G_len9 (n := (dic l).length) (by omega)
  have hdb := dictB_len (dic l) [] (small_dic hs)
  have hr := runL_len l
  have eb : bytesOf (strOfNums (G l.length) ++ strOfNums (G (dic l).length)) = G l.length ++ G (dic l).length := by rw [bytesOf_append, bytesOf_nums (G_byte _), bytesOf_nums (G_byte _)]
  have e : G l.length ++ G (dic l).length ++ dictB (dic l) (prevB none) ++ runB (dic l) (runL l) = encBytes l := by
    unfold encBytes prevB
    simp only [List.append_assoc]
  rw [← e]
  unfold refEncG
  refine Ev.bind (numRef_ev l.length (by omega)) ?_
  refine Ev.bind (numRef_ev (dic l).length (by omega)) ?_
  refine Ev.congr (fun k => if_pos (by rw [str_size, str_size]; omega)) ?_
  rw [eb]
  refine Ev.bind (dictRef_ev (dic l) none _ (small_dic hs) (fun q hq => by cases hq) (by simp only [List.length_append]; omega)) ?_
  exact runsRef_ev (dic l) (by omega) (runL l) _ (runs_ok h) (by have : prevB none = [] := rfl; rw [this]; simp only [List.length_append]; omega)
theorem encRef_ev (l : List ByteArray) : Ev (fun k => lookoutref10_Encode.f k l) (ENC l) := by
  unfold lookoutref10_Encode.f ENC
  by_cases h1 : l.length ≤ 2000
  · refine Ev.congr (fun k => if_neg (by omega)) ?_
    by_cases h2 : longAny l = true
    · rw [if_neg (fun h : COL l => by have := h.2; rw [h2] at this; cases this)]
      exact Ev.congr (fun k => if_pos h2) (Ev.now _)
    · have h : COL l := ⟨h1, by simpa using h2⟩
      rw [if_pos h]
      refine Ev.congr (fun k => if_neg h2) ?_
      refine Ev.bind (dicRef_ev l (by omega)) ?_
      refine Ev.bind (refEncG_ev h) ?_
      by_cases c : (encBytes l).length > 1048576
      · rw [if_pos c]; exact Ev.congr (fun k => if_pos (by omega)) (Ev.now _)
      · rw [if_neg c]; exact Ev.congr (fun k => if_neg (by omega)) (Ev.now _)
  · rw [if_neg (fun h : COL l => h1 h.1)]
    exact Ev.congr (fun k => if_pos (by omega)) (Ev.now _)
theorem encBytes_byte (l : List ByteArray) : ∀ b ∈ encBytes l, 0 ≤ b ∧ b ≤ 255 := by
  have hr : ∀ (d : List ByteArray) (L : List (ByteArray × Int)), ∀ b ∈ runB d L, 0 ≤ b ∧ b ≤ 255 := by
    intro d L
    induction L with
    | nil => simp [runB]
    | cons p r ih =>
      intro b hb
      simp only [runB, List.mem_append] at hb
      rcases hb with h | h | h
      · exact G_byte _ b h
      · exact G_byte _ b h
      · exact ih b h
  have hd : ∀ (d : List ByteArray) (p : List Int), ∀ b ∈ dictB d p, 0 ≤ b ∧ b ≤ 255 := by
    intro d
    induction d with
    | nil => simp [dictB]
    | cons s r ih =>
      intro p b hb
      simp only [dictB, List.mem_append] at hb
      rcases hb with h | h | h | h
      · exact G_byte _ b h
      · exact G_byte _ b h
      · exact bytes_in s b (List.mem_of_mem_drop h)
      · exact ih _ b h
  intro b hb
  simp only [encBytes, List.mem_append] at hb
  rcases hb with h | h | h | h
  · exact G_byte _ b h
  · exact G_byte _ b h
  · exact hd _ _ b h
  · exact hr _ _ b h
/-! ### comparing -/
theorem rdS_get {l : List ByteArray} {i : Nat} (h : i < l.length) : rdOf ByteArray.empty l (i : Int) = l[i] := by simp [rdOf, List.getD, List.getElem?_eq_getElem h]
theorem same_l0 (a b : List ByteArray) (hl : a.length = b.length) (ha : a.length < 140737488355328) : ∀ (n i k : Nat), a.length - i ≤ n → i ≤ a.length → n + 1 ≤ k → lookoutref10_Same.l0 k a b (i : Int) = some (decide (a.drop i = b.drop i)) := by
  intro n
  induction n with
  | zero =>
    intro i k hn hi hk
    obtain ⟨k, rfl⟩ : ∃ j, k = j + 1 := ⟨k - 1, by omega⟩
    rw [lookoutref10_Same.l0, if_neg (by omega), List.drop_eq_nil_of_le (by omega), List.drop_eq_nil_of_le (by omega)]
    simp
  | succ n ih =>
    intro i k hn hi hk
    obtain ⟨k, rfl⟩ : ∃ j, k = j + 1 := ⟨k - 1, by omega⟩
    rw [lookoutref10_Same.l0]
    by_cases c1 : i < a.length
    · rw [if_pos (by omega), if_pos (by omega), if_pos (by omega), rdS_get c1, rdS_get (by omega : i < b.length), w1 (by omega), ih (i + 1) k (by omega) (by omega) (by omega), show a.drop i = a[i] :: a.drop (i + 1) from List.drop_eq_getElem_cons c1, show b.drop i = b[i]'(by omega) :: b.drop (i + 1) from List.drop_eq_getElem_cons (by omega : i < b.length)]
      by_cases c2 : a[i] = b[i]
      · rw [if_pos (by rw [c2]), c2]; simp only [List.cons.injEq, true_and]
      · rw [if_neg (fun h => c2 (tl_inj h))]
        simp only [List.cons.injEq, c2, false_and, decide_false]
    · rw [if_neg (by omega), List.drop_eq_nil_of_le (by omega), List.drop_eq_nil_of_le (by omega)]
      simp
theorem same_ev (a b : List ByteArray) (ha : a.length < 140737488355328) : Ev (fun k => lookoutref10_Same.f k a b) (decide (a = b)) := by
  unfold lookoutref10_Same.f
  by_cases hl : a.length = b.length
  · refine Ev.congr (fun k => if_pos (by omega)) ⟨a.length + 1, fun k hk => ?_⟩
    have := same_l0 a b hl ha a.length 0 k (by omega) (by omega) hk
    simpa using this
  · rw [decide_eq_false (fun h => hl (by rw [h]))]
    exact Ev.congr (fun k => if_neg (by omega)) (Ev.now _)
end Go.Proofs.Ytfklecicddpcjaa.DK
end
section
namespace Go.Proofs.Ytfklecicddpcjaa.DK
open Go.RowKit Go.Proofs.Ytfklecicddpcjaa.VB Go.Proofs.Ytfklecicddpcjaa.A Go.Proofs.Ytfklecicddpcjaa.C Go.Proofs.Ytfklecicddpcjaa.Hand Go.Proofs.YtfklecicddpcjaaW.PrintWords Go.Proofs.YtfklecicddpcjaaW.PrintLast Go.Proofs.YtfklecicddpcjaaW.PrintMore
set_option linter.unusedVariables false
set_option linter.unusedSimpArgs false
/-! ### the reader's steps -/
theorem number_at (s : ByteArray) (i : Nat) (a : Int) (h1 : i ≤ s.size) : dictcol_reader_number.f s (i : Int) false a = (if (RD ((bytesOf s).drop i)).2.2 = 0 then (if (RD ((bytesOf s).drop i)).1 > a then some (0, s, (i : Int), true) else some ((RD ((bytesOf s).drop i)).1, s, wrap64 ((i : Int) + (RD ((bytesOf s).drop i)).2.1), false)) else some (0, s, (i : Int), true)) := by
  unfold dictcol_reader_number.f numR
  rw [if_neg (by simp), if_pos (by omega), if_pos (by omega), read_is, Option.bind_some, Int.toNat_natCast, bytesOf_from]
theorem number_failed (s : ByteArray) (i : Int) (a : Int) : dictcol_reader_number.f s i true a = some (0, s, i, true) := by
  unfold dictcol_reader_number.f numR
  rw [if_pos rfl]
theorem number_any (s : ByteArray) (i : Nat) (f : Bool) (a : Int) (h1 : i ≤ s.size) (hs : s.size ≤ 140737488351232) : ∃ (n i' : Nat) (f' : Bool), dictcol_reader_number.f s (i : Int) f a = some ((n : Int), s, (i' : Int), f') ∧ i' ≤ s.size ∧ (f' = false → f = false ∧ (n : Int) ≤ a ∧ n ≤ 1152921504606846976) ∧ (f' = true → n = 0) := by
  cases f with
  | true => exact ⟨0, i, true, by rw [number_failed]; rfl, h1, (fun h => by cases h), fun _ => rfl⟩
  | false =>
    rw [number_at s i a h1]
    by_cases c : (RD ((bytesOf s).drop i)).2.2 = 0
    · obtain ⟨g1, g2, g3, g4⟩ := RD_size (drop_byte (bytes_in s) i) c
      rw [List.length_drop, bytes_len] at g2
      rw [if_pos c]
      by_cases c2 : (RD ((bytesOf s).drop i)).1 > a
      · rw [if_pos c2]
        exact ⟨0, i, true, rfl, h1, (fun h => by cases h), fun _ => rfl⟩
      · rw [if_neg c2]
        refine ⟨(RD ((bytesOf s).drop i)).1.toNat, i + (RD ((bytesOf s).drop i)).2.1.toNat, false, ?_, by omega, fun _ => ⟨rfl, by omega, by omega⟩, (fun h => by cases h)⟩
        rw [w_in (by omega) (by omega), show ((i + (RD ((bytesOf s).drop i)).2.1.toNat : Nat) : Int) = (i : Int) + (RD ((bytesOf s).drop i)).2.1 by omega, Int.toNat_of_nonneg g3]
    · rw [if_neg c]
      exact ⟨0, i, true, rfl, h1, (fun h => by cases h), fun _ => rfl⟩
theorem number_round {s : ByteArray} {i n : Nat} {a : Int} {rest : List Int} (h : (bytesOf s).drop i = G n ++ rest) (hn : n ≤ 1152921504606846976) (ha : (n : Int) ≤ a) (hs : s.size ≤ 140737488351232) :
    dictcol_reader_number.f s (i : Int) false a = some ((n : Int), s, ((i + (G n).length : Nat) : Int), false) ∧ (bytesOf s).drop (i + (G n).length) = rest ∧ i + (G n).length ≤ s.size := by
  have hl := congrArg List.length h
  rw [List.length_drop, bytes_len, List.length_append] at hl
  have hp := G_pos n
  have hi : i + (G n).length ≤ s.size := by omega
  refine ⟨?_, ?_, hi⟩
  · rw [number_at s i a (by omega), h, RD_round n rest hn]
    simp only [if_true]
    rw [if_neg (by omega), w_in (by omega) (by omega)]
    congr 4
  · rw [← List.drop_drop, h, List.drop_left]
theorem bytes_at (s : ByteArray) (i n : Nat) (h : i + n ≤ s.size) (hs : s.size ≤ 140737488351232) : dictcol_reader_bytes.f s (i : Int) false (n : Int) = some (s.extract i (i + n), s, ((i + n : Nat) : Int), false) := by
  unfold dictcol_reader_bytes.f
  rw [if_neg (by simp), w_in (by omega) (by omega), if_neg (by omega), if_pos (by omega), w_in (by omega) (by omega), if_pos (by omega), if_pos (by omega)]
  rw [show (i : Int) + (n : Int) = ((i + n : Nat) : Int) by omega, Int.toNat_natCast, Int.toNat_natCast]
theorem bytes_any (s : ByteArray) (i n : Nat) (f : Bool) (h : i ≤ s.size) (hs : s.size ≤ 140737488351232) (hn : n ≤ 1152921504606846976) : ∃ (r : ByteArray) (i' : Nat) (f' : Bool), dictcol_reader_bytes.f s (i : Int) f (n : Int) = some (r, s, (i' : Int), f') ∧ i' ≤ s.size ∧ r.size ≤ n ∧ (f' = false → f = false) := by
  cases f with
  | true => exact ⟨⟨#[]⟩, i, true, by unfold dictcol_reader_bytes.f; rw [if_pos rfl], h, Nat.zero_le _, fun h => h⟩
  | false =>
    by_cases c : i + n ≤ s.size
    · exact ⟨_, i + n, false, bytes_at s i n c hs, c, by rw [ByteArray.size_extract]; omega, fun _ => rfl⟩
    · refine ⟨⟨#[]⟩, i, true, ?_, h, Nat.zero_le _, fun h => by cases h⟩
      unfold dictcol_reader_bytes.f
      rw [if_neg (by simp), w_in (by omega) (by omega), if_pos (by omega)]
/-! ### the dictionary -/
theorem cm_take : ∀ a b : List Int, a.take (cmL a b) = b.take (cmL a b)
  | [], b => by rw [cmL_nil]; simp
  | x :: a, [] => by simp [cmL]
  | x :: a, y :: b => by
    unfold cmL
    split
    · rename_i h
      rw [List.take_succ_cons, List.take_succ_cons, h, cm_take a b]
    · simp
theorem dictP (s : ByteArray) (hs : s.size ≤ 140737488351232) (count : Nat) (hc : count ≤ 2000) : ∀ (todo acc : List ByteArray) (bef : ByteArray) (i : Nat) (rest : List Int) (k : Nat), (bytesOf s).drop i = dictB todo (bytesOf bef) ++ rest → Small todo → bef.size ≤ 1000 → acc.length + todo.length = count → 2 * todo.length + 2 ≤ k →
    ∃ i' : Nat, dictcol_reader_dictionary.l0 k (count : Int) acc bef s (i : Int) false = some (acc ++ todo, s, (i' : Int), false) ∧ (bytesOf s).drop i' = rest
  | [], acc, bef, i, rest, k, h, _, _, hl, hk => by
    obtain ⟨k, rfl⟩ : ∃ j, k = j + 2 := ⟨k - 2, by omega⟩
    simp only [List.length_nil, Nat.add_zero] at hl
    refine ⟨i, ?_, by simpa [dictB] using h⟩
    rw [dictcol_reader_dictionary.l0, if_neg (by omega), dictcol_reader_dictionary.j1, if_neg (by simp), List.append_nil]
  | x :: todo, acc, bef, i, rest, k, h, hsm, hb, hl, hk => by
    obtain ⟨k, rfl⟩ : ∃ j, k = j + 2 := ⟨k - 2, by omega⟩
    have hx := hsm x (by simp)
    rw [List.length_cons] at hl hk
    have hcm := cmL_le (bytesOf bef) (bytesOf x)
    rw [bytes_len, bytes_len] at hcm
    have htk := cm_take (bytesOf bef) (bytesOf x)
    simp only [dictB, List.append_assoc] at h
    generalize hC : cmL (bytesOf bef) (bytesOf x) = c at *
    obtain ⟨n1, n2, n3⟩ := number_round (a := (bef.size : Int)) h (by omega) (by omega) hs
    obtain ⟨m1, m2, m3⟩ := number_round (a := wrap64 (1000 - (c : Int))) n2 (by omega) (by rw [w_in (by omega) (by omega)]; omega) hs
    generalize i + (G c).length + (G (x.size - c)).length = j at m1 m2 m3
    have hlen := congrArg List.length m2
    rw [List.length_drop, bytes_len, List.length_append, List.length_drop, bytes_len] at hlen
    have b1 := bytes_at s j (x.size - c) (by omega) hs
    have hx2 : bef.extract 0 c ++ s.extract j (j + (x.size - c)) = x := by
      apply bytesOf_inj
      rw [bytesOf_append, bytesOf_extract, bytesOf_extract, List.drop_zero, Nat.sub_zero, m2, show j + (x.size - c) - j = ((bytesOf x).drop c).length by rw [List.length_drop, bytes_len]; omega, List.take_left, htk, List.take_append_drop]
    obtain ⟨i', r1, r2⟩ := dictP s hs count hc todo (acc ++ [x]) x (j + (x.size - c)) rest k (by rw [← List.drop_drop, m2, show x.size - c = ((bytesOf x).drop c).length by rw [List.length_drop, bytes_len], List.drop_left]) (fun z hz => hsm z (by simp [hz])) hx (by simp; omega) (by omega)
    refine ⟨i', ?_, r2⟩
    rw [dictcol_reader_dictionary.l0, if_pos (by omega), dictcol_reader_dictionary.j1, if_pos (by simp), n1, Option.bind_some]
    dsimp only
    rw [m1, Option.bind_some]
    dsimp only
    rw [b1, Option.bind_some]
    dsimp only
    rw [if_pos (by omega), if_pos (by omega), Int.toNat_natCast, if_pos (by rw [ByteArray.size_extract, ByteArray.size_extract]; omega), if_pos (by omega), hx2, r1, List.append_assoc]
    rfl
theorem dictT (s : ByteArray) (hs : s.size ≤ 140737488351232) (count : Nat) (hc : count ≤ 2000) : ∀ (n : Nat) (acc : List ByteArray) (bef : ByteArray) (i : Nat) (f : Bool) (k : Nat), count - acc.length ≤ n → acc.length ≤ count → i ≤ s.size → bef.size ≤ 1000 → 2 * n + 2 ≤ k →
    ∃ (d : List ByteArray) (i' : Nat) (f' : Bool), dictcol_reader_dictionary.l0 k (count : Int) acc bef s (i : Int) f = some (d, s, (i' : Int), f') ∧ i' ≤ s.size ∧ d.length ≤ count := by
  intro n
  induction n with
  | zero =>
    intro acc bef i f k hn hac hi hb hk
    obtain ⟨k, rfl⟩ : ∃ j, k = j + 2 := ⟨k - 2, by omega⟩
    refine ⟨acc, i, f, ?_, hi, hac⟩
    rw [dictcol_reader_dictionary.l0, if_neg (by omega), dictcol_reader_dictionary.j1, if_neg (by simp)]
  | succ n ih =>
    intro acc bef i f k hn hac hi hb hk
    obtain ⟨k, rfl⟩ : ∃ j, k = j + 2 := ⟨k - 2, by omega⟩
    by_cases c1 : acc.length < count
    · cases f with
      | true =>
        refine ⟨acc, i, true, ?_, hi, hac⟩
        rw [dictcol_reader_dictionary.l0, if_pos (by omega), dictcol_reader_dictionary.j1, if_neg (by simp)]
      | false =>
        obtain ⟨n1, i1, f1, e1, g1, h1, h1'⟩ := number_any s i false (bef.size : Int) hi hs
        have hn1 : n1 ≤ bef.size := by
          cases f1 with
          | true => rw [h1' rfl]; omega
          | false => have := (h1 rfl).2.1; omega
        obtain ⟨n2, i2, f2, e2, g2, h2, h2'⟩ := number_any s i1 f1 (wrap64 (1000 - (n1 : Int))) g1 hs
        have hn2 : n2 ≤ 1000 - n1 := by
          cases f2 with
          | true => rw [h2' rfl]; omega
          | false => have := (h2 rfl).2.1; rw [w_in (by omega) (by omega)] at this; omega
        obtain ⟨r, i3, f3, e3, g3, h3, h3'⟩ := bytes_any s i2 n2 f2 g2 hs (by omega)
        obtain ⟨d, i', f', e, g⟩ := ih (acc ++ [bef.extract 0 n1 ++ r]) (bef.extract 0 n1 ++ r) i3 f3 k (by simp; omega) (by simp; omega) g3 (by rw [ByteArray.size_append, ByteArray.size_extract]; omega) (by omega)
        refine ⟨d, i', f', ?_, g⟩
        rw [dictcol_reader_dictionary.l0, if_pos (by omega), dictcol_reader_dictionary.j1, if_pos (by simp), e1, Option.bind_some]
        dsimp only
        rw [e2, Option.bind_some]
        dsimp only
        rw [e3, Option.bind_some]
        dsimp only
        rw [if_pos (by omega), if_pos (by omega), Int.toNat_natCast, if_pos (by rw [ByteArray.size_extract]; omega), if_pos (by omega), e]
    · refine ⟨acc, i, f, ?_, hi, hac⟩
      rw [dictcol_reader_dictionary.l0, if_neg (by omega), dictcol_reader_dictionary.j1, if_neg (by simp)]
end Go.Proofs.Ytfklecicddpcjaa.DK
end
section
namespace Go.Proofs.Ytfklecicddpcjaa.DK
open Go.RowKit Go.Proofs.Ytfklecicddpcjaa.VB Go.Proofs.Ytfklecicddpcjaa.A Go.Proofs.Ytfklecicddpcjaa.C Go.Proofs.Ytfklecicddpcjaa.Hand Go.Proofs.YtfklecicddpcjaaW.PrintWords Go.Proofs.YtfklecicddpcjaaW.PrintLast Go.Proofs.YtfklecicddpcjaaW.PrintMore
set_option linter.unusedVariables false
set_option linter.unusedSimpArgs false
theorem eqN_take (x : ByteArray) : ∀ r : List ByteArray, r.take (eqN x r) = List.replicate (eqN x r) x
  | [] => by simp [eqN]
  | y :: r => by
    unfold eqN
    split
    · rename_i h
      rw [List.take_succ_cons, eqN_take x r, tl_inj h, List.replicate_succ]
    · simp
theorem run_split (x : ByteArray) (r : List ByteArray) : List.replicate (eqN x r + 1) x ++ r.drop (eqN x r) = x :: r := by
  rw [List.replicate_succ, List.cons_append, ← eqN_take, List.take_append_drop]
theorem strL1 {count : Int} {d : List ByteArray} {s : ByteArray} {i : Int} {f : Bool} {p : Nat} (hp : p < d.length) (T : Nat) (hT : T ≤ 100000) {R : List ByteArray × ByteArray × Int × Bool} : ∀ (n t : Nat) (acc : List ByteArray), T - t = n → t ≤ T → acc.length + n ≤ 1000000 →
    Ev (fun k => dictcol_reader_strings.l0 k count d (acc ++ List.replicate n d[p]) s i f) R → Ev (fun k => dictcol_reader_strings.l1 k count d acc (p : Int) (T : Int) (t : Int) s i f) R := by
  intro n
  induction n with
  | zero =>
    intro t acc h ht ha hE
    rw [List.replicate_zero, List.append_nil] at hE
    exact Ev.step (fun k => by rw [dictcol_reader_strings.l1, if_neg (by omega)]) hE
  | succ n ih =>
    intro t acc h ht ha hE
    refine Ev.step (fun k => by rw [dictcol_reader_strings.l1, if_pos (by omega), if_pos (by omega), if_pos (by omega), if_pos (by omega), rdS_get hp, w1 (by omega)]) (ih (t + 1) (acc ++ [d[p]]) (by omega) (by omega) (by simp; omega) ?_)
    rw [List.append_assoc, List.singleton_append, ← List.replicate_succ]
    exact hE
theorem strP (s : ByteArray) (hs : s.size ≤ 140737488351232) (count : Nat) (hc : count ≤ 2000) (d : List ByteArray) (hd : d.length ≤ 2000) : ∀ (n : Nat) (m acc : List ByteArray) (i : Nat) (rest : List Int), m.length ≤ n → (bytesOf s).drop i = runB d (runL m) ++ rest → (∀ x ∈ m, x ∈ d) → acc.length + m.length = count →
    ∃ i' : Nat, Ev (fun k => dictcol_reader_strings.l0 k (count : Int) d acc s (i : Int) false) (acc ++ m, s, (i' : Int), false) ∧ (bytesOf s).drop i' = rest := by
  intro n
  induction n with
  | zero =>
    intro m acc i rest hn h hm hl
    obtain rfl : m = [] := List.eq_nil_of_length_eq_zero (by omega)
    refine ⟨i, ?_, by simpa [runL_nil, runB] using h⟩
    simp only [List.length_nil, Nat.add_zero] at hl
    rw [List.append_nil]
    exact Ev.step (fun k => by rw [dictcol_reader_strings.l0, if_neg (by omega)]) (Ev.step (fun k => by rw [dictcol_reader_strings.j1, if_neg (by simp)]) (Ev.now _))
  | succ n ih =>
    intro m acc i rest hn h hm hl
    cases m with
    | nil =>
      refine ⟨i, ?_, by simpa [runL_nil, runB] using h⟩
      simp only [List.length_nil, Nat.add_zero] at hl
      rw [List.append_nil]
      exact Ev.step (fun k => by rw [dictcol_reader_strings.l0, if_neg (by omega)]) (Ev.step (fun k => by rw [dictcol_reader_strings.j1, if_neg (by simp)]) (Ev.now _))
    | cons x r =>
      rw [List.length_cons] at hn hl
      have hxd := hm x (by simp)
      have hp := idxN_lt hxd
      have hget := idxN_get hxd
      have hle := eqN_le x r
      rw [runL_cons] at h
      simp only [runB, List.append_assoc] at h
      have ht : ((((eqN x r + 1 : Nat) : Int)) - 1).toNat = eqN x r := by omega
      rw [ht] at h
      generalize hN : idxN d x = p at *
      have hdp : d[p] = x := by
        rw [List.getElem?_eq_getElem hp] at hget
        exact Option.some.inj hget
      obtain ⟨a1, a2, a3⟩ := number_round (a := wrap64 ((d.length : Int) - 1)) h (by omega) (by rw [w_in (by omega) (by omega)]; omega) hs
      obtain ⟨b1, b2, b3⟩ := number_round (a := wrap64 ((wrap64 ((count : Int) - (acc.length : Int))) - 1)) a2 (by omega) (by rw [w_in (n := (count : Int) - (acc.length : Int)) (by omega) (by omega), w_in (by omega) (by omega)]; omega) hs
      obtain ⟨i', r1, r2⟩ := ih (r.drop (eqN x r)) (acc ++ List.replicate (eqN x r + 1) x) _ rest (by rw [List.length_drop]; omega) b2 (fun z hz => hm z (List.mem_cons_of_mem _ (List.mem_of_mem_drop hz))) (by rw [List.length_append, List.length_replicate, List.length_drop]; omega)
      refine ⟨i', ?_, r2⟩
      rw [List.append_assoc, run_split] at r1
      refine Ev.step (fun k => by rw [dictcol_reader_strings.l0, if_pos (by omega)]) ?_
      refine Ev.step (f := fun k => dictcol_reader_strings.l1 k (count : Int) d acc (p : Int) (((eqN x r + 1 : Nat) : Nat) : Int) ((0 : Nat) : Int) s ((i + (G p).length + (G (eqN x r)).length : Nat) : Int) false) (fun k => ?_) ?_
      · rw [dictcol_reader_strings.j1, if_pos (by simp), a1, Option.bind_some]
        dsimp only
        rw [b1, Option.bind_some]
        dsimp only
        rw [if_neg (by simp), w1 (by omega)]
        rfl
      · refine strL1 hp (eqN x r + 1) (by omega) (eqN x r + 1) 0 acc (by omega) (by omega) (by omega) ?_
        rw [hdp]; exact r1
theorem strT (s : ByteArray) (hs : s.size ≤ 140737488351232) (count : Nat) (hc : count ≤ 2000) (d : List ByteArray) (hd : d.length ≤ 2000) : ∀ (n : Nat) (acc : List ByteArray) (i : Nat) (f : Bool), count - acc.length ≤ n → acc.length ≤ count → i ≤ s.size →
    ∃ R : List ByteArray × ByteArray × Int × Bool, Ev (fun k => dictcol_reader_strings.l0 k (count : Int) d acc s (i : Int) f) R := by
  intro n
  induction n with
  | zero =>
    intro acc i f hn ha hi
    exact ⟨_, Ev.step (fun k => by rw [dictcol_reader_strings.l0, if_neg (by omega)]) (Ev.step (fun k => by rw [dictcol_reader_strings.j1, if_neg (by simp)]) (Ev.now _))⟩
  | succ n ih =>
    intro acc i f hn ha hi
    by_cases c1 : acc.length < count
    · cases f with
      | true => exact ⟨_, Ev.step (fun k => by rw [dictcol_reader_strings.l0, if_pos (by omega)]) (Ev.step (fun k => by rw [dictcol_reader_strings.j1, if_neg (by simp)]) (Ev.now _))⟩
      | false =>
        obtain ⟨n1, i1, f1, e1, g1, h1, h1'⟩ := number_any s i false (wrap64 ((d.length : Int) - 1)) hi hs
        obtain ⟨n2, i2, f2, e2, g2, h2, h2'⟩ := number_any s i1 f1 (wrap64 ((wrap64 ((count : Int) - (acc.length : Int))) - 1)) g1 hs
        cases f2 with
        | true =>
          refine ⟨([], s, (i2 : Int), true), Ev.step (fun k => by rw [dictcol_reader_strings.l0, if_pos (by omega)]) (Ev.step (fun k => ?_) (Ev.now _))⟩
          rw [dictcol_reader_strings.j1, if_pos (by simp), e1, Option.bind_some]
          dsimp only
          rw [e2, Option.bind_some]
          dsimp only
          rw [if_pos rfl]
        | false =>
          obtain ⟨q1, q2, q3⟩ := h2 rfl
          subst q1
          obtain ⟨_, q4, q5⟩ := h1 rfl
          rw [w_in (by omega) (by omega)] at q4
          rw [w_in (n := (count : Int) - (acc.length : Int)) (by omega) (by omega), w_in (by omega) (by omega)] at q2
          have hp : n1 < d.length := by omega
          obtain ⟨R, hR⟩ := ih (acc ++ List.replicate (n2 + 1) d[n1]) i2 false (by rw [List.length_append, List.length_replicate]; omega) (by rw [List.length_append, List.length_replicate]; omega) g2
          refine ⟨R, Ev.step (fun k => by rw [dictcol_reader_strings.l0, if_pos (by omega)]) (Ev.step (f := fun k => dictcol_reader_strings.l1 k (count : Int) d acc (n1 : Int) ((n2 + 1 : Nat) : Int) ((0 : Nat) : Int) s (i2 : Int) false) (fun k => ?_) (strL1 hp (n2 + 1) (by omega) (n2 + 1) 0 acc (by omega) (by omega) (by omega) hR))⟩
          rw [dictcol_reader_strings.j1, if_pos (by simp), e1, Option.bind_some]
          dsimp only
          rw [e2, Option.bind_some]
          dsimp only
          rw [if_neg (by simp), w1 (by omega)]
          rfl
    · exact ⟨_, Ev.step (fun k => by rw [dictcol_reader_strings.l0, if_neg (by omega)]) (Ev.step (fun k => by rw [dictcol_reader_strings.j1, if_neg (by simp)]) (Ev.now _))⟩
theorem enc_ok {l : List ByteArray} {s : ByteArray} (h : ENC l = (s, 0)) : COL l ∧ (encBytes l).length ≤ 1048576 ∧ s = strOfNums (encBytes l) := by
  unfold ENC at h
  split at h
  · rename_i hc
    split at h
    · cases h
    · rename_i h2
      cases h
      exact ⟨hc, by omega, rfl⟩
  · cases h
theorem readE_ev (s : ByteArray) (d l : List ByteArray) : Ev (fun k => readE k s d l) (if ENC l = (s, 0) then (d, l, true) else ([], [], false)) := by
  unfold readE
  refine Ev.bind (enc_ev l) ?_
  by_cases h : ENC l = (s, 0)
  · rw [if_pos h, h]
    exact Ev.congr (fun k => by rw [if_pos rfl, if_pos rfl]) (Ev.now _)
  · rw [if_neg h]
    by_cases h2 : (ENC l).2 = 0
    · refine Ev.congr (fun k => ?_) (Ev.now _)
      rw [if_pos h2, if_neg (fun h3 => h (Prod.ext (tl_inj h3) h2))]
    · exact Ev.congr (fun k => if_neg h2) (Ev.now _)
theorem read_total (s : ByteArray) : ∃ r, Ev (fun k => dictcol_read.f k s) r ∧ (r = ([], [], false) ∨ ∃ d l, r = (d, l, true) ∧ ENC l = (s, 0)) := by
  unfold dictcol_read.f
  by_cases c : (s.size : Int) > 1048576
  · exact ⟨_, Ev.congr (fun k => if_pos c) (Ev.now _), .inl rfl⟩
  · have hs : s.size ≤ 140737488351232 := by omega
    obtain ⟨n1, i1, f1, e1, g1, h1, h1'⟩ := number_any s 0 false 2000 (Nat.zero_le _) hs
    have hn1 : n1 ≤ 2000 := by
      cases f1 with
      | true => rw [h1' rfl]; omega
      | false => have := (h1 rfl).2.1; omega
    obtain ⟨n2, i2, f2, e2, g2, h2, h2'⟩ := number_any s i1 f1 (n1 : Int) g1 hs
    have hn2 : n2 ≤ 2000 := by
      cases f2 with
      | true => rw [h2' rfl]; omega
      | false => have := (h2 rfl).2.1; omega
    obtain ⟨d, i3, f3, e3, g3, hdl'⟩ := dictT s hs n2 hn2 n2 [] ⟨#[]⟩ i2 f2 (2 * n2 + 2) (by simp) (Nat.zero_le _) g2 (Nat.zero_le _) (Nat.le_refl _)
    have E3 : Ev (fun k => dictcol_reader_dictionary.f k s (i2 : Int) f2 (n2 : Int)) (d, s, (i3 : Int), f3) := Ev.of (fun k => dictcol_reader_dictionary.mono _ _ _ _ _) e3
    have hdl : d.length ≤ 2000 := by omega
    obtain ⟨⟨l, x2, x3, x4⟩, E4⟩ := strT s hs n1 hn1 d hdl n1 [] i3 f3 (by simp) (by simp) g3
    have e1' : dictcol_reader_number.f s 0 false 2000 = some ((n1 : Int), s, (i1 : Int), f1) := e1
    have key : ∀ r, Ev (fun k => if x4 = true then some (([], [], false) : List ByteArray × List ByteArray × Bool) else readE k s d l) r → Ev (fun k => if (s.size : Int) > 1048576 then some (([], [], false) : List ByteArray × List ByteArray × Bool) else ((dictcol_reader_number.f s 0 false 2000).bind fun p => (dictcol_reader_number.f p.2.1 p.2.2.1 p.2.2.2 p.1).bind fun q => (dictcol_reader_dictionary.f k q.2.1 q.2.2.1 q.2.2.2 q.1).bind fun d => (dictcol_reader_strings.f k d.2.1 d.2.2.1 d.2.2.2 p.1 d.1).bind fun t => if t.2.2.2 = true then some ([], [], false) else readE k s d.1 t.1)) r := by
      intro r hr
      refine Ev.congr (fun k => if_neg c) ?_
      refine Ev.congr (fun k => by rw [e1', Option.bind_some]) ?_
      dsimp only
      refine Ev.congr (fun k => by rw [e2, Option.bind_some]) ?_
      dsimp only
      exact Ev.bind E3 (Ev.bind E4 hr)
    by_cases cf : x4 = true
    · exact ⟨_, key _ (Ev.congr (fun k => if_pos cf) (Ev.now _)), .inl rfl⟩
    · refine ⟨_, key _ (Ev.congr (fun k => if_neg cf) (readE_ev s d l)), ?_⟩
      by_cases h : ENC l = (s, 0)
      · rw [if_pos h]; exact .inr ⟨d, l, rfl, h⟩
      · rw [if_neg h]; exact .inl rfl
theorem read_round {l : List ByteArray} {s : ByteArray} (h : ENC l = (s, 0)) : Ev (fun k => dictcol_read.f k s) (dic l, l, true) := by
  obtain ⟨hc, hlen, hse⟩ := enc_ok h
  have hb : bytesOf s = encBytes l := by rw [hse]; exact bytesOf_nums (encBytes_byte l)
  have hsz : s.size = (encBytes l).length := by rw [hse, str_size]
  have hs : s.size ≤ 140737488351232 := by omega
  have hd := dic_len l
  have hl := hc.1
  have h0 : (bytesOf s).drop 0 = G l.length ++ (G (dic l).length ++ (dictB (dic l) [] ++ runB (dic l) (runL l))) := by rw [List.drop_zero, hb]; rfl
  obtain ⟨a1, a2, a3⟩ := number_round (a := 2000) h0 (by omega) (by omega) hs
  obtain ⟨b1, b2, b3⟩ := number_round (a := (l.length : Int)) a2 (by omega) (by omega) hs
  obtain ⟨i3, c1, c2⟩ := dictP s hs (dic l).length (by omega) (dic l) [] ⟨#[]⟩ _ _ (2 * (dic l).length + 2) b2 (small_dic (small_of hc.2)) (Nat.zero_le _) (by simp) (Nat.le_refl _)
  have E3 := Ev.of (g := fun k => dictcol_reader_dictionary.f k s ((0 + (G l.length).length + (G (dic l).length).length : Nat) : Int) false ((dic l).length : Int)) (fun k => dictcol_reader_dictionary.mono _ _ _ _ _) c1
  obtain ⟨i4, E4, _⟩ := strP s hs l.length hl (dic l) (by omega) l.length l [] i3 [] (Nat.le_refl _) (by rw [c2, List.append_nil]) (fun x hx => mem_dic.2 hx) (by simp)
  rw [List.nil_append] at E3 E4
  have a1' : dictcol_reader_number.f s 0 false 2000 = some ((l.length : Int), s, ((0 + (G l.length).length : Nat) : Int), false) := a1
  unfold dictcol_read.f
  refine Ev.congr (fun k => if_neg (by omega)) ?_
  refine Ev.congr (fun k => by rw [a1', Option.bind_some]) ?_
  dsimp only
  refine Ev.congr (fun k => by rw [b1, Option.bind_some]) ?_
  dsimp only
  refine Ev.bind E3 (Ev.bind E4 ?_)
  have := readE_ev s (dic l) l
  rw [if_pos h] at this
  exact Ev.congr (fun k => if_neg (by simp)) this
end Go.Proofs.Ytfklecicddpcjaa.DK
end
section
namespace Go.Proofs.Ytfklecicddpcjaa.DK
open Go.RowKit Go.Proofs.Ytfklecicddpcjaa.VB Go.Proofs.Ytfklecicddpcjaa.P Go.Proofs.Ytfklecicddpcjaa.A Go.Proofs.Ytfklecicddpcjaa.Hand Go.Proofs.YtfklecicddpcjaaW.PrintWords Go.Proofs.YtfklecicddpcjaaW.PrintLast Go.Proofs.YtfklecicddpcjaaW.PrintMore
set_option linter.unusedVariables false
set_option linter.unusedSimpArgs false
theorem decode_round {l : List ByteArray} {s : ByteArray} (h : ENC l = (s, 0)) : Ev (fun k => dictcol_Decode.f k s) (l, 0) := by
  unfold dictcol_Decode.f
  exact Ev.bind (read_round h) (Ev.congr (fun k => if_pos rfl) (Ev.now _))
theorem decode_total (s : ByteArray) : (∃ l, ENC l = (s, 0)) ∨ Ev (fun k => dictcol_Decode.f k s) ([], 12) := by
  obtain ⟨r, hr, h | ⟨d, l, _, h⟩⟩ := read_total s
  · right
    subst h
    unfold dictcol_Decode.f
    exact Ev.bind hr (Ev.congr (fun k => if_neg (by simp)) (Ev.now _))
  · exact .inl ⟨l, h⟩
/-- The indices from i on of the strings of a list that are v. -/
def LK (v : ByteArray) : List ByteArray → Nat → List Int
  | [], _ => []
  | x :: r, i => if x = v then (i : Int) :: LK v r (i + 1) else LK v r (i + 1)
theorem LK_len (v : ByteArray) : ∀ (l : List ByteArray) (i : Nat), (LK v l i).length ≤ l.length
  | [], _ => by simp [LK]
  | x :: r, i => by
    have := LK_len v r (i + 1)
    unfold LK
    split <;> simp <;> omega
theorem lookup_l0 (v : ByteArray) (l : List ByteArray) (hl : l.length ≤ 1000000) : ∀ (n i : Nat) (acc : List Int), l.length - i = n → i ≤ l.length → acc.length + n ≤ 1000000 → Ev (fun k => dictcol_Lookup.l0 k v acc l (l.length : Int) (i : Int)) (acc ++ LK v (l.drop i) i, 0) := by
  intro n
  induction n with
  | zero =>
    intro i acc hn hi ha
    rw [List.drop_eq_nil_of_le (by omega), LK, List.append_nil]
    exact Ev.step (fun k => by rw [dictcol_Lookup.l0, if_neg (by omega)]) (Ev.now _)
  | succ n ih =>
    intro i acc hn hi ha
    have hlt : i < l.length := by omega
    rw [show l.drop i = l[i] :: l.drop (i + 1) from List.drop_eq_getElem_cons hlt, LK]
    by_cases c : l[i] = v
    · rw [if_pos c, show acc ++ (i : Int) :: LK v (l.drop (i + 1)) (i + 1) = acc ++ [(i : Int)] ++ LK v (l.drop (i + 1)) (i + 1) by simp]
      exact Ev.step (fun k => by rw [dictcol_Lookup.l0, if_pos (by omega), if_pos (by omega), if_pos (by omega), rdS_get hlt, if_pos (by rw [c]), if_pos (by omega), w1 (by omega)]) (ih (i + 1) (acc ++ [(i : Int)]) (by omega) (by omega) (by simp; omega))
    · rw [if_neg c]
      exact Ev.step (fun k => by rw [dictcol_Lookup.l0, if_pos (by omega), if_pos (by omega), if_pos (by omega), rdS_get hlt, if_neg (fun h => c (tl_inj h)), w1 (by omega)]) (ih (i + 1) acc (by omega) (by omega) (by omega))
theorem lookup_round {l : List ByteArray} {s : ByteArray} (v : ByteArray) (h : ENC l = (s, 0)) : Ev (fun k => dictcol_Lookup.f k s v) (LK v l 0, 0) := by
  have hl := (enc_ok h).1.1
  unfold dictcol_Lookup.f
  refine Ev.bind (read_round h) ?_
  refine Ev.congr (fun k => if_pos rfl) ?_
  have := lookup_l0 v l (by omega) l.length 0 [] (by simp) (by omega) (by simp; omega)
  simpa using this
theorem same01_l0 (a b : List Int) (hl : a.length = b.length) (ha : a.length < 140737488355328) : ∀ (n i k : Nat), a.length - i ≤ n → i ≤ a.length → n + 1 ≤ k → lookoutref01_Same.l0 k a b (i : Int) = some (decide (a.drop i = b.drop i)) := by
  intro n
  induction n with
  | zero =>
    intro i k hn hi hk
    obtain ⟨k, rfl⟩ : ∃ j, k = j + 1 := ⟨k - 1, by omega⟩
    rw [lookoutref01_Same.l0, if_neg (by omega), List.drop_eq_nil_of_le (by omega), List.drop_eq_nil_of_le (by omega)]
    simp
  | succ n ih =>
    intro i k hn hi hk
    obtain ⟨k, rfl⟩ : ∃ j, k = j + 1 := ⟨k - 1, by omega⟩
    have rdI : ∀ {l : List Int} {i : Nat} (h : i < l.length), rd l (i : Int) = l[i] := fun h => by simp [rd, List.getD, List.getElem?_eq_getElem h]
    rw [lookoutref01_Same.l0]
    by_cases c1 : i < a.length
    · rw [if_pos (by omega), if_pos (by omega), if_pos (by omega), rdI c1, rdI (by omega : i < b.length), w1 (by omega), ih (i + 1) k (by omega) (by omega) (by omega), show a.drop i = a[i] :: a.drop (i + 1) from List.drop_eq_getElem_cons c1, show b.drop i = b[i]'(by omega) :: b.drop (i + 1) from List.drop_eq_getElem_cons (by omega : i < b.length)]
      by_cases c2 : a[i] = b[i]
      · rw [if_pos c2, c2]; simp only [List.cons.injEq, true_and]
      · rw [if_neg c2]
        simp only [List.cons.injEq, c2, false_and, decide_false]
    · rw [if_neg (by omega), List.drop_eq_nil_of_le (by omega), List.drop_eq_nil_of_le (by omega)]
      simp
theorem same01_ev (a b : List Int) (ha : a.length < 140737488355328) : Ev (fun k => lookoutref01_Same.f k a b) (decide (a = b)) := by
  unfold lookoutref01_Same.f
  by_cases hl : a.length = b.length
  · refine Ev.congr (fun k => if_pos (by omega)) ⟨a.length + 1, fun k hk => ?_⟩
    have := same01_l0 a b hl ha a.length 0 k (by omega) (by omega) hk
    simpa using this
  · rw [decide_eq_false (fun h => hl (by rw [h]))]
    exact Ev.congr (fun k => if_neg (by omega)) (Ev.now _)
/-! ### the example -/
def ex0 : List ByteArray := [⟨#[98]⟩, ⟨#[98]⟩, ⟨#[97, 98]⟩, ⟨#[97, 98, 99]⟩]
def ex1 : List ByteArray := [⟨#[97, 98]⟩, ⟨#[97, 98, 99]⟩, ⟨#[98]⟩]
theorem ex_dic : dic ex0 = ex1 := by
  refine asc_ext (dic_asc _) ?_ (fun z => ?_)
  · unfold Asc ex1
    simp only [List.pairwise_cons, List.mem_cons, List.not_mem_nil, or_false, forall_eq_or_imp, forall_eq]
    refine ⟨⟨by decide, by decide⟩, by decide, (fun _ h => by cases h), List.Pairwise.nil⟩
  · rw [mem_dic]
    simp only [ex0, ex1, List.mem_cons, List.not_mem_nil, or_false]
    constructor
    · rintro (h | h | h | h) <;> simp [h]
    · rintro (h | h | h) <;> simp [h]
theorem ex_runs : runL ex0 = [(⟨#[98]⟩, 2), (⟨#[97, 98]⟩, 1), (⟨#[97, 98, 99]⟩, 1)] := by
  have e1 : eqN ⟨#[98]⟩ [⟨#[98]⟩, ⟨#[97, 98]⟩, ⟨#[97, 98, 99]⟩] = 1 := by
    simp only [eqN, toL]
    rfl
  have e2 : eqN ⟨#[97, 98]⟩ [⟨#[97, 98, 99]⟩] = 0 := by
    simp only [eqN, toL]
    rfl
  unfold ex0
  rw [runL_cons, e1, List.drop_succ_cons, List.drop_zero, runL_cons, e2, List.drop_zero, runL_cons, show eqN (⟨#[97, 98, 99]⟩ : ByteArray) [] = 0 from rfl, List.drop_zero, runL_nil]
  rfl
theorem ex_bytes : encBytes ex0 = [4, 3, 0, 2, 97, 98, 2, 1, 99, 0, 1, 98, 2, 1, 0, 0, 1, 0] := by
  unfold encBytes
  rw [ex_dic, ex_runs]
  have i1 : idxN ex1 ⟨#[98]⟩ = 2 := by decide
  have i2 : idxN ex1 ⟨#[97, 98]⟩ = 0 := by decide
  have i3 : idxN ex1 ⟨#[97, 98, 99]⟩ = 1 := by decide
  have hd : dictB ex1 [] = G 0 ++ (G 2 ++ ([97, 98] ++ (G 2 ++ (G 1 ++ ([99] ++ (G 0 ++ (G 1 ++ ([98] ++ [])))))))) := rfl
  simp only [runB, i1, i2, i3, hd]
  rw [show ex0.length = 4 from rfl, show ex1.length = 3 from rfl]
  simp only [show ((2 : Int) - 1).toNat = 1 from rfl, show ((1 : Int) - 1).toNat = 0 from rfl]
  rw [G_small (n := 4) (by omega), G_small (n := 3) (by omega), G_small (n := 0) (by omega), G_small (n := 2) (by omega), G_small (n := 1) (by omega)]
  rfl
theorem ex_enc : ENC ex0 = (strOfNums [4, 3, 0, 2, 97, 98, 2, 1, 99, 0, 1, 98, 2, 1, 0, 0, 1, 0], 0) := by
  unfold ENC
  rw [if_pos (show COL ex0 from ⟨by decide, by decide⟩), ex_bytes, if_neg (by decide)]
theorem awake_ev : Ev (fun k => lookoutlaw10_awake.f k) true := by
  unfold lookoutlaw10_awake.f
  simp only [Option.bind_some]
  have he := enc_ev ex0
  have hd := decode_round ex_enc
  have hk := lookup_round (⟨#[98]⟩ : ByteArray) ex_enc
  rw [ex_enc] at he
  refine Ev.bind he ?_
  refine Ev.bind hd ?_
  refine Ev.bind hk ?_
  refine Ev.congr (fun k => by rw [if_pos rfl, if_pos rfl, if_pos rfl, if_pos (by rw [toL]; rfl)]) ?_
  refine Ev.bind (same_ev ex0 ex0 (by decide)) ?_
  refine Ev.congr (fun k => if_pos (by simp)) ?_
  have e : LK (⟨#[98]⟩ : ByteArray) ex0 0 = [0, 1] := by decide
  rw [e]
  refine Ev.bind (same01_ev [0, 1] [0, 1] (by decide)) (Ev.congr (fun k => by rfl) (Ev.now _))
theorem awake_end : Ev (fun k => (lookoutlaw10_awake.f k).bind fun t => (some t)) true := Ev.bind awake_ev (Ev.now _)
/-! ### what the statements examine -/
theorem great_l0 (l : List ByteArray) (hw : ∀ x ∈ l, x.size ≤ 140737488351232) (hl : l.length ≤ 140737488351232) : ∀ (n i m : Nat), 41 - i ≤ n → i ≤ l.length → i ≤ 41 → m ≤ 3000 → ∃ t, Ev (fun k => lookoutref10_Great.l0 k l (m : Int) (i : Int)) t ∧ (t = false → l.length ≤ 40) := by
  intro n
  have hend : ∀ (i m : Nat), Ev (fun k => lookoutref10_Great.j1 k l (m : Int) (i : Int) false) (decide ((l.length : Int) > 40)) := fun i m => Ev.step (fun k => by rw [lookoutref10_Great.j1, if_neg (by simp)]) (Ev.now _)
  induction n with
  | zero =>
    intro i m hn hi h41 hm
    refine ⟨decide ((l.length : Int) > 40), ?_, fun h => by have := of_decide_eq_false h; omega⟩
    by_cases c : i < l.length
    · exact Ev.step (fun k => by rw [lookoutref10_Great.l0, if_pos (by omega), decide_eq_false (by omega : ¬ (i : Int) < 41)]) (hend i m)
    · exact Ev.step (fun k => by rw [lookoutref10_Great.l0, if_neg (by omega)]) (hend i m)
  | succ n ih =>
    intro i m hn hi h41 hm
    by_cases c : i < l.length
    · by_cases c2 : i < 41
      · have hx := hw l[i] (List.getElem_mem c)
        by_cases c3 : m + l[i].size > 3000
        · refine ⟨true, Ev.step (fun k => by rw [lookoutref10_Great.l0, if_pos (by omega), decide_eq_true (by omega : (i : Int) < 41)]) (Ev.step (fun k => by rw [lookoutref10_Great.j1, if_pos rfl, if_pos (by omega), if_pos (by omega), rdS_get c, if_pos (by rw [w_in (by omega) (by omega)]; omega)]) (Ev.now _)), fun h => by cases h⟩
        · obtain ⟨t, ht, hf⟩ := ih (i + 1) (m + l[i].size) (by omega) (by omega) (by omega) (by omega)
          refine ⟨t, Ev.step (fun k => by rw [lookoutref10_Great.l0, if_pos (by omega), decide_eq_true (by omega : (i : Int) < 41)]) (Ev.step (fun k => ?_) ht), hf⟩
          rw [lookoutref10_Great.j1, if_pos rfl, if_pos (by omega), if_pos (by omega), rdS_get c, if_neg (by rw [w_in (by omega) (by omega)]; omega), w_in (by omega) (by omega), w1 (by omega), show ((m + l[i].size : Nat) : Int) = (m : Int) + (l[i].size : Int) by omega]
      · exact ⟨decide ((l.length : Int) > 40), Ev.step (fun k => by rw [lookoutref10_Great.l0, if_pos (by omega), decide_eq_false (by omega : ¬ (i : Int) < 41)]) (hend i m), fun h => by have := of_decide_eq_false h; omega⟩
    · exact ⟨decide ((l.length : Int) > 40), Ev.step (fun k => by rw [lookoutref10_Great.l0, if_neg (by omega)]) (hend i m), fun h => by have := of_decide_eq_false h; omega⟩
theorem great_ev (l : List ByteArray) (hw : ∀ x ∈ l, x.size ≤ 140737488351232) (hl : l.length ≤ 140737488351232) : ∃ t, Ev (fun k => lookoutref10_Great.f k l) t ∧ (t = false → l.length ≤ 40) :=
  great_l0 l hw hl 41 0 0 (by omega) (by omega) (by omega) (by omega)
end Go.Proofs.Ytfklecicddpcjaa.DK
end
