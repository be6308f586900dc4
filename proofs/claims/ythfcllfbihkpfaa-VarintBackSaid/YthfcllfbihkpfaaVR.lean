/- Plain facts on reading numbers: the varint chapter's functions and its reference answer alike. No condition beyond those in the statements. -/
import Derived.Test.YthfcllfbihkpfaaVB
namespace Go.Proofs.Ythfcllfbihkpfaa.VB
open Go Go.RowKit Go.Proofs.Ythfcllfbihkpfaa.P Go.Proofs.Ythfcllfbihkpfaa.Hand Go.Proofs.YthfcllfbihkpfaaW.PrintWords Go.Proofs.YthfcllfbihkpfaaW.PrintLast Go.Proofs.YthfcllfbihkpfaaW.PrintMore

theorem p128_le {i j : Nat} (h : i ≤ j) : (128 : Int) ^ i ≤ 128 ^ j := by
  have := Nat.pow_le_pow_right (n := 128) (by omega) h
  exact_mod_cast this
/-- What is read at the head of a list of bytes, from place i on, with the number n so far. -/
def RL : Nat → Int → List Int → Int × Int × Int
  | _, _, [] => (0, 0, 11)
  | i, n, b :: t =>
    if 9 ≤ i then (0, 0, 11)
    else if (128 ≤ b ∧ i = 8) ∨ (b = 0 ∧ 0 < i) then (0, 0, 12)
    else if b < 128 then (n + b * 128 ^ i, (i : Int) + 1, 0)
    else RL (i + 1) (n + (b - 128) * 128 ^ i) t
theorem bytes_drop (s : ByteArray) {i : Nat} (h : i < s.size) : (bytesOf s).drop i = bt s i :: (bytesOf s).drop (i + 1) := by
  have hl : i < (bytesOf s).length := by rw [bytesOf_length]; exact h
  rw [List.drop_eq_getElem_cons hl]
  congr 1
  have := rd_bytesOf s i
  unfold rd at this
  rw [← this, Int.toNat_natCast, List.getD_eq_getElem?_getD, List.getElem?_eq_getElem hl]
  rfl
theorem bytes_end (s : ByteArray) {i : Nat} (h : s.size ≤ i) : (bytesOf s).drop i = [] := by
  apply List.drop_eq_nil_of_le; rw [bytesOf_length]; exact h
theorem bytes_in (s : ByteArray) : ∀ b ∈ bytesOf s, 0 ≤ b ∧ b ≤ 255 := by
  intro b hb
  simp only [bytesOf, List.mem_map] at hb
  obtain ⟨x, _, rfl⟩ := hb
  have := x.toNat_lt
  omega
theorem readFrom_is (s : ByteArray) : ∀ (d i : Nat) (n : Int), i + d = 9 → readFrom s d i n = RL i n ((bytesOf s).drop i) := by
  intro d
  induction d with
  | zero =>
    intro i n h
    obtain rfl : i = 9 := by omega
    cases hd : (bytesOf s).drop 9 with
    | nil => rfl
    | cons b t => simp [readFrom, RL]
  | succ d ih =>
    intro i n h
    simp only [readFrom]
    by_cases hs : i < s.size
    · rw [if_pos hs, bytes_drop s hs]
      simp only [RL]
      rw [if_neg (by omega : ¬ 9 ≤ i)]
      split
      · rfl
      · split
        · rfl
        · exact ih (i + 1) _ (by omega)
    · rw [if_neg hs, bytes_end s (by omega)]
      rfl
/-- What is known of a number that is read. -/
theorem RL_ok : ∀ (l : List Int) (i : Nat) (n : Int), (∀ b ∈ l, 0 ≤ b ∧ b ≤ 255) → 0 ≤ n → n < 128 ^ i → i ≤ 9 →
    (RL i n l).2.2 = 0 → 0 ≤ (RL i n l).1 ∧ (RL i n l).1 < 128 ^ 9 ∧ (i : Int) < (RL i n l).2.1 ∧ (RL i n l).2.1 ≤ i + l.length := by
  intro l
  induction l with
  | nil => intro i n _ _ _ _ h; simp [RL] at h
  | cons b t ih =>
    intro i n hb h0 h1 h9
    have hb0 := hb b (by simp)
    simp only [RL]
    split
    · intro h; simp at h
    · rename_i hi
      split
      · intro h; simp at h
      · rename_i hc
        have hp : (0 : Int) < 128 ^ i := Int.pow_pos (by omega)
        have e1 : (128 : Int) ^ (i + 1) = 128 ^ i + 127 * 128 ^ i := by rw [Int.pow_succ]; omega
        have hle : (128 : Int) ^ (i + 1) ≤ 128 ^ 9 := p128_le (by omega)
        split
        · rename_i hl
          intro _
          have h2 : 0 ≤ b * 128 ^ i := Int.mul_nonneg hb0.1 (by omega)
          have h3 : b * 128 ^ i ≤ 127 * 128 ^ i := Int.mul_le_mul_of_nonneg_right (by omega) (by omega)
          refine ⟨by simp only; omega, by simp only; omega, by simp only; omega, by simp only [List.length_cons]; omega⟩
        · rename_i hl
          intro h
          have h2 : 0 ≤ (b - 128) * 128 ^ i := Int.mul_nonneg (by omega) (by omega)
          have h3 : (b - 128) * 128 ^ i ≤ 127 * 128 ^ i := Int.mul_le_mul_of_nonneg_right (by omega) (by omega)
          have := ih (i + 1) (n + (b - 128) * 128 ^ i) (fun x hx => hb x (by simp [hx])) (by omega) (by omega) (by omega) h
          simp only [List.length_cons]
          omega
theorem RL_err : ∀ (l : List Int) (i : Nat) (n : Int), (RL i n l).2.2 ≠ 0 → RL i n l = (0, 0, (RL i n l).2.2) := by
  intro l
  induction l with
  | nil => intro i n _; rfl
  | cons b t ih =>
    intro i n
    simp only [RL]
    split
    · intro _; rfl
    · split
      · intro _; rfl
      · split
        · intro h; simp at h
        · exact ih _ _
/-- The reference's reading: numbers beyond 2^61 are none. -/
def GT (r : Int × Int × Int) : Int × Int × Int := if r.2.2 = 0 ∧ 2305843009213693952 < r.1 then (0, 0, 12) else r
theorem shl_is {c : Int} {i : Nat} (h0 : 0 ≤ c) (h1 : c < 128) (hi : i ≤ 8) : shl .i64 c (7 * (i : Int)) = c * 128 ^ i := by
  unfold shl
  have e : min (7 * (i : Int)).toNat IntKind.i64.bits = 7 * i := by simp [IntKind.bits]; omega
  rw [e, Int.pow_mul]
  have h8 : (128 : Int) ^ i ≤ 128 ^ 8 := p128_le (by omega)
  have hp : (0 : Int) < 128 ^ i := Int.pow_pos (by omega)
  have h2 : c * 128 ^ i ≤ 127 * 128 ^ i := Int.mul_le_mul_of_nonneg_right (by omega) (by omega)
  have h3 : 0 ≤ c * 128 ^ i := Int.mul_nonneg h0 (by omega)
  show IntKind.i64.wrap (c * 128 ^ i) = _
  exact IntWalk.i64_in _ (by omega)
theorem get_step (s : ByteArray) (_hs : s.size ≤ 140737488351232) (i : Nat) (n : Int) (hi : i ≤ 8) (h0 : 0 ≤ n) (h1 : n < 128 ^ i) (k : Nat) :
    lookoutref01_get.l0 (k + 2) s n i = if i < s.size then
      (if (128 ≤ bt s i ∧ i = 8) ∨ (bt s i = 0 ∧ 0 < i) then some (0, 0, 12)
       else if bt s i < 128 then (if 2305843009213693952 < n + bt s i * 128 ^ i then some (0, 0, 12) else some (n + bt s i * 128 ^ i, (i : Int) + 1, 0))
       else lookoutref01_get.l0 k s (n + (bt s i - 128) * 128 ^ i) ((i + 1 : Nat) : Int)) else some (0, 0, 11) := by
  obtain ⟨b0, b1⟩ := bt_range s i
  have hp : (0 : Int) < 128 ^ i := Int.pow_pos (by omega)
  have e1 : (128 : Int) ^ (i + 1) = 128 ^ i + 127 * 128 ^ i := by rw [Int.pow_succ]; omega
  have hle : (128 : Int) ^ (i + 1) ≤ 128 ^ 9 := p128_le (by omega)
  have w1 : wrap64 (bt s i) = bt s i := by unfold wrap64; omega
  have w2 : wrap64 (7 * (i : Int)) = 7 * (i : Int) := by unfold wrap64; omega
  have w3 : wrap64 ((i : Int) + 1) = (i : Int) + 1 := by unfold wrap64; omega
  have w4 : Int.tmod (bt s i) 128 = bt s i % 128 := Int.tmod_eq_emod_of_nonneg b0
  simp only [lookoutref01_get.l0]
  by_cases hlt : i < s.size
  · rw [if_neg (by omega), if_pos (by omega), if_pos (by omega), if_pos hlt]
    simp only [w1]
    by_cases hb : 128 ≤ bt s i
    · have hm : bt s i % 128 = bt s i - 128 := by omega
      have h2 : 0 ≤ (bt s i - 128) * 128 ^ i := Int.mul_nonneg (by omega) (by omega)
      have h3 : (bt s i - 128) * 128 ^ i ≤ 127 * 128 ^ i := Int.mul_le_mul_of_nonneg_right (by omega) (by omega)
      have w5 : wrap64 (n + (bt s i - 128) * 128 ^ i) = n + (bt s i - 128) * 128 ^ i := by unfold wrap64; omega
      have w6 : shl .i64 (bt s i - 128) (7 * (i : Int)) = (bt s i - 128) * 128 ^ i := shl_is (by omega) (by omega) hi
      by_cases h8 : i = 8
      · subst h8
        rw [if_pos (show ((8 : Nat) : Int) = 8 from rfl), if_pos (.inl ⟨hb, rfl⟩)]
        simp only [lookoutref01_get.j1]
        rw [if_pos (by simp; omega)]
      · rw [if_neg (by omega), if_neg (by omega), if_neg (by omega)]
        simp only [lookoutref01_get.j1, w2, w3, w4, hm, w6, w5]
        rw [if_neg (by simp), if_pos (by omega), if_pos (by omega)]
        rfl
    · have hm : bt s i % 128 = bt s i := by omega
      have h2 : 0 ≤ bt s i * 128 ^ i := Int.mul_nonneg (by omega) (by omega)
      have h3 : bt s i * 128 ^ i ≤ 127 * 128 ^ i := Int.mul_le_mul_of_nonneg_right (by omega) (by omega)
      have w5 : wrap64 (n + bt s i * 128 ^ i) = n + bt s i * 128 ^ i := by unfold wrap64; omega
      have w6 : shl .i64 (bt s i) (7 * (i : Int)) = bt s i * 128 ^ i := shl_is (by omega) (by omega) hi
      have hj : lookoutref01_get.j1 (k + 1) s n i (bt s i) false = (if bt s i = 0 ∧ 0 < i then some (0, 0, 12) else if 2305843009213693952 < n + bt s i * 128 ^ i then some (0, 0, 12) else some (n + bt s i * 128 ^ i, (i : Int) + 1, 0)) := by
        simp only [lookoutref01_get.j1, w2, w3, w4, hm, w6, w5]
        rw [if_neg (by simp), if_pos (by omega), if_neg (by omega)]
        by_cases hi0 : 0 < i
        · rw [if_pos (by omega)]
          by_cases hz : bt s i = 0
          · rw [if_pos hz, if_pos ⟨hz, hi0⟩]
          · rw [if_neg hz, if_neg (show ¬ (bt s i = 0 ∧ 0 < i) from fun h => hz h.1)]
        · rw [if_neg (by omega), if_neg (show ¬ (bt s i = 0 ∧ 0 < i) from fun h => hi0 h.2)]
      have e2 : (if (i : Int) = 8 then lookoutref01_get.j1 (k + 1) s n i (bt s i) (decide (bt s i ≥ 128)) else lookoutref01_get.j1 (k + 1) s n i (bt s i) false) = lookoutref01_get.j1 (k + 1) s n i (bt s i) false := by
        rw [decide_eq_false (by omega), ite_self]
      rw [e2, hj]
      by_cases hc : bt s i = 0 ∧ 0 < i
      · rw [if_pos hc, if_pos (.inr hc)]
      · rw [if_neg hc, if_neg (show ¬ ((128 ≤ bt s i ∧ i = 8) ∨ (bt s i = 0 ∧ 0 < i)) by omega), if_pos (show bt s i < 128 by omega)]
  · rw [if_pos (by omega), if_neg hlt]
theorem get_l0 (s : ByteArray) (hs : s.size ≤ 140737488351232) : ∀ (d i : Nat) (n : Int), i + d = 8 → 0 ≤ n → n < 128 ^ i → ∀ k, 2 * d + 2 ≤ k →
    lookoutref01_get.l0 k s n i = some (GT (RL i n ((bytesOf s).drop i))) := by
  intro d
  induction d with
  | zero =>
    intro i n h h0 h1 k hk
    have hi8 : i = 8 := by omega
    obtain ⟨k, rfl⟩ : ∃ m, k = m + 2 := ⟨k - 2, by omega⟩
    rw [get_step s hs i n (by omega) h0 h1]
    by_cases hlt : i < s.size
    · rw [if_pos hlt, bytes_drop s hlt]
      simp only [RL, if_neg (show ¬ 9 ≤ i by omega)]
      by_cases hc : (128 ≤ bt s i ∧ i = 8) ∨ (bt s i = 0 ∧ 0 < i)
      · simp only [if_pos hc]; rfl
      · have hb : bt s i < 128 := by omega
        simp only [if_neg hc, if_pos hb]
        unfold GT
        by_cases hg : 2305843009213693952 < n + bt s i * 128 ^ i
        · rw [if_pos hg, if_pos ⟨rfl, hg⟩]
        · rw [if_neg hg, if_neg (by intro h; exact hg h.2)]
    · rw [if_neg hlt, bytes_end s (by omega)]; rfl
  | succ d ih =>
    intro i n h h0 h1 k hk
    obtain ⟨k, rfl⟩ : ∃ m, k = m + 2 := ⟨k - 2, by omega⟩
    rw [get_step s hs i n (by omega) h0 h1]
    by_cases hlt : i < s.size
    · rw [if_pos hlt, bytes_drop s hlt]
      simp only [RL, if_neg (show ¬ 9 ≤ i by omega)]
      by_cases hc : (128 ≤ bt s i ∧ i = 8) ∨ (bt s i = 0 ∧ 0 < i)
      · simp only [if_pos hc]; rfl
      · simp only [if_neg hc]
        by_cases hb : bt s i < 128
        · simp only [if_pos hb]
          unfold GT
          by_cases hg : 2305843009213693952 < n + bt s i * 128 ^ i
          · rw [if_pos hg, if_pos ⟨rfl, hg⟩]
          · rw [if_neg hg, if_neg (by intro h; exact hg h.2)]
        · simp only [if_neg hb]
          obtain ⟨b0, b1⟩ := bt_range s i
          have hp : (0 : Int) < 128 ^ i := Int.pow_pos (by omega)
          have e1 : (128 : Int) ^ (i + 1) = 128 ^ i + 127 * 128 ^ i := by rw [Int.pow_succ]; omega
          have h2 : 0 ≤ (bt s i - 128) * 128 ^ i := Int.mul_nonneg (by omega) (by omega)
          have h3 : (bt s i - 128) * 128 ^ i ≤ 127 * 128 ^ i := Int.mul_le_mul_of_nonneg_right (by omega) (by omega)
          exact ih (i + 1) _ (by omega) (by omega) (by omega) k (by omega)
    · rw [if_neg hlt, bytes_end s (by omega)]; rfl
theorem get_is (s : ByteArray) (hs : s.size ≤ 140737488351232) {k : Nat} (hk : 18 ≤ k) : lookoutref01_get.f k s = some (GT (RL 0 0 (bytesOf s))) := by
  have := get_l0 s hs 8 0 0 rfl (by omega) (by omega) k (by omega)
  simpa [lookoutref01_get.f] using this

/-! ## Read and ReadSigned -/
def RD (l : List Int) : Int × Int × Int := if (RL 0 0 l).2.2 = 0 ∧ 1152921504606846976 < (RL 0 0 l).1 then (0, 0, 12) else RL 0 0 l
/-- The signed number for which a number stands. -/
def unzig (u : Int) : Int := if u % 2 = 0 then u / 2 else -(u / 2) - 1
def RS (l : List Int) : Int × Int × Int :=
  if (RL 0 0 l).2.2 = 0 then (if 2305843009213693952 < (RL 0 0 l).1 then (0, 0, 12) else (unzig (RL 0 0 l).1, (RL 0 0 l).2.1, 0)) else RL 0 0 l
theorem RL_ok0 (l : List Int) (hb : ∀ b ∈ l, 0 ≤ b ∧ b ≤ 255) (h : (RL 0 0 l).2.2 = 0) : 0 ≤ (RL 0 0 l).1 ∧ (RL 0 0 l).1 < 9223372036854775808 ∧ 0 < (RL 0 0 l).2.1 ∧ (RL 0 0 l).2.1 ≤ l.length := by
  have := RL_ok l 0 0 hb (by omega) (by omega) (by omega) h
  simpa using this
theorem RL_err0 (l : List Int) {v c e : Int} (h : RL 0 0 l = (v, c, e)) (he : e ≠ 0) : v = 0 ∧ c = 0 := by
  have := RL_err l 0 0 (by rw [h]; exact he)
  rw [h] at this
  simp only [Prod.mk.injEq] at this
  omega
theorem RL_ok1 (l : List Int) (hb : ∀ b ∈ l, 0 ≤ b ∧ b ≤ 255) {v c : Int} (h : RL 0 0 l = (v, c, 0)) : 0 ≤ v ∧ v < 9223372036854775808 ∧ 0 < c ∧ c ≤ l.length := by
  have := RL_ok0 l hb (by rw [h])
  rw [h] at this
  exact this
theorem read_is (s : ByteArray) : varint_Read.f s = some (RD (bytesOf s)) := by
  unfold varint_Read.f varint_read.f RD
  rw [readFrom_is s 9 0 0 rfl, List.drop_zero, Option.bind_some]
  obtain ⟨v, c, e, hr⟩ : ∃ v c e, RL 0 0 (bytesOf s) = (v, c, e) := ⟨_, _, _, rfl⟩
  rw [hr]
  dsimp only
  by_cases h : e = 0
  · subst h
    have := RL_ok1 _ (bytes_in s) hr
    rw [if_pos rfl]
    by_cases hg : 1152921504606846976 < v
    · rw [if_pos hg, if_pos ⟨rfl, hg⟩]
    · rw [if_neg hg, if_neg (fun h => hg h.2), show wrap64 v = v by unfold wrap64; omega]
  · obtain ⟨rfl, rfl⟩ := RL_err0 _ hr h
    rw [if_neg h, if_neg (fun h' => h h'.1)]
theorem readRef_is (s : ByteArray) (hs : s.size ≤ 140737488351232) {k : Nat} (hk : 18 ≤ k) : lookoutref01_Read.f k s = some (RD (bytesOf s)) := by
  unfold lookoutref01_Read.f RD
  rw [get_is s hs hk, Option.bind_some]
  unfold GT
  obtain ⟨v, c, e, hr⟩ : ∃ v c e, RL 0 0 (bytesOf s) = (v, c, e) := ⟨_, _, _, rfl⟩
  rw [hr]
  dsimp only
  by_cases h : e = 0
  · subst h
    by_cases hg : 2305843009213693952 < v
    · simp only [hg, and_self, if_true]
      rw [if_pos (⟨trivial, by omega⟩ : True ∧ 1152921504606846976 < v)]
      rfl
    · simp only [hg, and_false, if_false, if_true, true_and]
      split <;> rfl
  · simp only [h, false_and, if_false]
theorem unzig_in {u : Int} (h0 : 0 ≤ u) : (-1152921504606846976 ≤ unzig u ∧ unzig u ≤ 1152921504606846976) ↔ u ≤ 2305843009213693952 := by
  unfold unzig; split <;> omega
theorem readSigned_is (s : ByteArray) : varint_ReadSigned.f s = some (RS (bytesOf s)) := by
  unfold varint_ReadSigned.f varint_read.f RS
  rw [readFrom_is s 9 0 0 rfl, List.drop_zero, Option.bind_some]
  obtain ⟨v, c, e, hr⟩ : ∃ v c e, RL 0 0 (bytesOf s) = (v, c, e) := ⟨_, _, _, rfl⟩
  rw [hr]
  dsimp only
  by_cases h : e = 0
  · subst h
    have hv := RL_ok1 _ (bytes_in s) hr
    have e1 : varint_unfolded.f v = some (unzig v) := by
      unfold varint_unfolded.f unzig
      rw [Int.tmod_eq_emod_of_nonneg (by omega), Int.tdiv_eq_ediv_of_nonneg (by omega)]
      simp only [IntKind.wrap_u64]
      split <;> (congr 1; unfold wrap64; omega)
    rw [if_pos rfl, if_pos rfl, e1, Option.bind_some, inRange_is, Option.bind_some]
    have hz := unzig_in hv.1
    by_cases hg : 2305843009213693952 < v
    · rw [if_neg (by rw [decide_eq_true_eq, hz]; omega), if_pos hg]
    · rw [if_pos (by rw [decide_eq_true_eq, hz]; omega), if_neg hg]
  · obtain ⟨rfl, rfl⟩ := RL_err0 _ hr h
    rw [if_neg h, if_neg h]
theorem readSignedRef_is (s : ByteArray) (hs : s.size ≤ 140737488351232) {k : Nat} (hk : 18 ≤ k) : lookoutref01_ReadSigned.f k s = some (RS (bytesOf s)) := by
  unfold lookoutref01_ReadSigned.f RS
  rw [get_is s hs hk, Option.bind_some]
  unfold GT
  obtain ⟨v, c, e, hr⟩ : ∃ v c e, RL 0 0 (bytesOf s) = (v, c, e) := ⟨_, _, _, rfl⟩
  rw [hr]
  dsimp only
  by_cases h : e = 0
  · subst h
    have hv := RL_ok1 _ (bytes_in s) hr
    by_cases hg : 2305843009213693952 < v
    · simp only [hg, and_self, if_true]
      rfl
    · simp only [hg, and_false, if_false, if_true]
      unfold unzig
      rw [Int.tmod_eq_emod_of_nonneg (by omega), Int.tdiv_eq_ediv_of_nonneg (by omega)]
      by_cases h1 : v % 2 = 1
      · rw [if_pos h1, if_neg (by omega), show wrap64 ((wrap64 (-(wrap64 (v / 2)))) - 1) = -(v / 2) - 1 by unfold wrap64; omega]
      · rw [if_neg h1, if_pos (by omega), show wrap64 (v / 2) = v / 2 by unfold wrap64; omega]
  · obtain ⟨rfl, rfl⟩ := RL_err0 _ hr h
    simp only [h, false_and, if_false]
end Go.Proofs.Ythfcllfbihkpfaa.VB
