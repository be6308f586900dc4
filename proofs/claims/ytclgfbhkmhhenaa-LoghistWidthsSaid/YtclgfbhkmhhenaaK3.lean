/- Plain facts: a value lies in its bucket, neighbouring buckets meet. No condition beyond those in the statements. -/
import Derived.Test.YtclgfbhkmhhenaaK2
namespace Go.Proofs.Ytclgfbhkmhhenaa.HK
open Go.RowKit Go.Proofs.Ytclgfbhkmhhenaa.P Go.Proofs.Ytclgfbhkmhhenaa.B Go.Proofs.Ytclgfbhkmhhenaa.A Go.Proofs.Ytclgfbhkmhhenaa.Hand Go.Proofs.YtclgfbhkmhhenaaW.PrintWords Go.Proofs.YtclgfbhkmhhenaaW.PrintLast Go.Proofs.YtclgfbhkmhhenaaW.PrintMore
set_option linter.unusedVariables false
set_option linter.unusedSimpArgs false
theorem stepS {S : Int} (h0 : 0 ≤ S) {k m : Nat} (h : k + 1 ≤ m) : (k : Int) * S + S ≤ m * S := by
  have h1 : ((k + 1 : Nat) : Int) * S ≤ m * S := Int.mul_le_mul_of_nonneg_right (by omega) h0
  have h2 : ((k + 1 : Nat) : Int) * S = k * S + S := by rw [Int.natCast_add, Int.add_mul]; simp
  omega
def KU (S i : Int) (k : Nat) : Prop := (k = 0 ∨ (k : Int) * S + S ≤ i) ∧ (k : Int) * S ≤ i ∧ i < k * S + 2 * S
theorem KU.unique {S i : Int} (h0 : 0 ≤ S) {k m : Nat} (h : KU S i k) (h' : KU S i m) : k = m := by
  obtain ⟨a1, a2, a3⟩ := h
  obtain ⟨c1, c2, c3⟩ := h'
  rcases Nat.lt_trichotomy k m with h | h | h
  · have := stepS h0 (show k + 1 ≤ m from h)
    rcases c1 with c1 | c1 <;> omega
  · exact h
  · have := stepS h0 (show m + 1 ≤ k from h)
    rcases a1 with a1 | a1 <;> omega
def BU (p : Nat) (i lo hi : Int) : Prop := ∃ k : Nat, k + p ≤ 40 ∧ KU (2 ^ p) i k ∧ lo = (i - k * 2 ^ p) * 2 ^ k ∧ hi = mn (lo + 2 ^ k - 1) 1099511627776
theorem BD.bu {p : Nat} (hp : p ≤ 8) {i lo hi : Int} (i0 : 0 ≤ i) (h : BD p i lo hi) : BU p i lo hi := by
  have b1 := p2 hp
  have b0 := p2p p
  have e8 : (2 : Int) ^ 8 = 256 := by decide
  rcases h with ⟨h1, rfl, rfl⟩ | ⟨k, h1, h2, h3, rfl, rfl⟩
  · refine ⟨0, by omega, ⟨.inl rfl, by simp; omega, by simp; omega⟩, by simp, ?_⟩
    unfold mn
    rw [show (2 : Int) ^ 0 = 1 from rfl, if_neg (by omega)]
    omega
  · exact ⟨k, h1, ⟨.inr h2, by omega, h3⟩, rfl, rfl⟩
def IU (p : Nat) (v i : Int) : Prop := ∃ k : Nat, k + p ≤ 40 ∧ (k = 0 ∨ 2 ^ (p + k) ≤ v) ∧ v < 2 ^ (p + k + 1) ∧ i = (k : Int) * 2 ^ p + v / 2 ^ k
theorem IU.ku {p : Nat} {v i : Int} (v0 : 0 ≤ v) (h : IU p v i) : ∃ k : Nat, k + p ≤ 40 ∧ (k = 0 ∨ 2 ^ (p + k) ≤ v) ∧ v < 2 ^ (p + k + 1) ∧ i = (k : Int) * 2 ^ p + v / 2 ^ k ∧ KU (2 ^ p) i k := by
  obtain ⟨k, h1, h2, h3, rfl⟩ := h
  refine ⟨k, h1, h2, h3, rfl, ?_⟩
  have q1 := p2p k
  have d0 : 0 ≤ v / 2 ^ k := Int.ediv_nonneg v0 (by omega)
  have d1 : v / 2 ^ k < 2 * 2 ^ p := Int.ediv_lt_of_lt_mul (by omega) (by rw [← p2s, ← Int.pow_add, show p + 1 + k = p + k + 1 by omega]; exact h3)
  refine ⟨?_, by omega, by omega⟩
  rcases h2 with h2 | h2
  · exact .inl h2
  · have d2 : 2 ^ p ≤ v / 2 ^ k := Int.le_ediv_of_mul_le (by omega) (by rw [← Int.pow_add]; exact h2)
    exact .inr (by omega)
/-- A value lies in its bucket. -/
theorem in_bucket {p : Nat} {v i lo hi : Int} (v0 : 0 ≤ v) (v1 : v ≤ 1099511627776) (h : IU p v i) (hb : BU p i lo hi) : lo ≤ v ∧ v ≤ hi ∧ (hi - lo) * 2 ^ p ≤ lo ∧ 0 ≤ hi - lo ∧ hi - lo < 1099511627776 ∧ (hi - lo) * 2 ^ p < 1099511627777 := by
  obtain ⟨k, h1, h2, h3, rfl, hk⟩ := h.ku v0
  obtain ⟨m, g1, g2, rfl, rfl⟩ := hb
  obtain rfl := KU.unique (by have := p2p p; omega) hk g2
  have q1 := p2p k
  have q2 := p2 (show k ≤ 40 by omega)
  rw [e40] at q2
  have hq : 2 ^ k * (v / 2 ^ k) + v % 2 ^ k = v := Int.mul_ediv_add_emod v (2 ^ k)
  have hr := Int.emod_lt_of_pos v (show (0 : Int) < 2 ^ k by omega)
  have hr0 := Int.emod_nonneg v (show (2 : Int) ^ k ≠ 0 by omega)
  have e : (k : Int) * 2 ^ p + v / 2 ^ k - k * 2 ^ p = v / 2 ^ k := by omega
  rw [e, Int.mul_comm (v / 2 ^ k) (2 ^ k)]
  have b0 := p2p p
  have hw : (2 ^ k - 1 : Int) * 2 ^ p ≤ 2 ^ k * (v / 2 ^ k) := by
    rcases h2 with h2 | h2
    · subst h2
      have : 0 ≤ v / 2 ^ 0 := Int.ediv_nonneg v0 (by decide)
      simp
      omega
    · have d2 : 2 ^ p ≤ v / 2 ^ k := Int.le_ediv_of_mul_le (by omega) (by rw [← Int.pow_add]; exact h2)
      have d3 : (2 : Int) ^ k * 2 ^ p ≤ 2 ^ k * (v / 2 ^ k) := Int.mul_le_mul_of_nonneg_left d2 (by omega)
      have d4 : (2 ^ k - 1 : Int) * 2 ^ p = 2 ^ k * 2 ^ p - 2 ^ p := by rw [Int.sub_mul, Int.one_mul]
      omega
  have hmn : mn (2 ^ k * (v / 2 ^ k) + 2 ^ k - 1) 1099511627776 ≤ 2 ^ k * (v / 2 ^ k) + 2 ^ k - 1 := by unfold mn; split <;> omega
  have hmn2 : v ≤ mn (2 ^ k * (v / 2 ^ k) + 2 ^ k - 1) 1099511627776 := by unfold mn; split <;> omega
  generalize mn (2 ^ k * (v / 2 ^ k) + 2 ^ k - 1) 1099511627776 = hi at hmn hmn2 ⊢
  have hw2 : (hi - 2 ^ k * (v / 2 ^ k)) * 2 ^ p ≤ (2 ^ k - 1 : Int) * 2 ^ p := Int.mul_le_mul_of_nonneg_right (by omega) (by omega)
  exact ⟨by omega, hmn2, by omega, by omega, by omega, by omega⟩
/-- The next bucket begins where this one ends. -/
theorem next_bucket {p : Nat} (hp : p ≤ 8) {i lo hi lo' hi' : Int} (i0 : 0 ≤ i) (i1 : i + 1 ≤ ((40 - p + 1 : Nat) : Int) * 2 ^ p) (h : BU p i lo hi) (h' : BU p (i + 1) lo' hi') : lo' = hi + 1 := by
  obtain ⟨k, a1, a2, rfl, rfl⟩ := h
  obtain ⟨m, c1, c2, rfl, rfl⟩ := h'
  have b0 := p2p p
  have q1 := p2p k
  have hlast : (((40 - p : Nat) + 1 : Nat) : Int) * 2 ^ p = ((40 - p : Nat) : Int) * 2 ^ p + 2 ^ p := by rw [Int.natCast_add, Int.add_mul]; simp
  rw [hlast] at i1
  have key : (i + 1 - m * 2 ^ p) * 2 ^ m = (i - k * 2 ^ p) * 2 ^ k + 2 ^ k := by
    by_cases hi2 : i + 1 < k * 2 ^ p + 2 * 2 ^ p
    · obtain rfl : m = k := KU.unique (by omega) c2 ⟨by rcases a2.1 with h | h; exact .inl h; exact .inr (by omega), by have := a2.2.1; omega, hi2⟩
      have : i + 1 - m * 2 ^ p = (i - m * 2 ^ p) + 1 := by omega
      rw [this, Int.add_mul, Int.one_mul]
    · have hi3 : i + 1 = k * 2 ^ p + 2 * 2 ^ p := by have := a2.2.2; omega
      have hs : (((k + 1 : Nat)) : Int) * 2 ^ p = k * 2 ^ p + 2 ^ p := by rw [Int.natCast_add, Int.add_mul]; simp
      obtain rfl : m = k + 1 := KU.unique (by omega) c2 ⟨.inr (by rw [hs]; omega), by rw [hs]; omega, by rw [hs]; omega⟩
      have e1 : i + 1 - ((k + 1 : Nat) : Int) * 2 ^ p = 2 ^ p := by rw [hs]; omega
      have e2 : i - k * 2 ^ p = 2 * 2 ^ p - 1 := by omega
      rw [e1, e2, p2s, Int.sub_mul, Int.one_mul, Int.mul_assoc, Int.mul_left_comm]
      omega
  have top : (i + 1 - m * 2 ^ p) * 2 ^ m ≤ 1099511627776 := by
    have n0 := p2p m
    rcases Nat.lt_or_ge m (40 - p) with hm | hm
    · have t1 : (i + 1 - m * 2 ^ p) * 2 ^ m ≤ (2 * 2 ^ p) * 2 ^ m := Int.mul_le_mul_of_nonneg_right (by have := c2.2.2; omega) (by omega)
      have t2 : (2 * 2 ^ p : Int) * 2 ^ m = 2 ^ (p + 1 + m) := by rw [← p2s, ← Int.pow_add]
      have t3 := p2 (show p + 1 + m ≤ 40 by omega)
      rw [e40] at t3
      omega
    · obtain rfl : m = 40 - p := by omega
      have t1 : (i + 1 - ((40 - p : Nat) : Int) * 2 ^ p) * 2 ^ (40 - p) ≤ 2 ^ p * 2 ^ (40 - p) := Int.mul_le_mul_of_nonneg_right (by omega) (by omega)
      have t2 : (2 ^ p : Int) * 2 ^ (40 - p) = 1099511627776 := by rw [← Int.pow_add, show p + (40 - p) = 40 by omega, e40]
      omega
  rw [key] at top ⊢
  unfold mn
  rw [if_neg (by omega)]
  omega
theorem last_bucket {p : Nat} (hp : p ≤ 8) {i lo hi : Int} (e : i = ((40 - p + 1 : Nat) : Int) * 2 ^ p) (h : BU p i lo hi) : hi = 1099511627776 := by
  obtain ⟨k, a1, a2, rfl, rfl⟩ := h
  have b0 := p2p p
  have hlast : (((40 - p : Nat) + 1 : Nat) : Int) * 2 ^ p = ((40 - p : Nat) : Int) * 2 ^ p + 2 ^ p := by rw [Int.natCast_add, Int.add_mul]; simp
  rw [hlast] at e
  obtain rfl : k = 40 - p := KU.unique (by omega) a2 ⟨.inr (by omega), by omega, by omega⟩
  have e1 : i - ((40 - p : Nat) : Int) * 2 ^ p = 2 ^ p := by omega
  have t2 : (2 ^ p : Int) * 2 ^ (40 - p) = 1099511627776 := by rw [← Int.pow_add, show p + (40 - p) = 40 by omega, e40]
  have n0 := p2p (40 - p)
  rw [e1, t2]
  unfold mn
  split <;> omega
theorem mono_bucket {p : Nat} {v v' i i' : Int} (v0 : 0 ≤ v) (h : IU p v i) (h' : IU p v' i') (hv : v ≤ v') : i ≤ i' := by
  obtain ⟨k, a1, a2, a3, rfl, hk⟩ := h.ku v0
  obtain ⟨m, c1, c2, c3, rfl, hm⟩ := h'.ku (by omega)
  have b0 := p2p p
  rcases Nat.lt_trichotomy k m with h | h | h
  · have := stepS (S := 2 ^ p) (by omega) (show k + 1 ≤ m from h)
    have := hk.2.2
    rcases hm.1 with h | h <;> omega
  · subst h
    have := Int.ediv_le_ediv (c := 2 ^ k) (by have := p2p k; omega) hv
    omega
  · have t := p2 (show p + m + 1 ≤ p + k by omega)
    rcases a2 with h | h <;> omega
theorem Index_is (p : Nat) (hp : p ≤ 8) (v : Int) (v0 : 0 ≤ v) (v1 : v ≤ 1099511627776) : ∃ i, Ev (fun k => loghist_Index.f k p v) (i, 0) ∧ IU p v i := by
  obtain ⟨r, h1, -, h3⟩ := ix_both p hp v v0 v1
  refine ⟨r, Ev.congr (fun k => by rw [loghist_Index.f, prec_is (by omega) (by omega), Option.bind_some, if_pos rfl, value_is v0 v1, Option.bind_some, if_pos rfl]) (Ev.bind h1 (Ev.now _)), ?_⟩
  rcases h3 with ⟨h, rfl⟩ | ⟨k, g1, g2, g3, rfl⟩
  · exact ⟨0, by omega, .inl rfl, by rw [Nat.add_zero, p2s]; omega, by simp⟩
  · exact ⟨k, g1, .inr g2, g3, rfl⟩
theorem Index_no (p v : Int) (h : ¬ (0 ≤ p ∧ p ≤ 8 ∧ 0 ≤ v ∧ v ≤ 1099511627776)) : Ev (fun k => loghist_Index.f k p v) (0, 2) := by
  by_cases hp : 0 ≤ p ∧ p ≤ 8
  · exact Ev.congr (fun k => by rw [loghist_Index.f, prec_is hp.1 hp.2, Option.bind_some, if_pos rfl, value_no (by omega), Option.bind_some, if_neg (by decide)]) (Ev.now _)
  · exact Ev.congr (fun k => by rw [loghist_Index.f, prec_no hp, Option.bind_some, if_neg (by decide)]) (Ev.now _)
theorem Bounds_is (p : Nat) (hp : p ≤ 8) (i : Int) (i0 : 0 ≤ i) (i1 : i ≤ ((40 - p + 1 : Nat) : Int) * 2 ^ p) : ∃ lo hi, Ev (fun k => loghist_Bounds.f k p i) (lo, hi, 0) ∧ BU p i lo hi := by
  obtain ⟨r, h1, h2, rfl⟩ := last_ev p hp
  obtain ⟨lo, hi, hb, -, hbd⟩ := bd_both p hp i i0 i1
  exact ⟨lo, hi, Ev.congr (fun k => by rw [loghist_Bounds.f, prec_is (by omega) (by omega), Option.bind_some, if_pos rfl, if_neg (by omega), loghist_lastIndex.f]) (Ev.bind (Ev.bind h1 (Ev.now _)) (Ev.congr (fun k => by rw [if_neg (by omega), hb]; rfl) (Ev.now _))), hbd.bu hp i0⟩
theorem Bounds_no (p : Nat) (hp : p ≤ 8) (i : Int) (i1 : ¬ (0 ≤ i ∧ i ≤ ((40 - p + 1 : Nat) : Int) * 2 ^ p)) : Ev (fun k => loghist_Bounds.f k p i) (0, 0, 2) := by
  obtain ⟨r, h1, h2, rfl⟩ := last_ev p hp
  by_cases hi : i < 0
  · exact Ev.congr (fun k => by rw [loghist_Bounds.f, prec_is (by omega) (by omega), Option.bind_some, if_pos rfl, if_pos hi]) (Ev.now _)
  · exact Ev.congr (fun k => by rw [loghist_Bounds.f, prec_is (by omega) (by omega), Option.bind_some, if_pos rfl, if_neg hi, loghist_lastIndex.f]) (Ev.bind (Ev.bind h1 (Ev.now _)) (Ev.congr (fun k => by rw [if_pos (by omega)]) (Ev.now _)))
end Go.Proofs.Ytclgfbhkmhhenaa.HK
