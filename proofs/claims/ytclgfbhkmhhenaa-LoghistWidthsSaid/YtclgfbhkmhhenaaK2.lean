/- Plain facts on the bounds of a bucket. No condition beyond those in the statements. -/
import Derived.Test.YtclgfbhkmhhenaaK1
import Derived.Test.YtclgfbhkmhhenaaPA
namespace Go.Proofs.Ytclgfbhkmhhenaa.HK
open Go.RowKit Go.Proofs.Ytclgfbhkmhhenaa.P Go.Proofs.Ytclgfbhkmhhenaa.B Go.Proofs.Ytclgfbhkmhhenaa.A Go.Proofs.Ytclgfbhkmhhenaa.Hand Go.Proofs.YtclgfbhkmhhenaaW.PrintWords Go.Proofs.YtclgfbhkmhhenaaW.PrintLast Go.Proofs.YtclgfbhkmhhenaaW.PrintMore
set_option linter.unusedVariables false
set_option linter.unusedSimpArgs false
theorem e40 : (2 : Int) ^ 40 = 1099511627776 := by decide
theorem bd_loop (S i : Int) (S1 : 1 ≤ S) (S2 : S ≤ 256) (kf : Nat) (hk : kf ≤ 40) (i1 : i < kf * S + 2 * S) (i0 : kf * S ≤ i) (h2 : kf = 0 ∨ kf * S + S ≤ i) :
    ∀ m j : Nat, j + m = kf → Ev (fun n => lookoutref12_bounds.l0 n i S j) ((i - kf * S) * 2 ^ kf, mn ((i - kf * S) * 2 ^ kf + 2 ^ kf - 1) 1099511627776)
  | 0, j, h => by
    obtain rfl : j = kf := by omega
    have q1 := p2p j
    have q2 := p2 hk
    rw [e40] at q2
    have q3 : 0 ≤ (j : Int) * S := Int.mul_nonneg (by omega) (by omega)
    have q4 : (j : Int) * S ≤ 40 * S := Int.mul_le_mul_of_nonneg_right (by omega) (by omega)
    have q5 : 0 ≤ (i - j * S) * 2 ^ j := Int.mul_nonneg (by omega) (by omega)
    have q6 : (i - j * S) * 2 ^ j ≤ 511 * 2 ^ j := Int.mul_le_mul_of_nonneg_right (by omega) (by omega)
    refine Ev.step (f := fun n => _) (fun n => by rw [lookoutref12_bounds.l0, w64 (x := (j : Int) * S) (by omega) (by omega), w64 (x := i - j * S) (by omega) (by omega), w64 (x := 2 * S) (by omega) (by omega), if_neg (by omega)]) ?_
    refine Ev.bind (pow_ev j (by omega)) (Ev.bind (pow_ev j (by omega)) ?_)
    refine Ev.congr (fun n => ?_) (Ev.now _)
    rw [w64 (x := (i - j * S) * 2 ^ j) (by omega) (by omega), w64 (x := (i - j * S) * 2 ^ j + 2 ^ j) (by omega) (by omega), w64 (x := (i - j * S) * 2 ^ j + 2 ^ j - 1) (by omega) (by omega)]
    unfold mn
    split <;> rfl
  | m + 1, j, h => by
    have q3 : 0 ≤ (j : Int) * S := Int.mul_nonneg (by omega) (by omega)
    have q4 : (j : Int) * S ≤ 40 * S := Int.mul_le_mul_of_nonneg_right (by omega) (by omega)
    have q5 : ((j + 1 : Nat) : Int) * S ≤ kf * S := Int.mul_le_mul_of_nonneg_right (by omega) (by omega)
    have q6 : ((j + 1 : Nat) : Int) * S = j * S + S := by rw [Int.natCast_add, Int.add_mul]; simp
    have q7 : (kf : Int) * S ≤ 40 * S := Int.mul_le_mul_of_nonneg_right (by omega) (by omega)
    refine Ev.step (f := fun n => lookoutref12_bounds.l0 n i S ((j + 1 : Nat) : Int)) (fun n => ?_) (bd_loop S i S1 S2 kf hk i1 i0 h2 m (j + 1) (by omega))
    rw [lookoutref12_bounds.l0, w64 (x := (j : Int) * S) (by omega) (by omega), w64 (x := i - j * S) (by omega) (by omega), w64 (x := 2 * S) (by omega) (by omega), if_pos (by rcases h2 with h2 | h2 <;> omega), w64 (by omega) (by omega)]
    rfl
/-- The bounds of bucket i. -/
def BD (p : Nat) (i lo hi : Int) : Prop := (i < 2 ^ p ∧ lo = i ∧ hi = i) ∨ ∃ k : Nat, k + p ≤ 40 ∧ (k : Int) * 2 ^ p + 2 ^ p ≤ i ∧ i < (k : Int) * 2 ^ p + 2 * 2 ^ p ∧ lo = (i - k * 2 ^ p) * 2 ^ k ∧ hi = mn ((i - k * 2 ^ p) * 2 ^ k + 2 ^ k - 1) 1099511627776
theorem last_ev (p : Nat) (hp : p ≤ 8) : ∃ r : Int, Ev (fun k => loghist_index.f k p 1099511627776) r ∧ Ev (fun k => lookoutref12_index.f k p 1099511627776) r ∧ r = ((40 - p + 1 : Nat) : Int) * 2 ^ p := by
  obtain ⟨r, h1, h2, h3⟩ := ix_both p hp 1099511627776 (by decide) (by decide)
  refine ⟨r, h1, h2, ?_⟩
  rcases h3 with ⟨h, _⟩ | ⟨k, h4, h5, h6, h7⟩
  · have := p2 hp
    have e8 : (2 : Int) ^ 8 = 256 := by decide
    omega
  · have hk : p + k = 40 := by
      rcases Nat.lt_or_ge (p + k) 40 with h | h
      · have := p2 (show p + k + 1 ≤ 40 from h); rw [e40] at this; omega
      · omega
    have e : (1099511627776 : Int) = 2 ^ p * 2 ^ k := by rw [← Int.pow_add, hk, e40]
    have ek : (40 - p + 1 : Nat) = k + 1 := by omega
    rw [h7, ek, e, Int.mul_ediv_cancel _ (by have := p2p k; omega), Int.natCast_add, Int.add_mul]
    simp
theorem bd_both (p : Nat) (hp : p ≤ 8) (i : Int) (i0 : 0 ≤ i) (i1 : i ≤ ((40 - p + 1 : Nat) : Int) * 2 ^ p) : ∃ lo hi : Int, loghist_bounds.f p i = some (lo, hi) ∧ Ev (fun k => lookoutref12_bounds.f k p i) (lo, hi) ∧ BD p i lo hi := by
  have b1 := p2 hp
  have b0 := p2p p
  have e8 : (2 : Int) ^ 8 = 256 := by decide
  have hs : shl .i64 1 (p : Int) = 2 ^ p := by rw [shl_n 1 p (by omega) (by omega) (by omega), Int.one_mul]
  have hm : ((40 - p + 1 : Nat) : Int) * 2 ^ p ≤ 41 * 2 ^ p := Int.mul_le_mul_of_nonneg_right (by omega) (by omega)
  have href : ∀ lo hi, Ev (fun n => lookoutref12_bounds.l0 n i (2 ^ p) ((0 : Nat) : Int)) (lo, hi) → Ev (fun k => lookoutref12_bounds.f k p i) (lo, hi) := fun lo hi h => Ev.bind (pow_ev p (by omega)) h
  by_cases hi : i < 2 ^ p
  · refine ⟨i, i, ?_, href _ _ ?_, .inl ⟨hi, rfl, rfl⟩⟩
    · rw [loghist_bounds.f, if_pos (by omega), hs, if_pos hi]
    · have := bd_loop (2 ^ p) i b0 (by omega) 0 (by omega) (by simp; omega) (by simp; omega) (.inl rfl) 0 0 rfl
      have e : ((i - ((0 : Nat) : Int) * 2 ^ p) * 2 ^ 0, mn ((i - ((0 : Nat) : Int) * 2 ^ p) * 2 ^ 0 + 2 ^ 0 - 1) 1099511627776) = (i, i) := by
        have : (i - ((0 : Nat) : Int) * 2 ^ p) * 2 ^ 0 = i := by simp
        rw [this, show (2 : Int) ^ 0 = 1 from rfl]
        unfold mn
        rw [if_neg (by omega), show i + 1 - 1 = i by omega]
      rw [e] at this
      exact this
  · have hq : 2 ^ p * (i / 2 ^ p) + i % 2 ^ p = i := Int.mul_ediv_add_emod i (2 ^ p)
    have hr := Int.emod_lt_of_pos i (show (0 : Int) < 2 ^ p by omega)
    have hr0 := Int.emod_nonneg i (show (2 : Int) ^ p ≠ 0 by omega)
    have hq1 : 1 ≤ i / 2 ^ p := by
      have : (2 : Int) ^ p / 2 ^ p ≤ i / 2 ^ p := Int.ediv_le_ediv (by omega) (by omega)
      rw [Int.ediv_self (by omega)] at this
      exact this
    have hq2 : i / 2 ^ p ≤ ((40 - p + 1 : Nat) : Int) := by
      have : i / 2 ^ p ≤ ((40 - p + 1 : Nat) : Int) * 2 ^ p / 2 ^ p := Int.ediv_le_ediv (by omega) i1
      rw [Int.mul_ediv_cancel _ (by omega)] at this
      exact this
    obtain ⟨k, hk⟩ : ∃ k : Nat, i / 2 ^ p = (k : Int) + 1 := ⟨(i / 2 ^ p - 1).toNat, by omega⟩
    rw [hk] at hq hq1 hq2
    have hq3 : (2 : Int) ^ p * ((k : Int) + 1) = (k : Int) * 2 ^ p + 2 ^ p := by rw [Int.mul_add, Int.mul_comm, Int.mul_one]
    rw [hq3] at hq
    have q1 := p2p k
    have q2 := p2 (show k ≤ 40 by omega)
    rw [e40] at q2
    have q3 : 0 ≤ (k : Int) * 2 ^ p := Int.mul_nonneg (by omega) (by omega)
    have q4 : (k : Int) * 2 ^ p ≤ 40 * 2 ^ p := Int.mul_le_mul_of_nonneg_right (by omega) (by omega)
    have q5 : 0 ≤ (i - k * 2 ^ p) * 2 ^ k := Int.mul_nonneg (by omega) (by omega)
    have q6 : (i - k * 2 ^ p) * 2 ^ k ≤ 511 * 2 ^ k := Int.mul_le_mul_of_nonneg_right (by omega) (by omega)
    have q7 : (i - k * 2 ^ p + 1) * 2 ^ k = (i - k * 2 ^ p) * 2 ^ k + 2 ^ k := by rw [Int.add_mul, Int.one_mul]
    refine ⟨_, _, ?_, href _ _ (bd_loop (2 ^ p) i b0 (by omega) k (by omega) (by omega) (by omega) (.inr (by omega)) k 0 (by omega)), .inr ⟨k, by omega, by omega, by omega, rfl, rfl⟩⟩
    have ek : wrap64 (shr .i64 i (p : Int) - 1) = (k : Int) := by rw [shr_n _ _ (by omega), hk, w64 (by omega) (by omega)]; omega
    have ep : wrap64 (i - shl .i64 (k : Int) (p : Int)) = i - k * 2 ^ p := by rw [shl_n _ _ (by omega) q3 (by omega), w64 (by omega) (by omega)]
    rw [loghist_bounds.f, if_pos (by omega), hs, if_neg hi, ek, if_pos (by omega), ep, shl_n _ k (by omega) q5 (by omega), w64 (x := i - k * 2 ^ p + 1) (by omega) (by omega), shl_n _ k (by omega) (by rw [q7]; omega) (by rw [q7]; omega), q7, w64 (by omega) (by omega)]
theorem prec_is {p : Int} (h0 : 0 ≤ p) (h1 : p ≤ 8) : loghist_isPrecision.f p = some true := by rw [loghist_isPrecision.f, if_pos h0, decide_eq_true h1]
theorem prec_no {p : Int} (h : ¬ (0 ≤ p ∧ p ≤ 8)) : loghist_isPrecision.f p = some false := by
  rw [loghist_isPrecision.f]
  split
  · rw [decide_eq_false (by omega)]
  · rfl
theorem value_is {v : Int} (h0 : 0 ≤ v) (h1 : v ≤ 1099511627776) : loghist_isValue.f v = some true := by rw [loghist_isValue.f, if_pos h0, decide_eq_true h1]
theorem value_no {v : Int} (h : ¬ (0 ≤ v ∧ v ≤ 1099511627776)) : loghist_isValue.f v = some false := by
  rw [loghist_isValue.f]
  split
  · rw [decide_eq_false (by omega)]
  · rfl
theorem Index_both (p v : Int) : ∃ r e, Ev (fun k => loghist_Index.f k p v) (r, e) ∧ Ev (fun k => lookoutref12_Index.f k p v) (r, e) := by
  by_cases hp : 0 ≤ p ∧ p ≤ 8
  · by_cases hv : 0 ≤ v ∧ v ≤ 1099511627776
    · obtain ⟨n, rfl⟩ := Int.eq_ofNat_of_zero_le hp.1
      obtain ⟨r, h1, h2, _⟩ := ix_both n (by omega) v hv.1 hv.2
      refine ⟨r, 0, ?_, ?_⟩
      · refine Ev.congr (fun k => by rw [loghist_Index.f, prec_is hp.1 hp.2, Option.bind_some, if_pos rfl, value_is hv.1 hv.2, Option.bind_some, if_pos rfl]) (Ev.bind h1 (Ev.now _))
      · refine Ev.congr (fun k => by rw [lookoutref12_Index.f, if_neg (by omega), if_neg (by omega), if_neg (by omega), if_neg (by omega)]) (Ev.bind h2 (Ev.now _))
    · refine ⟨0, 2, ?_, ?_⟩
      · refine Ev.congr (fun k => by rw [loghist_Index.f, prec_is hp.1 hp.2, Option.bind_some, if_pos rfl, value_no hv, Option.bind_some, if_neg (by decide)]) (Ev.now _)
      · refine Ev.congr (fun k => ?_) (Ev.now _)
        rw [lookoutref12_Index.f, if_neg (by omega), if_neg (by omega)]
        split
        · rfl
        · rw [if_pos (by omega)]
  · refine ⟨0, 2, ?_, ?_⟩
    · refine Ev.congr (fun k => by rw [loghist_Index.f, prec_no hp, Option.bind_some, if_neg (by decide)]) (Ev.now _)
    · refine Ev.congr (fun k => ?_) (Ev.now _)
      rw [lookoutref12_Index.f]
      split
      · rfl
      · rw [if_pos (by omega)]
theorem Bounds_both (p i : Int) : ∃ lo hi e, Ev (fun k => loghist_Bounds.f k p i) (lo, hi, e) ∧ Ev (fun k => lookoutref12_Bounds.f k p i) (lo, hi, e) := by
  by_cases hp : 0 ≤ p ∧ p ≤ 8
  · obtain ⟨n, rfl⟩ := Int.eq_ofNat_of_zero_le hp.1
    by_cases hi : i < 0
    · refine ⟨0, 0, 2, ?_, ?_⟩
      · refine Ev.congr (fun k => by rw [loghist_Bounds.f, prec_is hp.1 hp.2, Option.bind_some, if_pos rfl, if_pos hi]) (Ev.now _)
      · refine Ev.congr (fun k => by rw [lookoutref12_Bounds.f, if_neg (by omega), if_neg (by omega), if_pos hi]) (Ev.now _)
    · obtain ⟨r, h1, h2, h3⟩ := last_ev n (by omega)
      by_cases hr : i > r
      · refine ⟨0, 0, 2, ?_, ?_⟩
        · refine Ev.congr (fun k => by rw [loghist_Bounds.f, prec_is hp.1 hp.2, Option.bind_some, if_pos rfl, if_neg hi, loghist_lastIndex.f]) (Ev.bind (Ev.bind h1 (Ev.now _)) (Ev.congr (fun k => by rw [if_pos hr]) (Ev.now _)))
        · refine Ev.congr (fun k => by rw [lookoutref12_Bounds.f, if_neg (by omega), if_neg (by omega), if_neg hi]) (Ev.bind h2 (Ev.congr (fun k => by rw [if_pos hr]) (Ev.now _)))
      · obtain ⟨lo, hi', hb, hbr, _⟩ := bd_both n (by omega) i (by omega) (by omega)
        refine ⟨lo, hi', 0, ?_, ?_⟩
        · refine Ev.congr (fun k => by rw [loghist_Bounds.f, prec_is hp.1 hp.2, Option.bind_some, if_pos rfl, if_neg hi, loghist_lastIndex.f]) (Ev.bind (Ev.bind h1 (Ev.now _)) (Ev.congr (fun k => by rw [if_neg hr, hb]; rfl) (Ev.now _)))
        · refine Ev.congr (fun k => by rw [lookoutref12_Bounds.f, if_neg (by omega), if_neg (by omega), if_neg hi]) (Ev.bind h2 (Ev.congr (fun k => by rw [if_neg hr]) (Ev.bind hbr (Ev.now _))))
  · refine ⟨0, 0, 2, ?_, ?_⟩
    · refine Ev.congr (fun k => by rw [loghist_Bounds.f, prec_no hp, Option.bind_some, if_neg (by decide)]) (Ev.now _)
    · refine Ev.congr (fun k => ?_) (Ev.now _)
      rw [lookoutref12_Bounds.f]
      split
      · rfl
      · rw [if_pos (by omega)]
end Go.Proofs.Ytclgfbhkmhhenaa.HK
