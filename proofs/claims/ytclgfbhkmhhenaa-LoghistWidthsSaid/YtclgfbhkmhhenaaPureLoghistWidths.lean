/- A value lies within the bounds of its bucket and of no neighbouring one. No condition beyond those in the statement. -/
import Derived.Test.YtclgfbhkmhhenaaAw
import Derived.Test.YtclgfbhkmhhenaaK3
import Derived.Test.YtclgfbhkmhhenaaPx35
namespace Go.Proofs.Ytclgfbhkmhhenaa.Pure
open Go.RowKit Go.Proofs.Ytclgfbhkmhhenaa.P Go.Proofs.Ytclgfbhkmhhenaa.B Go.Proofs.Ytclgfbhkmhhenaa.A Go.Proofs.Ytclgfbhkmhhenaa.Hand Go.Proofs.YtclgfbhkmhhenaaW.PrintWords Go.Proofs.YtclgfbhkmhhenaaW.PrintLast Go.Proofs.YtclgfbhkmhhenaaW.PrintMore Go.Proofs.Ytclgfbhkmhhenaa.HK
set_option linter.unusedVariables false
set_option linter.unusedSimpArgs false
theorem j2_ev (p : Nat) (hp : p ≤ 8) (v more i : Int) (v0 : 0 ≤ v) (hi : IU p v i) : Ev (fun k => lookoutlaw12_LoghistWidths.j2 k p v more i false) true := by
  refine Ev.step (f := fun k => _) (fun k => by rw [lookoutlaw12_LoghistWidths.j2, if_neg (by decide)]) ?_
  by_cases hm : 0 ≤ more ∧ more ≤ 1099511627776
  · obtain ⟨j, hj, hjU⟩ := Index_is p hp more hm.1 hm.2
    refine Ev.bind hj ?_
    refine Ev.congr (fun k => by rw [if_pos rfl]) ?_
    by_cases h1 : more ≥ v
    · refine Ev.congr (fun k => by rw [if_pos h1]) ?_
      by_cases h2 : more ≤ v
      · exact Ev.congr (fun k => by rw [if_pos h2]) awake_end
      · exact Ev.congr (fun k => by rw [if_neg h2, if_pos (mono_bucket v0 hi hjU h1)]) awake_end
    · refine Ev.congr (fun k => by rw [if_neg h1, if_pos (mono_bucket hm.1 hjU hi (by omega)), if_pos (by omega)]) awake_end
  · refine Ev.bind (Index_no p more (by omega)) ?_
    exact Ev.congr (fun k => by rw [if_neg (by decide)]) awake_end
theorem LoghistWidths : lookoutlaw12_LoghistWidths.Pure := by
  intro p v more _ _ _
  refine Ev.rounds (g := fun k => lookoutlaw12_LoghistWidths.f k p v more) ?_
  by_cases h : 0 ≤ p ∧ p ≤ 8 ∧ 0 ≤ v ∧ v ≤ 1099511627776
  · obtain ⟨hp0, hp1, v0, v1⟩ := h
    obtain ⟨n, rfl⟩ := Int.eq_ofNat_of_zero_le hp0
    have hn : n ≤ 8 := by omega
    obtain ⟨i, hi, hiU⟩ := Index_is n hn v v0 v1
    obtain ⟨m, m1, m2, m3, mi, mK⟩ := hiU.ku v0
    have b0 := p2p n
    have b1 := p2 hn
    have e8 : (2 : Int) ^ 8 = 256 := by decide
    have i0 : 0 ≤ i := by have := Int.mul_nonneg (show 0 ≤ (m : Int) by omega) (show 0 ≤ (2 : Int) ^ n by omega); have := mK.2.1; omega
    have hlast : (((40 - n : Nat) + 1 : Nat) : Int) * 2 ^ n = ((40 - n : Nat) : Int) * 2 ^ n + 2 ^ n := by rw [Int.natCast_add, Int.add_mul]; simp
    have i1 : i ≤ ((40 - n + 1 : Nat) : Int) * 2 ^ n := by
      rw [hlast]
      rcases Nat.lt_or_ge m (40 - n) with hm | hm
      · have := stepS (S := 2 ^ n) (by omega) (show m + 1 ≤ 40 - n from hm)
        have := mK.2.2
        omega
      · obtain rfl : m = 40 - n := by omega
        have t2 : (2 ^ n : Int) * 2 ^ (40 - n) = 1099511627776 := by rw [← Int.pow_add, show n + (40 - n) = 40 by omega, e40]
        have t3 : v / 2 ^ (40 - n) ≤ 2 ^ n := by
          have : v / 2 ^ (40 - n) ≤ (2 ^ n : Int) * 2 ^ (40 - n) / 2 ^ (40 - n) := Int.ediv_le_ediv (by have := p2p (40 - n); omega) (by omega)
          rw [Int.mul_ediv_cancel _ (by have := p2p (40 - n); omega)] at this
          exact this
        omega
    have i2 : i ≤ 41 * 256 := by
      have t1 : ((40 - n + 1 : Nat) : Int) * 2 ^ n ≤ 41 * 2 ^ n := Int.mul_le_mul_of_nonneg_right (by omega) (by omega)
      omega
    obtain ⟨lo, hh, hb, hbU⟩ := Bounds_is n hn i i0 i1
    obtain ⟨w1, w2, w3, w4, w5, w6⟩ := in_bucket v0 v1 hiU hbU
    have lo0 : 0 ≤ lo := by
      have := Int.mul_nonneg w4 (show 0 ≤ (2 : Int) ^ n by omega)
      omega
    refine Ev.bind hi ?_
    refine Ev.congr (fun k => by rw [if_pos rfl]) ?_
    refine Ev.bind hb ?_
    have ed : decide (shl .i64 (wrap64 (hh - lo)) (n : Int) > lo) = false := by
      rw [w64 (by omega) (by omega), shl_n _ _ (by omega) (Int.mul_nonneg w4 (by omega)) (by omega)]
      exact decide_eq_false (by omega)
    refine Ev.congr (fun k => by rw [if_pos rfl, if_neg (show ¬ v < lo by omega), if_neg (show ¬ v > hh by omega), if_pos (by omega), ed]) ?_
    refine Ev.step (f := fun k => _) (fun k => by rw [lookoutlaw12_LoghistWidths.j0, if_neg (by decide), w64 (x := i - 1) (by omega) (by omega)]) ?_
    have J1 : Ev (fun k => lookoutlaw12_LoghistWidths.j1 k n v more i hh false) true := by
      refine Ev.step (f := fun k => _) (fun k => by rw [lookoutlaw12_LoghistWidths.j1, if_neg (by decide), w64 (x := i + 1) (by omega) (by omega)]) ?_
      by_cases hl : i + 1 ≤ ((40 - n + 1 : Nat) : Int) * 2 ^ n
      · obtain ⟨lo', hi', hb', hbU'⟩ := Bounds_is n hn (i + 1) (by omega) hl
        refine Ev.bind hb' ?_
        have e := next_bucket hn i0 hl hbU hbU'
        exact Ev.congr (fun k => by rw [if_pos rfl, if_pos (by rw [w64 (by omega) (by omega)]; exact e)]) (j2_ev n hn v more i v0 hiU)
      · refine Ev.bind (Bounds_no n hn (i + 1) (by omega)) ?_
        have e := last_bucket hn (by omega) hbU
        subst e
        exact Ev.congr (fun k => by rw [if_neg (by decide)]; rfl) (j2_ev n hn v more i v0 hiU)
    by_cases hz : i > 0
    · obtain ⟨lo', hi', hb', hbU'⟩ := Bounds_is n hn (i - 1) (by omega) (by omega)
      refine Ev.bind hb' ?_
      have e := next_bucket hn (i := i - 1) (by omega) (by omega) hbU' (by rw [show i - 1 + 1 = i by omega]; exact hbU)
      exact Ev.congr (fun k => by rw [if_pos hz, if_pos rfl, if_pos (by rw [w64 (by omega) (by omega)]; show hi' = lo - 1; omega), if_neg (by omega)]) J1
    · obtain rfl : i = 0 := by omega
      refine Ev.bind (Bounds_no n hn (0 - 1) (by omega)) ?_
      have hlo : lo = 0 := by
        obtain ⟨k, a1, a2, e, -⟩ := hbU
        have q := Int.mul_nonneg (show 0 ≤ (k : Int) by omega) (show 0 ≤ (2 : Int) ^ n by omega)
        have : 0 - (k : Int) * 2 ^ n = 0 := by have := a2.2.1; omega
        rw [e, this, Int.zero_mul]
      subst hlo
      exact Ev.congr (fun k => by rw [if_neg hz, if_pos rfl]; rfl) J1
  · refine Ev.bind (Index_no p v h) ?_
    exact Ev.congr (fun k => by rw [if_neg (by decide)]) awake_end
end Go.Proofs.Ytclgfbhkmhhenaa.Pure
