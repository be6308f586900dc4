/- The numbers before the index that Seek returns are less than x, and the others are not, for lists of up to 40 numbers. No further condition. -/
import Derived.Test.YtdmdhpnlalekfaaK2
namespace Go.Proofs.Ytdmdhpnlalekfaa.Pure
open Go.RowKit Go.Proofs.Ytdmdhpnlalekfaa.P Go.Proofs.Ytdmdhpnlalekfaa.A Go.Proofs.Ytdmdhpnlalekfaa.Hand Go.Proofs.YtdmdhpnlalekfaaW.PrintWords Go.Proofs.YtdmdhpnlalekfaaW.PrintLast Go.Proofs.Ytdmdhpnlalekfaa.VB
theorem PostingsSeek : lookoutlaw08_PostingsSeek.Pure := by
  intro l x hm hl hw hx
  refine Ev.rounds ?_
  have hl' : l.length ≤ 17592186043904 := by omega
  have hj : ∀ c, (c = false → CK l = 0) → Ev (fun k => lookoutlaw08_PostingsSeek.j0 k l x c) true := by
    intro c hc
    cases c with
    | true => exact Ev.step (fun k => by rw [lookoutlaw08_PostingsSeek.j0, if_pos rfl]) awake8b_ev
    | false =>
      have h0 := hc rfl
      have hs := seek_ev l x hl'
      rw [if_pos h0] at hs
      have hle := SK_le l x
      have e1 : wrap64 ((SK l x : Int) - 1) = ((SK l x : Int) - 1) := by unfold wrap64; omega
      refine Ev.step (fun k => by rw [lookoutlaw08_PostingsSeek.j0, if_neg (by decide)]) (Ev.bind hs ?_)
      have hge : SK l x < l.length → rd l (SK l x : Int) ≥ x := fun h => SK_ge l x h
      have hlt : ¬ SK l x = 0 → rd l ((SK l x : Int) - 1) < x := fun h => by
        have := SK_lt l x (SK l x - 1) (by omega)
        rw [show (((SK l x - 1 : Nat) : Int)) = (SK l x : Int) - 1 by omega] at this
        exact this
      simp only [if_neg (show ¬ ((SK l x : Int) < 0) by omega), if_neg (show ¬ ((SK l x : Int) > (l.length : Int)) by omega), e1]
      by_cases hz : SK l x = 0
      · simp only [hz, Int.natCast_zero, if_true] at *
        by_cases hn : l.length = 0
        · simp only [hn, Int.natCast_zero, if_true]; exact awake8b_ev
        · simp only [if_neg (show ¬ ((0 : Int) = (l.length : Int)) by omega), if_pos (show (0 : Int) ≤ 0 by omega), if_pos (show (0 : Int) < (l.length : Int) by omega), if_pos (hge (by omega))]
          exact awake8b_ev
      · simp only [if_neg (show ¬ ((SK l x : Int) = 0) by omega), if_pos (show (0 : Int) ≤ (SK l x : Int) - 1 by omega), if_pos (show (SK l x : Int) - 1 < (l.length : Int) by omega), if_pos (hlt hz)]
        by_cases hn : SK l x = l.length
        · simp only [if_pos (show (SK l x : Int) = (l.length : Int) by omega)]; exact awake8b_ev
        · simp only [if_neg (show ¬ ((SK l x : Int) = (l.length : Int)) by omega), if_pos (show (0 : Int) ≤ (SK l x : Int) by omega), if_pos (show (SK l x : Int) < (l.length : Int) by omega), if_pos (hge (by omega))]
          exact awake8b_ev
  simp only [lookoutlaw08_PostingsSeek.f, great1, Option.bind_some]
  by_cases h : 40 < l.length
  · simp only [decide_eq_true h, if_true]; exact hj true (by simp)
  · simp only [decide_eq_false h, if_neg (show ¬ (false = true) by decide)]
    refine Ev.bind (check_ev l hl') (hj _ (fun h => by simpa using h))
end Go.Proofs.Ytdmdhpnlalekfaa.Pure
