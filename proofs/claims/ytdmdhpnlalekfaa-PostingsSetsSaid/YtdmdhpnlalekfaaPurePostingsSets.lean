/- Check, And, Or, Without and Seek return the results of the reference implementation for any lists of up to 40 numbers. No further condition. -/
import Derived.Test.YtdmdhpnlalekfaaK5
namespace Go.Proofs.Ytdmdhpnlalekfaa.Pure
open Go.RowKit Go.Proofs.Ytdmdhpnlalekfaa.P Go.Proofs.Ytdmdhpnlalekfaa.A Go.Proofs.Ytdmdhpnlalekfaa.Hand Go.Proofs.YtdmdhpnlalekfaaW.PrintWords Go.Proofs.YtdmdhpnlalekfaaW.PrintLast Go.Proofs.Ytdmdhpnlalekfaa.VB
theorem PostingsSets : lookoutlaw08_PostingsSets.Pure := by
  intro a b x hma hla hwa hmb hlb hwb hx
  refine Ev.rounds ?_
  simp only [lookoutlaw08_PostingsSets.f, great2, Option.bind_some]
  by_cases h : (decide (40 < a.length) || decide (40 < b.length)) = true
  · simp only [h, if_true]; exact awake8b_ev
  · have h' := h
    simp only [Bool.or_eq_true, decide_eq_true_eq, not_or, Nat.not_lt] at h'
    simp only [h]
    have hN : (AN a b).length ≤ 100 := by unfold AN; split; · have := comb_len gAnd a b; omega
                                          · simp
    have hO : (OR a b).length ≤ 100 := by unfold OR; split; · have := comb_len gOr a b; omega
                                          · simp
    have hW : (WO a b).length ≤ 100 := by unfold WO; split; · have := comb_len gWithout a b; omega
                                          · simp
    refine Ev.bind (check_ev a (by omega)) (Ev.bind (checkRef_ev a (by omega)) ?_)
    simp only [if_true]
    refine Ev.bind (and_ev a b (by omega) (by omega)) (Ev.bind (andRef_ev a b (by omega) (by omega)) (Ev.bind (same8_ev (AN a b) (by omega)) ?_))
    simp only [if_true]
    refine Ev.bind (or_ev a b (by omega) (by omega)) (Ev.bind (orRef_ev a b (by omega) (by omega)) (Ev.bind (same8_ev (OR a b) (by omega)) ?_))
    simp only [if_true]
    refine Ev.bind (without_ev a b (by omega) (by omega)) (Ev.bind (withoutRef_ev a b (by omega) (by omega)) (Ev.bind (same8_ev (WO a b) (by omega)) ?_))
    simp only [if_true]
    refine Ev.bind (seek_ev a x (by omega)) (Ev.bind (seekRef_ev a x (by omega)) ?_)
    simp only [if_true]
    exact awake8b_ev
end Go.Proofs.Ytdmdhpnlalekfaa.Pure
