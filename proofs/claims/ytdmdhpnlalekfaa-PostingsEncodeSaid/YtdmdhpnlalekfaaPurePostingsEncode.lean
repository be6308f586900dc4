/- Encode returns the encoding of the reference implementation for any list of up to 40 numbers. No further condition. -/
import Derived.Test.YtdmdhpnlalekfaaK3
namespace Go.Proofs.Ytdmdhpnlalekfaa.Pure
open Go.RowKit Go.Proofs.Ytdmdhpnlalekfaa.P Go.Proofs.Ytdmdhpnlalekfaa.A Go.Proofs.Ytdmdhpnlalekfaa.Hand Go.Proofs.YtdmdhpnlalekfaaW.PrintWords Go.Proofs.YtdmdhpnlalekfaaW.PrintLast Go.Proofs.Ytdmdhpnlalekfaa.VB
theorem PostingsEncode : lookoutlaw08_PostingsEncode.Pure := by
  intro l hm hl hw
  refine Ev.rounds ?_
  simp only [lookoutlaw08_PostingsEncode.f, great1, Option.bind_some]
  by_cases h : 40 < l.length
  · simp only [decide_eq_true h, if_true]; exact awake8b_ev
  · simp only [decide_eq_false h, if_neg (show ¬ (false = true) by decide)]
    refine Ev.bind (encode8_ev l (by omega)) (Ev.bind (encodeRef8_ev l (by omega)) ?_)
    simp only [if_true]
    exact awake8b_ev
end Go.Proofs.Ytdmdhpnlalekfaa.Pure
