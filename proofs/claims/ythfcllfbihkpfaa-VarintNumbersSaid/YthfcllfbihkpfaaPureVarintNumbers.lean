/- Append, AppendSigned and Size return what the reference returns, for any string of up to 50 bytes and any number. No further condition. -/
import Derived.Test.YthfcllfbihkpfaaVA
namespace Go.Proofs.Ythfcllfbihkpfaa.Pure
open Go.RowKit Go.Proofs.Ythfcllfbihkpfaa.P Go.Proofs.YthfcllfbihkpfaaW.PrintWords Go.Proofs.YthfcllfbihkpfaaW.PrintLast Go.Proofs.Ythfcllfbihkpfaa.VB
theorem VarintNumbers : lookoutlaw01_VarintNumbers.Pure := by
  intro s n hs hn
  refine Ev.rounds ?_
  by_cases h : (s.size : Int) > 50
  · simp only [lookoutlaw01_VarintNumbers.f, if_pos h]
    exact awake2_ev
  · simp only [lookoutlaw01_VarintNumbers.f, if_neg h]
    refine Ev.bind (append_ev s n (by omega)) (Ev.bind (appendRef_ev s n (by omega)) (Ev.bind (appendSigned_ev s n (by omega)) (Ev.bind (appendSignedRef_ev s n (by omega)) ?_)))
    simp only [if_true]
    refine Ev.bind (size_ev n) (Ev.bind (sizeRef_ev n) ?_)
    simp only [if_true]
    exact awake2_ev
end Go.Proofs.Ythfcllfbihkpfaa.Pure
