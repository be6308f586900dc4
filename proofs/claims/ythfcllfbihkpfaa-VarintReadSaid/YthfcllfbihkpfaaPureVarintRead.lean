/- Read and ReadSigned return what the reference returns, for any string of up to 100 bytes. No further condition. -/
import Derived.Test.YthfcllfbihkpfaaVA
namespace Go.Proofs.Ythfcllfbihkpfaa.Pure
open Go.RowKit Go.Proofs.Ythfcllfbihkpfaa.P Go.Proofs.YthfcllfbihkpfaaW.PrintWords Go.Proofs.YthfcllfbihkpfaaW.PrintLast Go.Proofs.Ythfcllfbihkpfaa.VB
theorem VarintRead : lookoutlaw01_VarintRead.Pure := by
  intro s hs
  refine Ev.rounds ?_
  by_cases h : (s.size : Int) > 100
  · simp only [lookoutlaw01_VarintRead.f, if_pos h]
    exact awake2_ev
  · simp only [lookoutlaw01_VarintRead.f, if_neg h, read_is, readSigned_is, Option.bind_some]
    refine Ev.bind (readRef_ev s hs) (Ev.bind (readSignedRef_ev s hs) ?_)
    simp only [if_true]
    exact awake2_ev
end Go.Proofs.Ythfcllfbihkpfaa.Pure
