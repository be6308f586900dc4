/- Encode and Decode return what the reference returns, for any list of up to 50 numbers and any string of up to 200 bytes. No further condition. -/
import Derived.Test.YthfcllfbihkpfaaVL
namespace Go.Proofs.Ythfcllfbihkpfaa.Pure
open Go.RowKit Go.Proofs.Ythfcllfbihkpfaa.P Go.Proofs.YthfcllfbihkpfaaW.PrintWords Go.Proofs.YthfcllfbihkpfaaW.PrintLast Go.Proofs.Ythfcllfbihkpfaa.VB
theorem VarintLists : lookoutlaw01_VarintLists.Pure := by
  intro l s hl0 hl hw hs
  refine Ev.rounds ?_
  have hj : ∀ c, Ev (fun k => lookoutlaw01_VarintLists.j0 k l s c) true := by
    intro c
    cases c with
    | true => exact Ev.step (fun k => by rw [lookoutlaw01_VarintLists.j0, if_pos rfl]) awake2_ev
    | false =>
      refine Ev.step (fun k => by rw [lookoutlaw01_VarintLists.j0, if_neg (by simp)]) (Ev.bind (encode_ev l (by omega)) (Ev.bind (encodeRef_ev l (by omega)) (Ev.bind (decode_ev s hs) (Ev.bind (decodeRef_ev s hs) ?_))))
      simp only [if_true]
      refine Ev.bind (same_ev _ (by have := DE_len (bytesOf s); omega)) ?_
      simp only [if_true]
      exact awake2_ev
  simp only [lookoutlaw01_VarintLists.f]
  split
  · exact hj _
  · exact hj _
end Go.Proofs.Ythfcllfbihkpfaa.Pure
