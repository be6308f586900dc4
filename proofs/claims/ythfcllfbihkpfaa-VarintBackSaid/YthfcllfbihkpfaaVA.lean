/- The examples of the varint chapter hold, and what the reference reads, as answers for enough rounds. No condition beyond those in the statements. -/
import Derived.Test.YthfcllfbihkpfaaVR
namespace Go.Proofs.Ythfcllfbihkpfaa.VB
open Go Go.RowKit Go.Proofs.Ythfcllfbihkpfaa.P Go.Proofs.Ythfcllfbihkpfaa.Hand Go.Proofs.YthfcllfbihkpfaaW.PrintWords Go.Proofs.YthfcllfbihkpfaaW.PrintLast Go.Proofs.YthfcllfbihkpfaaW.PrintMore
theorem awake_ev : Ev (fun k => lookoutlaw01_awake.f k) true := Ev.of (fun k => lookoutlaw01_awake.mono k) (k := 30) (by decide +kernel)
theorem awake2_ev : Ev (fun k => (lookoutlaw01_awake.f k).bind fun t => some t) true := Ev.bind awake_ev (Ev.now true)
theorem readRef_ev (s : ByteArray) (hs : s.size ≤ 140737488351232) : Ev (fun k => lookoutref01_Read.f k s) (RD (bytesOf s)) := ⟨18, fun _ hk => readRef_is s hs hk⟩
theorem readSignedRef_ev (s : ByteArray) (hs : s.size ≤ 140737488351232) : Ev (fun k => lookoutref01_ReadSigned.f k s) (RS (bytesOf s)) := ⟨18, fun _ hk => readSignedRef_is s hs hk⟩
end Go.Proofs.Ythfcllfbihkpfaa.VB
