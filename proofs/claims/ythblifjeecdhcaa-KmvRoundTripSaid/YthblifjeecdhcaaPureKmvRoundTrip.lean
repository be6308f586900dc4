/- Decoding an encoding yields the sketch; what can be decoded is the encoding of the result. No condition beyond those in the statement. -/
import Derived.Test.YthblifjeecdhcaaKV
import Derived.Test.YthblifjeecdhcaaEx17
namespace Go.Proofs.Ythblifjeecdhcaa.Pure
open Go.RowKit Go.Proofs.Ythblifjeecdhcaa.E Go.Proofs.Ythblifjeecdhcaa.P Go.Proofs.Ythblifjeecdhcaa.B Go.Proofs.Ythblifjeecdhcaa.A Go.Proofs.Ythblifjeecdhcaa.Hand Go.Proofs.YthblifjeecdhcaaW.PrintWords Go.Proofs.YthblifjeecdhcaaW.PrintLast Go.Proofs.YthblifjeecdhcaaW.PrintMore Go.Proofs.Ythblifjeecdhcaa.KB Go.Proofs.Ythblifjeecdhcaa.VB
theorem KmvRoundTrip : lookoutlaw30_KmvRoundTrip.Pure := by
  intro K C H s hK hC h1 h2 h3 hs
  refine Ev.rounds ?_
  unfold lookoutlaw30_KmvRoundTrip.f lookoutref30_Great.f
  have hj1 : Ev (fun k => lookoutlaw30_KmvRoundTrip.j1 k s) true := by
    obtain ⟨r, hr, hc⟩ := decode_ok s
    refine Ev.step (fun k => by rw [lookoutlaw30_KmvRoundTrip.j1]) ?_
    refine Ev.bind hr ?_
    rcases hc with rfl | ⟨K, C, H, rfl, ho, hb⟩
    · refine Ev.congr (fun k => (if_neg (by decide)).trans (if_pos rfl)) ?_
      exact Ev.bind (same30 0 0 [] (by simp)) (Ev.congr (fun k => if_pos rfl) awake_end)
    · refine Ev.congr (fun k => if_pos rfl) ?_
      have a1 := ho.2.1; have a2 := ho.len
      have he := encode_ev K C H (by omega)
      rw [show ENC K C H = (strOfNums (EB K C H), 0) from if_pos ho] at he
      have hsb : strOfNums (EB K C H) = s := bytesOf_inj (by rw [bytesOf_nums (EB_byte K C H), hb])
      rw [hsb] at he
      refine Ev.bind he ?_
      have hk := check_ev K C H (by omega)
      rw [show CK K C H = 0 from if_pos ho] at hk
      refine Ev.bind hk ?_
      exact Ev.congr (fun k => (if_pos rfl).trans ((if_pos rfl).trans (if_pos rfl))) awake_end
  have hj : ∀ b, Ev (fun k => lookoutlaw30_KmvRoundTrip.j0 k s b K C H) true := fun b => by
    cases b with
    | true => exact Ev.step (fun k => by rw [lookoutlaw30_KmvRoundTrip.j0, if_pos rfl]) awake_end
    | false =>
      refine Ev.step (fun k => by rw [lookoutlaw30_KmvRoundTrip.j0, if_neg (by decide)]) ?_
      refine Ev.bind (encode_ev K C H (by omega)) ?_
      unfold ENC
      by_cases ho : OKK K C H
      · rw [if_pos ho]
        refine Ev.congr (fun k => if_pos rfl) ?_
        refine Ev.bind (decode_round ho (bytesOf_nums (EB_byte K C H))) ?_
        refine Ev.congr (fun k => if_pos rfl) ?_
        exact Ev.bind (same30 K C H (by omega)) (Ev.congr (fun k => if_pos rfl) hj1)
      · rw [if_neg ho]
        exact Ev.congr (fun k => if_neg (by decide)) hj1
  refine Ev.congr (fun k => Option.bind_some _ _) ?_
  by_cases h : decide ((H.length : Int) > 70) = true
  · exact Ev.congr (fun k => if_pos h) (hj _)
  · exact Ev.congr (fun k => if_neg h) (hj _)
end Go.Proofs.Ythblifjeecdhcaa.Pure
