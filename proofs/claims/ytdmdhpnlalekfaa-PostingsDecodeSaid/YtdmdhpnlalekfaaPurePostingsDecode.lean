/- Decode returns the list of the reference implementation for any string of up to 300 bytes. No further condition. -/
import Derived.Test.YtdmdhpnlalekfaaK2
namespace Go.Proofs.Ytdmdhpnlalekfaa.Pure
open Go.RowKit Go.Proofs.Ytdmdhpnlalekfaa.P Go.Proofs.Ytdmdhpnlalekfaa.A Go.Proofs.Ytdmdhpnlalekfaa.Hand Go.Proofs.YtdmdhpnlalekfaaW.PrintWords Go.Proofs.YtdmdhpnlalekfaaW.PrintLast Go.Proofs.Ytdmdhpnlalekfaa.VB
theorem DP_len : ∀ (c : Nat) (q : Int) (bs acc : List Int), (DP c q bs acc).1.length ≤ acc.length + c
  | 0, q, bs, acc => by rw [DP]; split <;> simp
  | c + 1, q, bs, acc => by
    rw [DP]
    split
    · split
      · simp
      · have := DP_len c (q + 1 + (RD bs).1) (bs.drop (RD bs).2.1.toNat) (acc ++ [q + 1 + (RD bs).1])
        rw [List.length_append, List.length_singleton] at this
        omega
    · simp
theorem PD_len (bs : List Int) (hb : ∀ b ∈ bs, 0 ≤ b ∧ b ≤ 255) : (PD bs).1.length ≤ bs.length := by
  unfold PD
  split
  · split
    · simp
    · have := DP_len (RD bs).1.toNat (-1) (bs.drop (RD bs).2.1.toNat) []
      have := RD_le bs hb
      simp only [List.length_nil] at *
      omega
  · simp
theorem PostingsDecode : lookoutlaw08_PostingsDecode.Pure := by
  intro s hs
  refine Ev.rounds ?_
  simp only [lookoutlaw08_PostingsDecode.f]
  by_cases h : (s.size : Int) > 300
  · simp only [if_pos h]; exact awake8b_ev
  · simp only [if_neg h]
    refine Ev.bind (decode8_ev s (by omega)) (Ev.bind (decodeRef8_ev s (by omega)) ?_)
    have hl := PD_len (bytesOf s) (bytes_in s)
    rw [bytesOf_size] at hl
    refine Ev.bind (same8_ev (PD (bytesOf s)).1 (by omega)) ?_
    simp only [if_true]
    exact awake8b_ev
end Go.Proofs.Ytdmdhpnlalekfaa.Pure
