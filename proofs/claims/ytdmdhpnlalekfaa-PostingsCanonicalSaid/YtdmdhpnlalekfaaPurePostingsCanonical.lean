/- Decoding the encoding of a list yields the list; what can be decoded is the encoding of a valid list; an encoding has at least one byte more than the list has numbers: for lists of up to 40 numbers and strings of up to 300 bytes. No further condition. -/
import Derived.Test.YtdmdhpnlalekfaaK3
namespace Go.Proofs.Ytdmdhpnlalekfaa.Pure
open Go.RowKit Go.Proofs.Ytdmdhpnlalekfaa.P Go.Proofs.Ytdmdhpnlalekfaa.A Go.Proofs.Ytdmdhpnlalekfaa.Hand Go.Proofs.YtdmdhpnlalekfaaW.PrintWords Go.Proofs.YtdmdhpnlalekfaaW.PrintLast Go.Proofs.Ytdmdhpnlalekfaa.VB
theorem nums_bytes (s : ByteArray) : strOfNums (bytesOf s) = s := bytesOf_inj (bytesOf_nums (bytes_in s))
theorem canon_j1 (s : ByteArray) (hs : s.size ≤ 300) : Ev (fun k => lookoutlaw08_PostingsCanonical.j1 k s false) true := by
  refine Ev.step (fun k => by rw [lookoutlaw08_PostingsCanonical.j1, if_neg (by decide)]) (Ev.bind (decode8_ev s (by omega)) ?_)
  by_cases h : (PD (bytesOf s)).2 = 0
  · obtain ⟨L, hL⟩ : ∃ L, PD (bytesOf s) = (L, 0) := ⟨_, Prod.ext rfl h⟩
    obtain ⟨hc, hv⟩ := PD_canon (bytes_in s) hL
    have hlen : L.length ≤ s.size := by
      have := (PE_len L (-1) (by omega) hv).1
      have h2 := congrArg List.length hc
      rw [bytesOf_size, List.length_append] at h2
      omega
    rw [hL]
    have hE : EN8 L = (s, 0) := by rw [EN8, if_pos hv, ← hc, nums_bytes]
    refine Ev.bind (encode8_ev L (by omega)) ?_
    simp only [hE, if_true]
    refine Ev.bind (check_ev L (by omega)) ?_
    simp only [hv, if_true]
    exact awake8b_ev
  · rw [PD_err h]
    refine Ev.bind (encode8_ev [] (by simp)) ?_
    simp only [if_neg (show ¬ ((12 : Int) = 0) by decide), List.length_nil, Int.natCast_zero, if_true]
    exact awake8b_ev
theorem canon_j0 (l : List Int) (s : ByteArray) (hl : l.length ≤ 40) (hs : s.size ≤ 300) : Ev (fun k => lookoutlaw08_PostingsCanonical.j0 k l s false) true := by
  refine Ev.step (fun k => by rw [lookoutlaw08_PostingsCanonical.j0, if_neg (by decide)]) (Ev.bind (encode8_ev l (by omega)) ?_)
  by_cases h : CK l = 0
  · have hE : EN8 l = (strOfNums (G l.length ++ PE (-1) l), 0) := if_pos h
    have hp := PE_len l (-1) (by omega) h
    have h9 := G_len9 (n := l.length) (by omega)
    have h1 := G_pos l.length
    have hsz : (strOfNums (G l.length ++ PE (-1) l)).size = (G l.length).length + (PE (-1) l).length := by rw [strOfNums_size, List.length_append]
    have hD := decode8_ev (strOfNums (G l.length ++ PE (-1) l)) (by omega)
    rw [bytesOf_nums (fun b hb => by
      rcases List.mem_append.1 hb with hb | hb
      · exact G_byte _ b hb
      · exact PE_byte l (-1) b hb), PD_round h (by omega)] at hD
    rw [hE]
    refine Ev.bind hD ?_
    simp only [if_true]
    refine Ev.bind (same8_ev l (by omega)) ?_
    simp only [if_true, if_neg (show ¬ (((strOfNums (G l.length ++ PE (-1) l)).size : Int) ≤ (l.length : Int)) by omega)]
    exact canon_j1 s hs
  · have hE : EN8 l = (⟨#[]⟩, 1) := if_neg h
    rw [hE]
    refine Ev.bind (decode8_ev (⟨#[]⟩ : ByteArray) (by decide)) ?_
    have ht : (⟨#[]⟩ : ByteArray).toList = [] := by rw [tl_data]
    simp only [if_neg (show ¬ ((1 : Int) = 0) by decide), ht, if_true]
    refine Ev.bind (check_ev l (by omega)) ?_
    have hb : (CK l == 0) = false := beq_eq_false_iff_ne.2 h
    simp only [hb]
    exact canon_j1 s hs
theorem PostingsCanonical : lookoutlaw08_PostingsCanonical.Pure := by
  intro l s hm hl hw hs
  refine Ev.rounds ?_
  have ht : Ev (fun k => lookoutlaw08_PostingsCanonical.j0 k l s true) true := Ev.step (fun k => by rw [lookoutlaw08_PostingsCanonical.j0, if_pos rfl]) awake8b_ev
  simp only [lookoutlaw08_PostingsCanonical.f, great1, Option.bind_some]
  by_cases h : 40 < l.length
  · simp only [decide_eq_true h, if_true]; exact ht
  · simp only [decide_eq_false h, if_neg (show ¬ (false = true) by decide)]
    by_cases h2 : (s.size : Int) > 300
    · simp only [decide_eq_true h2]; exact ht
    · simp only [decide_eq_false h2]; exact canon_j0 l s (by omega) (by omega)
end Go.Proofs.Ytdmdhpnlalekfaa.Pure
