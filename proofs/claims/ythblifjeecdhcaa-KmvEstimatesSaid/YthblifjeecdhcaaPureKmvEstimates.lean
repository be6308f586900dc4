/- Bounds, Estimate, Encode and Decode of the kmv chapter answer as the reference implementation does. No condition beyond those in the statement. -/
import Derived.Test.YthblifjeecdhcaaK6
import Derived.Test.YthblifjeecdhcaaEA
import Derived.Test.YthblifjeecdhcaaEx16
namespace Go.Proofs.Ythblifjeecdhcaa.Pure
open Go.RowKit Go.Proofs.Ythblifjeecdhcaa.E Go.Proofs.Ythblifjeecdhcaa.P Go.Proofs.Ythblifjeecdhcaa.B Go.Proofs.Ythblifjeecdhcaa.A Go.Proofs.Ythblifjeecdhcaa.Hand Go.Proofs.YthblifjeecdhcaaW.PrintWords Go.Proofs.YthblifjeecdhcaaW.PrintLast Go.Proofs.YthblifjeecdhcaaW.PrintMore Go.Proofs.Ythblifjeecdhcaa.KB Go.Proofs.Ythblifjeecdhcaa.VB
def BND (K C : Int) (H : List Int) : Int × Int × Int := if OKK K C H then (if (H.length : Int) < K then ((H.length : Int), (H.length : Int), 0) else (K, C, 0)) else (0, 0, 1)
theorem bounds_ev (K C : Int) (H : List Int) (hl : H.length ≤ 17592186043904) : Ev (fun k => kmv_Bounds.f k K C H) (BND K C H) := by
  simp only [kmv_Bounds.f]
  refine Ev.bind (check_ev K C H hl) ?_
  unfold CK BND
  by_cases h : OKK K C H
  · rw [if_pos h, if_pos h]
    have h1 := h.2.2.2.2.1
    refine Ev.congr (f := fun _ => some (if (H.length : Int) < K then ((H.length : Int), (H.length : Int), (0 : Int)) else (K, C, 0))) (fun k => ?_) (Ev.now _)
    rw [if_pos rfl, kmv_bounds.f]
    by_cases hc : (H.length : Int) < K
    · rw [if_neg (by omega), if_pos hc]; rfl
    · rw [if_pos (by omega), if_neg hc]; rfl
  · rw [if_neg h, if_neg h]; exact Ev.congr (fun k => if_neg (by decide)) (Ev.now _)
theorem boundsR_ev (K C : Int) (H : List Int) (hl : H.length ≤ 17592186043904) : Ev (fun k => lookoutref30_Bounds.f k K C H) (BND K C H) := by
  simp only [lookoutref30_Bounds.f]
  refine Ev.bind (checkr_ev K C H hl) ?_
  unfold CK BND
  by_cases h : OKK K C H
  · rw [if_pos h, if_pos h]
    refine Ev.congr (fun k => if_pos rfl) ?_
    by_cases hc : (H.length : Int) < K
    · simp only [if_pos hc]; exact Ev.now _
    · simp only [if_neg hc]; exact Ev.now _
  · rw [if_neg h, if_neg h]; exact Ev.congr (fun k => if_neg (by decide)) (Ev.now _)
def EST (K C : Int) (H : List Int) : Int × Int := if OKK K C H then (if (H.length : Int) < K then ((H.length : Int), 0) else (mx K (mn C ((K - 1) * 4294967296 / (rd H ((H.length : Int) - 1) + 1))), 0)) else (0, 1)
theorem estimate_ev (K C : Int) (H : List Int) (hl : H.length ≤ 17592186043904) : Ev (fun k => kmv_Estimate.f k K C H) (EST K C H) := by
  simp only [kmv_Estimate.f]
  refine Ev.bind (check_ev K C H hl) ?_
  unfold CK EST
  by_cases h : OKK K C H
  · rw [if_pos h, if_pos h]
    have h1 := h.2.2.2.2.1; have h2 := h.1; have h3 := h.2.1; have h4 := h.2.2.2.2.2.1
    refine Ev.congr (f := fun _ => some (if (H.length : Int) < K then ((H.length : Int), (0 : Int)) else (mx K (mn C ((K - 1) * 4294967296 / (rd H ((H.length : Int) - 1) + 1))), 0))) (fun k => ?_) (Ev.now _)
    rw [if_pos rfl, kmv_bounds.f]
    by_cases hc : (H.length : Int) < K
    · rw [if_neg (by omega), if_pos hc, Option.bind_some, estG, if_pos hc]; rfl
    · have hi : H.length - 1 < H.length := by omega
      have hm := h.mem (H[H.length - 1]) (List.getElem_mem hi)
      have hr := rdI hi
      rw [show ((H.length - 1 : Nat) : Int) = (H.length : Int) - 1 by omega] at hr
      rw [if_pos (by omega), if_neg hc, Option.bind_some, estG, if_neg hc, if_pos ⟨by omega, by omega, by omega, by omega, by omega⟩, Option.bind_some]
      generalize (K - 1) * 4294967296 / (rd H ((H.length : Int) - 1) + 1) = v
      have e : mn (mx v K) C = mx K (mn C v) := by
        unfold mn mx
        repeat' split
        all_goals omega
      rw [e]
  · rw [if_neg h, if_neg h]; exact Ev.congr (fun k => if_neg (by decide)) (Ev.now _)
theorem estimateR_ev (K C : Int) (H : List Int) (hl : H.length ≤ 17592186043904) : Ev (fun k => lookoutref30_Estimate.f k K C H) (EST K C H) := by
  simp only [lookoutref30_Estimate.f]
  refine Ev.bind (boundsR_ev K C H hl) ?_
  unfold BND EST
  by_cases h : OKK K C H
  · rw [if_pos h, if_pos h]
    have h1 := h.2.2.2.2.1; have h2 := h.1; have h3 := h.2.1; have h4 := h.2.2.2.2.2.1
    by_cases hc : (H.length : Int) < K
    · simp only [if_pos hc]; first | exact Ev.now _ | exact Ev.congr (fun k => if_pos trivial) (Ev.now _)
    · have hi : H.length - 1 < H.length := by omega
      have hm := h.mem (H[H.length - 1]) (List.getElem_mem hi)
      have hr := rdI hi
      rw [show ((H.length - 1 : Nat) : Int) = (H.length : Int) - 1 by omega] at hr
      have hk : wrap64 (K - 1) = (H.length : Int) - 1 := by unfold wrap64; omega
      have hkk : (H.length : Int) - 1 = K - 1 := by omega
      simp only [if_neg hc]
      refine Ev.congr (fun k => ?_) (Ev.now _)
      have a1 : wrap64 (rd H ((H.length : Int) - 1) + 1) = rd H ((H.length : Int) - 1) + 1 := by unfold wrap64; omega
      have a2 : wrap64 ((K - 1) * 4294967296) = (K - 1) * 4294967296 := by unfold wrap64; omega
      have a3 : Int.tdiv ((K - 1) * 4294967296) (rd H ((H.length : Int) - 1) + 1) = (K - 1) * 4294967296 / (rd H ((H.length : Int) - 1) + 1) := Int.tdiv_eq_ediv_of_nonneg (by omega)
      have a4 : 0 ≤ (K - 1) * 4294967296 / (rd H ((H.length : Int) - 1) + 1) := Int.ediv_nonneg (by omega) (by omega)
      have a5 : (K - 1) * 4294967296 / (rd H ((H.length : Int) - 1) + 1) ≤ (K - 1) * 4294967296 := Int.ediv_le_self _ (by omega)
      have a6 : wrap64 ((K - 1) * 4294967296 / (rd H ((H.length : Int) - 1) + 1)) = (K - 1) * 4294967296 / (rd H ((H.length : Int) - 1) + 1) := by unfold wrap64; omega
      rw [if_pos trivial, hk, if_pos (by omega), if_pos (by omega), a1, if_neg (by omega), hkk]
      rw [hkk] at a3 a6
      rw [a2, a3, a6]
  · rw [if_neg h, if_neg h]; exact Ev.congr (fun k => if_neg (by decide)) (Ev.now _)
theorem KmvEstimates : lookoutlaw30_KmvEstimates.Pure := by
  intro K C H s hK hC h1 h2 h3 hs
  refine Ev.rounds ?_
  unfold lookoutlaw30_KmvEstimates.f lookoutref30_Great.f
  have hj : ∀ b, (b = false → s.size ≤ 600) → Ev (fun k => lookoutlaw30_KmvEstimates.j0 k s b K C H) true := fun b hb => by
    cases b with
    | true => exact Ev.step (fun k => by rw [lookoutlaw30_KmvEstimates.j0, if_pos rfl]) awake_end
    | false =>
      have hs6 := hb rfl
      refine Ev.step (fun k => by rw [lookoutlaw30_KmvEstimates.j0, if_neg (by decide)]) ?_
      obtain ⟨r, d1, d2, d3⟩ := decode_same s (by omega)
      refine Ev.bind (bounds_ev K C H (by omega)) ?_
      refine Ev.bind (boundsR_ev K C H (by omega)) ?_
      refine Ev.bind (estimate_ev K C H (by omega)) ?_
      refine Ev.bind (estimateR_ev K C H (by omega)) ?_
      refine Ev.bind (encode_ev K C H (by omega)) ?_
      refine Ev.bind (encodeR_ev K C H (by omega)) ?_
      refine Ev.bind d1 ?_
      refine Ev.bind d2 ?_
      refine Ev.congr (fun k => (if_pos rfl).trans ((if_pos rfl).trans ((if_pos rfl).trans ((if_pos rfl).trans ((if_pos rfl).trans ((if_pos rfl).trans (if_pos rfl))))))) ?_
      refine Ev.bind (same30 _ _ _ (by omega)) ?_
      exact Ev.congr (fun k => (if_pos rfl).trans (if_pos rfl)) awake_end
  refine Ev.congr (fun k => Option.bind_some _ _) ?_
  by_cases h : decide ((H.length : Int) > 70) = true
  · exact Ev.congr (fun k => if_pos h) (hj true (fun h => by cases h))
  · exact Ev.congr (fun k => if_neg h) (hj _ (fun hb => by have := of_decide_eq_false hb; omega))
end Go.Proofs.Ythblifjeecdhcaa.Pure
