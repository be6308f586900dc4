/- Merge of the kmv chapter answers as the reference implementation does. No condition beyond those in the statement. -/
import Derived.Test.YthblifjeecdhcaaK3
import Derived.Test.YthblifjeecdhcaaK4
import Derived.Test.YthblifjeecdhcaaPx23
import Derived.Test.YthblifjeecdhcaaPx24
namespace Go.Proofs.Ythblifjeecdhcaa.Pure
open Go.RowKit Go.Proofs.Ythblifjeecdhcaa.P Go.Proofs.Ythblifjeecdhcaa.A Go.Proofs.Ythblifjeecdhcaa.Hand Go.Proofs.YthblifjeecdhcaaW.PrintWords Go.Proofs.YthblifjeecdhcaaW.PrintLast Go.Proofs.YthblifjeecdhcaaW.PrintMore Go.Proofs.Ythblifjeecdhcaa.KB
theorem merger_l0 (K C : Int) (G : List Int) (L D : Int) (H : List Int) (hG : OKK K C G) (hH : H.length ≤ 1000) : ∀ (d i : Nat), i + d = H.length → Ev (fun k => lookoutref30_Merge.l0 k (MG K.toNat G (H.take i)) (i : Int) K C G L D H) (K, wrap64 (C + D), MG K.toNat G H, 0) := by
  have h1 := hG.1; have h2 := hG.2.1
  intro d
  induction d with
  | zero => intro i h; rw [List.take_of_length_le (by omega)]; exact Ev.step (fun k => by rw [lookoutref30_Merge.l0, if_neg (by omega)]) (Ev.now _)
  | succ d ih =>
    intro i h
    have hi : i < H.length := by omega
    have hl := MG_len (H.take i) K.toNat hG.len
    have hs := MG_so hG.so (H.take i) K.toNat hG.len
    have ins := with_ev (MG K.toNat G (H.take i)) H[i] K hs (by omega) (by omega)
    rw [← MG_step K.toNat G H i hi] at ins
    refine Ev.step (fun k => by rw [lookoutref30_Merge.l0, if_pos (by omega), if_pos (by omega), rdI hi, w1 (by omega)]) ?_
    exact Ev.bind ins (ih (i + 1) (by omega))
theorem merger_ev (K C : Int) (G : List Int) (L D : Int) (H : List Int) (hg : G.length ≤ 17592186043904) (hh : H.length ≤ 17592186043904) : Ev (fun k => lookoutref30_Merge.f k K C G L D H) (MERGE K C G L D H) := by
  simp only [lookoutref30_Merge.f]
  refine Ev.bind (checkr_ev K C G hg) ?_
  have bad : Ev (fun k => lookoutref30_Merge.j0 k true K C G L D H) (0, 0, [], 1) := Ev.step (fun k => by rw [lookoutref30_Merge.j0, if_pos rfl]) (Ev.now _)
  unfold MERGE
  by_cases h : OKK K C G
  · rw [if_pos h, show CK K C G = 0 from if_pos h]
    refine Ev.congr (fun k => if_pos rfl) ?_
    refine Ev.bind (checkr_ev L D H hh) ?_
    by_cases h' : OKK L D H
    · rw [if_pos h', show CK L D H = 0 from if_pos h']
      refine Ev.step (fun k => by rw [lookoutref30_Merge.j0, if_neg (by decide)]) ?_
      by_cases e : K = L
      · rw [if_pos e]
        refine Ev.congr (fun k => if_pos e) ?_
        have a1 := h.2.2.1; have a2 := h.2.2.2.1; have b1 := h'.2.2.1; have b2 := h'.2.2.2.1; have b3 := h'.len; have b4 := h'.2.1
        have hw : wrap64 (C + D) = C + D := by unfold wrap64; omega
        rw [hw]
        by_cases hc : 1152921504606846976 < C + D
        · rw [if_pos hc]; exact Ev.congr (fun k => if_pos hc) (Ev.now _)
        · rw [if_neg hc]
          have hl := merger_l0 K C G L D H h (by omega) H.length 0 (by omega)
          rw [hw] at hl
          exact Ev.congr (fun k => if_neg hc) hl
      · rw [if_neg e]; exact Ev.congr (fun k => if_neg e) (Ev.now _)
    · rw [if_neg h', show CK L D H = 1 from if_neg h']; exact bad
  · rw [if_neg h, show CK K C G = 1 from if_neg h]; exact Ev.congr (fun k => if_neg (by decide)) bad
theorem KmvMerge : lookoutlaw30_KmvMerge.Pure := by
  intro K C G L D H _ _ g1 g2 g3 _ _ h1 h2 h3
  refine Ev.rounds ?_
  unfold lookoutlaw30_KmvMerge.f lookoutref30_Great.f
  have hj : ∀ b, Ev (fun k => lookoutlaw30_KmvMerge.j0 k b K C G L D H) true := fun b => by
    cases b with
    | true => exact Ev.step (fun k => by rw [lookoutlaw30_KmvMerge.j0, if_pos rfl]) awake_end
    | false =>
      refine Ev.step (fun k => by rw [lookoutlaw30_KmvMerge.j0, if_neg (by decide)]) ?_
      have hl := MERGE_len K C G L D H
      refine Ev.bind (merge_ev K C G L D H (by omega) (by omega)) ?_
      refine Ev.bind (merger_ev K C G L D H (by omega) (by omega)) ?_
      refine Ev.bind (same30 _ _ _ (by omega)) ?_
      exact Ev.congr (fun k => (if_pos rfl).trans (if_pos rfl)) awake_end
  refine Ev.congr (fun k => Option.bind_some _ _) ?_
  by_cases h : decide ((G.length : Int) > 70) = true
  · exact Ev.congr (fun k => if_pos h) (hj _)
  · refine Ev.congr (fun k => if_neg h) (Ev.congr (fun k => Option.bind_some _ _) (hj _))
end Go.Proofs.Ythblifjeecdhcaa.Pure
