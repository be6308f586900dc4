/- Merge of the kmv chapter: an empty sketch changes nothing, the order of two does not matter, nor where three are bracketed. No condition beyond those in the statement. -/
import Derived.Test.YthblifjeecdhcaaK4
import Derived.Test.YthblifjeecdhcaaPx25
namespace Go.Proofs.Ythblifjeecdhcaa.Pure
open Go.RowKit Go.Proofs.Ythblifjeecdhcaa.P Go.Proofs.Ythblifjeecdhcaa.A Go.Proofs.Ythblifjeecdhcaa.Hand Go.Proofs.YthblifjeecdhcaaW.PrintWords Go.Proofs.YthblifjeecdhcaaW.PrintLast Go.Proofs.YthblifjeecdhcaaW.PrintMore Go.Proofs.Ythblifjeecdhcaa.KB
theorem MERGE_ok {K C : Int} {G : List Int} {L D : Int} {H : List Int} (h : (MERGE K C G L D H).2.2.2 = 0) : OKK K C G ∧ OKK L D H ∧ K = L ∧ C + D ≤ 1152921504606846976 ∧ MERGE K C G L D H = (K, C + D, MG K.toNat G H, 0) := by
  unfold MERGE at h ⊢
  by_cases h1 : OKK K C G
  · by_cases h2 : OKK L D H
    · by_cases h3 : K = L
      · by_cases h4 : 1152921504606846976 < C + D
        · rw [if_pos h1, if_pos h2, if_pos h3, if_pos h4] at h; cases h
        · exact ⟨h1, h2, h3, by omega, by rw [if_pos h1, if_pos h2, if_pos h3, if_neg h4]⟩
      · rw [if_pos h1, if_pos h2, if_neg h3] at h; cases h
    · rw [if_pos h1, if_neg h2] at h; cases h
  · rw [if_neg h1] at h; cases h
theorem MERGE_of {K C : Int} {G : List Int} {D : Int} {H : List Int} (h1 : OKK K C G) (h2 : OKK K D H) (h4 : C + D ≤ 1152921504606846976) : MERGE K C G K D H = (K, C + D, MG K.toNat G H, 0) := by
  unfold MERGE; rw [if_pos h1, if_pos h2, if_pos rfl, if_neg (by omega)]
theorem MERGE_comm (K C : Int) (G : List Int) (L D : Int) (H : List Int) : MERGE K C G L D H = MERGE L D H K C G := by
  unfold MERGE
  by_cases h1 : OKK K C G
  · by_cases h2 : OKK L D H
    · rw [if_pos h1, if_pos h2, if_pos h2, if_pos h1]
      by_cases h3 : K = L
      · subst h3
        rw [if_pos rfl, if_pos rfl, Int.add_comm D C, MG_comm h1.so h2.so h1.len h2.len]
      · rw [if_neg h3, if_neg (Ne.symm h3)]
    · rw [if_pos h1, if_neg h2, if_neg h2]
  · rw [if_neg h1]
    by_cases h2 : OKK L D H
    · rw [if_pos h2, if_neg h1]
    · rw [if_neg h2]
theorem KmvMonoid : lookoutlaw30_KmvMonoid.Pure := by
  intro K C G L D H M E I _ _ g1 g2 g3 _ _ h1 h2 h3 _ _ i1 i2 i3
  refine Ev.rounds ?_
  unfold lookoutlaw30_KmvMonoid.f lookoutref30_Great.f
  have end2 : ∀ a b c d e f x y, Ev (fun k => lookoutlaw30_KmvMonoid.j2 k x y true a b c d e f) true := fun a b c d e f x y =>
    Ev.step (fun k => by rw [lookoutlaw30_KmvMonoid.j2, if_pos rfl]) awake_end
  have hj : ∀ b, (b = false → OKK K C G) → Ev (fun k => lookoutlaw30_KmvMonoid.j0 k b K C G L D H M E I) true := fun b hb => by
    cases b with
    | true => exact Ev.step (fun k => by rw [lookoutlaw30_KmvMonoid.j0, if_pos rfl]) awake_end
    | false =>
      have hG := hb rfl
      have k1 := hG.1; have k2 := hG.2.1; have k3 := hG.len; have k4 := hG.2.2.2.1
      refine Ev.step (fun k => by rw [lookoutlaw30_KmvMonoid.j0, if_neg (by decide)]) ?_
      refine Ev.congr (fun k => by rw [show kmv_New.f K = some (K, 0, [], 0) by unfold kmv_New.f; rw [if_neg (by omega), if_neg (by omega)], Option.bind_some]) ?_
      have h0 : OKK K 0 [] := ⟨k1, k2, by omega, by omega, by simp; omega, by simp, fun _ => rfl, rfl⟩
      have e0 : MERGE K C G K 0 [] = (K, C, G, 0) := by rw [MERGE_of hG h0 (by omega), Int.add_zero]; rfl
      have m0 := merge_ev K C G K 0 [] (by omega) (by simp)
      rw [e0] at m0
      refine Ev.bind m0 ?_
      have m1 := merge_ev K C G L D H (by omega) (by omega)
      have m2 := merge_ev L D H K C G (by omega) (by omega)
      rw [← MERGE_comm K C G L D H] at m2
      have l1 := MERGE_len K C G L D H
      refine Ev.bind m1 ?_
      refine Ev.bind m2 ?_
      refine Ev.congr (fun k => (if_pos rfl).trans (if_pos rfl)) ?_
      refine Ev.bind (same30 K C G (by omega)) ?_
      refine Ev.congr (fun k => (if_pos rfl).trans (if_pos rfl)) ?_
      refine Ev.bind (same30 _ _ _ (by omega)) ?_
      refine Ev.step (fun k => by rw [lookoutlaw30_KmvMonoid.j1, if_neg (by decide)]) ?_
      refine Ev.bind (merge_ev _ _ _ M E I (by omega) (by omega)) ?_
      have l2 := MERGE_len L D H M E I
      refine Ev.bind (merge_ev L D H M E I (by omega) (by omega)) ?_
      refine Ev.bind (merge_ev K C G _ _ _ (by omega) (by omega)) ?_
      by_cases hab : (MERGE K C G L D H).2.2.2 = 0
      · refine Ev.congr (fun k => if_pos hab) ?_
        obtain ⟨_, hH, rfl, hcd, eab⟩ := MERGE_ok hab
        rw [eab]
        dsimp only
        generalize hq : ((MERGE K (C + D) (MG K.toNat G H) M E I).2.2.2 != 0) = q
        cases q with
        | true => exact end2 _ _ _ _ _ _ _ _
        | false =>
          obtain ⟨hGH, hI, rfl, hcde, eabc⟩ := MERGE_ok (bne_eq_false_iff_eq.1 hq)
          have hc := hG.2.2.1
          have ebc := MERGE_of hH hI (by omega)
          rw [eabc, ebc]
          dsimp only
          have hHI : OKK K (D + E) (MG K.toNat H I) := hH.merge hI (by omega)
          rw [MERGE_of hG hHI (by omega)]
          dsimp only
          refine Ev.step (fun k => by rw [lookoutlaw30_KmvMonoid.j2, if_neg (by decide), if_pos rfl, if_pos rfl]) ?_
          rw [Int.add_assoc C D E, MG_assoc hG.so hH.so hI.so hG.len hH.len hI.len]
          have l3 := MG_len (MG K.toNat H I) K.toNat hG.len
          refine Ev.bind (same30 _ _ _ (by omega)) ?_
          exact Ev.congr (fun k => if_pos rfl) awake_end
      · exact Ev.congr (fun k => if_neg hab) (end2 _ _ _ _ _ _ _ _)
  have hj1 : Ev (fun k => lookoutlaw30_KmvMonoid.j0 k true K C G L D H M E I) true := hj true (fun h => by cases h)
  refine Ev.congr (fun k => Option.bind_some _ _) ?_
  by_cases h : decide ((G.length : Int) > 70) = true
  · exact Ev.congr (fun k => if_pos h) hj1
  refine Ev.congr (fun k => if_neg h) (Ev.congr (fun k => Option.bind_some _ _) ?_)
  by_cases h : decide ((H.length : Int) > 70) = true
  · exact Ev.congr (fun k => if_pos h) hj1
  refine Ev.congr (fun k => if_neg h) (Ev.congr (fun k => Option.bind_some _ _) ?_)
  by_cases h : decide ((I.length : Int) > 70) = true
  · exact Ev.congr (fun k => if_pos h) hj1
  refine Ev.congr (fun k => if_neg h) ?_
  refine Ev.bind (check_ev K C G (by omega)) (hj _ (fun hb => CK_zero.1 (bne_eq_false_iff_eq.1 hb)))
end Go.Proofs.Ythblifjeecdhcaa.Pure
