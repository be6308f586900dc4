/- A second Add of the same string leaves the numbers of a sketch. No condition beyond those in the statement. -/
import Derived.Test.YthblifjeecdhcaaK2
import Derived.Test.YthblifjeecdhcaaPx21
namespace Go.Proofs.Ythblifjeecdhcaa.Pure
open Go.RowKit Go.Proofs.Ythblifjeecdhcaa.P Go.Proofs.Ythblifjeecdhcaa.A Go.Proofs.Ythblifjeecdhcaa.Hand Go.Proofs.YthblifjeecdhcaaW.PrintWords Go.Proofs.YthblifjeecdhcaaW.PrintLast Go.Proofs.YthblifjeecdhcaaW.PrintMore Go.Proofs.Ythblifjeecdhcaa.KB
theorem KmvRepeats : lookoutlaw30_KmvRepeats.Pure := by
  intro K C H s hK hC h1 h2 h3 hs
  refine Ev.rounds ?_
  unfold lookoutlaw30_KmvRepeats.f lookoutref30_Great.f
  have hj : ∀ b, Ev (fun k => lookoutlaw30_KmvRepeats.j0 k s b K C H) true := fun b => by
    cases b with
    | true => exact Ev.step (fun k => by rw [lookoutlaw30_KmvRepeats.j0, if_pos rfl]) awake_end
    | false =>
      refine Ev.step (fun k => by rw [lookoutlaw30_KmvRepeats.j0, if_neg (by decide)]) ?_
      have hl := ADD_len K C H s (by omega)
      refine Ev.bind (add_ev K C H s (by omega) hs) ?_
      refine Ev.bind (add_ev _ _ _ s hl hs) ?_
      have bad : ∀ a b c d e f, Ev (fun k => lookoutlaw30_KmvRepeats.j1 k true K C H a b c d e f) true := fun a b c d e f =>
        Ev.step (fun k => by rw [lookoutlaw30_KmvRepeats.j1, if_pos rfl]) awake_end
      by_cases he : (ADD K C H s).2.2.2 = 0
      · refine Ev.congr (fun k => if_pos he) ?_
        generalize hb : ((ADD (ADD K C H s).1 (ADD K C H s).2.1 (ADD K C H s).2.2.1 s).2.2.2 != 0) = b
        cases b with
        | true => exact bad _ _ _ _ _ _
        | false =>
          have he2 := bne_eq_false_iff_eq.1 hb
          have hok : OKK K C H := by
            refine Decidable.by_contra (fun h => ?_)
            unfold ADD at he; rw [if_neg h] at he; cases he
          have hc : C ≠ 1152921504606846976 := fun h => by
            unfold ADD at he; rw [if_pos hok, if_pos h] at he; cases he
          have e1 : ADD K C H s = (K, C + 1, (INS H (HASH s)).take K.toNat, 0) := by unfold ADD; rw [if_pos hok, if_neg hc]
          rw [e1] at he2 ⊢
          dsimp only at he2 ⊢
          have hok2 : OKK K (C + 1) ((INS H (HASH s)).take K.toNat) := by
            refine Decidable.by_contra (fun h => ?_)
            unfold ADD at he2; rw [if_neg h] at he2; cases he2
          have hc2 : C + 1 ≠ 1152921504606846976 := fun h => by
            unfold ADD at he2; rw [if_pos hok2, if_pos h] at he2; cases he2
          have e2 : ADD K (C + 1) ((INS H (HASH s)).take K.toNat) s = (K, C + 1 + 1, (INS H (HASH s)).take K.toNat, 0) := by unfold ADD; rw [if_pos hok2, if_neg hc2, ins_twice hok.so]
          rw [e2]
          dsimp only
          have h5 := hok2.2.2.1; have h6 := hok2.2.2.2.1; have h7 := hok2.2.1; have h8 := hok2.2.2.2.2.1
          refine Ev.step (fun k => by rw [lookoutlaw30_KmvRepeats.j1, if_neg (by decide), if_pos (by unfold wrap64; omega), if_pos (by unfold wrap64; omega)]) ?_
          refine Ev.bind (same01 _ (by omega)) ?_
          exact Ev.congr (fun k => if_pos rfl) awake_end
      · exact Ev.congr (fun k => if_neg he) (bad _ _ _ _ _ _)
  refine Ev.congr (fun k => Option.bind_some _ _) ?_
  by_cases h : decide ((H.length : Int) > 70) = true
  · exact Ev.congr (fun k => if_pos h) (hj _)
  · exact Ev.congr (fun k => if_neg h) (hj _)
end Go.Proofs.Ythblifjeecdhcaa.Pure
