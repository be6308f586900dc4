/- Check, New and Add of the kmv chapter answer as the reference implementation does. No condition beyond those in the statement. -/
import Derived.Test.YthblifjeecdhcaaK3
import Derived.Test.YthblifjeecdhcaaPx17
import Derived.Test.YthblifjeecdhcaaPx20
namespace Go.Proofs.Ythblifjeecdhcaa.Pure
open Go.RowKit Go.Proofs.Ythblifjeecdhcaa.P Go.Proofs.Ythblifjeecdhcaa.A Go.Proofs.Ythblifjeecdhcaa.Hand Go.Proofs.YthblifjeecdhcaaW.PrintWords Go.Proofs.YthblifjeecdhcaaW.PrintLast Go.Proofs.YthblifjeecdhcaaW.PrintMore Go.Proofs.Ythblifjeecdhcaa.KB
theorem addr_ev (K C : Int) (H : List Int) (s : ByteArray) (hl : H.length ≤ 17592186043904) (hs : s.size ≤ 140737488351232) : Ev (fun k => lookoutref30_Add.f k K C H s) (ADD K C H s) := by
  simp only [lookoutref30_Add.f]
  refine Ev.bind (checkr_ev K C H hl) ?_
  unfold CK ADD
  by_cases h : OKK K C H
  · rw [if_pos h, if_pos h]
    refine Ev.congr (fun k => if_pos rfl) ?_
    by_cases hc : C = 1152921504606846976
    · rw [if_pos hc]; exact Ev.congr (fun k => if_pos hc) (Ev.now _)
    · rw [if_neg hc]
      have h2 := h.1; have h3 := h.2.1; have h4 := h.2.2.1; have h5 := h.2.2.2.1; have h6 := h.len
      refine Ev.congr (fun k => if_neg hc) ?_
      refine Ev.bind (hashr_ev s hs) ?_
      refine Ev.bind (with_ev H _ K h.so (by omega) (by omega)) ?_
      rw [show wrap64 (C + 1) = C + 1 by unfold wrap64; omega]
      exact Ev.now _
  · rw [if_neg h, if_neg h]
    exact Ev.congr (fun k => if_neg (by decide)) (Ev.now _)
theorem new_ex (a : Int) : ∃ r : Int × Int × List Int × Int, kmv_New.f a = some r ∧ lookoutref30_New.f a = some r ∧ r.2.2.1 = [] := by
  unfold kmv_New.f lookoutref30_New.f
  by_cases h : a < 1
  · rw [if_pos h]; exact ⟨_, rfl, rfl, rfl⟩
  · rw [if_neg h]
    by_cases h : a > 1000
    · rw [if_pos h]; exact ⟨_, rfl, rfl, rfl⟩
    · rw [if_neg h]; exact ⟨_, rfl, rfl, rfl⟩
theorem KmvAdds : lookoutlaw30_KmvAdds.Pure := by
  intro K C H a s hK hC h1 h2 h3 ha hs
  refine Ev.rounds ?_
  unfold lookoutlaw30_KmvAdds.f lookoutref30_Great.f
  have hj : ∀ b, Ev (fun k => lookoutlaw30_KmvAdds.j0 k a s b K C H) true := fun b => by
    cases b with
    | true => exact Ev.step (fun k => by rw [lookoutlaw30_KmvAdds.j0, if_pos rfl]) awake_end
    | false =>
      refine Ev.step (fun k => by rw [lookoutlaw30_KmvAdds.j0, if_neg (by decide)]) ?_
      have hl := ADD_len K C H s (by omega)
      obtain ⟨r, e1, e2, e3⟩ := new_ex a
      refine Ev.bind (add_ev K C H s (by omega) hs) ?_
      refine Ev.bind (addr_ev K C H s (by omega) hs) ?_
      refine Ev.congr (fun k => by rw [e1, e2, Option.bind_some, Option.bind_some]) ?_
      refine Ev.bind (check_ev K C H (by omega)) ?_
      refine Ev.bind (checkr_ev K C H (by omega)) ?_
      refine Ev.congr (fun k => if_pos rfl) ?_
      refine Ev.bind (same30 _ _ _ (by omega)) ?_
      refine Ev.congr (fun k => (if_pos rfl).trans (if_pos rfl)) ?_
      refine Ev.bind (same30 _ _ _ (by rw [e3]; simp)) ?_
      exact Ev.congr (fun k => (if_pos rfl).trans (if_pos rfl)) awake_end
  refine Ev.congr (fun k => Option.bind_some _ _) ?_
  by_cases h : decide ((H.length : Int) > 70) = true
  · exact Ev.congr (fun k => if_pos h) (hj _)
  · exact Ev.congr (fun k => if_neg h) (hj _)
end Go.Proofs.Ythblifjeecdhcaa.Pure
