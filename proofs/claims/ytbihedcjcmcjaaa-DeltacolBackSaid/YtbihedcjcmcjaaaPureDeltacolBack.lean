/- Decoding an encoded column yields the column, and its number of elements is Count. No condition beyond those in the statement. -/
import Derived.Test.YtbihedcjcmcjaaaAw
import Derived.Test.YtbihedcjcmcjaaaK2
import Derived.Test.YtbihedcjcmcjaaaPx16
namespace Go.Proofs.Ytbihedcjcmcjaaa.Pure
open Go.RowKit Go.Proofs.Ytbihedcjcmcjaaa.P Go.Proofs.Ytbihedcjcmcjaaa.C Go.Proofs.Ytbihedcjcmcjaaa.A Go.Proofs.Ytbihedcjcmcjaaa.Hand Go.Proofs.YtbihedcjcmcjaaaW.PrintWords Go.Proofs.YtbihedcjcmcjaaaW.PrintLast Go.Proofs.YtbihedcjcmcjaaaW.PrintMore Go.Proofs.Ytbihedcjcmcjaaa.VB Go.Proofs.Ytbihedcjcmcjaaa.DB
set_option linter.unusedVariables false
set_option linter.unusedSimpArgs false
theorem equal_l0 (l : List Int) (hl : l.length ≤ 1000000) : ∀ (d i : Nat), i + d = l.length → Ev (fun k => slices_Equal_int_int.l0 k l l (l.length : Int) (i : Int)) true := by
  intro d
  induction d with
  | zero => intro i h; exact Ev.step (fun k => by rw [slices_Equal_int_int.l0, if_neg (by omega)]) (Ev.now _)
  | succ d ih => intro i h; exact Ev.step (fun k => by rw [slices_Equal_int_int.l0, if_pos (by omega), if_pos (by omega), if_pos (by omega), if_pos (by omega), if_pos rfl, w1 (by omega)]) (ih (i + 1) (by omega))
theorem equal_ev (l : List Int) (hl : l.length ≤ 1000000) : Ev (fun k => slices_Equal_int_int.f k l l) true := by
  refine Ev.congr (fun k => ?_) (equal_l0 l hl l.length 0 (by omega))
  rw [slices_Equal_int_int.f, if_pos rfl]; rfl
theorem DeltacolBack : lookoutlaw09_DeltacolBack.Pure := by
  intro l m _ _ _ _ _ _
  refine Ev.rounds ?_
  have jt : Ev (fun k => lookoutlaw09_DeltacolBack.j0 k l m true) true := Ev.step (fun k => by rw [lookoutlaw09_DeltacolBack.j0, if_pos rfl]) awake_end
  by_cases h1 : (l.length : Int) > 50
  · exact Ev.congr (fun k => by rw [lookoutlaw09_DeltacolBack.f, if_pos h1]) jt
  by_cases h2 : (m.length : Int) > 50
  · exact Ev.congr (fun k => by rw [lookoutlaw09_DeltacolBack.f, if_neg h1, decide_eq_true h2]) jt
  refine Ev.congr (f := fun k => lookoutlaw09_DeltacolBack.j0 k l m false) (fun k => by rw [lookoutlaw09_DeltacolBack.f, if_neg h1, decide_eq_false h2]) ?_
  have j1 : Ev (fun k => lookoutlaw09_DeltacolBack.j1 k m) true := by
    refine Ev.step (fun k => by rw [lookoutlaw09_DeltacolBack.j1]) ?_
    rcases encodeValues_ex m (by omega) with ⟨hv, he⟩ | ⟨_, he⟩
    · obtain ⟨hd, hc⟩ := decodeValues_ok hv (by omega) he
      refine Ev.bind he ?_
      refine Ev.congr (fun k => if_pos rfl) ?_
      refine Ev.bind hd ?_
      refine Ev.congr (fun k => by rw [hc, Option.bind_some]) ?_
      refine Ev.congr (fun k => (if_pos rfl).trans ((if_pos rfl).trans (if_pos rfl))) ?_
      refine Ev.bind (equal_ev m (by omega)) ?_
      exact Ev.congr (fun k => if_pos rfl) awake_end
    · refine Ev.bind he ?_
      exact Ev.congr (fun k => if_neg (show ¬ ((2 : Int) = 0) by decide)) awake_end
  refine Ev.step (fun k => by rw [lookoutlaw09_DeltacolBack.j0, if_neg (by decide)]) ?_
  rcases encodeTimes_ex l (by omega) with hv | ⟨e, h0, he⟩
  · obtain ⟨hd, hc⟩ := decodeTimes_ok hv
    refine Ev.bind (encodeTimes_ok hv) ?_
    refine Ev.congr (fun k => if_pos rfl) ?_
    refine Ev.bind hd ?_
    refine Ev.congr (fun k => by rw [hc, Option.bind_some]) ?_
    refine Ev.congr (fun k => (if_pos rfl).trans ((if_pos rfl).trans (if_pos rfl))) ?_
    refine Ev.bind (equal_ev l (by omega)) ?_
    exact Ev.congr (fun k => if_pos rfl) j1
  · refine Ev.bind he ?_
    exact Ev.congr (fun k => if_neg h0) j1
end Go.Proofs.Ytbihedcjcmcjaaa.Pure
