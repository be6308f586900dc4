/- Send of the network chapter returns the result of the reference implementation for networks with many equal flights. No condition beyond those in the statement. -/
import Derived.Test.YtkfplnbofgiknaaK2
import Derived.Test.YtkfplnbofgiknaaPx16
namespace Go.Proofs.Ytkfplnbofgiknaa.Pure
open Go.RowKit Go.Proofs.Ytkfplnbofgiknaa.P Go.Proofs.Ytkfplnbofgiknaa.A Go.Proofs.Ytkfplnbofgiknaa.Hand Go.Proofs.YtkfplnbofgiknaaW.PrintWords Go.Proofs.YtkfplnbofgiknaaW.PrintLast Go.Proofs.YtkfplnbofgiknaaW.PrintMore Go.Proofs.Ytkfplnbofgiknaa.NB

theorem full_l0 (n : Nat) (hn : n ≤ 1010) (fate a b : Int) (s : ByteArray) : ∀ (d i : Nat), i + d = n → Ev (fun k => lookoutlaw50_NetworkFull.l0 k (n : Int) (i : Int) a b s 0 [fate] (List.replicate i (⟨1, ⟨a, b, s⟩⟩ : Fl))) true := by
  intro d
  induction d with
  | zero =>
    intro i h
    refine Ev.step (fun k => by rw [lookoutlaw50_NetworkFull.l0, if_neg (by omega)]) ?_
    have hl := SEND_len 0 [fate] (List.replicate i (⟨1, ⟨a, b, s⟩⟩ : Fl)) ⟨a, b, s⟩
    refine Ev.bind (send_ev 0 [fate] (List.replicate i ⟨1, ⟨a, b, s⟩⟩) a b s) ?_
    refine Ev.bind (sendr_ev 0 [fate] (List.replicate i ⟨1, ⟨a, b, s⟩⟩) a b s) ?_
    refine Ev.bind (same _ _ _ (by have := hl.1; simp at this; omega) (by omega)) ?_
    refine Ev.congr (fun k => (if_pos rfl).trans (if_pos rfl)) ?_
    exact awake_end
  | succ d ih =>
    intro i h
    have hs := ih (i + 1) (by omega)
    rw [List.replicate_succ'] at hs
    exact Ev.step (fun k => by rw [lookoutlaw50_NetworkFull.l0, if_pos (by omega), if_pos (by rw [List.length_replicate]; omega), w1 (by omega)]) hs
theorem NetworkFull : lookoutlaw50_NetworkFull.Pure := by
  intro c fate a b s hc hf ha hb hs
  refine Ev.rounds ?_
  unfold lookoutlaw50_NetworkFull.f
  by_cases h : (s.size : Int) > 20
  · exact Ev.congr (fun k => if_pos h) awake_end
  · refine Ev.congr (fun k => if_neg h) ?_
    have hc0 : 0 ≤ c ∧ c < 65536 := by simp [Lit.wf, IntKind.min, IntKind.max, IntKind.signed, IntKind.bits] at hc; omega
    have e : wrap64 c = c := by unfold wrap64; omega
    have e2 : Int.tmod c 1011 = ((c % 1011).toNat : Int) := by rw [Int.tmod_eq_emod_of_nonneg hc0.1]; omega
    rw [e, e2]
    exact full_l0 (c % 1011).toNat (by omega) fate a b s _ 0 (Nat.zero_add _)
end Go.Proofs.Ytkfplnbofgiknaa.Pure
