/- Send and Step of the network chapter keep networks valid and hand over what the statement tells. No condition beyond those in the statement. -/
import Derived.Test.YtkfplnbofgiknaaK2
import Derived.Test.YtkfplnbofgiknaaPx11
import Derived.Test.YtkfplnbofgiknaaPx14
import Derived.Test.YtkfplnbofgiknaaPx15
namespace Go.Proofs.Ytkfplnbofgiknaa.Pure
open Go.RowKit Go.Proofs.Ytkfplnbofgiknaa.P Go.Proofs.Ytkfplnbofgiknaa.A Go.Proofs.Ytkfplnbofgiknaa.Hand Go.Proofs.YtkfplnbofgiknaaW.PrintWords Go.Proofs.YtkfplnbofgiknaaW.PrintLast Go.Proofs.YtkfplnbofgiknaaW.PrintMore Go.Proofs.Ytkfplnbofgiknaa.NB
set_option linter.unusedVariables false
theorem dl_in (a : Int) (h : 0 ≤ a) (hw : a ≤ 9223372036854775807) : ∀ d ∈ dlL a, 1 ≤ d ∧ d ≤ 8 := by
  have hl : 1 ≤ lateL a ∧ lateL a ≤ 8 := by
    unfold lateL
    have e1 : Int.tdiv a 4 = a / 4 := Int.tdiv_eq_ediv_of_nonneg h
    have e2 : wrap64 (Int.tdiv a 4) = a / 4 := by rw [e1]; unfold wrap64; omega
    have e3 : Int.tmod (a / 4) 8 = a / 4 % 8 := Int.tmod_eq_emod_of_nonneg (by omega)
    rw [e2, e3]
    unfold wrap64
    omega
  intro d hd
  unfold dlL at hd
  split at hd
  · cases hd
  · split at hd
    · obtain rfl := List.mem_singleton.1 hd; omega
    · split at hd
      · obtain rfl := List.mem_singleton.1 hd; exact hl
      · split at hd
        · rcases List.mem_cons.1 hd with rfl | hd
          · omega
          · obtain rfl := List.mem_singleton.1 hd; exact hl
        · cases hd
theorem eqF_l0 (l : List Fl) (hl : l.length < 140737488355328) : ∀ (d i : Nat), i + d = l.length → Ev (fun k => api_Flight_28.l0 k l l (l.length : Int) (i : Int)) true := by
  intro d
  induction d with
  | zero => intro i h; exact Ev.step (fun k => by rw [api_Flight_28.l0, if_neg (by omega)]) (Ev.now _)
  | succ d ih =>
    intro i h
    exact Ev.step (fun k => by rw [api_Flight_28.l0, if_pos (by omega), if_pos (by omega), if_pos (by omega), if_pos (by omega), if_neg (by simp), w1 (by omega)]) (ih (i + 1) (by omega))
theorem eqF (l : List Fl) (hl : l.length < 140737488355328) : Ev (fun k => api_Flight_28.f k l l) true :=
  Ev.congr (fun k => by rw [api_Flight_28.f, if_pos rfl]; rfl) (eqF_l0 l hl l.length 0 (by omega))
theorem eqI_l0 (l : List Int) (hl : l.length < 140737488355328) : ∀ (d i : Nat), i + d = l.length → Ev (fun k => slices_Equal_int_int.l0 k l l (l.length : Int) (i : Int)) true := by
  intro d
  induction d with
  | zero => intro i h; exact Ev.step (fun k => by rw [slices_Equal_int_int.l0, if_neg (by omega)]) (Ev.now _)
  | succ d ih =>
    intro i h
    exact Ev.step (fun k => by rw [slices_Equal_int_int.l0, if_pos (by omega), if_pos (by omega), if_pos (by omega), if_pos (by omega), if_pos rfl, w1 (by omega)]) (ih (i + 1) (by omega))
theorem eqI (l : List Int) (hl : l.length < 140737488355328) : Ev (fun k => slices_Equal_int_int.f k l l) true :=
  Ev.congr (fun k => by rw [slices_Equal_int_int.f, if_pos rfl]; rfl) (eqI_l0 l hl l.length 0 (by omega))
theorem yes_no_len (y : Int) (l : List Fl) : (yesL y l).length + (noL y l).length = l.length := by
  unfold yesL noL
  induction l with
  | nil => rfl
  | cons x l ih =>
    rw [List.filter_cons, List.filter_cons]
    by_cases h : x.f0 = y
    · rw [if_pos (by simp [h]), if_neg (by simp [h]), List.length_cons, List.length_cons]; omega
    · rw [if_neg (by simp [h]), if_pos (by simp [h]), List.length_cons, List.length_cons]; omega
theorem valid_j1 (now : Int) (fates : List Int) (fl : List Fl) : Ev (fun k => lookoutlaw50_NetworkValid.j1 k (STEP now fates fl).2.2.2.1 (STEP now fates fl).2.2.2.2 false now fates fl (STEP now fates fl).1 (STEP now fates fl).2.1 (STEP now fates fl).2.2.1) true := by
  refine Ev.step (fun k => by rw [lookoutlaw50_NetworkValid.j1, if_neg (by simp)]) ?_
  unfold STEP
  by_cases h : CK now fates fl = 0
  · obtain ⟨n0, n1, hl, hf, hx, ht⟩ := CK_zero h
    by_cases hm : now = 1152921504606846976
    · rw [if_pos h, if_pos hm]
      exact Ev.congr (fun k => (if_neg (by simp)).trans (if_pos rfl)) awake_end
    · rw [if_pos h, if_neg hm]
      have hw : wrap64 (now + 1) = now + 1 := by unfold wrap64; omega
      have hc : clone_flight.f fl = some fl := by unfold clone_flight.f; rw [if_pos (by omega)]
      have hd : delete_due.f fl now fates fl = some (noL (now + 1) fl) := by
        unfold delete_due.f noL delete_due.due
        rw [hw]
      have hck : CK (now + 1) fates (noL (now + 1) fl) = 0 := CK_of (by omega) (by omega) (Nat.le_trans (List.length_filter_le _ _) hl) hf (fun x hx' => by
        obtain ⟨m1, m2⟩ := List.mem_filter.1 hx'
        simp only [Bool.not_eq_true', decide_eq_false_iff_not] at m2
        obtain ⟨b1, b2, b3⟩ := hx x m1
        exact ⟨by omega, by omega, b3⟩) ht
      have hlen := yes_no_len (now + 1) fl
      refine Ev.congr (f := fun k => ((network_Check.f k (now + 1) fates (noL (now + 1) fl)).bind fun t238 => (if t238 = 0 then (if now + 1 = (wrap64 (now + 1)) then ((api_Flight_28.f k (noL (now + 1) fl) (noL (now + 1) fl)).bind fun t239 => (if t239 = true then (if (((yesL (now + 1) fl).map (·.f1)).length : Int) = (wrap64 ((fl.length : Int) - ((noL (now + 1) fl).length : Int))) then ((slices_Equal_int_int.f k fates fates).bind fun t240 => (if t240 = true then ((lookoutlaw50_awake.f k).bind fun t241 => (some t241)) else (none))) else (none)) else (none))) else (none)) else (none)))) (fun k => ?_) ?_
      · rw [if_pos rfl, hc, Option.bind_some, hd, Option.bind_some]
      refine Ev.bind (check_ev _ _ _) ?_
      rw [hck]
      refine Ev.congr (fun k => (if_pos rfl).trans (if_pos hw.symm)) ?_
      refine Ev.bind (eqF _ (by omega)) ?_
      refine Ev.congr (fun k => (if_pos rfl).trans (if_pos ?_)) ?_
      · rw [List.length_map]; unfold wrap64; omega
      refine Ev.bind (eqI _ (by omega)) ?_
      exact Ev.congr (fun k => if_pos rfl) awake_end
  · rw [if_neg h]
    exact Ev.congr (fun k => (if_neg (by simp)).trans (if_pos rfl)) awake_end
theorem NetworkValid : lookoutlaw50_NetworkValid.Pure := by
  intro now fates fl a b s hn h1 h1b h1w h2 h2b h2w ha hb hs
  refine Ev.rounds ?_
  unfold lookoutlaw50_NetworkValid.f
  have ht : Ev (fun k => lookoutlaw50_NetworkValid.j0 k true now fates fl a b s) true := Ev.step (fun k => by rw [lookoutlaw50_NetworkValid.j0, if_pos rfl]) awake_end
  obtain ⟨g, hg⟩ := great_ex now fates fl
  refine Ev.bind hg ?_
  cases g with
  | true => exact Ev.congr (fun k => if_pos rfl) ht
  | false =>
    refine Ev.congr (fun k => if_neg (by simp)) ?_
    by_cases c4 : (s.size : Int) > 2000
    · rw [decide_eq_true c4]; exact ht
    rw [decide_eq_false c4]
    refine Ev.step (fun k => by rw [lookoutlaw50_NetworkValid.j0, if_neg (by simp)]) ?_
    refine Ev.bind (send_ev now fates fl a b s) ?_
    refine Ev.bind (step_ev now fates fl) ?_
    by_cases he : (SEND now fates fl ⟨a, b, s⟩).2.2.2 = 0
    · refine Ev.congr (fun k => if_pos he) ?_
      have hS : CK now fates fl = 0 ∧ PK ⟨a, b, s⟩ = 0 ∧ (fl ++ sentL now (fateL fates) ⟨a, b, s⟩).length ≤ 1000 ∧ SEND now fates fl ⟨a, b, s⟩ = (now, fates.drop 1, fl ++ sentL now (fateL fates) ⟨a, b, s⟩, 0) := by
        unfold SEND at he ⊢
        by_cases h : CK now fates fl = 0
        · rw [if_pos h] at he ⊢
          by_cases hp : PK ⟨a, b, s⟩ = 0
          · rw [if_pos hp] at he ⊢
            by_cases hl : 1000 < (fl ++ sentL now (fateL fates) ⟨a, b, s⟩).length
            · rw [if_pos hl] at he; exact absurd he (by simp)
            · rw [if_neg hl]; exact ⟨h, hp, by omega, rfl⟩
          · rw [if_neg hp] at he; exact absurd he hp
        · rw [if_neg h] at he; exact absurd he (by simp)
      obtain ⟨h, hp, hl, hE⟩ := hS
      obtain ⟨n0, n1, hl0, hf0, hx, ht0⟩ := CK_zero h
      rw [hE]
      have hfate : 0 ≤ fateL fates ∧ fateL fates ≤ 9223372036854775807 := by
        unfold fateL
        split
        · rename_i hpos
          have hpos : 0 < fates.length := by first | exact hpos | omega
          have e : rd fates 0 = fates[0] := rdI hpos
          rw [e]
          refine ⟨ht0 _ (List.getElem_mem _), ?_⟩
          have := h1w _ (List.getElem_mem hpos)
          simp [Lit.wf] at this
          first | omega | exact this.2
        · omega
      have hdl := dl_in _ hfate.1 hfate.2
      have hck2 : CK now (fates.drop 1) (fl ++ sentL now (fateL fates) ⟨a, b, s⟩) = 0 := CK_of n0 n1 hl (by rw [List.length_drop]; omega) (fun x hx' => by
        rcases List.mem_append.1 hx' with hx' | hx'
        · exact hx x hx'
        · obtain ⟨d, hd, rfl⟩ := List.mem_map.1 hx'
          have h := hdl d hd
          have w : wrap64 (now + d) = now + d := by unfold wrap64; omega
          exact ⟨by dsimp only; omega, by dsimp only; omega, hp⟩) (fun x hx' => ht0 x (List.mem_of_mem_drop hx'))
      refine Ev.bind (check_ev _ _ _) ?_
      dsimp only
      rw [hck2]
      refine Ev.congr (fun k => (if_pos rfl).trans (if_pos rfl)) ?_
      refine Ev.congr (fun k => (if_neg (by rw [List.length_append]; omega)).trans ((if_pos (by omega)).trans (if_pos (by rw [List.length_append]; omega)))) ?_
      rw [show (fl ++ sentL now (fateL fates) ⟨a, b, s⟩).take ((fl.length : Int) : Int).toNat = fl by rw [Int.toNat_natCast]; exact List.take_left]
      refine Ev.bind (eqF _ (by omega)) ?_
      exact valid_j1 now fates fl
    · exact Ev.congr (fun k => if_neg he) (valid_j1 now fates fl)
end Go.Proofs.Ytkfplnbofgiknaa.Pure
