/- Merge of the postings chapter returns what the reference implementation returns, for up to 8 lists of up to 40 numbers. No further condition. -/
import Derived.Test.YtdmdhpnlalekfaaKG
import Derived.Test.YtdmdhpnlalekfaaPx30
namespace Go.Proofs.Ytdmdhpnlalekfaa.Pure
open Go.RowKit Go.Proofs.Ytdmdhpnlalekfaa.P Go.Proofs.Ytdmdhpnlalekfaa.A Go.Proofs.Ytdmdhpnlalekfaa.Hand Go.Proofs.YtdmdhpnlalekfaaW.PrintWords Go.Proofs.YtdmdhpnlalekfaaW.PrintLast Go.Proofs.Ytdmdhpnlalekfaa.VB
set_option linter.unusedVariables false
theorem orL_FO {a b : List Int} (ha : VL a) (hb : VL b) : orL a b = FO [] [a, b] := or_merge ha hb
theorem VL_nil : VL [] := ⟨fun x hx => (by cases hx), List.Pairwise.nil⟩
theorem orL_VL {a b : List Int} (ha : VL a) (hb : VL b) : VL (orL a b) := by
  rw [orL_FO ha hb]
  exact FO_valid [a, b] [] VL_nil (by simp [ha, hb])
theorem orL_mem {a b : List Int} (ha : VL a) (hb : VL b) (z : Int) : z ∈ orL a b ↔ z ∈ a ∨ z ∈ b := by
  rw [orL_FO ha hb, FO_mem]
  simp
theorem hvL_VL : ∀ (l : List (List Int)), (∀ x ∈ l, VL x) → ∀ x ∈ hvL l, VL x
  | [], _, x, hx => by cases hx
  | [a], h, x, hx => h x hx
  | a :: b :: r, h, x, hx => by
    rw [hvL] at hx
    rcases List.mem_cons.1 hx with rfl | hx
    · exact orL_VL (h a (by simp)) (h b (by simp))
    · exact hvL_VL r (fun y hy => h y (by simp [hy])) x hx
theorem hvL_mem : ∀ (l : List (List Int)), (∀ x ∈ l, VL x) → ∀ z, (∃ x ∈ hvL l, z ∈ x) ↔ ∃ x ∈ l, z ∈ x
  | [], _, z => by simp [hvL]
  | [a], h, z => by simp [hvL]
  | a :: b :: r, h, z => by
    have ih := hvL_mem r (fun y hy => h y (by simp [hy])) z
    simp only [hvL, List.mem_cons, exists_eq_or_imp]
    rw [ih, orL_mem (h a (by simp)) (h b (by simp))]
    exact or_assoc
theorem mgF_ok : ∀ (d : Nat) (l : List (List Int)), l.length ≤ d → (∀ x ∈ l, VL x) → VL (mgF d l) ∧ ∀ z, z ∈ mgF d l ↔ ∃ x ∈ l, z ∈ x
  | 0, l, hl, h => by
    obtain rfl : l = [] := List.eq_nil_of_length_eq_zero (by omega)
    exact ⟨VL_nil, fun z => by simp [mgF]⟩
  | d + 1, l, hl, h => by
    rw [mgF]
    by_cases hc : 1 < l.length
    · rw [if_pos hc]
      obtain ⟨h1, h2⟩ := mgF_ok d (hvL l) (by rw [hvL_len]; unfold chunk.pcount; omega) (hvL_VL l h)
      exact ⟨h1, fun z => (h2 z).trans (hvL_mem l h z)⟩
    · rw [if_neg hc]
      match l, h, hc with
      | [], h, hc => exact ⟨VL_nil, fun z => by simp⟩
      | [a], h, hc => exact ⟨h a (by simp), fun z => by simp⟩
      | a :: b :: r, h, hc => simp at hc
theorem mgL_FO (l : List (List Int)) (h : ∀ x ∈ l, VL x) : mgL l = FO [] l := by
  obtain ⟨h1, h2⟩ := mgF_ok l.length l (Nat.le_refl _) h
  refine sorted_ext _ _ h1.2 (FO_valid l [] VL_nil h).2 (fun z => ?_)
  unfold mgL
  rw [h2, FO_mem]
  simp
theorem valid_l0 (ll : List (List Int)) (hll : ll.length ≤ 1000) (hlen : ∀ l ∈ ll, l.length ≤ 1000) : ∀ (d i : Nat), i + d = ll.length → Ev (fun k => postings_valid.l0 k ll (ll.length : Int) (i : Int)) (decide (∀ l ∈ ll.drop i, CK l = 0)) := by
  intro d
  induction d with
  | zero =>
    intro i h
    rw [List.drop_eq_nil_of_le (by omega)]
    exact Ev.step (fun k => by rw [postings_valid.l0, if_neg (by omega)]) (by simpa using Ev.now true)
  | succ d ih =>
    intro i h
    have hi : i < ll.length := by omega
    have hr : rd_L2 ll (i : Int) = ll[i] := by simp [rd_L2, List.getD, List.getElem?_eq_getElem hi]
    have hw : wrap64 ((i : Int) + 1) = ((i + 1 : Nat) : Int) := by unfold wrap64; omega
    rw [List.drop_eq_getElem_cons hi]
    refine Ev.step (f := fun k => (postings_Check.f k ll[i]).bind fun t => if t = 0 then postings_valid.l0 k ll (ll.length : Int) ((i + 1 : Nat) : Int) else some false) (fun k => by
      rw [postings_valid.l0, if_pos (by omega), if_pos (by omega), if_pos (by omega), hr, hw]) (Ev.bind (check_ev ll[i] (by have := hlen _ (List.getElem_mem hi); omega)) ?_)
    by_cases hc : CK ll[i] = 0
    · have e : (∀ l ∈ ll[i] :: ll.drop (i + 1), CK l = 0) ↔ ∀ l ∈ ll.drop (i + 1), CK l = 0 := by rw [List.forall_mem_cons]; exact and_iff_right hc
      simp only [if_pos hc, e]
      exact ih (i + 1) (by omega)
    · have e : ¬ ∀ l ∈ ll[i] :: ll.drop (i + 1), CK l = 0 := fun h => hc (List.forall_mem_cons.1 h).1
      simp only [if_neg hc]
      rw [decide_eq_false e]
      exact Ev.now _
theorem tot_total : ∀ l : List (List Int), tot l = total l
  | [] => rfl
  | x :: r => by simp [tot, total, tot_total r]
theorem total_le : ∀ (l : List (List Int)), (∀ x ∈ l, x.length ≤ 40) → total l ≤ 40 * l.length
  | [], _ => by simp [total]
  | x :: r, h => by
    have h1 := h x (by simp)
    have h2 := total_le r (fun y hy => h y (by simp [hy]))
    simp only [total, List.map_cons, List.sum_cons, List.length_cons] at h2 ⊢
    omega
theorem MG_len {l : List (List Int)} (h : total l ≤ 1000) : (MG l).length ≤ 1000 := by
  unfold MG
  split
  · have := FO_len l []
    simp at this; omega
  · simp
theorem merge_ev (l : List (List Int)) (hl : l.length ≤ 8) (hx : ∀ x ∈ l, x.length ≤ 40) : Ev (fun k => postings_Merge.f k l) (MG l) := by
  unfold postings_Merge.f MG
  have ht := total_le l hx
  by_cases h0 : (l.length : Int) = 0
  · obtain rfl : l = [] := List.eq_nil_of_length_eq_zero (by omega)
    exact Ev.congr (fun k => if_pos h0) (by simpa [FO] using Ev.now (([] : List Int)))
  · refine Ev.congr (fun k => if_neg h0) ?_
    have hv := valid_l0 l (by omega) (fun x h => by have := hx x h; omega) l.length 0 (by omega)
    rw [List.drop_zero] at hv
    refine Ev.bind (show Ev (fun k => postings_valid.f k l) _ from hv) ?_
    by_cases hc : ∀ x ∈ l, CK x = 0
    · rw [decide_eq_true hc, if_pos hc]
      refine Ev.congr (fun k => (if_pos rfl).trans (if_pos ⟨by omega, by rw [tot_total]; omega⟩)) ?_
      rw [mgL_FO l (fun x h => (CK_zero x).1 (hc x h))]
      exact Ev.now _
    · rw [decide_eq_false hc, if_neg hc]
      exact Ev.congr (fun k => if_neg (by simp)) (Ev.now _)
theorem PostingsMerge : lookoutlaw08_PostingsMerge.Pure := by
  intro l hm hsz hw
  refine Ev.rounds ?_
  unfold lookoutlaw08_PostingsMerge.f lookoutlaw08_great.f
  by_cases h8 : (l.length : Int) > 8
  · simp only [if_pos h8, Option.bind_some]
    exact awake8b_ev
  · simp only [if_neg h8, contains_great.f, Option.bind_some]
    cases hg : l.any contains_great.pred with
    | true => exact Ev.congr (fun k => if_pos rfl) awake8b_ev
    | false =>
      refine Ev.congr (fun k => if_neg (by simp)) ?_
      have hx : ∀ x ∈ l, x.length ≤ 40 := by
        rw [List.any_eq_false] at hg
        intro x hx
        have := hg x hx
        simp [contains_great.pred] at this
        omega
      have ht := total_le l hx
      refine Ev.bind (merge_ev l (by omega) hx) (Ev.bind (mergeRef_ev l (by omega) (by omega) (fun x h => by have := hx x h; omega)) (Ev.bind (same8_ev (MG l) (by have := MG_len (l := l) (by omega); omega)) ?_))
      exact Ev.congr (fun k => if_pos rfl) awake8b_ev
end Go.Proofs.Ytdmdhpnlalekfaa.Pure
