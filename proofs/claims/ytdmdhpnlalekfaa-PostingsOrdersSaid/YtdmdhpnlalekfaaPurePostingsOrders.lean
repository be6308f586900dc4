/- Merge of the postings chapter answers what Or answers list by list, in either order of the lists. No further condition. -/
import Derived.Test.YtdmdhpnlalekfaaKO
import Derived.Test.YtdmdhpnlalekfaaPx26
namespace Go.Proofs.Ytdmdhpnlalekfaa.Pure
open Go.RowKit Go.Proofs.Ytdmdhpnlalekfaa.P Go.Proofs.Ytdmdhpnlalekfaa.A Go.Proofs.Ytdmdhpnlalekfaa.Hand Go.Proofs.YtdmdhpnlalekfaaW.PrintWords Go.Proofs.YtdmdhpnlalekfaaW.PrintLast Go.Proofs.Ytdmdhpnlalekfaa.VB
set_option linter.unusedVariables false
theorem orL_FO {a b : List Int} (ha : VL a) (hb : VL b) : orL a b = FO [] [a, b] := or_merge ha hb
theorem VL_nil : VL [] := ⟨fun x hx => (by cases hx), List.Pairwise.nil⟩
theorem orL_VL {a b : List Int} (ha : VL a) (hb : VL b) : VL (orL a b) := by
  rw [orL_FO ha hb]
  exact FO_valid [a, b] [] VL_nil (by simp [ha, hb])
theorem orL_mem {a b : List Int} (ha : VL a) (hb : VL b) (z : Int) : z ∈ orL a b ↔ z ∈ a ∨ z ∈ b := by
  rw [orL_FO ha hb, FO_mem]
  simp
theorem hvL_VL : ∀ (l : List (List Int)), (∀ x ∈ l, VL x) → ∀ x ∈ hvL l, VL x
  | [], _, x, hx => by cases hx
  | [a], h, x, hx => h x hx
  | a :: b :: r, h, x, hx => by
    rw [hvL] at hx
    rcases List.mem_cons.1 hx with rfl | hx
    · exact orL_VL (h a (by simp)) (h b (by simp))
    · exact hvL_VL r (fun y hy => h y (by simp [hy])) x hx
theorem hvL_mem : ∀ (l : List (List Int)), (∀ x ∈ l, VL x) → ∀ z, (∃ x ∈ hvL l, z ∈ x) ↔ ∃ x ∈ l, z ∈ x
  | [], _, z => by simp [hvL]
  | [a], h, z => by simp [hvL]
  | a :: b :: r, h, z => by
    have ih := hvL_mem r (fun y hy => h y (by simp [hy])) z
    simp only [hvL, List.mem_cons, exists_eq_or_imp]
    rw [ih, orL_mem (h a (by simp)) (h b (by simp))]
    exact or_assoc
theorem mgF_ok : ∀ (d : Nat) (l : List (List Int)), l.length ≤ d → (∀ x ∈ l, VL x) → VL (mgF d l) ∧ ∀ z, z ∈ mgF d l ↔ ∃ x ∈ l, z ∈ x
  | 0, l, hl, h => by
    obtain rfl : l = [] := List.eq_nil_of_length_eq_zero (by omega)
    exact ⟨VL_nil, fun z => by simp [mgF]⟩
  | d + 1, l, hl, h => by
    rw [mgF]
    by_cases hc : 1 < l.length
    · rw [if_pos hc]
      obtain ⟨h1, h2⟩ := mgF_ok d (hvL l) (by rw [hvL_len]; unfold chunk.pcount; omega) (hvL_VL l h)
      exact ⟨h1, fun z => (h2 z).trans (hvL_mem l h z)⟩
    · rw [if_neg hc]
      match l, h, hc with
      | [], h, hc => exact ⟨VL_nil, fun z => by simp⟩
      | [a], h, hc => exact ⟨h a (by simp), fun z => by simp⟩
      | a :: b :: r, h, hc => simp at hc
theorem mgL_FO (l : List (List Int)) (h : ∀ x ∈ l, VL x) : mgL l = FO [] l := by
  obtain ⟨h1, h2⟩ := mgF_ok l.length l (Nat.le_refl _) h
  refine sorted_ext _ _ h1.2 (FO_valid l [] VL_nil h).2 (fun z => ?_)
  unfold mgL
  rw [h2, FO_mem]
  simp
theorem valid_l0 (ll : List (List Int)) (hll : ll.length ≤ 1000) (hlen : ∀ l ∈ ll, l.length ≤ 1000) : ∀ (d i : Nat), i + d = ll.length → Ev (fun k => postings_valid.l0 k ll (ll.length : Int) (i : Int)) (decide (∀ l ∈ ll.drop i, CK l = 0)) := by
  intro d
  induction d with
  | zero =>
    intro i h
    rw [List.drop_eq_nil_of_le (by omega)]
    exact Ev.step (fun k => by rw [postings_valid.l0, if_neg (by omega)]) (by simpa using Ev.now true)
  | succ d ih =>
    intro i h
    have hi : i < ll.length := by omega
    have hr : rd_L2 ll (i : Int) = ll[i] := by simp [rd_L2, List.getD, List.getElem?_eq_getElem hi]
    have hw : wrap64 ((i : Int) + 1) = ((i + 1 : Nat) : Int) := by unfold wrap64; omega
    rw [List.drop_eq_getElem_cons hi]
    refine Ev.step (f := fun k => (postings_Check.f k ll[i]).bind fun t => if t = 0 then postings_valid.l0 k ll (ll.length : Int) ((i + 1 : Nat) : Int) else some false) (fun k => by
      rw [postings_valid.l0, if_pos (by omega), if_pos (by omega), if_pos (by omega), hr, hw]) (Ev.bind (check_ev ll[i] (by have := hlen _ (List.getElem_mem hi); omega)) ?_)
    by_cases hc : CK ll[i] = 0
    · have e : (∀ l ∈ ll[i] :: ll.drop (i + 1), CK l = 0) ↔ ∀ l ∈ ll.drop (i + 1), CK l = 0 := by rw [List.forall_mem_cons]; exact and_iff_right hc
      simp only [if_pos hc, e]
      exact ih (i + 1) (by omega)
    · have e : ¬ ∀ l ∈ ll[i] :: ll.drop (i + 1), CK l = 0 := fun h => hc (List.forall_mem_cons.1 h).1
      simp only [if_neg hc]
      rw [decide_eq_false e]
      exact Ev.now _
theorem tot_total : ∀ l : List (List Int), tot l = total l
  | [] => rfl
  | x :: r => by simp [tot, total, tot_total r]
theorem total_le : ∀ (l : List (List Int)), (∀ x ∈ l, x.length ≤ 40) → total l ≤ 40 * l.length
  | [], _ => by simp [total]
  | x :: r, h => by
    have h1 := h x (by simp)
    have h2 := total_le r (fun y hy => h y (by simp [hy]))
    simp only [total, List.map_cons, List.sum_cons, List.length_cons] at h2 ⊢
    omega
theorem MG_len {l : List (List Int)} (h : total l ≤ 1000) : (MG l).length ≤ 1000 := by
  unfold MG
  split
  · have := FO_len l []
    simp at this; omega
  · simp
theorem merge_ev (l : List (List Int)) (hl : l.length ≤ 8) (hx : ∀ x ∈ l, x.length ≤ 40) : Ev (fun k => postings_Merge.f k l) (MG l) := by
  unfold postings_Merge.f MG
  have ht := total_le l hx
  by_cases h0 : (l.length : Int) = 0
  · obtain rfl : l = [] := List.eq_nil_of_length_eq_zero (by omega)
    exact Ev.congr (fun k => if_pos h0) (by simpa [FO] using Ev.now (([] : List Int)))
  · refine Ev.congr (fun k => if_neg h0) ?_
    have hv := valid_l0 l (by omega) (fun x h => by have := hx x h; omega) l.length 0 (by omega)
    rw [List.drop_zero] at hv
    refine Ev.bind (show Ev (fun k => postings_valid.f k l) _ from hv) ?_
    by_cases hc : ∀ x ∈ l, CK x = 0
    · rw [decide_eq_true hc, if_pos hc]
      refine Ev.congr (fun k => (if_pos rfl).trans (if_pos ⟨by omega, by rw [tot_total]; omega⟩)) ?_
      rw [mgL_FO l (fun x h => (CK_zero x).1 (hc x h))]
      exact Ev.now _
    · rw [decide_eq_false hc, if_neg hc]
      exact Ev.congr (fun k => if_neg (by simp)) (Ev.now _)
theorem FO_rev (l : List (List Int)) (h : ∀ x ∈ l, VL x) : FO [] l.reverse = FO [] l := by
  refine sorted_ext _ _ (FO_valid _ [] VL_nil (fun x hx => h x (List.mem_reverse.1 hx))).2 (FO_valid l [] VL_nil h).2 (fun z => ?_)
  rw [FO_mem, FO_mem]
  simp
theorem FO_snoc (l : List (List Int)) (x : List Int) (h : ∀ y ∈ l, VL y) (hx : VL x) : orL (FO [] l) x = FO [] (l ++ [x]) := by
  have hv := FO_valid l [] VL_nil h
  refine sorted_ext _ _ (orL_VL hv hx).2 (FO_valid (l ++ [x]) [] VL_nil (fun y hy => by
    rcases List.mem_append.1 hy with hy | hy
    · exact h y hy
    · rw [List.mem_singleton.1 hy]; exact hx)).2 (fun z => ?_)
  rw [orL_mem hv hx, FO_mem, FO_mem]
  simp [or_and_right, exists_or]
theorem ck_same : ∀ (l : List Int) (q : Int), contains_invalid.ckFrom q l = ckFrom q l
  | [], _ => rfl
  | x :: r, q => by rw [contains_invalid.ckFrom, ckFrom, ck_same r]
theorem inv_CK (l : List Int) : contains_invalid.CK l = CK l := ck_same l _
theorem MG_FO {l : List (List Int)} (hv : ∀ x ∈ l, VL x) : MG l = FO [] l := if_pos (fun x hx => (CK_zero x).2 (hv x hx))
theorem orders_l0 (l : List (List Int)) (hl : l.length ≤ 8) (hx : ∀ x ∈ l, x.length ≤ 40) (hv : ∀ x ∈ l, VL x) : ∀ (d i : Nat), i + d = l.length → Ev (fun k => lookoutlaw08_PostingsOrders.l0 k l (FO [] (l.take i)) l (l.length : Int) (i : Int)) true := by
  intro d
  have ht := total_le l hx
  have hlen : (FO [] l).length ≤ 1000 := by
    have := FO_len l []
    simp at this; omega
  induction d with
  | zero =>
    intro i h
    obtain rfl : i = l.length := by omega
    rw [List.take_length]
    refine Ev.step (f := fun k => (postings_Merge.f k l).bind fun t209 => (lookoutref08_Same.f k t209 (FO [] l)).bind fun t212 => if t212 = true then ((postings_Merge.f k l.reverse).bind fun t213 => (lookoutref08_Same.f k t213 (FO [] l)).bind fun t216 => if t216 = true then ((lookoutlaw08_awake.f k).bind fun t217 => some t217) else none) else none)
      (fun k => by rw [lookoutlaw08_PostingsOrders.l0, if_neg (by omega), clone_rows.f, if_pos (by omega)]; simp only [Option.bind_some, rev_rows.f]) ?_
    refine Ev.bind (merge_ev l hl hx) ?_
    rw [MG_FO hv]
    refine Ev.bind (same8_ev _ (by omega)) (Ev.congr (fun k => if_pos rfl) ?_)
    refine Ev.bind (merge_ev l.reverse (by simpa using hl) (fun x h => hx x (List.mem_reverse.1 h))) ?_
    rw [MG_FO (fun x h => hv x (List.mem_reverse.1 h)), FO_rev l hv]
    exact Ev.bind (same8_ev _ (by omega)) (Ev.congr (fun k => if_pos rfl) awake8b_ev)
  | succ d ih =>
    intro i h
    have hi : i < l.length := by omega
    have hr : rd_L3 l (i : Int) = l[i] := by simp [rd_L3, List.getD, List.getElem?_eq_getElem hi]
    have hw : wrap64 ((i : Int) + 1) = ((i + 1 : Nat) : Int) := by unfold wrap64; omega
    have hvt : ∀ y ∈ l.take i, VL y := fun y hy => hv y (List.mem_of_mem_take hy)
    have hvi : VL l[i] := hv _ (List.getElem_mem hi)
    have hlt : (FO [] (l.take i)).length ≤ 1000 := by
      have h1 := FO_len (l.take i) []
      have h2 := total_le (l.take i) (fun y hy => hx y (List.mem_of_mem_take hy))
      have h3 : (l.take i).length ≤ i := List.length_take_le _ _
      simp only [List.length_nil] at h1; omega
    have hor : OR (FO [] (l.take i)) l[i] = FO [] (l.take (i + 1)) := by
      rw [List.take_succ_eq_append_getElem hi, ← FO_snoc _ _ hvt hvi]
      exact if_pos ⟨(CK_zero _).2 (FO_valid _ [] VL_nil hvt), (CK_zero _).2 hvi⟩
    refine Ev.step (f := fun k => (postings_Or.f k (FO [] (l.take i)) l[i]).bind fun t => lookoutlaw08_PostingsOrders.l0 k l t l (l.length : Int) ((i + 1 : Nat) : Int)) (fun k => by
      rw [lookoutlaw08_PostingsOrders.l0, if_pos (by omega), if_pos (by omega), if_pos (by omega), hr, hw]) (Ev.bind (or_ev (FO [] (l.take i)) l[i] (by omega) (by have := hx _ (List.getElem_mem hi); omega)) ?_)
    rw [hor]
    exact ih (i + 1) (by omega)
theorem PostingsOrders : lookoutlaw08_PostingsOrders.Pure := by
  intro l hm hsz hw
  refine Ev.rounds ?_
  have ha : Ev (fun k => lookoutlaw08_PostingsOrders.j0 k l true) true := Ev.step (fun k => by rw [lookoutlaw08_PostingsOrders.j0, if_pos rfl]) awake8b_ev
  unfold lookoutlaw08_PostingsOrders.f lookoutlaw08_great.f
  by_cases h8 : (l.length : Int) > 8
  · simp only [if_pos h8, Option.bind_some]
    exact Ev.congr (fun k => if_pos trivial) ha
  · simp only [if_neg h8, contains_great.f, Option.bind_some]
    cases hg : l.any contains_great.pred with
    | true => exact Ev.congr (fun k => if_pos rfl) ha
    | false =>
      refine Ev.congr (fun k => if_neg (by simp)) ?_
      have hx : ∀ x ∈ l, x.length ≤ 40 := by
        rw [List.any_eq_false] at hg
        intro x hx
        have := hg x hx
        simp [contains_great.pred] at this
        omega
      have hbig : ∀ y ∈ l, y.length ≤ 17592186043904 := fun y hy => by have := hx y hy; omega
      simp only [contains_invalid.f, if_pos hbig, Option.bind_some]
      cases hi : l.any contains_invalid.pred with
      | true => exact ha
      | false =>
        have hv : ∀ x ∈ l, VL x := by
          rw [List.any_eq_false] at hi
          intro x hx
          have := hi x hx
          simp only [contains_invalid.pred, inv_CK] at this
          exact (CK_zero x).1 (by simpa using this)
        exact Ev.step (fun k => by rw [lookoutlaw08_PostingsOrders.j0, if_neg (by simp)]; rfl) (orders_l0 l (by omega) hx hv l.length 0 (by omega))
end Go.Proofs.Ytdmdhpnlalekfaa.Pure
