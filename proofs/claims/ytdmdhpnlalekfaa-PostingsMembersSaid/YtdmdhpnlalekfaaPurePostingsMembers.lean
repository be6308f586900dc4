/- And, Or and Without hold what they should, and no more: for lists of up to 40 numbers. No further condition. -/
import Derived.Test.YtdmdhpnlalekfaaKM
import Derived.Test.YtdmdhpnlalekfaaHGrow
import Derived.Test.YtdmdhpnlalekfaaMC
import Derived.Test.YtdmdhpnlalekfaaMx28
namespace Go.Proofs.Ytdmdhpnlalekfaa.Pure
open Go.RowKit Go.Proofs.Ytdmdhpnlalekfaa.M Go.Proofs.Ytdmdhpnlalekfaa.A Go.Proofs.Ytdmdhpnlalekfaa.Hand Go.Proofs.YtdmdhpnlalekfaaW.PrintWords Go.Proofs.YtdmdhpnlalekfaaW.PrintLast Go.Proofs.Ytdmdhpnlalekfaa.VB
set_option linter.unusedVariables false
theorem comb_valid (g : Bool → Bool → Bool) {a b : List Int} (ha : VL a) (hb : VL b) : VL (combG g (walkL a b)) :=
  ⟨fun x hx => by
    rcases ((comb_mem g ha.2 hb.2 x).1 hx).1 with h | h
    · exact ha.1 x h
    · exact hb.1 x h, comb_sorted g ha.2 hb.2⟩
theorem AN_is {a b : List Int} (ha : VL a) (hb : VL b) : AN a b = combG gAnd (walkL a b) := if_pos ⟨(CK_zero a).2 ha, (CK_zero b).2 hb⟩
theorem OR_is {a b : List Int} (ha : VL a) (hb : VL b) : OR a b = combG gOr (walkL a b) := if_pos ⟨(CK_zero a).2 ha, (CK_zero b).2 hb⟩
theorem WO_is {a b : List Int} (ha : VL a) (hb : VL b) : WO a b = combG gWithout (walkL a b) := if_pos ⟨(CK_zero a).2 ha, (CK_zero b).2 hb⟩
theorem AN_valid {a b : List Int} (ha : VL a) (hb : VL b) : VL (AN a b) := by rw [AN_is ha hb]; exact comb_valid _ ha hb
theorem OR_valid {a b : List Int} (ha : VL a) (hb : VL b) : VL (OR a b) := by rw [OR_is ha hb]; exact comb_valid _ ha hb
theorem WO_valid {a b : List Int} (ha : VL a) (hb : VL b) : VL (WO a b) := by rw [WO_is ha hb]; exact comb_valid _ ha hb
theorem AN_mem {a b : List Int} (ha : VL a) (hb : VL b) (x : Int) : x ∈ AN a b ↔ x ∈ a ∧ x ∈ b := by
  rw [AN_is ha hb, comb_mem _ ha.2 hb.2]
  simp only [gAnd, Bool.and_eq_true, decide_eq_true_eq]
  exact ⟨fun h => h.2, fun h => ⟨.inl h.1, h⟩⟩
theorem OR_mem {a b : List Int} (ha : VL a) (hb : VL b) (x : Int) : x ∈ OR a b ↔ x ∈ a ∨ x ∈ b := by
  rw [OR_is ha hb, comb_mem _ ha.2 hb.2]
  simp only [gOr, Bool.or_eq_true, decide_eq_true_eq]
  exact ⟨fun h => h.1, fun h => ⟨h, h⟩⟩
theorem WO_mem {a b : List Int} (ha : VL a) (hb : VL b) (x : Int) : x ∈ WO a b ↔ x ∈ a ∧ ¬ x ∈ b := by
  rw [WO_is ha hb, comb_mem _ ha.2 hb.2]
  simp only [gWithout, Bool.and_eq_true, decide_eq_true_eq, Bool.not_eq_true', decide_eq_false_iff_not]
  exact ⟨fun h => h.2, fun h => ⟨.inl h.1, h⟩⟩
theorem AN_len (a b : List Int) : (AN a b).length ≤ a.length + b.length := by
  unfold AN; split
  · exact comb_len gAnd a b
  · simp
theorem OR_len (a b : List Int) : (OR a b).length ≤ a.length + b.length := by
  unfold OR; split
  · exact comb_len gOr a b
  · simp
theorem WO_len (a b : List Int) : (WO a b).length ≤ a.length + b.length := by
  unfold WO; split
  · exact comb_len gWithout a b
  · simp
theorem ext {a b : List Int} (ha : VL a) (hb : VL b) (h : ∀ x, x ∈ a ↔ x ∈ b) : a = b := sorted_ext a b ha.2 hb.2 h
theorem wS {i : Nat} (h : i < 140737488355328) : wrap64 ((i : Int) + 1) = ((i + 1 : Nat) : Int) := by unfold wrap64; omega
theorem rdI_get {l : List Int} {i : Nat} (h : i < l.length) : rd l (i : Int) = l[i] := by simp [rd, List.getD, List.getElem?_eq_getElem h]
theorem idxI (l : List Int) (x : Int) (hl : l.length ≤ 1000000) : ∀ (n i : Nat), l.length - i = n → i ≤ l.length → ∃ r : Int, Ev (fun k => slices_Index_int_int.l0 k l x (l.length : Int) (i : Int)) r ∧ (0 ≤ r ↔ x ∈ l.drop i) := by
  intro n
  induction n with
  | zero =>
    intro i hn hi
    refine ⟨-1, Ev.step (fun k => by rw [slices_Index_int_int.l0, if_neg (by omega)]) (Ev.now _), ?_⟩
    rw [List.drop_eq_nil_of_le (by omega)]
    simp
  | succ n ih =>
    intro i hn hi
    have hlt : i < l.length := by omega
    rw [show l.drop i = l[i] :: l.drop (i + 1) from List.drop_eq_getElem_cons hlt]
    by_cases c : x = l[i]
    · refine ⟨(i : Int), Ev.step (fun k => by rw [slices_Index_int_int.l0, if_pos (by omega), if_pos (by omega), if_pos (by omega), rdI_get hlt, if_pos c]) (Ev.now _), ?_⟩
      exact ⟨fun _ => by rw [c]; exact List.mem_cons_self, fun _ => by omega⟩
    · obtain ⟨r, h1, h2⟩ := ih (i + 1) (by omega) (by omega)
      refine ⟨r, Ev.step (fun k => by rw [slices_Index_int_int.l0, if_pos (by omega), if_pos (by omega), if_pos (by omega), rdI_get hlt, if_neg c, wS (by omega)]) h1, ?_⟩
      rw [h2, List.mem_cons]
      exact ⟨.inr, fun h => h.resolve_left c⟩
theorem containsI (l : List Int) (x : Int) (hl : l.length ≤ 1000000) : Ev (fun k => slices_Contains_int_int.f k l x) (decide (x ∈ l)) := by
  obtain ⟨r, h1, h2⟩ := idxI l x hl l.length 0 (by omega) (by omega)
  unfold slices_Contains_int_int.f slices_Index_int_int.f
  rw [List.drop_zero] at h2
  have e : decide (x ∈ l) = decide (r ≥ 0) := by
    rw [decide_eq_decide]
    exact h2.symm
  rw [e]
  exact Ev.bind h1 (Ev.now _)
theorem concat3 (a b c : List Int) (ha : a.length ≤ 100) (hb : b.length ≤ 100) (hc : c.length ≤ 100) : Ev (fun k => slices_Concat_int_int.f k [a, b, c]) (a ++ b ++ c) := by
  have hlen : (([a, b, c] : List (List Int)).length : Int) = 3 := rfl
  unfold slices_Concat_int_int.f
  rw [hlen]
  have e0 : wrap64 (0 + (a.length : Int)) = (a.length : Int) := by unfold wrap64; omega
  have e1 : wrap64 ((a.length : Int) + (b.length : Int)) = (a.length : Int) + (b.length : Int) := by unfold wrap64; omega
  have e2 : wrap64 ((a.length : Int) + (b.length : Int) + (c.length : Int)) = (a.length : Int) + (b.length : Int) + (c.length : Int) := by unfold wrap64; omega
  have i0 : wrap64 ((0 : Int) + 1) = 1 := by unfold wrap64; omega
  have i1 : wrap64 ((1 : Int) + 1) = 2 := by unfold wrap64; omega
  have i2 : wrap64 ((2 : Int) + 1) = 3 := by unfold wrap64; omega
  have r0 : rd_L3 [a, b, c] 0 = a := rfl
  have r1 : rd_L3 [a, b, c] 1 = b := rfl
  have r2 : rd_L3 [a, b, c] 2 = c := rfl
  refine Ev.step (fun k => by rw [slices_Concat_int_int.l0, if_pos (by omega), if_pos (by omega), if_pos (by rw [hlen]; omega), r0, e0, if_neg (by omega), i0]) ?_
  refine Ev.step (fun k => by rw [slices_Concat_int_int.l0, if_pos (by omega), if_pos (by omega), if_pos (by rw [hlen]; omega), r1, e1, if_neg (by omega), i1]) ?_
  refine Ev.step (fun k => by rw [slices_Concat_int_int.l0, if_pos (by omega), if_pos (by omega), if_pos (by rw [hlen]; omega), r2, e2, if_neg (by omega), i2]) ?_
  refine Ev.step (fun k => by rw [slices_Concat_int_int.l0, if_neg (by omega), grow_nil.f, if_pos ⟨by omega, by omega⟩, Option.bind_some, hlen]) ?_
  refine Ev.step (fun k => by rw [slices_Concat_int_int.l1, if_pos (by omega), if_pos (by omega), if_pos (by rw [hlen]; omega), r0, if_pos (by simp; omega), i0, List.nil_append]) ?_
  refine Ev.step (fun k => by rw [slices_Concat_int_int.l1, if_pos (by omega), if_pos (by omega), if_pos (by rw [hlen]; omega), r1, if_pos (by omega), i1]) ?_
  refine Ev.step (fun k => by rw [slices_Concat_int_int.l1, if_pos (by omega), if_pos (by omega), if_pos (by rw [hlen]; omega), r2, if_pos (by rw [List.length_append]; omega), i2]) ?_
  exact Ev.step (fun k => by rw [slices_Concat_int_int.l1, if_neg (by omega)]) (Ev.now _)
theorem filter_two (p : Int → Bool) : ∀ l : List Int, (l.filter p).length + (l.filter (fun y => !p y)).length = l.length
  | [] => rfl
  | x :: r => by
    have := filter_two p r
    cases h : p x <;> simp [h] <;> omega
theorem nd {l : List Int} (h : VL l) : l.Nodup := h.2.imp (fun h => Int.ne_of_lt h)
theorem WO_count {a b : List Int} (ha : VL a) (hb : VL b) : (AN a b).length + (WO a b).length = a.length := by
  rw [AN_is ha hb, WO_is ha hb, and_filter ha hb, without_filter ha hb]
  exact filter_two (fun y => decide (y ∈ b)) a
theorem OR_count {a b : List Int} (ha : VL a) (hb : VL b) : (AN a b).length + (OR a b).length = a.length + b.length := by
  have e1 : AN b a = AN a b := ext (AN_valid hb ha) (AN_valid ha hb) (fun x => by rw [AN_mem hb ha, AN_mem ha hb]; exact And.comm)
  have h1 := WO_count hb ha
  have hp : (OR a b).Perm (a ++ WO b a) := by
    refine (List.perm_ext_iff_of_nodup (nd (OR_valid ha hb)) ?_).2 ?_
    · rw [List.nodup_append]
      refine ⟨nd ha, nd (WO_valid hb ha), fun x hx y hy he => ?_⟩
      subst he
      exact ((WO_mem hb ha x).1 hy).2 hx
    · intro x
      rw [OR_mem ha hb, List.mem_append, WO_mem hb ha]
      by_cases hx : x ∈ a <;> simp [hx]
  have h2 := hp.length_eq
  rw [List.length_append] at h2
  rw [e1] at h1
  omega
theorem mem_l0 (a b : List Int) (ha : VL a) (hb : VL b) (la : a.length ≤ 40) (lb : b.length ≤ 40) (L : List Int) (hL : L.length ≤ 1000) : ∀ (n i : Nat), L.length - i = n → i ≤ L.length → Ev (fun k => lookoutlaw08_PostingsMembers.l0 k a b (AN a b) (OR a b) (WO a b) L (L.length : Int) (i : Int)) true := by
  have l1 := AN_len a b
  have l2 := OR_len a b
  have l3 := WO_len a b
  intro n
  induction n with
  | zero => intro i hn hi; exact Ev.step (fun k => by rw [lookoutlaw08_PostingsMembers.l0, if_neg (by omega)]) awake8b_ev
  | succ n ih =>
    intro i hn hi
    have hlt : i < L.length := by omega
    refine Ev.step (fun k => by rw [lookoutlaw08_PostingsMembers.l0, if_pos (by omega), if_pos (by omega), if_pos (by omega), rdI_get hlt, wS (by omega)]) ?_
    generalize L[i] = y
    have next := ih (i + 1) (by omega) (by omega)
    refine Ev.bind (containsI a y (by omega)) (Ev.bind (containsI b y (by omega)) (Ev.bind (containsI (AN a b) y (by omega)) ?_))
    have m1 := AN_mem ha hb y
    have m2 := OR_mem ha hb y
    have m3 := WO_mem ha hb y
    by_cases p : y ∈ a
    · refine Ev.congr (fun k => by rw [if_pos (decide_eq_true p), if_neg (by by_cases q : y ∈ b <;> simp [m1, p, q])]) ?_
      refine Ev.bind (containsI (OR a b) y (by omega)) ?_
      refine Ev.congr (fun k => if_neg (by simp [m2, p])) ?_
      refine Ev.bind (containsI (WO a b) y (by omega)) ?_
      exact Ev.congr (fun k => if_neg (by by_cases q : y ∈ b <;> simp [m3, p, q])) next
    · refine Ev.congr (fun k => by rw [if_neg (by simp [p]), if_neg (by simp [m1, p])]) ?_
      refine Ev.bind (containsI (OR a b) y (by omega)) ?_
      refine Ev.congr (fun k => if_neg (by by_cases q : y ∈ b <;> simp [m2, p, q])) ?_
      refine Ev.bind (containsI (WO a b) y (by omega)) ?_
      exact Ev.congr (fun k => if_neg (by simp [m3, p])) next
theorem members_j0 (a b : List Int) (x : Int) (la : a.length ≤ 40) (lb : b.length ≤ 40) (ha : VL a) (hb : VL b) : Ev (fun k => lookoutlaw08_PostingsMembers.j0 k a b x false) true := by
  have l1 := AN_len a b
  have l2 := OR_len a b
  have l3 := WO_len a b
  have c1 := OR_count ha hb
  have c2 := WO_count ha hb
  have v1 := check_ev (AN a b) (by omega)
  have v2 := check_ev (OR a b) (by omega)
  have v3 := check_ev (WO a b) (by omega)
  rw [(CK_zero _).2 (AN_valid ha hb)] at v1
  rw [(CK_zero _).2 (OR_valid ha hb)] at v2
  rw [(CK_zero _).2 (WO_valid ha hb)] at v3
  refine Ev.step (fun k => by rw [lookoutlaw08_PostingsMembers.j0, if_neg (by decide)]) ?_
  refine Ev.bind (and_ev a b (by omega) (by omega)) (Ev.bind (or_ev a b (by omega) (by omega)) (Ev.bind (without_ev a b (by omega) (by omega)) ?_))
  refine Ev.bind v1 (Ev.congr (fun k => if_pos rfl) ?_)
  refine Ev.bind v2 (Ev.congr (fun k => if_pos rfl) ?_)
  refine Ev.bind v3 (Ev.congr (fun k => if_pos rfl) ?_)
  have e1 : wrap64 (((AN a b).length : Int) + ((OR a b).length : Int)) = wrap64 ((a.length : Int) + (b.length : Int)) := by unfold wrap64; omega
  have e2 : (((WO a b).length : Int) != wrap64 ((a.length : Int) - ((AN a b).length : Int))) = false := by
    have : ((WO a b).length : Int) = wrap64 ((a.length : Int) - ((AN a b).length : Int)) := by unfold wrap64; omega
    rw [← this]; simp
  refine Ev.congr (fun k => by rw [if_pos e1, e2]) ?_
  refine Ev.step (fun k => by rw [lookoutlaw08_PostingsMembers.j1, if_neg (by decide), Option.bind_some]) ?_
  refine Ev.bind (concat3 a b (OR a b) (by omega) (by omega) (by omega)) ?_
  have hlen : ([x] ++ (a ++ b ++ OR a b) : List Int).length ≤ 1000 := by simp; omega
  refine Ev.congr (fun k => by rw [if_pos (by rw [List.length_append] at hlen; omega), Option.bind_some]) ?_
  exact mem_l0 a b ha hb la lb _ hlen _ 0 rfl (by omega)
theorem PostingsMembers : lookoutlaw08_PostingsMembers.Pure := by
  intro a b x hma hla hwa hmb hlb hwb hx
  refine Ev.rounds ?_
  have ht : Ev (fun k => lookoutlaw08_PostingsMembers.j0 k a b x true) true := Ev.step (fun k => by rw [lookoutlaw08_PostingsMembers.j0, if_pos rfl]) awake8b_ev
  simp only [lookoutlaw08_PostingsMembers.f, great2, Option.bind_some]
  by_cases h : (decide (40 < a.length) || decide (40 < b.length)) = true
  · simp only [h, if_true]; exact ht
  · have h' := h
    simp only [Bool.or_eq_true, decide_eq_true_eq, not_or, Nat.not_lt] at h'
    simp only [h]
    refine Ev.bind (check_ev a (by omega)) ?_
    by_cases h1 : CK a = 0
    · simp only [h1, if_true]
      refine Ev.bind (check_ev b (by omega)) ?_
      by_cases h2 : CK b = 0
      · simp only [h2, bne_self_eq_false]
        exact members_j0 a b x (by omega) (by omega) ((CK_zero a).1 h1) ((CK_zero b).1 h2)
      · simp only [bne_iff_ne.2 h2]; exact ht
    · simp only [h1, if_false]; exact ht
end Go.Proofs.Ytdmdhpnlalekfaa.Pure
